/- The symbolic evaluator: regions and draws. -/
import Derived.Test.YtggcbphplabngaaSymC
import Derived.Test.YtggcbphplabngaaSymB
import Derived.Orders
set_option linter.unusedVariables false
/- An operation, whichever. -/
namespace Go.Sym
section
variable {P : Program} {C : Ctx} {A : Nat → Prop} {ρ : Nat → RV} {σ : St} {a : Act} {w : World} {α : Type} {k : Slot → Ups → Option α} {out : α} {Hr : Nat → HO} {fr : Nat}
/-- Nothing is asked of a way out for want of room: no call takes it. -/
def LO (_ : Exit → Act → World → Prop) : Prop := True
/-- What an operation comes to, as the frame sees it. -/
def OpRes (P : Program) (C : Ctx) (A : Nat → Prop) (ρ : Nat → RV) (σ : St) (a : Act) (w : World) (us : Ups) (sl : Slot) (o : Oper) : Prop :=
  ∀ (K : Act → World → Prop) (Q : Exit → Act → World → Prop), LO Q →
    (∀ v w' ρ', Aft C A ρ σ a w us ρ' w' → SlR w' (okOf C.X ρ' (getO (updH σ.heap us))) ρ' (getO (updH σ.heap us)) sl v → SlotIn (fun r => A r ∨ refs us r) sl → K (a.put o.dst v) w') → o.wp P a w K Q
def OpLaw (P : Program) (C : Ctx) (A : Nat → Prop) (ρ : Nat → RV) (σ : St) (a : Act) (w : World) (Hr : Nat → HO) (fr : Nat) (k : Slot → Ups → Option α) (out : α) (o : Oper) : Prop :=
  ∃ sl us, k sl us = some out ∧ InH Hr fr us ∧ (Fresh A fr us → OpRes P C A ρ σ a w us sl o)
theorem OpLaw.of {o : Oper} {m : Sem Value} (h : Law P C A ρ σ a w Hr fr k out m) (hm : execOp a.eval o = (do pure (.value (← m)))) : OpLaw P C A ρ σ a w Hr fr k out o := by
  obtain ⟨sl, us, h1, h2, h3⟩ := h
  refine ⟨sl, us, h1, h2, fun hf K Q hl hK => ?_⟩
  obtain ⟨v, w', ρ', r1, r2, r3, r4⟩ := h3 hf
  unfold Oper.wp
  rw [hm, Sem.run_bind, r1]
  exact hK v w' ρ' r2 r3 r4
theorem OpLaw.ofU {o : Oper} {m : Sem Unit} (h : LawU P C A ρ σ a w Hr fr k out m) (hm : execOp a.eval o = (do m; pure .skip)) : OpLaw P C A ρ σ a w Hr fr k out o := by
  obtain ⟨us, h1, h2, h3⟩ := h
  refine ⟨.one .unk, us, h1, h2, fun hf K Q hl hK => ?_⟩
  obtain ⟨w', ρ', r1, r2⟩ := h3 hf
  unfold Oper.wp
  rw [hm, Sem.run_bind, r1]
  exact hK undef w' ρ' r2 trivial trivial
/-- A value that is there already. -/
theorem OpLaw.val {o : Oper} {sl : Slot} {v : Value} (h : Rel C A ρ σ a w) (e : k sl [] = some out) (hm : (execOp a.eval o).run P w = .ok (.value v) w) (hs : SlR w (okOf C.X ρ (getO σ.heap)) ρ (getO σ.heap) sl v) (hi : SlotIn A sl) : OpLaw P C A ρ σ a w Hr fr k out o := by
  refine ⟨sl, [], e, InH.nil _ _, fun hf K Q hl hK => ?_⟩
  unfold Oper.wp
  rw [hm]
  exact hK v w ρ (Aft.nil h) hs (hi.mono (fun _ h => .inl h))
theorem SlR.sv {ok : Nat → Prop} {H : Nat → HO} {s : Slot} {u : Value} (h : SlR w ok ρ H s u) : SR w ok ρ H s.sv u := by
  cases s with
  | one x => exact h
  | many l => trivial
  | cells l => trivial
theorem SlotIn.sv {s : Slot} (h : SlotIn A s) : RefIn A s.sv := by
  cases s with
  | one x => exact h
  | many l => trivial
  | cells l => trivial
theorem cells_map {ok : Nat → Prop} {H : Nat → HO} {S : List (Nat × Slot)} : ∀ (l : List Operand), (∀ x ∈ l, SlR w ok ρ H (evS S x) (a.eval x)) → CellsR w ok ρ H (l.map (evV S)) (l.map a.eval)
  | [], _ => rfl
  | x :: l, h => ⟨_, _, rfl, (h x (List.mem_cons_self ..)).sv, cells_map l (fun y hy => h y (List.mem_cons_of_mem _ hy))⟩
theorem parts_map {ok : Nat → Prop} {H : Nat → HO} {S : List (Nat × Slot)} : ∀ (l : List (Nat × Operand)), (∀ x ∈ l.map (·.2), SlR w ok ρ H (evS S x) (a.eval x)) → PartsR w ok ρ H (l.map fun p => (p.1, evV S p.2)) (l.map fun p => (p.1, a.eval p.2))
  | [], _ => rfl
  | (i, x) :: l, h => ⟨_, _, rfl, (h x (List.mem_cons_self ..)).sv, parts_map l (fun y hy => h y (List.mem_cons_of_mem _ hy))⟩
theorem caps_cells {ok : Nat → Prop} {H : Nat → HO} : ∀ (caps : List (Nat × Nat)) (vs : List Value), vs.length = caps.length → (∀ i (h : i < caps.length), ∃ b, vs.getD i undef = .pointer (some ⟨b, caps[i].2, none⟩) ∧ (match H caps[i].1 with
    | .cells _ => ∃ off cap, ρ caps[i].1 = .at b off cap
    | _ => True)) → CellsR w ok ρ H (caps.map fun p => .ptr p.1 p.2) vs
  | [], vs, hl, _ => List.eq_nil_of_length_eq_zero hl
  | p :: caps, [], hl, _ => by cases hl
  | p :: caps, v :: vs, hl, h => ⟨v, vs, rfl, (by
    obtain ⟨b, h1, h2⟩ := h 0 (by simp)
    exact ⟨b, h1, h2⟩), caps_cells caps vs (by simpa using hl) (fun i hi => h (i + 1) (by simpa using hi))⟩
theorem capsOf_spec : ∀ (l : List SV) (caps : List (Nat × Nat)), capsOf l = some caps → l = caps.map fun p => .ptr p.1 p.2
  | [], caps, e => by cases e; rfl
  | x :: l, caps, e => by
    unfold capsOf at e
    split at e
    · rename_i h1
      cases h1
    · rename_i h1
      cases h1
      split at e
      · rename_i r' h2
        cases e
        rw [capsOf_spec _ _ h2]
        rfl
      · cases e
    · cases e
theorem caps_back {ok : Nat → Prop} {H : Nat → HO} : ∀ (caps : List (Nat × Nat)) (vs : List Value), CellsR w ok ρ H (caps.map fun p => .ptr p.1 p.2) vs → vs.length = caps.length ∧ ∀ i (h : i < caps.length), ∃ b, vs.getD i undef = .pointer (some ⟨b, caps[i].2, none⟩) ∧ (match H caps[i].1 with
    | .cells _ => ∃ off cap, ρ caps[i].1 = .at b off cap
    | _ => True)
  | [], vs, h => by
    rw [show vs = [] from h]
    exact ⟨rfl, fun i h => absurd h (by simp)⟩
  | p :: caps, _, ⟨v, vs, rfl, h1, h2⟩ => by
    obtain ⟨k1, k2⟩ := caps_back caps vs h2
    refine ⟨by simp [k1], fun i hi => ?_⟩
    cases i with
    | zero =>
      obtain ⟨b, e1, e2⟩ := h1
      exact ⟨b, e1, e2⟩
    | succ i => exact k2 i (by simpa using hi)
theorem ptr_eq {t e : TypeId} (ht : P.underlying t = some (.pointer e)) {x : Option Addr} {y : Option Addr} (h : x = none ∨ y = none) : (Op.equal t (.pointer x) (.pointer y)).run P w = .ok (x.isNone && y.isNone) w := by
  unfold Op.equal Op.maxDepth
  rw [show (10000 : Nat) = 9999 + 1 from rfl, Op.equalIn, Sem.run_bind, run_underlying ht]
  rcases h with rfl | rfl
  · cases y <;> rfl
  · cases x <;> rfl
theorem pick_sound {p q : SV} {d d' : DV} {u v : Value} {ok : Nat → Prop} {H : Nat → HO} (h1 : asVal p = some d) (h2 : asVal q = some d') (hu : SR w ok ρ H p u) (hv : SR w ok ρ H q v) (ht : tyq d'.t d.t = true) (b : Bool) :
    SR w ok ρ H (.v d.t (cond b d.x (cast (tyq_eq ht) d'.x))) (if b then u else v) := by
  cases b with
  | true => exact asVal_VR h1 hu
  | false => exact cast_VR (tyq_eq ht) (asVal_VR h2 hv)
theorem evOp_sound {E : Env} (hA : E.A = .real) (hE : ∀ g, FnOk P C.T E.cfg g (E.cal g)) (hc : CfgOk P E.cfg) (h : Rel C A ρ σ a w) (hH : ∀ r, Hr r ≠ .dead → getO σ.heap r = Hr r) (o : Oper) {S : List (Nat × Slot)}
    (hS : ∀ x ∈ o.op.operands, SlR w (okOf C.X ρ (getO σ.heap)) ρ (getO σ.heap) (evS S x) (a.eval x) ∧ SlotIn A (evS S x)) (e : evOp E o S Hr fr k = some out) : OpLaw P C A ρ σ a w Hr fr k out o := by
  have sv : ∀ x ∈ o.op.operands, SR w (okOf C.X ρ (getO σ.heap)) ρ (getO σ.heap) (evV S x) (a.eval x) := fun x hx => (hS x hx).1.sv
  have rf : ∀ x ∈ o.op.operands, RefIn A (evV S x) := fun x hx => (hS x hx).2.sv
  unfold evOp at e
  dsimp only at e
  rw [hA] at e
  cases hop : o.op with
  | move x =>
    rw [hop] at e hS sv rf
    obtain ⟨h1, h2⟩ := hS x (by simp [Op.operands])
    exact OpLaw.val h e (by simp [execOp, hop]) h1 h2
  | assign x =>
    rw [hop] at e hS sv rf
    obtain ⟨h1, h2⟩ := hS x (by simp [Op.operands])
    dsimp only at e
    split at e
    · rename_i hx
      rw [hx] at h1 h2
      split at e
      · rename_i u hl
        have hv : a.eval x = .slice none 0 0 := h1
        refine ⟨_, _, e, fun p hp => ?_, fun hf K Q hl hK => ?_⟩
        · cases hp with
          | head => exact .inr (Nat.le_refl _)
          | tail _ hp => cases hp
        · obtain ⟨ρ1, k1, k2⟩ := h.empty u fr (hf _ (List.mem_cons_self ..) (Nat.le_refl _))
          unfold Oper.wp
          have hrun : (execOp a.eval o).run P w = .ok (.value (a.eval x)) w := by simp [execOp, hop]
          rw [hrun, hv]
          exact hK _ w ρ1 k2 (SlR_empty (upd_one σ fr _) k1) (.inr ((refs_one _ _).2 rfl))
      · exact OpLaw.val h e (by simp [execOp, hop]) h1 h2
    · exact OpLaw.val h e (by simp [execOp, hop]) h1 h2
  | pick q x y =>
    rw [hop] at e hS sv rf
    have hq := sv q (by simp [Op.operands])
    obtain ⟨hx, hx2⟩ := hS x (by simp [Op.operands])
    obtain ⟨hy, hy2⟩ := hS y (by simp [Op.operands])
    dsimp only at e
    split at e
    · rename_i hqv
      rw [hqv] at hq
      have hqv : a.eval q = .bool true := hq
      exact OpLaw.val h e (by simp [execOp, hop, hqv, asBool]) hx hx2
    · rename_i hqv
      rw [hqv] at hq
      have hqv : a.eval q = .bool false := hq
      exact OpLaw.val h e (by simp [execOp, hop, hqv, asBool]) hy hy2
    · rename_i b hqv
      rw [hqv] at hq
      have hqv := VR_bool.1 hq
      split at e
      · rename_i p p' h1 h2
        split at e
        · rename_i ht
          refine OpLaw.val (v := if b then a.eval x else a.eval y) h e ?_ (pick_sound h1 h2 hx.sv hy.sv ht b) trivial
          cases b <;> simp [execOp, hop, hqv, asBool]
        · cases e
      · cases e
    · cases e
  | alloc t =>
    rw [hop] at e
    exact OpLaw.of (evAllocX_sound hc h e) (by simp only [execOp, hop])
  | box t x =>
    rw [hop] at e hS
    obtain ⟨h1, h2⟩ := hS x (by simp [Op.operands])
    exact OpLaw.of (evBox_sound hc h hH h1 h2 e) (by simp only [execOp, hop])
  | build t ps =>
    rw [hop] at e hS sv rf
    refine OpLaw.of (evBuild_sound hc h hH (vs := ps.map fun (i, x) => (i, a.eval x)) ?_ ?_ e) (by simp only [execOp, hop])
    · rw [Array.toList_map]
      exact parts_map ps.toList (fun x hx => (hS x (by simpa [Op.operands] using hx)).1)
    · intro p hp
      obtain ⟨q, hq, rfl⟩ := List.mem_map.1 hp
      exact rf q.2 (by
        simp only [Op.operands, List.mem_toArray, List.mem_map]
        exact ⟨q, hq, rfl⟩)
  | buildSlice t n ps =>
    rw [hop] at e hS sv rf
    refine OpLaw.of (evBuildSlice_sound hc h hH (vs := ps.map fun (i, x) => (i, a.eval x)) ?_ e) (by simp only [execOp, hop])
    rw [Array.toList_map]
    exact parts_map ps.toList (fun x hx => (hS x (by simpa [Op.operands] using hx)).1)
  | load t x =>
    rw [hop] at e sv
    exact OpLaw.of (evLoadX_sound hc h hH (asE_SR (asImm_SR (sv x (by simp [Op.operands])))) e) (by simp only [execOp, hop])
  | store t x y =>
    rw [hop] at e sv rf
    exact OpLaw.ofU (evStoreX_sound hc h hH (asE_SR (sv x (by simp [Op.operands]))) (asE_in (rf x (by simp [Op.operands]))) (sv y (by simp [Op.operands])) (rf y (by simp [Op.operands])) e) (by simp only [execOp, hop])
  | nilCheck x =>
    rw [hop] at e hS sv rf
    have hx := sv x (by simp [Op.operands])
    have hx2 := rf x (by simp [Op.operands])
    dsimp only at e
    split at e
    · rename_i r i hv
      rw [hv] at hx hx2
      have hx' := hx
      obtain ⟨b, e1, _⟩ := hx
      exact OpLaw.val h e (by simp only [execOp, hop, e1]; rfl) (by rw [← e1]; exact hx') hx2
    · rename_i r i j hv
      rw [hv] at hx hx2
      have hx' := hx
      obtain ⟨b, o', e1, _⟩ := hx
      exact OpLaw.val h e (by simp only [execOp, hop, e1]; rfl) (by rw [← e1]; exact hx') hx2
    · rename_i r hv
      rw [hv] at hx hx2
      have hx' := hx
      obtain ⟨b, o', e1, _⟩ := hx
      exact OpLaw.val h e (by simp only [execOp, hop, e1]; rfl) (by rw [← e1]; exact hx') hx2
    · rename_i t y hv
      rw [hv] at hx hx2
      have hx' := hx
      obtain ⟨b, o', c', e', f', e1, _⟩ := hx
      exact OpLaw.val h e (by simp only [execOp, hop, e1]; rfl) (by rw [← e1]; exact hx') hx2
    · cases e
  | binOp op t x y yt =>
    rw [hop] at e hS sv rf
    have hx := sv x (by simp [Op.operands])
    have hy := sv y (by simp [Op.operands])
    dsimp only at e
    have ptr : ∀ (p q : Option Addr) (b : Bool), a.eval x = .pointer p → a.eval y = .pointer q → (p = none ∨ q = none) → (p.isNone && q.isNone) = b →
        (if memN E.cfg.pt t then match op with | .eql => k (.one (.kb b)) [] | .neq => k (.one (.kb (!b))) [] | _ => none else none) = some out → OpLaw P C A ρ σ a w Hr fr k out o := by
      intro p q b h1 h2 h3 h4 e
      split at e
      · rename_i hpt
        obtain ⟨el, he⟩ := hc.pt _ hpt
        have hpe := ptr_eq (P := P) (w := w) he h3
        have hg : ∀ op, (eqGuard op t x y (.pointer p) (.pointer q)).run P w = .ok () w := fun op => eqGuard_plain op t x y _ _ trivial
        split at e
        · refine OpLaw.val (v := .bool b) h e ?_ rfl trivial
          simp only [execOp, hop, h1, h2, Sem.run_bind, hg, Result.andThen_ok, binOp, hpe, h4, Sem.run_pure]
        · refine OpLaw.val (v := .bool (!b)) h e ?_ rfl trivial
          simp only [execOp, hop, h1, h2, Sem.run_bind, hg, Result.andThen_ok, binOp, hpe, h4, Sem.run_pure]
        · cases e
      · cases e
    split at e
    · rename_i r i h1 h2
      rw [h1] at hx
      rw [h2] at hy
      obtain ⟨b, e1, _⟩ := hx
      exact ptr _ _ false e1 hy (.inr rfl) rfl e
    · rename_i r i h1 h2
      rw [h1] at hx
      rw [h2] at hy
      obtain ⟨b, e1, _⟩ := hy
      exact ptr _ _ false hx e1 (.inl rfl) rfl e
    · rename_i h1 h2
      rw [h1] at hx
      rw [h2] at hy
      exact ptr _ _ true hx hy (.inl rfl) rfl e
    · exact OpLaw.of (evBin_sound (o1 := x) (o2 := y) hc h hx hy e) (by simp only [execOp, hop])
  | unOp op t x =>
    rw [hop] at e sv
    exact OpLaw.of (evUn_sound h (sv x (by simp [Op.operands])) e) (by simp only [execOp, hop])
  | convert s d x =>
    rw [hop] at e sv rf
    exact OpLaw.of (evBytes_sound hc h hH (sv x (by simp [Op.operands])) (rf x (by simp [Op.operands])) e) (by simp only [execOp, hop])
  | makeMap t r =>
    rw [hop] at e
    cases r with
    | none => exact OpLaw.of (evMakeMap_sound hc h e) (by simp only [execOp, hop, Option.map_none])
    | some r => cases e
  | makeSlice t l m =>
    rw [hop] at e sv
    exact OpLaw.of (evMakeSlice_sound hc h (sv l (by simp [Op.operands])) (sv m (by simp [Op.operands])) e) (by simp only [execOp, hop])
  | slice t x lo hi mx =>
    rw [hop] at e sv rf
    cases mx with
    | some m => cases e
    | none =>
      dsimp only at e
      refine OpLaw.of (evSliceX_sound hc h hH (asE_SR (sv x (by simp [Op.operands]))) (asE_in (rf x (by simp [Op.operands]))) (lo := lo.map a.eval) (hi := hi.map a.eval) ?_ ?_ e) (by simp only [execOp, hop, Option.map_none])
      · intro l' h1
        cases lo with
        | none =>
          cases h1
          exact .inl ⟨rfl, rfl⟩
        | some y =>
          obtain ⟨kk, e1⟩ := intOf_SR h1 (sv y (by simp [Op.operands]))
          exact .inr ⟨kk, by simp [e1]⟩
      · intro n m' hn
        cases hi with
        | none =>
          rcases hn with ⟨_, hn⟩ | hn
          · exact .inl ⟨rfl, hn⟩
          · cases hn
        | some y =>
          rcases hn with ⟨hn, _⟩ | hn
          · cases hn
          · obtain ⟨kk, e1⟩ := intOf_SR (Option.some.inj hn) (sv y (by simp [Op.operands]))
            exact .inr ⟨kk, by simp [e1]⟩
  | fieldAddr t x f =>
    rw [hop] at e sv rf
    exact OpLaw.of (evFieldAddr_sound hc h (asE_SR (asImm_SR (sv x (by simp [Op.operands])))) (asE_in (asImm_in (rf x (by simp [Op.operands])))) e) (by simp only [execOp, hop])
  | field t x f =>
    rw [hop] at e sv
    exact OpLaw.of (evField_sound hc h (sv x (by simp [Op.operands])) e) (by simp only [execOp, hop])
  | indexAddr t x i =>
    rw [hop] at e sv rf
    exact OpLaw.of (evIndexAddrX_sound hc h hH (asE_SR (sv x (by simp [Op.operands]))) (sv i (by simp [Op.operands])) (asE_in (rf x (by simp [Op.operands]))) e) (by simp only [execOp, hop])
  | index t x i =>
    rw [hop] at e sv
    exact OpLaw.of (evIndex_sound hc h (sv x (by simp [Op.operands])) (sv i (by simp [Op.operands])) e) (by simp only [execOp, hop])
  | lookup t m x ok =>
    rw [hop] at e sv
    exact OpLaw.of (evLookup_sound hc h hH (sv m (by simp [Op.operands])) (sv x (by simp [Op.operands])) e) (by simp only [execOp, hop])
  | mapUpdate t m x y =>
    rw [hop] at e sv
    exact OpLaw.ofU (evMapUpdate_sound hc h hH (sv m (by simp [Op.operands])) (sv x (by simp [Op.operands])) (sv y (by simp [Op.operands])) e) (by simp only [execOp, hop])
  | insert t m x y =>
    rw [hop] at e sv
    exact OpLaw.ofU (evMapUpdate_sound hc h hH (sv m (by simp [Op.operands])) (sv x (by simp [Op.operands])) (sv y (by simp [Op.operands])) e) (by simp only [execOp, hop])
  | makeFunc fn first caps =>
    rw [hop] at e sv rf
    cases fn with
    | func f =>
      dsimp only at e
      split at e
      · rename_i l h1 h2
        have h3 := capsOf_spec _ _ h2
        have hcl := cells_map (a := a) (S := S) caps.toList (fun x hx => (hS x (by rw [hop]; simp [Op.operands]; exact .inr (by simpa using hx))).1)
        rw [h3] at hcl
        obtain ⟨k1, k2⟩ := caps_back l _ hcl
        refine OpLaw.val (v := .func (.func f) #[] (caps.map a.eval)) h e ?_ ?_ ?_
        · have h0 : first = #[] := Array.toList_eq_nil_iff.1 h1
          simp [execOp, hop, Instr.makeFunc, h0]
        · refine ⟨_, rfl, by simpa using k1, fun i hi => ?_⟩
          obtain ⟨b, e1, e2⟩ := k2 i hi
          exact ⟨b, by simpa using e1, e2⟩
        · intro p hp
          have : SV.ptr p.1 p.2 ∈ caps.toList.map (evV S) := by rw [h3]; exact List.mem_map.2 ⟨p, hp, rfl⟩
          obtain ⟨x, hx, e1⟩ := List.mem_map.1 this
          have := rf x (by simp [Op.operands]; exact .inr (by simpa using hx))
          rw [e1] at this
          exact this
      · cases e
    | _ => cases e
  | extract x i =>
    rw [hop] at e hS
    obtain ⟨h1, h2⟩ := hS x (by simp [Op.operands])
    dsimp only at e
    split at e
    · rename_i l hl
      rw [hl] at h1 h2
      split at e
      · rename_i hi
        have hi := Nat.le_of_ble_eq_true hi
        obtain ⟨vs, e1, e2, e3⟩ := h1
        have hg : vs[i]? = some (vs.getD i undef) := by
          rw [Array.getD_eq_getD_getElem?, Array.getElem?_eq_getElem (by omega)]
          rfl
        refine OpLaw.val (v := vs.getD i undef) h e ?_ (e3 i hi) (h2 _ (getL_mem _ l i hi))
        simp only [execOp, hop, e1, Instr.extract, hg, Sem.run_bind, Sem.run_pure, Result.andThen_ok]
      · cases e
    · cases e
  | call cl =>
    rw [hop] at e
    dsimp only at e
    have hca : ∀ x ∈ cl.args.toList, SlR w (okOf C.X ρ (getO σ.heap)) ρ (getO σ.heap) (evS S x) (a.eval x) ∧ SlotIn A (evS S x) := fun x hx => hS x (by
      rw [hop]
      simp only [Op.operands, Call.operands, Array.mem_append]
      exact .inr (by simpa using hx))
    have hev : cl.args.map a.eval = (cl.args.toList.map a.eval).toArray := by
      apply Array.ext'
      simp
    split at e
    · -- len
      rename_i x h1 h2
      split at e
      · rename_i t ts h3
        rw [h2] at hca
        have hx := hca x (List.mem_cons_self ..)
        refine OpLaw.of (evLen_sound (ts := cl.argTypes) (ty := o.type) hc h hH ?_ hx.1.sv e) ?_
        · rw [← Array.getElem?_toList, h3]
          rfl
        · simp only [execOp, hop, resolve, h1, hev, h2]
          rfl
      · cases e
    · rename_i x y h1 h2
      split at e
      · rename_i t t2 h3
        rw [h2] at hca
        have hx := hca x (List.mem_cons_self ..)
        have hy := hca y (List.mem_cons_of_mem _ (List.mem_cons_self ..))
        refine OpLaw.of (evAppend_sound (ty := o.type) hc h hH hx.1.sv hy.1.sv e) ?_
        have h4 : cl.argTypes = #[t, t2] := by
          apply Array.ext'
          rw [h3]
        simp only [execOp, hop, resolve, h1, hev, h2, h4]
        rfl
      · cases e
    · rename_i x y h1 h2
      split at e
      · rename_i t ts h3
        rw [h2] at hca
        have hx := hca x (List.mem_cons_self ..)
        have hy := hca y (List.mem_cons_of_mem _ (List.mem_cons_self ..))
        refine OpLaw.of (evCopy_sound (ts := cl.argTypes) (ty := o.type) hc h hH ?_ hx.1.sv hy.1.sv e) ?_
        · rw [← Array.getElem?_toList, h3]
          rfl
        · simp only [execOp, hop, resolve, h1, hev, h2]
          rfl
      · cases e
    · rename_i l h1
      have hcl := cells_map cl.args.toList (fun x hx => (hca x hx).1)
      refine OpLaw.of (evMinMax_sound (ts := cl.argTypes) (ty := o.type) h hcl e) ?_
      simp only [execOp, hop, resolve, h1, hev]
      rfl
    · rename_i l h1
      have hcl := cells_map cl.args.toList (fun x hx => (hca x hx).1)
      refine OpLaw.of (evMinMax_sound (ts := cl.argTypes) (ty := o.type) h hcl e) ?_
      simp only [execOp, hop, resolve, h1, hev]
      rfl
    · rename_i l f h1
      have hf := hS f (by
        rw [hop]
        simp [Op.operands, Call.operands, h1])
      have fin : ∀ (fi : Nat) (vs : Array Value) (xs : List SV), a.eval f = .func (.func fi) #[] vs → CellsR w (okOf C.X ρ (getO σ.heap)) ρ (getO σ.heap) xs vs.toList → (∀ x ∈ xs, RefIn A x) →
          evCall E fi (cl.args.toList.map (evV S) ++ xs) Hr fr k = some out → OpLaw P C A ρ σ a w Hr fr k out o := by
        intro fi vs xs e1 hcc hfr e
        obtain ⟨sl, us, q1, q2, q3⟩ := evCall_sound hA hE h hH ((cells_map cl.args.toList (fun x hx => (hca x hx).1)).app hcc) (fun x hx => by
          rcases List.mem_append.1 hx with hx | hx
          · obtain ⟨y, hy, rfl⟩ := List.mem_map.1 hx
            exact (hca y hy).2.sv
          · exact hfr x hx) e
        refine ⟨sl, us, q1, q2, fun hfresh K Q hl hK => ?_⟩
        obtain ⟨m1, m2⟩ := q3 hfresh
        unfold Oper.wp
        have hargs : cl.args.map a.eval ++ vs = (cl.args.toList.map a.eval ++ vs.toList).toArray := by
          apply Array.ext'
          simp
        have hrun : (execOp a.eval o).run P w = .ok (.enter fi (cl.args.toList.map a.eval ++ vs.toList).toArray) w := by
          simp only [execOp, hop, resolve, h1, e1, Deferred.ofValue, Sem.run_bind, Sem.run_pure, Result.andThen_ok, invoke, Array.empty_append, hargs]
          exact m1 _ _
        rw [hrun, Oper.upon_enter]
        refine Calls.mono m2 fun en w' he => ?_
        cases en with
        | returned v =>
          obtain ⟨ρ', p1, p2, p3⟩ := he
          exact hK v w' ρ' p1 p2 p3
        | panicked ch => exact he.elim
        | outgrown => exact he.elim
      split at e
      · rename_i fi caps hfv
        have hfs := hf.1.sv
        have hfr := hf.2.sv
        rw [show (evS S f).sv = SV.fn fi caps from hfv] at hfs hfr
        obtain ⟨vs, e1, e2, e3⟩ := hfs
        have hcc := caps_cells (w := w) (ρ := ρ) (ok := okOf C.X ρ (getO σ.heap)) (H := getO σ.heap) caps vs.toList (by simpa using e2) (fun i hi => by
          obtain ⟨b, q1, q2⟩ := e3 i hi
          exact ⟨b, by simpa using q1, q2⟩)
        exact fin fi vs _ e1 hcc (fun x hx => by
          obtain ⟨p, hp, rfl⟩ := List.mem_map.1 hx
          exact hfr p hp) e
      · rename_i t y hfv
        have hfs := hf.1.sv
        rw [show (evS S f).sv = SV.v t y from hfv] at hfs
        split at e
        · rename_i fi t y
          obtain ⟨b, off, c, et, fr', k1, k2⟩ : TR w (okOf C.X ρ (getO σ.heap)) (.clo fi t) y [a.eval f] := hfs
          exact fin fi _ [.v (.pt t) y] (List.head_eq_of_cons_eq k1) ⟨_, [], rfl, VR.of_cells rfl ⟨b, off, c, et, fr', rfl, k2⟩, rfl⟩ (fun x hx => by
            cases hx with
            | head => trivial
            | tail _ hx => cases hx) e
        · cases e
      · cases e
    · cases e
  | _ => rw [hop] at e; cases e
end
end Go.Sym

/- An operation hands one pair to what follows, II. -/
namespace Go.Sym
section
variable {α β : Type} (k : Slot → Ups → Option α) (k' : Slot → Ups → Option β) {E : Env} (S : List (Nat × Slot)) (H : Nat → HO) (fr : Nat)
theorem evCallB_two {g f : Nat} {args : List SV} {bd : Option (E.cfg.sig g).res.den → ((E.cfg.sig g).res.den → Option α) → Option α} {bd' : Option (E.cfg.sig g).res.den → ((E.cfg.sig g).res.den → Option β) → Option β}
    (hb : ∀ r f f', bd (some r) f = f r ∧ bd' (some r) f' = f' r) (hn : ∀ f f', Two k k' (bd none f) (bd' none f')) : Two k k' (evCallB E g bd f args H fr k) (evCallB E g bd' f args H fr k') := by
  unfold evCallB
  dsimp only
  · split
    · exact Two.no k k'
    · split
      · exact Two.no k k'
      · rename_i xs us fr1 hco
        rw [forceL_eq, forceP_eq, forceL_eq, forceP_eq]
        dsimp only
        split
        · cases appl (E.cfg.sig g).ins (E.cal g) _ with
          | none => exact hn _ _
          | some r =>
            rw [(hb r _ (fun _ => none)).1, (hb r (fun _ => none) _).2]
            split
            · exact Two.yes k k' _ _
            · exact Two.no k k'
        · exact Two.no k k'
theorem evCall0_two (hA : E.A = .real) (g f : Nat) (args : List SV) : Two k k' (evCall0 E g f args H fr k) (evCall0 E g f args H fr k') := by
  unfold evCall0
  rw [hA]
  exact evCallB_two k k' H fr (fun r f f' => ⟨rfl, rfl⟩) (fun f f' => Two.no k k')
theorem evCallS_two (hA : E.A = .real) (g g2 f : Nat) (args : List SV) : Two k k' (evCallS E g g2 f args H fr k) (evCallS E g g2 f args H fr k') := by
  unfold evCallS
  rw [hA]
  exact evCallB_two k k' H fr (fun r f f' => ⟨rfl, rfl⟩) (fun f f' => evCall0_two k k' H fr hA g2 _ args)
theorem evLend_two (hA : E.A = .real) (g : Nat) (args : List SV) : Two k k' (evLend E g args H k) (evLend E g args H k') := by
  unfold evLend
  rw [hA]
  dsimp only
  split
  · exact Two.no k k'
  · rw [forceDs_eq, forceDs_eq]
    simp only [Alg.real]
    cases appl (E.cfg.sig g).ins (E.cal g) _ with
    | none => exact Two.no k k'
    | some r => exact Two.yes k k' _ _
theorem evCall_two (hA : E.A = .real) (f : Nat) (args : List SV) : Two k k' (evCall E f args H fr k) (evCall E f args H fr k') := by
  unfold evCall
  split
  · exact Two.no k k'
  · split
    · split
      · exact evLend_two k k' H hA _ _
      · exact Two.no k k'
    · split
      · exact evCallS_two k k' H fr hA _ _ _ _
      · exact evCall0_two k k' H fr hA _ _ _
theorem evOp_two (hA : E.A = .real) (o : Oper) : Two k k' (evOp E o S H fr k) (evOp E o S H fr k') := by
  unfold evOp
  dsimp only
  rw [hA]
  split
  · exact Two.yes k k' _ _
  · repeat' (first | exact Two.no k k' | exact Two.yes k k' _ _ | split)
  · repeat' (first | exact Two.no k k' | exact Two.yes k k' _ _ | split)
  · exact evAllocX_two ..
  · exact evBox_two ..
  · exact evBuild_two ..
  · exact evBuildSlice_two ..
  · exact evLoadX_two ..
  · exact evStoreX_two ..
  · repeat' (first | exact Two.no k k' | exact Two.yes k k' _ _ | split)
  · repeat' (first | exact Two.no k k' | exact Two.yes k k' _ _ | exact evBin_two .. | split)
  · exact evUn_two ..
  · exact evBytes_two ..
  · exact evMakeMap_two ..
  · exact evMakeSlice_two ..
  · exact evSliceX_two ..
  · exact evFieldAddr_two ..
  · exact evField_two ..
  · exact evIndexAddrX_two ..
  · exact evIndex_two ..
  · exact evLookup_two ..
  · exact evMapUpdate_two ..
  · exact evMapUpdate_two ..
  · repeat' (first | exact Two.no k k' | exact Two.yes k k' _ _ | split)
  · repeat' (first | exact Two.no k k' | exact Two.yes k k' _ _ | split)
  · repeat' (first | exact Two.no k k' | exact Two.yes k k' _ _ | exact evLen_two .. | exact evAppend_two .. | exact evCopy_two .. | exact evMinMax_two .. | exact evCall_two _ _ _ _ hA _ _ | split)
  · exact Two.no k k'
end
end Go.Sym

/- Regions, I: one operation behind the other. -/
namespace Go.Sym
theorem real_branch {E : Env} (hA : E.A = .real) {α : Type} (b : Bool) (x y : Option α) : E.A.branch b x y = if b then x else y := by rw [hA]; rfl
/-- The relation at the heads of code: the references are the numbers of the objects. -/
abbrev Rl (C : Ctx) (ρ : Nat → RV) (σ : St) (a : Act) (w : World) : Prop := Rel C (· < σ.heap.length) ρ σ a w
def Keep (wr : Nat) (a a' : Act) : Prop := ∀ i, Nat.testBit wr i = false → a'.tmps.getD i undef = a.tmps.getD i undef
theorem Keep.refl (wr : Nat) (a : Act) : Keep wr a a := fun _ _ => rfl
theorem Keep.trans {wr : Nat} {a b c : Act} (h : Keep wr a b) (k : Keep wr b c) : Keep wr a c := fun i hi => (k i hi).trans (h i hi)
theorem Keep.mono {wr wr' : Nat} {a b : Act} (h : Keep wr a b) (hs : ∀ i, Nat.testBit wr' i = false → Nat.testBit wr i = false) : Keep wr' a b := fun i hi => h i (hs i hi)
theorem testBit_lor (a b i : Nat) : Nat.testBit (Nat.lor a b) i = (Nat.testBit a i || Nat.testBit b i) := Nat.testBit_or a b i
theorem testBit_pow (d i : Nat) : Nat.testBit (Nat.pow 2 d) i = decide (d = i) := Nat.testBit_two_pow (n := d) (m := i)
theorem Keep.put (a : Act) (o : Oper) (v : Value) {wr : Nat} (h : ∀ i, Nat.testBit wr i = false → Nat.testBit (dstBit o) i = false) : Keep wr a (a.put o.dst v) := by
  intro i hi
  have hb := h i hi
  unfold dstBit at hb
  cases hd : o.dst with
  | none => rfl
  | some d =>
    rw [hd] at hb
    simp only [testBit_pow, decide_eq_false_iff_not] at hb
    simp [Act.put, Array.getD_eq_getD_getElem?, Array.getElem?_setIfInBounds_ne hb]
theorem kbS_get {S : List (Nat × Slot)} : ∀ (kn : List (Nat × Bool)) (t : Nat), getS (kbS kn S) t = getS S t ∨ ∃ b, (t, b) ∈ kn ∧ getS (kbS kn S) t = .one (.kb b)
  | [], t => .inl rfl
  | (s, b) :: kn, t => by
    simp only [kbS, getS]
    cases h : Nat.beq s t with
    | true =>
      have := Nat.eq_of_beq_eq_true h
      subst this
      exact .inr ⟨b, List.mem_cons_self .., rfl⟩
    | false =>
      rcases kbS_get kn t with h1 | ⟨b', h1, h2⟩
      · exact .inl h1
      · exact .inr ⟨b', List.mem_cons_of_mem _ h1, h2⟩
/-- What guards told is so. -/
def KnS (kn : List (Nat × Bool)) (S : List (Nat × Slot)) : Prop := ∀ s b, (s, b) ∈ kn → getS S s = .one (.v .bool b) ∨ getS S s = .one (.kb b)
def BoolAt (x : Slot) (b : Bool) : Prop := x = .one (.kb b) ∨ x = .one (.v .bool b)
section
variable {P : Program} {C : Ctx} {A : Nat → Prop} {ρ : Nat → RV} {σ : St} {a : Act} {w : World}
theorem SlR_bool {ok : Nat → Prop} {H : Nat → HO} {b : Bool} {u : Value} (h : SlR w ok ρ H (.one (.v .bool b)) u) : u = .bool b := (VR_bool (w := w) (ok := ok)).1 h
theorem kn_SlR {ok : Nat → Prop} {H : Nat → HO} {kn : List (Nat × Bool)} {S : List (Nat × Slot)} (hk : KnS kn S) {t : Nat} {u : Value} (h : SlR w ok ρ H (getS S t) u) : SlR w ok ρ H (getS (kbS kn S) t) u := by
  rcases kbS_get (S := S) kn t with h1 | ⟨b, h1, h2⟩
  · rw [h1]
    exact h
  · rw [h2]
    rcases hk t b h1 with h3 | h3
    · rw [h3] at h
      exact SlR_bool h
    · rw [h3] at h
      exact h
theorem kn_in {kn : List (Nat × Bool)} {S : List (Nat × Slot)} {t : Nat} (h : SlotIn A (getS S t)) : SlotIn A (getS (kbS kn S) t) := by
  rcases kbS_get (S := S) kn t with h1 | ⟨b, h1, h2⟩
  · rw [h1]
    exact h
  · rw [h2]
    trivial
theorem KnS.put {kn : List (Nat × Bool)} {σ : St} (h : KnS kn σ.slots) (d : Option Nat) (x : Slot) (H : List HO) : KnS (delK d kn) (({ σ with heap := H } : St).put d x).slots := by
  intro s b hm
  cases d with
  | none => exact h s b hm
  | some d =>
    simp only [delK, List.mem_filter, Bool.not_eq_true'] at hm
    have hne : ¬ s = d := fun e => by
      rw [e, Nat.beq_refl] at hm
      cases hm.2
    show getS (putS σ.n σ.slots d x) s = _ ∨ getS (putS σ.n σ.slots d x) s = _
    rw [getS_put, if_neg (fun h => hne h.1)]
    exact h s b hm.1
theorem KnS.add {kn : List (Nat × Bool)} {S : List (Nat × Slot)} (h : KnS kn S) {s : Nat} {b : Bool} (hs : getS (kbS kn S) s = .one (.v .bool b)) : KnS ((s, b) :: kn) S := by
  intro s' b' hm
  cases hm with
  | head =>
    rcases kbS_get (S := S) kn s with h1 | ⟨b', h1, h2⟩
    · rw [h1] at hs
      exact .inl hs
    · rw [hs] at h2
      cases h2
  | tail _ hm => exact h s' b' hm
theorem const_SR {ok : Nat → Prop} {H : Nat → HO} (v : Value) : SR w ok ρ H (constSV v) v := by
  unfold constSV
  split
  · exact VR_int.2 rfl
  · exact rfl
  · exact VR_str.2 rfl
  · exact rfl
  · exact rfl
  · trivial
theorem const_in (v : Value) : RefIn A (constSV v) := by
  unfold constSV
  split <;> trivial
/-- An operand, from the slots. -/
theorem operand_SlR {ok : Nat → Prop} {H : Nat → HO} {S : List (Nat × Slot)} (x : Operand) (h : ∀ t, x = .tmp t → SlR w ok ρ H (getS S t) (a.tmps.getD t undef) ∧ SlotIn A (getS S t)) : SlR w ok ρ H (evS S x) (a.eval x) ∧ SlotIn A (evS S x) := by
  cases x with
  | tmp t => exact h t rfl
  | const v => exact ⟨const_SR v, const_in v⟩
  | func f => exact ⟨⟨#[], rfl, rfl, fun i hi => absurd hi (by simp)⟩, fun p hp => by cases hp⟩
  | global g => exact ⟨trivial, trivial⟩
theorem updH_len : ∀ (us : Ups) (H : List HO), H.length ≤ (updH H us).length ∧ ∀ r, refs us r → r < (updH H us).length
  | [], H => ⟨Nat.le_refl _, fun r ⟨p, hp, _⟩ => by cases hp⟩
  | (r, o) :: us, H => by
    have hp : ∀ (H : List HO) (r : Nat) (o : HO), H.length ≤ (putL .dead H r o).length ∧ r < (putL .dead H r o).length := by
      intro H
      induction H with
      | nil =>
        intro r o
        have : ∀ r, r < (putL HO.dead [] r o).length := by
          intro r
          induction r with
          | zero => simp [putL]
          | succ r ih => simp only [putL, List.length_cons]; omega
        exact ⟨Nat.zero_le _, this r⟩
      | cons x H ih =>
        intro r o
        cases r with
        | zero => simp [putL]
        | succ r =>
          have := ih r o
          simp only [putL, List.length_cons]
          omega
    obtain ⟨h1, h2⟩ := updH_len us (putL .dead H r o)
    obtain ⟨h3, h4⟩ := hp H r o
    simp only [updH]
    refine ⟨by omega, fun q ⟨p, hp, e⟩ => ?_⟩
    cases hp with
    | head => subst e; exact Nat.lt_of_lt_of_le h4 h1
    | tail _ hp => exact h2 q ⟨p, hp, e⟩
theorem guard_yields {ok : Nat → Prop} {H : Nat → HO} {ops : Array Oper} {g s : Nat} (hs : (ops.toList[g]?).bind (·.dst) = some s) {x : Slot} {b : Bool} (hb : BoolAt x b) (h : SlR w ok ρ H x (a.tmps.getD s undef)) : yielded ops a.tmps g = some b := by
  have hv : a.tmps.getD s undef = .bool b := by
    rcases hb with rfl | rfl
    · exact h
    · exact SlR_bool h
  have hs' : (ops[g]?).bind (·.dst) = some s := by rw [← Array.getElem?_toList]; exact hs
  unfold yielded
  rw [hs', Option.bind_some]
  cases ht : a.tmps[s]? with
  | none =>
    rw [Array.getD_eq_getD_getElem?, ht] at hv
    cases hv
  | some v =>
    rw [Array.getD_eq_getD_getElem?, ht] at hv
    have : v = .bool b := hv
    rw [this]
theorem many_SlR {ok : Nat → Prop} {H : Nat → HO} : SlR w ok ρ H (.many []) undef := ⟨#[], rfl, rfl, fun i hi => absurd hi (Nat.not_lt_zero _)⟩
theorem guard_undef {ok : Nat → Prop} {H : Nat → HO} {ops : Array Oper} {g s : Nat} (hs : (ops.toList[g]?).bind (·.dst) = some s) (h : SlR w ok ρ H (.many []) (a.tmps.getD s undef)) : yielded ops a.tmps g = none := by
  obtain ⟨vs, hv, _⟩ := h
  have hs' : (ops[g]?).bind (·.dst) = some s := by rw [← Array.getElem?_toList]; exact hs
  unfold yielded
  rw [hs', Option.bind_some]
  cases ht : a.tmps[s]? with
  | none => rfl
  | some v =>
    rw [Array.getD_eq_getD_getElem?, ht] at hv
    have hv : v = .tuple vs := hv
    rw [hv]
/-- A state behind an operation that was carried out. -/
theorem Rel.done {us : Ups} {ρ' : Nat → RV} {w' : World} {sl : Slot} {v : Value} (k : Aft C A ρ σ a w us ρ' w') (hs : SlR w' (okOf C.X ρ' (getO (updH σ.heap us))) ρ' (getO (updH σ.heap us)) sl v) (hi : SlotIn (fun r => A r ∨ refs us r) sl) (d : Option Nat) :
    Rel C (fun r => A r ∨ refs us r) ρ' (({ σ with heap := updH σ.heap us } : St).put d sl) (a.put d v) w' := k.rel.put d sl v hs hi
theorem put_heap (σ : St) (d : Option Nat) (x : Slot) : (σ.put d x).heap = σ.heap := by cases d <;> rfl
theorem put_n (σ : St) (d : Option Nat) (x : Slot) : (σ.put d x).n = σ.n := by cases d <;> rfl
end
end Go.Sym

/- Regions, II: in the text's order. -/
namespace Go.Sym
section
variable {P : Program} {C : Ctx} {ρ : Nat → RV} {σ : St} {a : Act} {w : World} {α : Type} {out : α}
theorem Rl.done {us : Ups} {ρ' : Nat → RV} {w' : World} {sl : Slot} {v : Value} (k : Aft C (· < σ.heap.length) ρ σ a w us ρ' w') (hs : SlR w' (okOf C.X ρ' (getO (updH σ.heap us))) ρ' (getO (updH σ.heap us)) sl v) (hi : SlotIn (fun r => r < σ.heap.length ∨ refs us r) sl) (d : Option Nat) :
    Rl C ρ' (({ σ with heap := updH σ.heap us } : St).put d sl) (a.put d v) w' := by
  have h := Rel.done k hs hi d
  have hl := updH_len us σ.heap
  unfold Rl
  rw [put_heap]
  refine h.widen (fun r hr => ?_) (fun r hr => ?_)
  · rcases hr with hr | hr
    · exact Nat.lt_of_lt_of_le hr hl.1
    · exact hl.2 r hr
  · rw [put_heap]
    exact getL_ge _ _ _ (Nat.le_of_not_lt hr)
theorem Rl.skip (h : Rl C ρ σ a w) (d : Option Nat) : Rl C ρ (σ.put d (.many [])) (a.put d undef) w := by
  have := h.put d (.many []) undef many_SlR (fun x hx => by cases hx)
  unfold Rl
  rw [put_heap]
  exact this
theorem Rl.fresh (us : Ups) : Fresh (· < σ.heap.length) σ.len us := fun p _ hn h => by
  have h : p.1 < σ.heap.length := h
  have hn : σ.heap.length ≤ p.1 := hn
  omega
theorem evOps_seq {E : Env} (hA : E.A = .real) (hE : ∀ g, FnOk P C.T E.cfg g (E.cal g)) (hc : CfgOk P E.cfg) (ops : Array Oper) {k : St → List Tr → Option α} {Q : Exit → Act → World → Prop} (hl : LO Q) (wr : Nat) :
    ∀ (l : List Oper) (i : Nat) (kn : List (Nat × Bool)) (σ : St) (ρ : Nat → RV) (a : Act) (w : World), evOps E E.A.branch false ops.toList i l kn σ [] k = some out → ops.toList.drop i = l → (∀ o ∈ l, ∀ j, Nat.testBit wr j = false → Nat.testBit (dstBit o) j = false) →
      KnS kn σ.slots → Rl C ρ σ a w →
      (∀ σ' ρ' a' w', k σ' [] = some out → Rl C ρ' σ' a' w' → σ'.n = σ.n → Keep wr a a' → Hp C.X ρ ρ' σ.heap σ'.heap w w' → Q .normal a' w') → wpOps P ops Q (List.range' i l.length) a w
  | [], i, kn, σ, ρ, a, w, e, hd, hw, hk, h, hQ => hQ σ ρ a w e h rfl (Keep.refl _ _) (Hp.refl _ _ _ _)
  | o :: rest, i, kn, σ, ρ, a, w, e, hd, hw, hk, h, hQ => by
    have hoi : ops[i]? = some o := by
      rw [← Array.getElem?_toList, ← List.head?_drop, hd]
      rfl
    have hdr : ops.toList.drop (i + 1) = rest := by rw [← List.tail_drop, hd]; rfl
    have hw1 := hw o (List.mem_cons_self ..)
    have hw2 : ∀ o ∈ rest, ∀ j, Nat.testBit wr j = false → Nat.testBit (dstBit o) j = false := fun o ho => hw o (List.mem_cons_of_mem _ ho)
    -- the operation is carried out
    have go : ∀ kn : List (Nat × Bool), KnS kn σ.slots → Region.wanted o (yielded ops a.tmps) = true →
        (evOp E o (kbS kn σ.slots) (getO σ.heap) σ.len fun sl us => forceT sl fun sl => forceSt ({ σ with heap := updH σ.heap us }.put o.dst sl) fun σ => evOps E E.A.branch false ops.toList (i + 1) rest (delK o.dst kn) σ [] k) = some out →
        wpOps P ops Q (List.range' i (rest.length + 1)) a w := by
      intro kn hk hwt e
      have hS : ∀ x ∈ o.op.operands, SlR w (okOf C.X ρ (getO σ.heap)) ρ (getO σ.heap) (evS (kbS kn σ.slots) x) (a.eval x) ∧ SlotIn (· < σ.heap.length) (evS (kbS kn σ.slots) x) :=
        fun x _ => operand_SlR x (fun t _ => ⟨kn_SlR hk (h.slots t), kn_in (h.inS t)⟩)
      obtain ⟨sl, us, e1, e2, e3⟩ := evOp_sound hA hE hc h (fun _ _ => rfl) o hS e
      dsimp only at e1
      rw [forceT_eq, forceSt_eq] at e1
      rw [List.range'_succ]
      simp only [wpOps, hoi, hwt, if_true]
      refine .inl (e3 (Rl.fresh us) _ Q hl (fun v w' ρ' k1 k2 k3 => ?_))
      refine evOps_seq hA hE hc ops hl wr rest (i + 1) (delK o.dst kn) _ ρ' _ w' e1 hdr hw2 (hk.put _ _ _) (Rl.done k1 k2 k3 o.dst) (fun σ' ρ'' a' w'' q1 q2 q3 q4 q5 => ?_)
      refine hQ σ' ρ'' a' w'' q1 q2 (by rw [q3, put_n]) ((Keep.put a o v hw1).trans q4) ?_
      rw [put_heap] at q5
      exact k1.hp.trans q5
    have skip : ∀ kn : List (Nat × Bool), KnS kn σ.slots → Region.wanted o (yielded ops a.tmps) = false → evOps E E.A.branch false ops.toList (i + 1) rest (delK o.dst kn) (σ.put o.dst (.many [])) [] k = some out →
        wpOps P ops Q (List.range' i (rest.length + 1)) a w := by
      intro kn hk hwt e
      rw [List.range'_succ]
      simp only [wpOps, hoi, hwt, Bool.false_eq_true, if_false]
      refine evOps_seq hA hE hc ops hl wr rest (i + 1) (delK o.dst kn) _ ρ _ w e hdr hw2 (hk.put o.dst (.many []) σ.heap) (h.skip o.dst) (fun σ' ρ'' a' w'' q1 q2 q3 q4 q5 => ?_)
      refine hQ σ' ρ'' a' w'' q1 q2 (by rw [q3, put_n]) ((Keep.put a o undef hw1).trans q4) ?_
      rw [put_heap] at q5
      exact q5
    simp only [evOps, Bool.false_eq_true, if_false] at e
    rw [List.length_cons]
    split at e
    · rename_i hg
      exact go kn hk (by simp [Region.wanted, hg]) e
    · rename_i g want hg
      split at e
      · cases e
      · rename_i s hs
        have hwt : ∀ b, BoolAt (getS (kbS kn σ.slots) s) b → Region.wanted o (yielded ops a.tmps) = (b == want) := fun b hb => by
          have hy := guard_yields (ops := ops) hs hb (kn_SlR hk (h.slots s))
          simp only [Region.wanted, hg, hy]
          cases b <;> cases want <;> rfl
        split at e
        · rename_i b hb
          have hw' := hwt b (.inl hb)
          split at e
          · rename_i he
            exact go kn hk (by rw [hw']; exact he) e
          · rename_i he
            exact skip kn hk (by rw [hw']; simpa using he) e
        · rename_i x hx
          have hw' := hwt x (.inr hx)
          split at e
          · rename_i hwant
            rw [real_branch hA] at e
            split at e
            · rename_i hxt
              subst hxt
              exact go _ (hk.add hx) (by rw [hw', hwant]; rfl) e
            · rename_i hxf
              have hxf : x = false := by simpa using hxf
              subst hxf
              exact skip _ (hk.add hx) (by rw [hw', hwant]; rfl) e
          · rename_i hwant
            have hwant : want = false := by simpa using hwant
            rw [real_branch hA] at e
            split at e
            · rename_i hxt
              subst hxt
              exact skip _ (hk.add hx) (by rw [hw', hwant]; rfl) e
            · rename_i hxf
              have hxf : x = false := by simpa using hxf
              subst hxf
              exact go _ (hk.add hx) (by rw [hw', hwant]; rfl) e
        · rename_i hm
          have hy := guard_undef (ops := ops) hs (by have := kn_SlR hk (h.slots s); rw [hm] at this; exact this)
          exact skip kn hk (by simp only [Region.wanted, hg, hy]; rfl) e
        · cases e
end
end Go.Sym

/- Regions, III: where Go draws the order: what a run in the text's order is, and what a set of operations leaves behind. -/
namespace Go.Sym
/-! ### what some writers leave -/
def atW {β : Type} (wf : Nat → Option β) (S : Nat → Bool) (x0 : β) : Nat → β
  | 0 => x0
  | j + 1 => match S j with | true => (wf j).getD (atW wf S x0 j) | false => atW wf S x0 j
section
variable {β : Type} {wf : Nat → Option β} {S S' : Nat → Bool} {x0 : β}
theorem atW_congr : ∀ (m : Nat), (∀ k, k < m → (wf k).isSome = true → S k = S' k) → atW wf S x0 m = atW wf S' x0 m
  | 0, _ => rfl
  | m + 1, h => by
    have ih := atW_congr m (fun k hk => h k (by omega))
    simp only [atW, ih]
    cases hw : wf m with
    | none => cases S m <;> cases S' m <;> rfl
    | some x =>
      have := h m (by omega) (by rw [hw]; rfl)
      rw [this]
theorem atW_keep (j : Nat) : ∀ (d : Nat), (∀ k, j ≤ k → k < j + d → (wf k).isSome = true → S k = false) → atW wf S x0 (j + d) = atW wf S x0 j
  | 0, _ => rfl
  | d + 1, h => by
    have ih := atW_keep j d (fun k h1 h2 => h k h1 (by omega))
    rw [← Nat.add_assoc, atW, ih]
    cases hw : wf (j + d) with
    | none => cases S (j + d) <;> rfl
    | some x =>
      have := h (j + d) (by omega) (by omega) (by rw [hw]; rfl)
      rw [this]
theorem atW_seg {j n : Nat} (hj : j ≤ n) (h : ∀ k, k < n → (wf k).isSome = true → (S k = true ↔ k < j)) : atW wf S x0 n = atW wf (fun _ => true) x0 j := by
  obtain ⟨d, rfl⟩ := Nat.exists_eq_add_of_le hj
  rw [atW_keep j d (fun k h1 h2 hw => by
    cases hs : S k with
    | false => rfl
    | true =>
      have := (h k h2 hw).1 hs
      omega)]
  exact atW_congr j (fun k hk hw => (h k (by omega) hw).2 hk)
end
/-! ### a run in the text's order -/
/-- What a guard says of an operation. -/
def GuardAt (x : Slot) (want go : Bool) : Prop := (∃ b, BoolAt x b ∧ go = (b == want)) ∨ (x = .many [] ∧ go = false)
structure Rec where
  o : Oper
  go : Bool
  kn : List (Nat × Bool)
  σ : St
  rd : List Nat
  sl : Slot
  us : Ups
def Rec.next (r : Rec) : St := ({ r.σ with heap := updH r.σ.heap r.us } : St).put r.o.dst r.sl
def Rec.tr (r : Rec) (i : Nat) : Tr := ⟨i, r.rd, r.us.map (·.1)⟩
structure RecOk (E : Env) (all : List Oper) (r : Rec) : Prop where
  kn : KnS r.kn r.σ.slots
  guard : match r.o.guard with
    | none => r.go = true
    | some (g, want) => ∃ s, (all[g]?).bind (·.dst) = some s ∧ GuardAt (getS (kbS r.kn r.σ.slots) s) want r.go
  run : r.go = true → evOp E r.o (kbS r.kn r.σ.slots) (restr (getO r.σ.heap) r.rd) r.σ.len (fun sl us => some (sl, us)) = some (r.sl, r.us)
  skip : r.go = false → r.sl = .many [] ∧ r.us = [] ∧ r.rd = []
def Path (E : Env) (all : List Oper) : List Oper → St → List Rec → St → Prop
  | [], σ, rs, σ' => rs = [] ∧ σ' = σ
  | o :: l, σ, rs, σ' => ∃ r rs', rs = r :: rs' ∧ r.o = o ∧ r.σ = σ ∧ RecOk E all r ∧ Path E all l r.next rs' σ'
def trOf : Nat → List Rec → List Tr → List Tr
  | _, [], tr => tr
  | i, r :: rs, tr => trOf (i + 1) rs (r.tr i :: tr)
section
variable {E : Env} {all : List Oper} {α : Type} {out : α} {k : St → List Tr → Option α}
theorem evOps_path (hA : E.A = .real) : ∀ (l : List Oper) (i : Nat) (kn : List (Nat × Bool)) (σ : St) (tr : List Tr), evOps E E.A.branch true all i l kn σ tr k = some out → KnS kn σ.slots →
    ∃ rs σ', Path E all l σ rs σ' ∧ k σ' (trOf i rs tr) = some out
  | [], i, kn, σ, tr, e, hk => ⟨[], σ, ⟨rfl, rfl⟩, e⟩
  | o :: l, i, kn, σ, tr, e, hk => by
    have go : ∀ (kn : List (Nat × Bool)), KnS kn σ.slots → (match o.guard with
        | none => true = true
        | some (g, want) => ∃ s, (all[g]?).bind (·.dst) = some s ∧ GuardAt (getS (kbS kn σ.slots) s) want true) →
        (evOp E o (kbS kn σ.slots) (restr (getO σ.heap) (touch o (kbS kn σ.slots) (getO σ.heap) σ.len)) σ.len fun sl us => forceT sl fun sl => forceSt ({ σ with heap := updH σ.heap us }.put o.dst sl) fun σ' => evOps E E.A.branch true all (i + 1) l (delK o.dst kn) σ' (⟨i, touch o (kbS kn σ.slots) (getO σ.heap) σ.len, us.map (·.1)⟩ :: tr) k) = some out →
        ∃ rs σ', Path E all (o :: l) σ rs σ' ∧ k σ' (trOf i rs tr) = some out := by
      intro kn hk hg e
      have h2 := evOp_two (k := fun sl us => forceT sl fun sl => forceSt ({ σ with heap := updH σ.heap us }.put o.dst sl) fun σ' => evOps E E.A.branch true all (i + 1) l (delK o.dst kn) σ' (⟨i, touch o (kbS kn σ.slots) (getO σ.heap) σ.len, us.map (·.1)⟩ :: tr) k)
        (k' := fun sl us => some (sl, us)) (kbS kn σ.slots) (restr (getO σ.heap) (touch o (kbS kn σ.slots) (getO σ.heap) σ.len)) σ.len hA o
      rcases h2 with ⟨h2, _⟩ | ⟨sl, us, h2, h3⟩
      · rw [h2] at e
        cases e
      · rw [h2] at e
        dsimp only at e
        rw [forceT_eq, forceSt_eq] at e
        obtain ⟨rs, σ', p1, p2⟩ := evOps_path hA l (i + 1) (delK o.dst kn) _ _ e (hk.put _ _ _)
        exact ⟨⟨o, true, kn, σ, touch o (kbS kn σ.slots) (getO σ.heap) σ.len, sl, us⟩ :: rs, σ', ⟨_, rs, rfl, rfl, rfl, ⟨hk, hg, fun _ => h3, fun h => by cases h⟩, p1⟩, p2⟩
    have skip : ∀ (kn : List (Nat × Bool)), KnS kn σ.slots → (match o.guard with
        | none => false = true
        | some (g, want) => ∃ s, (all[g]?).bind (·.dst) = some s ∧ GuardAt (getS (kbS kn σ.slots) s) want false) →
        evOps E E.A.branch true all (i + 1) l (delK o.dst kn) (σ.put o.dst (.many [])) (⟨i, [], []⟩ :: tr) k = some out →
        ∃ rs σ', Path E all (o :: l) σ rs σ' ∧ k σ' (trOf i rs tr) = some out := by
      intro kn hk hg e
      obtain ⟨rs, σ', p1, p2⟩ := evOps_path hA l (i + 1) (delK o.dst kn) _ _ e (hk.put o.dst (.many []) σ.heap)
      exact ⟨⟨o, false, kn, σ, [], .many [], []⟩ :: rs, σ', ⟨_, rs, rfl, rfl, rfl, ⟨hk, hg, fun h => (by cases h), fun _ => ⟨rfl, rfl, rfl⟩⟩, p1⟩, p2⟩
    simp only [evOps, if_true] at e
    split at e
    · rename_i hg
      exact go kn hk (by rw [hg]) e
    · rename_i g want hg
      split at e
      · cases e
      · rename_i s hs
        have gd : ∀ (kn : List (Nat × Bool)) (b q : Bool), BoolAt (getS (kbS kn σ.slots) s) b → q = (b == want) → (match o.guard with
            | none => q = true
            | some (g, want) => ∃ s, (all[g]?).bind (·.dst) = some s ∧ GuardAt (getS (kbS kn σ.slots) s) want q) := by
          intro kn b q h1 h2
          rw [hg]
          exact ⟨s, hs, .inl ⟨b, h1, h2⟩⟩
        have ad : ∀ b, BoolAt (getS (kbS ((s, b) :: kn) σ.slots) s) b := fun b => .inl (by simp only [kbS, getS, Nat.beq_refl])
        split at e
        · rename_i b hb
          split at e
          · rename_i he
            exact go kn hk (gd kn b true (.inl hb) he.symm) e
          · rename_i he
            exact skip kn hk (gd kn b false (.inl hb) (by simpa using he)) e
        · rename_i x hx
          split at e
          · rename_i hwant
            rw [real_branch hA] at e
            split at e
            · rename_i hxt
              subst hxt
              exact go _ (hk.add hx) (gd _ true true (ad true) (by rw [hwant]; rfl)) e
            · rename_i hxf
              have hxf : x = false := by simpa using hxf
              subst hxf
              exact skip _ (hk.add hx) (gd _ false false (ad false) (by rw [hwant]; rfl)) e
          · rename_i hwant
            have hwant : want = false := by simpa using hwant
            rw [real_branch hA] at e
            split at e
            · rename_i hxt
              subst hxt
              exact skip _ (hk.add hx) (gd _ true false (ad true) (by rw [hwant]; rfl)) e
            · rename_i hxf
              have hxf : x = false := by simpa using hxf
              subst hxf
              exact go _ (hk.add hx) (gd _ false true (ad false) (by rw [hwant]; rfl)) e
        · rename_i hm
          exact skip kn hk (by rw [hg]; exact ⟨s, hs, .inr ⟨hm, rfl⟩⟩) e
        · cases e
theorem Path.len : ∀ {l : List Oper} {σ : St} {rs : List Rec} {σ' : St}, Path E all l σ rs σ' → rs.length = l.length
  | [], _, _, _, ⟨h, _⟩ => by rw [h]; rfl
  | _ :: _, _, _, _, ⟨r, rs', h, _, _, _, p⟩ => by rw [h, List.length_cons, List.length_cons, p.len]
theorem Path.rec : ∀ {l : List Oper} {σ : St} {rs : List Rec} {σ' : St}, Path E all l σ rs σ' → ∀ (j : Nat) (r : Rec), rs[j]? = some r → l[j]? = some r.o ∧ RecOk E all r
  | [], _, _, _, ⟨h, _⟩, j, r, hr => by rw [h] at hr; simp at hr
  | o :: l, σ, _, _, ⟨r0, rs', h, h1, h2, h3, p⟩, j, r, hr => by
    subst h
    cases j with
    | zero =>
      cases hr
      exact ⟨by rw [h1]; rfl, h3⟩
    | succ j => exact p.rec j r (by simpa using hr)
/-- The states of a run. -/
def stAt : List Rec → St → Nat → St
  | [], σ, _ => σ
  | _ :: _, σ, 0 => σ
  | r :: rs, _, j + 1 => stAt rs r.next j
theorem Path.at : ∀ {l : List Oper} {σ : St} {rs : List Rec} {σ' : St}, Path E all l σ rs σ' → stAt rs σ 0 = σ ∧ stAt rs σ rs.length = σ' ∧ ∀ (j : Nat) (r : Rec), rs[j]? = some r → r.σ = stAt rs σ j ∧ stAt rs σ (j + 1) = r.next
  | [], σ, _, _, ⟨h, h2⟩ => by
    subst h h2
    exact ⟨rfl, rfl, fun j r hr => by simp at hr⟩
  | o :: l, σ, _, σ', ⟨r0, rs', h, h1, h2, h3, p⟩ => by
    subst h
    obtain ⟨p0, p1, p2⟩ := p.at
    refine ⟨rfl, p1, fun j r hr => ?_⟩
    cases j with
    | zero =>
      cases hr
      exact ⟨h2, p0⟩
    | succ j => exact p2 j r (by simpa using hr)
end
/-! ### which operations must come first -/
theorem bef1_bit {acc : List Nat} : ∀ {l : List Edge} {i : Nat}, Nat.testBit (bef1 acc l) i = true → ∃ e ∈ l, Region.binds .any e = true ∧ (i = e.on ∨ Nat.testBit (getL 0 acc e.on) i = true)
  | [], i, h => by simp [bef1] at h
  | e :: l, i, h => by
    simp only [bef1] at h
    split at h
    · rename_i hb
      rw [testBit_lor, testBit_lor, testBit_pow] at h
      simp only [Bool.or_eq_true, decide_eq_true_eq] at h
      rcases h with (h | h) | h
      · exact ⟨e, List.mem_cons_self .., hb, .inl h.symm⟩
      · exact ⟨e, List.mem_cons_self .., hb, .inr h⟩
      · obtain ⟨e', h1, h2⟩ := bef1_bit h
        exact ⟨e', List.mem_cons_of_mem _ h1, h2⟩
    · obtain ⟨e', h1, h2⟩ := bef1_bit h
      exact ⟨e', List.mem_cons_of_mem _ h1, h2⟩
theorem getL_app {acc l : List Nat} {m : Nat} (h : m < acc.length) : getL 0 (acc ++ l) m = getL 0 acc m := by
  rw [getL_get, getL_get, List.getD_eq_getElem?_getD, List.getD_eq_getElem?_getD, List.getElem?_append_left h]
theorem befs_old : ∀ (l : List Oper) (acc : List Nat) (m : Nat), m < acc.length → getL 0 (befs acc l) m = getL 0 acc m
  | [], _, _, _ => rfl
  | o :: l, acc, m, h => by
    rw [befs, befs_old l _ m (by simp; omega), getL_app h]
theorem befs_bit : ∀ (l : List Oper) (acc : List Nat) (j : Nat) (o : Oper), l[j]? = some o → ∀ i, Nat.testBit (getL 0 (befs acc l) (acc.length + j)) i = true →
    ∃ e ∈ o.after.toList, Region.binds .any e = true ∧ (i = e.on ∨ (e.on < acc.length + j ∧ Nat.testBit (getL 0 (befs acc l) e.on) i = true))
  | [], _, j, o, h, _, _ => by simp at h
  | o' :: l, acc, 0, o, h, i, hb => by
    cases h
    rw [befs, befs_old l _ _ (by simp), Nat.add_zero] at hb
    have : getL 0 (acc ++ [bef1 acc o'.after.toList]) acc.length = bef1 acc o'.after.toList := by
      rw [getL_get, List.getD_eq_getElem?_getD]
      simp
    rw [this] at hb
    obtain ⟨e, h1, h2, h3⟩ := bef1_bit hb
    refine ⟨e, h1, h2, ?_⟩
    rcases h3 with h3 | h3
    · exact .inl h3
    · have hlt : e.on < acc.length := by
        rcases Nat.lt_or_ge e.on acc.length with h4 | h4
        · exact h4
        · rw [getL_ge _ _ _ h4] at h3
          simp at h3
      refine .inr ⟨hlt, ?_⟩
      rw [befs, befs_old l _ _ (by simp; omega), getL_app hlt]
      exact h3
  | o' :: l, acc, j + 1, o, h, i, hb => by
    have hl : (acc ++ [bef1 acc o'.after.toList]).length + j = acc.length + (j + 1) := by simp; omega
    rw [befs, ← hl] at hb
    obtain ⟨e, h1, h2, h3⟩ := befs_bit l _ j o (by simpa using h) i hb
    rw [hl] at h3
    exact ⟨e, h1, h2, by rw [befs]; exact h3⟩
/-! ### calm -/
theorem disj_spec {a b : List Nat} (h : disj a b = true) {x : Nat} (h1 : x ∈ a) (h2 : x ∈ b) : False := by
  unfold disj at h
  rw [List.all_eq_true] at h
  have := h x h1
  rw [(memN_iff b x).2 h2] at this
  cases this
def Apart (bs : List Nat) (t u : Tr) : Prop := Nat.testBit (getL 0 bs t.i) u.i = true ∨ (disj t.wr u.rd = true ∧ disj t.wr u.wr = true ∧ disj u.wr t.rd = true)
theorem calm_all {bs : List Nat} : ∀ (rs : List Rec) (i : Nat) (tr : List Tr), calm bs (trOf i rs tr) = true →
    calm bs tr = true ∧ (∀ (j : Nat) (r : Rec), rs[j]? = some r → ∀ u ∈ tr, Apart bs (r.tr (i + j)) u) ∧ ∀ (j m : Nat) (r q : Rec), rs[j]? = some r → rs[m]? = some q → m < j → Apart bs (r.tr (i + j)) (q.tr (i + m))
  | [], i, tr, h => ⟨h, fun j r hr => by simp at hr, fun j m r q hr => by simp at hr⟩
  | r0 :: rs, i, tr, h => by
    obtain ⟨h1, h2, h3⟩ := calm_all rs (i + 1) (r0.tr i :: tr) h
    simp only [calm, Bool.and_eq_true, List.all_eq_true, Bool.or_eq_true] at h1
    have hi : ∀ j, i + 1 + j = i + (j + 1) := fun j => by omega
    refine ⟨h1.2, fun j r hr u hu => ?_, fun j m r q hr hq hlt => ?_⟩
    · cases j with
      | zero =>
        cases hr
        rcases h1.1 u hu with h4 | h4
        · exact .inl h4
        · exact .inr ⟨h4.1.1, h4.1.2, h4.2⟩
      | succ j =>
        have := h2 j r (by simpa using hr) u (List.mem_cons_of_mem _ hu)
        rw [hi] at this
        exact this
    · cases j with
      | zero => omega
      | succ j =>
        cases m with
        | zero =>
          cases hq
          have := h2 j r (by simpa using hr) _ (List.mem_cons_self ..)
          rw [hi] at this
          exact this
        | succ m =>
          have := h3 j m r q (by simpa using hr) (by simpa using hq) (by omega)
          rw [hi, hi] at this
          exact this
end Go.Sym

/- Regions, IV: any order. -/
namespace Go.Sym
def lastU : Ups → Nat → Option HO
  | [], _ => none
  | (r, o) :: us, q => match lastU us q with | some x => some x | none => if r = q then some o else none
theorem getO_last : ∀ (us : Ups) (H : List HO) (q : Nat), getO (updH H us) q = (lastU us q).getD (getO H q)
  | [], _, _ => rfl
  | (r, o) :: us, H, q => by
    rw [updH, getO_last us, lastU]
    cases lastU us q with
    | some x => rfl
    | none =>
      simp only [Option.getD_none]
      rw [getO_put]
      by_cases h : q = r
      · subst h
        simp
      · rw [if_neg h, if_neg (fun e => h e.symm)]
        rfl
theorem lastU_refs : ∀ (us : Ups) (q : Nat), (lastU us q).isSome = true ↔ refs us q
  | [], q => ⟨fun h => (by cases h), fun ⟨p, hp, _⟩ => (by cases hp)⟩
  | (r, o) :: us, q => by
    have ih := lastU_refs us q
    rw [lastU]
    constructor
    · intro h
      cases hl : lastU us q with
      | some x =>
        obtain ⟨p, hp, e⟩ := ih.1 (by rw [hl]; rfl)
        exact ⟨p, List.mem_cons_of_mem _ hp, e⟩
      | none =>
        rw [hl] at h
        simp only at h
        split at h
        · rename_i e
          exact ⟨(r, o), List.mem_cons_self .., e⟩
        · cases h
    · rintro ⟨p, hp, e⟩
      cases hp with
      | head =>
        cases lastU us q with
        | some x => rfl
        | none =>
          simp only
          rw [if_pos e]
          rfl
      | tail _ hp =>
        obtain ⟨x, hx⟩ := Option.isSome_iff_exists.1 (ih.2 ⟨p, hp, e⟩)
        rw [hx]
        rfl
def wS (rs : List Rec) (n t k : Nat) : Option Slot := match rs[k]? with | some q => if q.o.dst = some t ∧ t < n then some q.sl else none | none => none
def wH (rs : List Rec) (r k : Nat) : Option HO := match rs[k]? with | some q => lastU q.us r | none => none
section
variable {P : Program} {E : Env} {all l : List Oper} {rs : List Rec} {σ σ' : St}
theorem next_n (r : Rec) : r.next.n = r.σ.n := put_n _ _ _
theorem next_heap (r : Rec) : r.next.heap = updH r.σ.heap r.us := put_heap _ _ _
theorem next_slots (r : Rec) (t : Nat) : getS r.next.slots t = if r.o.dst = some t ∧ t < r.σ.n then r.sl else getS r.σ.slots t := by
  unfold Rec.next
  cases hd : r.o.dst with
  | none => simp [St.put]
  | some d =>
    show getS (putS r.σ.n r.σ.slots d r.sl) t = _
    rw [getS_put]
    by_cases h : t = d
    · subst h
      simp
    · have : ¬ some d = some t := fun e => h (Option.some.inj e).symm
      simp [h, this]
theorem path_facts (hp : Path E all l σ rs σ') : ∀ j, j ≤ rs.length → (stAt rs σ j).n = σ.n ∧ (∀ t, getS (stAt rs σ j).slots t = atW (wS rs σ.n t) (fun _ => true) (getS σ.slots t) j) ∧ (∀ r, getO (stAt rs σ j).heap r = atW (wH rs r) (fun _ => true) (getO σ.heap r) j)
  | 0, _ => by
    rw [hp.at.1]
    exact ⟨rfl, fun t => rfl, fun r => rfl⟩
  | j + 1, hj => by
    obtain ⟨h1, h2, h3⟩ := path_facts hp j (by omega)
    have hr : rs[j]? = some rs[j] := List.getElem?_eq_getElem (by omega)
    obtain ⟨k1, k2⟩ := hp.at.2.2 j _ hr
    rw [k2]
    refine ⟨by rw [next_n, k1, h1], fun t => ?_, fun r => ?_⟩
    · rw [next_slots, k1, h1, atW, h2]
      simp only [wS, hr]
      split <;> rfl
    · rw [next_heap, getO_last, k1, atW, h3]
      simp only [wH, hr]
theorem path_len (hp : Path E all l σ rs σ') : ∀ (d j : Nat), j + d ≤ rs.length → (stAt rs σ j).heap.length ≤ (stAt rs σ (j + d)).heap.length
  | 0, _, _ => Nat.le_refl _
  | d + 1, j, hj => by
    have h1 := path_len hp d j (by omega)
    have hr : rs[j + d]? = some rs[j + d] := List.getElem?_eq_getElem (by omega)
    obtain ⟨k1, k2⟩ := hp.at.2.2 _ _ hr
    rw [← Nat.add_assoc, k2, next_heap, k1]
    exact Nat.le_trans h1 (updH_len _ _).1
theorem path_new (hp : Path E all l σ rs σ') {k j : Nat} {q : Rec} (hq : rs[k]? = some q) (hkj : k < j) (hj : j ≤ rs.length) {r : Nat} (hr : refs q.us r) : r < (stAt rs σ j).heap.length := by
  obtain ⟨k1, k2⟩ := hp.at.2.2 k q hq
  have h1 : r < (stAt rs σ (k + 1)).heap.length := by
    rw [k2, next_heap]
    exact (updH_len _ _).2 r hr
  obtain ⟨d, rfl⟩ := Nat.exists_eq_add_of_le (show k + 1 ≤ j by omega)
  exact Nat.lt_of_lt_of_le h1 (path_len hp d (k + 1) hj)
/-- What slots an operation names do not depend on the order. -/
theorem tmpOk_spec {all : List Oper} {bs : List Nat} (h : tmpOk all bs = true) {j : Nat} {o : Oper} (ho : all[j]? = some o) : (∀ e ∈ o.after.toList, Region.binds .any e = true → e.on < j) ∧
    ∀ i p, i < j → all[i]? = some p → Nat.testBit (getL 0 bs j) i = true ∨ clash all p o = false := by
  unfold tmpOk at h
  rw [List.all_eq_true] at h
  have hj : j < all.length := (List.getElem?_eq_some_iff.1 ho).1
  have h1 := h j (List.mem_range.2 hj)
  rw [ho] at h1
  simp only [Bool.and_eq_true, List.all_eq_true, Bool.or_eq_true, Bool.not_eq_true'] at h1
  refine ⟨fun e he hb => ?_, fun i p hi hp => ?_⟩
  · rcases h1.1 e he with h2 | h2
    · rw [hb] at h2
      cases h2
    · exact Nat.le_of_ble_eq_true h2
  · rcases h1.2 i (List.mem_range.2 hi) with h2 | h2
    · exact .inl h2
    · rw [hp] at h2
      simp only [Bool.not_eq_true'] at h2
      exact .inr h2
theorem clash_spec {all : List Oper} {x y : Oper} (h : clash all x y = false) : (∀ d, x.dst = some d → d ∉ looks all y) ∧ (∀ d, x.dst = some d → y.dst ≠ some d) ∧ (∀ d, y.dst = some d → d ∉ looks all x) := by
  unfold clash at h
  simp only [Bool.or_eq_false_iff] at h
  refine ⟨fun d hd => ?_, fun d hd hy => ?_, fun d hd => ?_⟩
  · rw [hd] at h
    simp only [Bool.or_eq_false_iff] at h
    exact memN_false.1 h.1.1
  · rw [hd, hy] at h
    simp only [Bool.or_eq_false_iff] at h
    have := h.1.2
    rw [Nat.beq_refl] at this
    cases this
  · rw [hd] at h
    exact memN_false.1 h.2
end
end Go.Sym

/- Regions, V: any order, the proof. -/
namespace Go.Sym
theorem count_set : ∀ (l : List Bool) (j : Nat), l[j]? = some false → (l.set j true).count false + 1 = l.count false
  | [], j, h => by simp at h
  | x :: l, 0, h => by
    cases h
    simp
  | x :: l, j + 1, h => by
    have := count_set l j (by simpa using h)
    simp only [List.set_cons_succ, List.count_cons]
    omega
theorem count_zero {l : List Bool} (h : l.count false = 0) {j : Nat} (hj : j < l.length) : l[j]? = some true := by
  have h1 := List.count_eq_zero.1 h
  rw [List.getElem?_eq_getElem hj]
  cases hx : l[j] with
  | true => rfl
  | false => exact absurd (hx ▸ List.getElem_mem hj) h1
section
variable {P : Program} {C : Ctx} {E : Env} {ops : Array Oper} {rs : List Rec} {σ0 σn : St} {ρ0 : Nat → RV} {a0 : Act} {w0 : World} {Q : Exit → Act → World → Prop}
/-- What holds when the operations of a set have been carried out. -/
structure Inv (C : Ctx) (bs : List Nat) (rs : List Rec) (σ0 : St) (ρ0 : Nat → RV) (a0 : Act) (w0 : World) (wr : Nat) (S : Nat → Bool) (ρ : Nat → RV) (σ : St) (a : Act) (w : World) : Prop where
  rel : Rel C (fun r => r < σ0.heap.length ∨ ∃ k q, rs[k]? = some q ∧ S k = true ∧ refs q.us r) ρ σ a w
  n : σ.n = σ0.n
  slots : ∀ t, getS σ.slots t = atW (wS rs σ0.n t) S (getS σ0.slots t) rs.length
  heap : ∀ r, getO σ.heap r = atW (wH rs r) S (getO σ0.heap r) rs.length
  closed : ∀ k, S k = true → ∀ i, Nat.testBit (getL 0 bs k) i = true → S i = true
  keep : Keep wr a0 a
  hp : Hp C.X ρ0 ρ σ0.heap σ.heap w0 w
theorem looks_tmp {all : List Oper} {o : Oper} {t : Nat} (h : Operand.tmp t ∈ o.op.operands) : t ∈ looks all o := by
  unfold looks
  exact List.mem_append_left _ (List.mem_filterMap.2 ⟨.tmp t, by simpa using h, rfl⟩)
theorem looks_guard {all : List Oper} {o : Oper} {g s : Nat} {want : Bool} (hg : o.guard = some (g, want)) (hs : (all[g]?).bind (·.dst) = some s) : s ∈ looks all o := by
  unfold looks
  refine List.mem_append_right _ ?_
  rw [hg]
  simp only [hs]
  exact List.mem_cons_self ..
/-- One operation more. -/
theorem Inv.step (hA : E.A = .real) (hE : ∀ g, FnOk P C.T E.cfg g (E.cal g)) (hc : CfgOk P E.cfg) (hl : LO Q) {bs : List Nat} (hbs : bs = befs [] ops.toList) (htmp : tmpOk ops.toList bs = true) (hp : Path E ops.toList ops.toList σ0 rs σn)
    (hcalm : ∀ (j m : Nat) (r q : Rec), rs[j]? = some r → rs[m]? = some q → m < j → Apart bs (r.tr j) (q.tr m)) {wr : Nat} (hwr : ∀ o ∈ ops.toList, ∀ j, Nat.testBit wr j = false → Nat.testBit (dstBit o) j = false)
    {S : Nat → Bool} {ρ : Nat → RV} {σ : St} {a : Act} {w : World} (hI : Inv C bs rs σ0 ρ0 a0 w0 wr S ρ σ a w) {j : Nat} {r : Rec} (hr : rs[j]? = some r) (hjS : S j = false) (hready : ∀ e ∈ r.o.after.toList, Region.binds .any e = true → S e.on = true)
    {K : Act → World → Prop} (hK : ∀ ρ' σ' a' w', Inv C bs rs σ0 ρ0 a0 w0 wr (fun k => S k || Nat.beq k j) ρ' σ' a' w' → K a' w') : wpOp P ops Q j K a w := by
  have hlen := hp.len
  have hjl : j < rs.length := (List.getElem?_eq_some_iff.1 hr).1
  obtain ⟨hoj, hok⟩ := hp.rec j r hr
  obtain ⟨hrσ, hrn⟩ := hp.at.2.2 j r hr
  have hoi : ops[j]? = some r.o := by rw [← Array.getElem?_toList]; exact hoj
  obtain ⟨f1, f2, f3⟩ := path_facts hp j (by omega)
  obtain ⟨g1, g2, g3⟩ := path_facts hp (j + 1) (by omega)
  rw [← hrσ] at f1 f2 f3
  -- the order's bits
  have bit : ∀ i, Nat.testBit (getL 0 bs j) i = true → S i = true := fun i hb => by
    rw [hbs] at hb
    obtain ⟨e, h1, h2, h3⟩ := befs_bit ops.toList [] j r.o hoj i (by simpa using hb)
    have hS := hready e h1 h2
    rcases h3 with h3 | ⟨_, h3⟩
    · rw [h3]
      exact hS
    · exact hI.closed _ hS i (by rw [hbs]; exact h3)
  -- two operations that are not ordered
  have pair : ∀ k q, rs[k]? = some q → k ≠ j → (k < j ∧ S k = true) ∨ (j < k ∧ S k = false) ∨ (clash ops.toList q.o r.o = false ∧ clash ops.toList r.o q.o = false ∧
      (∀ x, refs q.us x → refs r.us x → False) ∧ (∀ x, refs q.us x → x ∈ r.rd → False) ∧ (∀ x, refs r.us x → x ∈ q.rd → False)) := by
    intro k q hq hkj
    obtain ⟨hok', _⟩ := hp.rec k q hq
    have mem : ∀ (us : Ups) x, refs us x → x ∈ us.map (·.1) := fun us x ⟨p, hp, e⟩ => List.mem_map.2 ⟨p, hp, e⟩
    have sym : ∀ x y : Oper, clash ops.toList x y = false → clash ops.toList y x = false := fun x y h => by
      obtain ⟨h1, h2, h3⟩ := clash_spec h
      unfold clash
      simp only [Bool.or_eq_false_iff]
      constructor
      · cases hy : y.dst with
        | none => rfl
        | some d =>
          simp only [Bool.or_eq_false_iff]
          refine ⟨memN_false.2 (h3 d hy), ?_⟩
          cases hx : x.dst with
          | none => rfl
          | some e =>
            simp only
            cases hb : Nat.beq d e with
            | false => rfl
            | true => exact absurd (by rw [hy, Nat.eq_of_beq_eq_true hb]) (h2 e hx)
      · cases hx : x.dst with
        | none => rfl
        | some d => exact memN_false.2 (h1 d hx)
    rcases Nat.lt_or_ge k j with hlt | hge
    · rcases (tmpOk_spec htmp hoj).2 k q.o hlt hok' with h1 | h1
      · exact .inl ⟨hlt, bit k h1⟩
      · rcases hcalm j k r q hr hq hlt with h2 | ⟨h2, h3, h4⟩
        · exact .inl ⟨hlt, bit k h2⟩
        · exact .inr (.inr ⟨h1, sym _ _ h1, fun x hx hy => disj_spec h3 (mem _ _ hy) (mem _ _ hx), fun x hx hy => disj_spec h4 (mem _ _ hx) hy, fun x hx hy => disj_spec h2 (mem _ _ hx) hy⟩)
    · have hlt : j < k := by omega
      have nS : Nat.testBit (getL 0 bs k) j = true → S k = false := fun hb => by
        cases hs : S k with
        | false => rfl
        | true =>
          have := hI.closed k hs j hb
          rw [hjS] at this
          cases this
      rcases (tmpOk_spec htmp hok').2 j r.o hlt hoj with h1 | h1
      · exact .inr (.inl ⟨hlt, nS h1⟩)
      · rcases hcalm k j q r hq hr hlt with h2 | ⟨h2, h3, h4⟩
        · exact .inr (.inl ⟨hlt, nS h2⟩)
        · exact .inr (.inr ⟨sym _ _ h1, h1, fun x hx hy => disj_spec h3 (mem _ _ hx) (mem _ _ hy), fun x hx hy => disj_spec h2 (mem _ _ hx) hy, fun x hx hy => disj_spec h4 (mem _ _ hx) hy⟩)
  -- what the text's order says where this operation looks
  have seg : ∀ {β : Type} (wf : Nat → Option β) (x0 : β), (∀ k q, rs[k]? = some q → k ≠ j → (wf k).isSome = true → (k < j ∧ S k = true) ∨ (j < k ∧ S k = false)) → (∀ k, rs.length ≤ k → wf k = none) →
      atW wf S x0 rs.length = atW wf (fun _ => true) x0 j ∧ atW wf (fun k => S k || Nat.beq k j) x0 rs.length = atW wf (fun _ => true) x0 (j + 1) := by
    intro β wf x0 h1 h2
    refine ⟨atW_seg (by omega) (fun k hk hw => ?_), atW_seg (by omega) (fun k hk hw => ?_)⟩
    · by_cases hkj : k = j
      · subst hkj
        rw [hjS]
        simp
      · rcases h1 k rs[k] (List.getElem?_eq_getElem hk) hkj hw with ⟨q1, q2⟩ | ⟨q1, q2⟩
        · simp [q1, q2]
        · rw [q2]
          simp
          omega
    · by_cases hkj : k = j
      · subst hkj
        simp
      · have hb : Nat.beq k j = false := by
          cases h : Nat.beq k j with
          | false => rfl
          | true => exact absurd (Nat.eq_of_beq_eq_true h) hkj
        rw [hb, Bool.or_false]
        rcases h1 k rs[k] (List.getElem?_eq_getElem hk) hkj hw with ⟨q1, q2⟩ | ⟨q1, q2⟩
        · simp [q2]
          omega
        · rw [q2]
          simp
          omega
  have wSn : ∀ t k, rs.length ≤ k → wS rs σ0.n t k = none := fun t k hk => by simp [wS, List.getElem?_eq_none hk]
  have wHn : ∀ x k, rs.length ≤ k → wH rs x k = none := fun x k hk => by simp [wH, List.getElem?_eq_none hk]
  have segS : ∀ t, (t ∈ looks ops.toList r.o ∨ (r.o.dst = some t)) → atW (wS rs σ0.n t) S (getS σ0.slots t) rs.length = atW (wS rs σ0.n t) (fun _ => true) (getS σ0.slots t) j ∧ atW (wS rs σ0.n t) (fun k => S k || Nat.beq k j) (getS σ0.slots t) rs.length = atW (wS rs σ0.n t) (fun _ => true) (getS σ0.slots t) (j + 1) := by
    intro t ht
    refine seg _ _ (fun k q hq hkj hw => ?_) (wSn t)
    rcases pair k q hq hkj with h1 | h1 | ⟨h1, h2, _⟩
    · exact .inl h1
    · exact .inr h1
    · exfalso
      simp only [wS, hq] at hw
      split at hw
      · rename_i hd
        rcases ht with ht | ht
        · exact (clash_spec h1).1 t hd.1 ht
        · exact (clash_spec h1).2.1 t hd.1 ht
      · cases hw
  have segH : ∀ x, (x ∈ r.rd ∨ refs r.us x) → atW (wH rs x) S (getO σ0.heap x) rs.length = atW (wH rs x) (fun _ => true) (getO σ0.heap x) j ∧ atW (wH rs x) (fun k => S k || Nat.beq k j) (getO σ0.heap x) rs.length = atW (wH rs x) (fun _ => true) (getO σ0.heap x) (j + 1) := by
    intro x hx
    refine seg _ _ (fun k q hq hkj hw => ?_) (wHn x)
    rcases pair k q hq hkj with h1 | h1 | ⟨_, _, h1, h2, h3⟩
    · exact .inl h1
    · exact .inr h1
    · exfalso
      simp only [wH, hq] at hw
      have hw := (lastU_refs _ _).1 hw
      rcases hx with hx | hx
      · exact h2 x hw hx
      · exact h1 x hw hx
  have slotOk : ∀ t, t ∈ looks ops.toList r.o → SlR w (okOf C.X ρ (getO σ.heap)) ρ (getO σ.heap) (getS (kbS r.kn r.σ.slots) t) (a.tmps.getD t undef) := by
    intro t ht
    refine kn_SlR hok.kn ?_
    have := hI.rel.slots t
    rw [hI.slots, (segS t (.inl ht)).1, ← f2] at this
    exact this
  have hslotn : ∀ t, t ∈ looks ops.toList r.o → SlotIn (fun r => r < σ0.heap.length ∨ ∃ k q, rs[k]? = some q ∧ S k = true ∧ refs q.us r) (getS (kbS r.kn r.σ.slots) t) := by
    intro t ht
    refine kn_in ?_
    have := hI.rel.inS t
    rw [hI.slots, (segS t (.inl ht)).1, ← f2] at this
    exact this
  -- what holds behind it
  have after : ∀ (ρ' : Nat → RV) (σ' : St) (a' : Act) (w' : World) (v : Value), Rel C (fun x => (x < σ0.heap.length ∨ ∃ k q, rs[k]? = some q ∧ S k = true ∧ refs q.us x) ∨ refs r.us x) ρ' σ' a' w' → σ' = ({ σ with heap := updH σ.heap r.us } : St).put r.o.dst r.sl → a' = a.put r.o.dst v →
      Hp C.X ρ ρ' σ.heap (updH σ.heap r.us) w w' → K a' w' := by
    intro ρ' σ' a' w' v hrel hσ' ha' hhp
    have hsn : σ'.n = σ0.n := by rw [hσ', put_n]; exact hI.n
    have hheap : σ'.heap = updH σ.heap r.us := by rw [hσ', put_heap]
    refine hK ρ' σ' a' w' ⟨?_, hsn, fun t => ?_, fun x => ?_, fun k hk i hb => ?_, ?_, ?_⟩
    · have incl : ∀ x, ((x < σ0.heap.length ∨ ∃ k q, rs[k]? = some q ∧ S k = true ∧ refs q.us x) ∨ refs r.us x) → (x < σ0.heap.length ∨ ∃ k q, rs[k]? = some q ∧ (S k || Nat.beq k j) = true ∧ refs q.us x) := by
        rintro x ((h | ⟨k, q, h1, h2, h3⟩) | h)
        · exact .inl h
        · exact .inr ⟨k, q, h1, by simp [h2], h3⟩
        · exact .inr ⟨j, r, hr, by simp, h⟩
      exact hrel.widen incl (fun x hx => hrel.out x (fun h => hx (incl x h)))
    · have hnx : getS σ'.slots t = if r.o.dst = some t ∧ t < σ0.n then r.sl else getS σ.slots t := by
        rw [hσ']
        cases hd : r.o.dst with
        | none => simp [St.put]
        | some d =>
          show getS (putS σ.n σ.slots d r.sl) t = _
          rw [getS_put, hI.n]
          by_cases h : t = d
          · subst h
            simp
          · have : ¬ some d = some t := fun e => h (Option.some.inj e).symm
            simp [h, this]
      rw [hnx]
      by_cases hd : r.o.dst = some t ∧ t < σ0.n
      · rw [if_pos hd, (segS t (.inr hd.1)).2, atW]
        simp only [wS, hr, hd, and_self, if_true, Option.getD_some]
      · rw [if_neg hd, hI.slots]
        refine atW_congr _ (fun k hk hw => ?_)
        have hkj : k ≠ j := fun e => by
          subst e
          simp only [wS, hr, hd, if_false] at hw
          cases hw
        have hb : Nat.beq k j = false := by
          cases h : Nat.beq k j with
          | false => rfl
          | true => exact absurd (Nat.eq_of_beq_eq_true h) hkj
        rw [hb, Bool.or_false]
    · rw [hheap, getO_last]
      cases hlu : lastU r.us x with
      | some o =>
        have hx := (lastU_refs r.us x).1 (by rw [hlu]; rfl)
        rw [(segH x (.inr hx)).2, atW]
        simp only [wH, hr, hlu, Option.getD_some]
      | none =>
        rw [Option.getD_none, hI.heap]
        refine atW_congr _ (fun k hk hw => ?_)
        have hkj : k ≠ j := fun e => by
          subst e
          simp only [wH, hr, hlu] at hw
          cases hw
        have hb : Nat.beq k j = false := by
          cases h : Nat.beq k j with
          | false => rfl
          | true => exact absurd (Nat.eq_of_beq_eq_true h) hkj
        rw [hb, Bool.or_false]
    · simp only [Bool.or_eq_true] at hk ⊢
      rcases hk with hk | hk
      · exact .inl (hI.closed k hk i hb)
      · rw [Nat.eq_of_beq_eq_true hk] at hb
        exact .inl (bit i hb)
    · rw [ha']
      exact hI.keep.trans (Keep.put a r.o v (hwr r.o (List.mem_of_getElem? hoj)))
    · rw [hheap]
      exact hI.hp.trans hhp
  -- carried out, or not
  unfold wpOp
  simp only [hoi]
  have hwt : Region.wanted r.o (yielded ops a.tmps) = r.go := by
    have hg := hok.guard
    cases hgd : r.o.guard with
    | none =>
      rw [hgd] at hg
      simp only at hg
      simp [Region.wanted, hgd, hg]
    | some gw =>
      obtain ⟨g, want⟩ := gw
      rw [hgd] at hg
      obtain ⟨s, h1, ⟨b, h2, h3⟩ | ⟨h2, h3⟩⟩ := hg
      · have hy := guard_yields (ops := ops) h1 h2 (slotOk s (looks_guard hgd h1))
        simp only [Region.wanted, hgd, hy, h3]
        cases b <;> cases want <;> rfl
      · have hso := slotOk s (looks_guard hgd h1)
        rw [h2] at hso
        have hy := guard_undef (ops := ops) h1 hso
        simp only [Region.wanted, hgd, hy, h3]
        rfl
  rw [hwt]
  cases hgo : r.go with
  | true =>
    simp only [if_true]
    left
    have hrun := hok.run hgo
    obtain ⟨sl, us, e1, e2, e3⟩ := evOp_sound hA hE hc hI.rel (Hr := restr (getO r.σ.heap) r.rd) (fun x hx => by
      unfold restr at hx ⊢
      split at hx
      · rename_i hm
        rw [if_pos hm, hI.heap, (segH x (.inl ((memN_iff _ _).1 hm))).1, ← f3]
      · exact absurd rfl hx) r.o (S := kbS r.kn r.σ.slots) (fun x hx => operand_SlR x (fun t ht => by
        subst ht
        exact ⟨slotOk t (looks_tmp hx), hslotn t (looks_tmp hx)⟩)) hrun
    obtain ⟨rfl, rfl⟩ := Prod.mk.inj (Option.some.inj e1)
    refine e3 (fun p hp' hn hAp => ?_) K Q hl (fun v w' ρ' k1 k2 k3 => after ρ' _ _ w' v (Rel.done k1 k2 k3 r.o.dst) rfl rfl k1.hp)
    -- its new objects are new
    have hn : r.σ.heap.length ≤ p.1 := hn
    have hpr : refs r.us p.1 := ⟨p, hp', rfl⟩
    rcases hAp with h1 | ⟨k, q, h1, h2, h3⟩
    · have := path_len hp j 0 (by omega)
      rw [hp.at.1, Nat.zero_add, ← hrσ] at this
      omega
    · have hkj : k ≠ j := fun e => by
        subst e
        rw [hjS] at h2
        cases h2
      rcases Nat.lt_or_ge k j with hlt | hge
      · have := path_new hp h1 hlt (by omega) h3
        rw [← hrσ] at this
        omega
      · rcases pair k q h1 hkj with h4 | ⟨_, h4⟩ | ⟨_, _, h4, _⟩
        · omega
        · rw [h2] at h4
          cases h4
        · exact h4 _ h3 hpr
  | false =>
    simp only [Bool.false_eq_true, if_false]
    obtain ⟨s1, s2, s3⟩ := hok.skip hgo
    have hrel := hI.rel.put r.o.dst (.many []) undef many_SlR (fun x hx => by cases hx)
    refine after ρ _ _ w undef (hrel.widen (fun x hx => .inl hx) (fun x hx => hrel.out x (fun h => hx (.inl h)))) ?_ rfl ?_
    · rw [s1, s2]
      rfl
    · rw [s2]
      exact Hp.refl _ _ _ _
end
end Go.Sym

/- Regions, VI. -/
namespace Go.Sym
section
variable {P : Program} {C : Ctx} {E : Env} {ops : Array Oper} {rs : List Rec} {σ0 σn : St} {ρ0 : Nat → RV} {a0 : Act} {w0 : World} {Q : Exit → Act → World → Prop}
theorem any_sound (hA : E.A = .real) (hE : ∀ g, FnOk P C.T E.cfg g (E.cal g)) (hc : CfgOk P E.cfg) (hl : LO Q) {bs : List Nat} (hbs : bs = befs [] ops.toList) (htmp : tmpOk ops.toList bs = true) (hp : Path E ops.toList ops.toList σ0 rs σn)
    (hcalm : ∀ (j m : Nat) (r q : Rec), rs[j]? = some r → rs[m]? = some q → m < j → Apart bs (r.tr j) (q.tr m)) {wr : Nat} (hwr : ∀ o ∈ ops.toList, ∀ j, Nat.testBit wr j = false → Nat.testBit (dstBit o) j = false)
    (hQ : ∀ S ρ σ a w, Inv C bs rs σ0 ρ0 a0 w0 wr S ρ σ a w → (∀ k, k < rs.length → S k = true) → Q .normal a w) :
    ∀ (fuel : Nat) (listed : Array Bool) (ρ : Nat → RV) (σ : St) (a : Act) (w : World), listed.size = rs.length → listed.toList.count false ≤ fuel → Inv C bs rs σ0 ρ0 a0 w0 wr (fun k => listed.getD k false) ρ σ a w → wpAny P .any ops Q fuel listed a w := by
  have hlen := hp.len
  have done : ∀ (listed : Array Bool) (ρ : Nat → RV) (σ : St) (a : Act) (w : World), listed.size = rs.length → Region.ready .any ops listed = [] → Inv C bs rs σ0 ρ0 a0 w0 wr (fun k => listed.getD k false) ρ σ a w → Q .normal a w := by
    intro listed ρ σ a w hs hr hI
    have key : ∀ m k, k < m → k < rs.length → listed.getD k false = true := by
      intro m
      induction m with
      | zero => intro k hk; omega
      | succ m ih =>
        intro k hk hkl
        by_cases hkm : k < m
        · exact ih k hkm hkl
        · have hkm : k = m := by omega
          subst hkm
          cases hv : listed.getD k false with
          | true => rfl
          | false =>
            exfalso
            have hk' : k < ops.toList.length := by omega
            have hoi : ops[k]? = some ops.toList[k] := by rw [← Array.getElem?_toList]; exact List.getElem?_eq_getElem hk'
            have hmem : k ∈ Region.ready .any ops listed := by
              rw [mem_ready]
              refine ⟨?_, _, hoi, fun e he hb => ?_⟩
              · have hks : k < listed.size := by omega
                rw [Array.getD_eq_getD_getElem?, Array.getElem?_eq_getElem hks] at hv ⊢
                exact hv
              · have := (tmpOk_spec htmp (List.getElem?_eq_getElem hk')).1 e (by simpa using he) hb
                exact ih e.on this (by omega)
            rw [hr] at hmem
            cases hmem
    exact hQ _ ρ σ a w hI (fun k hk => key (k + 1) k (Nat.lt_succ_self k) hk)
  intro fuel
  induction fuel with
  | zero =>
    intro listed ρ σ a w hs hcnt hI
    have hall : Region.ready .any ops listed = [] := by
      apply List.eq_nil_iff_forall_not_mem.2
      intro j hj
      obtain ⟨h1, o, h2, _⟩ := mem_ready.1 hj
      have hjl : j < listed.size := by
        rcases Nat.lt_or_ge j listed.size with h | h
        · exact h
        · rw [Array.getD_eq_getD_getElem?, Array.getElem?_eq_none h] at h1
          cases h1
      have := count_zero (l := listed.toList) (by omega) (j := j) (by simpa using hjl)
      rw [Array.getD_eq_getD_getElem?, ← Array.getElem?_toList, this] at h1
      cases h1
    exact ⟨hall, done listed ρ σ a w hs hall hI⟩
  | succ fuel ih =>
    intro listed ρ σ a w hs hcnt hI
    refine ⟨fun hr => done listed ρ σ a w hs hr hI, fun j hj => ?_⟩
    obtain ⟨h1, o, h2, h3⟩ := mem_ready.1 hj
    have hjl : j < listed.size := by
      rcases Nat.lt_or_ge j listed.size with h | h
      · exact h
      · rw [Array.getD_eq_getD_getElem?, Array.getElem?_eq_none h] at h1
        cases h1
    have hjf : listed.toList[j]? = some false := by
      rw [Array.getD_eq_getD_getElem?, Array.getElem?_eq_getElem hjl] at h1
      rw [Array.getElem?_toList, Array.getElem?_eq_getElem hjl]
      exact congrArg some h1
    have hr : rs[j]? = some (rs[j]'(by omega)) := List.getElem?_eq_getElem (by omega)
    obtain ⟨ho, _⟩ := hp.rec j _ hr
    rw [Array.getElem?_toList, h2] at ho
    have ho := Option.some.inj ho
    refine hI.step hA hE hc hl hbs htmp hp hcalm hwr hr ?_ (fun e he hb => ?_) (fun ρ' σ' a' w' hI' => ?_)
    · show listed.getD j false = false
      rw [Array.getD_eq_getD_getElem?, ← Array.getElem?_toList, hjf]
      rfl
    · rw [← ho] at he
      exact h3 e (by simpa using he) hb
    · refine ih (listed.setIfInBounds j true) ρ' σ' a' w' (by rw [Array.size_setIfInBounds]; exact hs) ?_ ?_
      · rw [Array.toList_setIfInBounds]
        have := count_set listed.toList j hjf
        omega
      · have hfun : (fun k => listed.getD k false || Nat.beq k j) = fun k => (listed.setIfInBounds j true).getD k false := by
          funext k
          by_cases hkj : k = j
          · subst hkj
            rw [Nat.beq_refl, Bool.or_true, Array.getD_eq_getD_getElem?, Array.getElem?_setIfInBounds_self_of_lt hjl]
            rfl
          · have hb : Nat.beq k j = false := by
              cases h : Nat.beq k j with
              | false => rfl
              | true => exact absurd (Nat.eq_of_beq_eq_true h) hkj
            rw [hb, Bool.or_false, Array.getD_eq_getD_getElem?, Array.getD_eq_getD_getElem?, Array.getElem?_setIfInBounds_ne (fun e => hkj e.symm)]
        rw [← hfun]
        exact hI'
theorem foldr_bits (f : Oper → Nat) : ∀ (l : List Oper) (j : Nat), Nat.testBit (l.foldr (fun o m => Nat.lor (f o) m) 0) j = false → ∀ o ∈ l, Nat.testBit (f o) j = false
  | [], _, _, o, ho => by cases ho
  | x :: l, j, h, o, ho => by
    rw [List.foldr_cons, testBit_lor, Bool.or_eq_false_iff] at h
    cases ho with
    | head => exact h.1
    | tail _ ho => exact foldr_bits f l j h.2 o ho
variable {α : Type} {out : α}
/-- A region. -/
theorem evReg_sound (hA : E.A = .real) (hE : ∀ g, FnOk P C.T E.cfg g (E.cal g)) (hc : CfgOk P E.cfg) (hm : P.follows .mixedOrders = true) {id : Nat} {draw : Bool} {σ : St} {k : St → Option α} {ρ : Nat → RV} {a : Act} {w : World} (hl : LO Q)
    (e : evReg E E.A.branch ops draw σ k = some out) (h : Rl C ρ σ a w)
    (hQ : ∀ σ' ρ' a' w', k σ' = some out → Rl C ρ' σ' a' w' → σ'.n = σ.n → Keep (ops.toList.foldr (fun o m => Nat.lor (dstBit o) m) 0) a a' → Hp C.X ρ ρ' σ.heap σ'.heap w w' → Q .normal a' w') : (Code.region id ops draw).wp P Q a w := by
  have hwr : ∀ o ∈ ops.toList, ∀ j, Nat.testBit (ops.toList.foldr (fun o m => Nat.lor (dstBit o) m) 0) j = false → Nat.testBit (dstBit o) j = false := fun o ho j hj => foldr_bits dstBit _ j hj o ho
  unfold evReg at e
  cases draw with
  | false =>
    refine wp_region ?_
    have := evOps_seq hA hE hc ops (k := fun σ' _ => k σ') hl _ ops.toList 0 [] σ ρ a w e rfl hwr (fun s b h => by cases h) h hQ
    rw [List.range_eq_range']
    simpa using this
  | true =>
    refine wp_region_any hm ?_
    dsimp only at e
    rw [forceNs_eq] at e
    split at e
    · rename_i htmp
      obtain ⟨rs, σn, p1, p2⟩ := evOps_path hA _ _ _ _ _ e (fun s b h => by cases h)
      split at p2
      · rename_i hcm
        obtain ⟨_, _, c3⟩ := calm_all rs 0 [] hcm
        have h0 : Rl C ρ σ a { w with drawn := w.drawn + 1 } := h.world rfl rfl rfl rfl
        have hlen := p1.len
        refine any_sound (C := C) hA hE hc hl rfl htmp p1 (fun j m r q hr hq hlt => by simpa using c3 j m r q hr hq hlt) hwr (ρ0 := ρ) (a0 := a) (w0 := { w with drawn := w.drawn + 1 }) ?_ ops.size _ ρ σ a _ ?_ ?_ ?_
        · intro S ρ' σ' a' w' hI hS
          obtain ⟨f1, f2, f3⟩ := path_facts p1 rs.length (Nat.le_refl _)
          obtain ⟨t0, tn, _⟩ := p1.at
          rw [tn] at f1 f2 f3
          have hs : ∀ i, getS σn.slots i = getS σ'.slots i := fun i => by
            rw [f2, hI.slots]
            exact atW_congr _ (fun k hk _ => (hS k hk).symm)
          have hh : ∀ r, getO σn.heap r = getO σ'.heap r := fun r => by
            rw [f3, hI.heap]
            exact atW_congr _ (fun k hk _ => (hS k hk).symm)
          have hrel : Rel C (fun r => r < σ.heap.length ∨ ∃ k q, rs[k]? = some q ∧ S k = true ∧ refs q.us r) ρ' σn a' w' := hI.rel.congr (by rw [f1, hI.n]) hs hh
          have hlen0 : σ.heap.length ≤ σn.heap.length := by
            have := path_len p1 rs.length 0 (by omega)
            rw [t0, Nat.zero_add, tn] at this
            exact this
          refine hQ σn ρ' a' w' p2 ?_ (by rw [f1]) hI.keep ⟨hI.hp.sz, fun b hb hlt => ?_⟩
          · refine hrel.widen (fun r hr => ?_) (fun r hr => getL_ge _ _ _ (Nat.le_of_not_lt hr))
            rcases hr with hr | ⟨k, q, h1, _, h3⟩
            · exact Nat.lt_of_lt_of_le hr hlen0
            · have hkl : k < rs.length := (List.getElem?_eq_some_iff.1 h1).1
              have := path_new p1 h1 hkl (Nat.le_refl _) h3
              rw [tn] at this
              exact this
          · obtain ⟨q1, q2⟩ := hI.hp.hp b hb hlt
            refine ⟨q1, ?_⟩
            have : getO σn.heap = getO σ'.heap := funext hh
            rw [this]
            exact q2
        · rw [Array.size_replicate]
          simpa using hlen.symm
        · have := List.count_le_length (a := false) (l := (Array.replicate ops.size false).toList)
          simp
        · have hS0 : (fun k => (Array.replicate ops.size false).getD k false) = fun _ => false := by
            funext k
            rw [Array.getD_eq_getD_getElem?, Array.getElem?_replicate]
            split <;> rfl
          rw [hS0]
          have at0 : ∀ {β : Type} (wf : Nat → Option β) (x0 : β) (n : Nat), atW wf (fun _ => false) x0 n = x0 := by
            intro β wf x0 n
            induction n with
            | zero => rfl
            | succ n ih => rw [atW, ih]
          exact ⟨h0.widen (fun r hr => .inl hr) (fun r hr => h0.out r (fun h => hr (.inl h))), rfl, fun t => (at0 _ _ _).symm, fun r => (at0 _ _ _).symm, fun k hk => (by cases hk), Keep.refl _ _, Hp.refl _ _ _ _⟩
      · cases p2
    · cases e
end
end Go.Sym
