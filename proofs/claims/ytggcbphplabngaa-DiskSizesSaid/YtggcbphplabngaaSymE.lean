/- The symbolic evaluator: code, functions, systems. -/
import Derived.Test.YtggcbphplabngaaSymD
import Derived.LoopN
import Derived.ChangeShapes
import Derived.WideShapes
import Derived.DataReads
import Derived.OpenShut
import Derived.RowKit
import Derived.Carry
import Derived.Below
import Derived.Sort.OwnSortedInts
import Derived.Lib.SlicesCompact
import Derived.Lib.RowBridge
set_option linter.unusedVariables false
/- Code. -/
namespace Go.Sym
/-! ### heads -/
theorem keepS_get (wr : Nat) : ∀ (S : List (Nat × Slot)) (bad : List Nat) (i : Nat), getS (keepS wr bad S) i = .one .unk ∨ (i ∉ bad ∧ getS (keepS wr bad S) i = getS S i ∧ isRefS (getS S i) = false ∧ Nat.testBit wr i = false)
  | [], bad, i => .inl rfl
  | (j, x) :: S, bad, i => by
    simp only [keepS]
    split
    · rcases keepS_get wr S (j :: bad) i with h | ⟨h1, h2, h3, h4⟩
      · exact .inl h
      · have hne : ¬ j = i := fun e => h1 (e ▸ List.mem_cons_self ..)
        have hb : Nat.beq j i = false := by
          cases h : Nat.beq j i with
          | false => rfl
          | true => exact absurd (Nat.eq_of_beq_eq_true h) hne
        refine .inr ⟨fun h => h1 (List.mem_cons_of_mem _ h), ?_, ?_, h4⟩
        · rw [h2, getS, hb]
        · rw [getS, hb]
          exact h3
    · rename_i hbad
      simp only [Bool.or_eq_true, not_or, Bool.not_eq_true] at hbad
      split
      · rename_i hm
        rcases keepS_get wr S bad i with h | ⟨h1, h2, h3, h4⟩
        · exact .inl h
        · have hne : ¬ j = i := fun e => h1 (e ▸ (memN_iff _ _).1 hm)
          have hb : Nat.beq j i = false := by
            cases h : Nat.beq j i with
            | false => rfl
            | true => exact absurd (Nat.eq_of_beq_eq_true h) hne
          refine .inr ⟨h1, ?_, ?_, h4⟩
          · rw [h2, getS, hb]
          · rw [getS, hb]
            exact h3
      · rename_i hm
        have hm : memN bad j = false := by simpa using hm
        simp only [getS]
        cases hb : Nat.beq j i with
        | true =>
          have := Nat.eq_of_beq_eq_true hb
          subst this
          exact .inr ⟨memN_false.1 hm, rfl, hbad.1, hbad.2⟩
        | false =>
          rcases keepS_get wr S bad i with h | ⟨h1, h2, h3, h4⟩
          · exact .inl h
          · exact .inr ⟨h1, h2, h3, h4⟩
theorem addS_get (p : Slot → Prop) (f : Nat → SV) (i : Nat) (r : List (Nat × Slot)) : ∀ (l : List Nat), (i ∈ l → p (.one (f i))) → p (getS r i) → p (getS (addS l (l.map f) r) i)
  | [], _, h => h
  | j :: l, h1, h => by
    simp only [List.map_cons, addS, getS]
    cases hb : Nat.beq j i with
    | true =>
      have := Nat.eq_of_beq_eq_true hb
      subst this
      exact h1 (List.mem_cons_self ..)
    | false => exact addS_get p f i r l (fun h => h1 (List.mem_cons_of_mem _ h)) h
theorem idxN_lt {rs : List Nat} {r m : Nat} (h : idxN rs r = some m) : m < rs.length := (idxN_get rs r m h).1
theorem cpS_in (rs : List Nat) (H : Nat → HO) (x : SV) : RefIn (· < rs.length) (cpS rs H x) := by
  cases x with
  | own r =>
    simp only [cpS]
    cases e : idxN rs r with
    | some m => exact idxN_lt e
    | none => cases H r <;> trivial
  | ptr r i =>
    simp only [cpS]
    cases e : idxN rs r with
    | some m => exact idxN_lt e
    | none => trivial
  | mp r =>
    simp only [cpS]
    cases e : idxN rs r with
    | some m => exact idxN_lt e
    | none => trivial
  | bx r =>
    simp only [cpS]
    cases e : idxN rs r with
    | some m => exact idxN_lt e
    | none => trivial
  | fn f caps =>
    simp only [cpS]
    cases e : renC rs caps with
    | none => trivial
    | some l =>
      obtain ⟨h1, h2⟩ := renC_spec rs caps l e
      intro p hp
      obtain ⟨i, hi, rfl⟩ := List.getElem_of_mem hp
      exact idxN_lt (h2 i (by omega) hi).1
  | _ => trivial
section
variable {P : Program} {C : Ctx} {ρ ρ' : Nat → RV} {σ σ' : St} {a a' : Act} {w w' : World} {wr : Nat}
/-- A slot that holds no reference says the same of its value later. -/
theorem nonref_later {x : Slot} {u : Value} (hx : isRefS x = false) (hp : Hp C.X ρ ρ' σ.heap σ'.heap w w') (h : SlR w (okOf C.X ρ (getO σ.heap)) ρ (getO σ.heap) x u) : SlR w' (okOf C.X ρ' (getO σ'.heap)) ρ' (getO σ'.heap) x u ∧ ∀ A, SlotIn A x := by
  cases x with
  | many l => cases hx
  | cells l => cases hx
  | one x =>
    cases x <;> first | (cases hx; done) | skip
    · exact ⟨trivial, fun _ => trivial⟩
    · exact ⟨h, fun _ => trivial⟩
    · exact ⟨VR.mono hp.hp h, fun _ => trivial⟩
    · exact ⟨h, fun _ => trivial⟩
    · refine ⟨?_, fun _ => trivial⟩
      obtain ⟨b, off, c, e, fr, h1, h2, h3, h4⟩ := h
      obtain ⟨h5, h6⟩ := hp.hp b h2 (lt_of_get h3)
      exact ⟨b, off, c, e, fr, h1, h6, by rw [h5]; exact h3, TR.mono hp.hp h4⟩
    · exact ⟨h, fun _ => trivial⟩
/-- A state handed on to a head. -/
theorem rebuild_sound (h : Rl C ρ σ a w) (h' : Rl C ρ' σ' a' w') (hn : σ'.n = σ.n) (hk : Keep wr a a') (hp : Hp C.X ρ ρ' σ.heap σ'.heap w w') {hd : Head} {d : List DV} {q : Skel} (e : packAt hd.at_ σ' = (q, d)) (hq : q = hd.sk) :
    ∃ ρ2, Rl C ρ2 (rebuild wr σ hd d) a' w' ∧ Hp C.X ρ' ρ2 σ'.heap (rebuild wr σ hd d).heap w' w' ∧ (rebuild wr σ hd d).n = σ.n := by
  unfold packAt at e
  dsimp only at e
  rw [forceL_eq] at e
  have hos := order_spec (getO σ'.heap) σ'.heap.length (hd.at_.map fun i => (getS σ'.slots i).sv)
  generalize hrs : order (getO σ'.heap) σ'.heap.length (hd.at_.map fun i => (getS σ'.slots i).sv) = rs at *
  obtain ⟨e1, e2⟩ := Prod.mk.inj e
  have hfl : (fillL id hd.sk.slots d).1 = hd.at_.map fun i => cpS rs (getO σ'.heap) (getS σ'.slots i).sv := by
    rw [← hq, ← e1, ← e2, fillL_sk, List.map_map]
    rfl
  have hfo : fillOs id hd.sk.objs (fillL id hd.sk.slots d).2 = rs.map fun r => cpO rs (getO σ'.heap) (getO σ'.heap r) := by
    rw [← hq, ← e1, ← e2, fillL_sk, fillOs_sk]
  have hcp : Cp rs ρ' (fun m => ρ' (getL 0 rs m)) (getO σ'.heap) (getO σ'.heap) (getO (rs.map fun r => cpO rs (getO σ'.heap) (getO σ'.heap r))) :=
    ⟨hos.1, fun r _ => rfl, hos.2, fun m => getO_map rs _ m, fun m _ => rfl⟩
  obtain ⟨m1, m2⟩ := h'.h.cp (X' := C.X) hcp (fun b hb => hb) (fun b hb => .inl hb)
  have hp2 : Hp C.X ρ' (fun m => ρ' (getL 0 rs m)) σ'.heap (rs.map fun r => cpO rs (getO σ'.heap) (getO σ'.heap r)) w' w' := ⟨Nat.le_refl _, fun b hb _ => ⟨rfl, m2 b hb⟩⟩
  have hreb : rebuild wr σ hd d = ⟨σ.n, addS hd.at_ (hd.at_.map fun i => cpS rs (getO σ'.heap) (getS σ'.slots i).sv) (keepS wr [] σ.slots), rs.map fun r => cpO rs (getO σ'.heap) (getO σ'.heap r)⟩ := by
    unfold rebuild
    dsimp only
    rw [hfo, hfl]
  rw [hreb]
  refine ⟨fun m => ρ' (getL 0 rs m), ?_, hp2, rfl⟩
  have hkeep : ∀ i, SlR w' (okOf C.X (fun m => ρ' (getL 0 rs m)) (getO (rs.map fun r => cpO rs (getO σ'.heap) (getO σ'.heap r)))) (fun m => ρ' (getL 0 rs m)) (getO (rs.map fun r => cpO rs (getO σ'.heap) (getO σ'.heap r))) (getS (keepS wr [] σ.slots) i) (a'.tmps.getD i undef) ∧ ∀ A, SlotIn A (getS (keepS wr [] σ.slots) i) := by
    intro i
    rcases keepS_get wr σ.slots [] i with h1 | ⟨_, h1, h2, h3⟩
    · rw [h1]
      exact ⟨trivial, fun _ => trivial⟩
    · rw [h1, hk i h3]
      obtain ⟨q1, q2⟩ := nonref_later h2 hp (h.slots i)
      exact ⟨(nonref_later (σ := σ') (σ' := ⟨σ.n, [], rs.map fun r => cpO rs (getO σ'.heap) (getO σ'.heap r)⟩) h2 hp2 q1).1, q2⟩
  have live : ∀ m, (getO (rs.map fun r => cpO rs (getO σ'.heap) (getO σ'.heap r)) m).live = true → (getO σ'.heap (getL 0 rs m)).live = true := fun m hm => hos.2 _ (getL_mem 0 rs m (hcp.alive hm))
  refine ⟨?_, h'.defers, fun i => ?_, m1.objs, m1.inj, m1.noX, m1.xlt, fun m hm b o c e => h'.old _ (live m hm) b o c e, h'.fr, fun i => ?_, fun m l e x hx => ?_, fun m hm => ?_⟩
  · show σ.n = _
    rw [← hn]
    exact h'.len
  · exact addS_get (fun x => SlR w' _ _ _ x (a'.tmps.getD i undef)) (fun i => cpS rs (getO σ'.heap) (getS σ'.slots i).sv) i _ hd.at_ (fun _ => SR_cp h'.h hcp m2 (h'.slots i).sv) (hkeep i).1
  · refine addS_get (fun x => SlotIn _ x) (fun i => cpS rs (getO σ'.heap) (getS σ'.slots i).sv) i _ hd.at_ (fun _ => ?_) ((hkeep i).2 _)
    show RefIn (· < (rs.map _).length) _
    rw [List.length_map]
    exact cpS_in _ _ _
  · have e : getO (rs.map fun r => cpO rs (getO σ'.heap) (getO σ'.heap r)) m = .cells l := e
    show RefIn (· < (rs.map _).length) _
    rw [List.length_map]
    rw [getO_map] at e
    split at e
    · cases ho : getO σ'.heap (getL 0 rs m) with
      | cells l' =>
        rw [ho] at e
        simp only [cpO] at e
        cases e
        obtain ⟨y, hy, rfl⟩ := List.mem_map.1 hx
        exact cpS_in _ _ _
      | arr t xs => rw [ho] at e; cases e
      | map k v es => rw [ho] at e; cases e
      | froz t xs =>
        rw [ho] at e
        cases e
        cases hx
      | dead =>
        rw [ho] at e
        cases e
        cases hx
    · cases e
  · exact getL_ge _ _ _ (Nat.le_of_not_lt hm)
theorem trimS_get (live : Nat) : ∀ (S : List (Nat × Slot)) (i : Nat), getS (trimS live S) i = getS S i ∨ getS (trimS live S) i = .one .unk
  | [], i => .inl rfl
  | (j, x) :: S, i => by
    simp only [trimS]
    split
    · rename_i hb
      simp only [getS]
      cases h : Nat.beq j i with
      | true => exact .inl rfl
      | false => exact trimS_get live S i
    · rename_i hb
      rcases trimS_get live S i with h | h
      · simp only [getS]
        cases hj : Nat.beq j i with
        | true =>
          have := Nat.eq_of_beq_eq_true hj
          subst this
          right
          have hno : ∀ (S : List (Nat × Slot)), getS (trimS live S) j = .one .unk := by
            intro S
            induction S with
            | nil => rfl
            | cons p S ih =>
              obtain ⟨q, y⟩ := p
              simp only [trimS]
              split
              · rename_i hq
                simp only [getS]
                cases hqj : Nat.beq q j with
                | true =>
                  have := Nat.eq_of_beq_eq_true hqj
                  subst this
                  rw [hb] at hq
                  cases hq
                | false => exact ih
              · exact ih
          exact hno S
        | false => exact .inl h
      · exact .inr h
theorem Rl.trim (h : Rl C ρ σ a w) (live : Nat) : Rl C ρ (σ.trim live) a w := by
  refine ⟨h.len, h.defers, fun i => ?_, h.objs, h.inj, h.noX, h.xlt, h.old, h.fr, fun i => ?_, h.inO, h.out⟩
  · show SlR _ _ _ _ (getS (trimS live σ.slots) i) _
    rcases trimS_get live σ.slots i with e | e
    · rw [e]
      exact h.slots i
    · rw [e]
      trivial
  · show SlotIn _ (getS (trimS live σ.slots) i)
    rcases trimS_get live σ.slots i with e | e
    · rw [e]
      exact h.inS i
    · rw [e]
      trivial
end
end Go.Sym

/- Code, II. -/
namespace Go.Sym
def toX : Ex → Exit | .normal => .normal | .exit id => .exit id | .ret => .ret
/-- A condition behind code: the ways out of it. -/
def After (P : Program) (C : Ctx) {α : Type} (k : Ex → St → Option α) (out : α) (wr : Nat) (ρ : Nat → RV) (σ : St) (a : Act) (w : World) (Q : Exit → Act → World → Prop) : Prop :=
  ∀ e σ' ρ' a' w', k e σ' = some out → Rl C ρ' σ' a' w' → σ'.n = σ.n → Keep wr a a' → Hp C.X ρ ρ' σ.heap σ'.heap w w' → Q (toX e) a' w'
section
variable {P : Program} {C : Ctx} {E : Env} {α : Type} {out : α} {rt : Nat}
theorem Keep.left {p q : Nat} {a b : Act} (h : Keep p a b) : Keep (Nat.lor p q) a b := h.mono (fun i hi => by rw [testBit_lor, Bool.or_eq_false_iff] at hi; exact hi.1)
theorem Keep.right {p q : Nat} {a b : Act} (h : Keep q a b) : Keep (Nat.lor p q) a b := h.mono (fun i hi => by rw [testBit_lor, Bool.or_eq_false_iff] at hi; exact hi.2)
theorem toHead_eq {R : Type} {h : Head} {j : Fn h.sk.tys (Option R)} {σ : St} {o : R} (e : toHead h j σ = some o) : ∃ q d, packAt h.at_ σ = (q, d) ∧ q = h.sk ∧ appl h.sk.tys j d = some o := by
  unfold toHead at e
  rw [forceP_eq] at e
  split at e
  · rename_i hq
    exact ⟨_, _, rfl, eqSk_eq hq, e⟩
  · cases e
/-- Ways that meet. -/
theorem meet_eq (hA : E.A = .real) {σ : St} {mask wr : Nat} {pr : (St → Option (List Head)) → Option (List Head)} {rest : St → Option α} {go : (St → Option α) → Option α} (e : meet E σ mask wr pr rest go = some out) :
    ∃ h : Head, go (fun σ' => toHead h (curry h.sk.tys fun vs => rest (rebuild wr σ h vs)) σ') = some out := by
  unfold meet at e
  split at e
  · cases e
  · rename_i h _
    rw [forceHd_eq, hA] at e
    simp only [Alg.real, forceSt_eq] at e
    exact ⟨h, e⟩
/-- What stands behind a head is reached with the head's state. -/
theorem head_in {h : Head} {wr : Nat} {σ σ' : St} {rest : St → Option α} (e : toHead h (curry h.sk.tys fun vs => rest (rebuild wr σ h vs)) σ' = some out) {ρ ρ' : Nat → RV} {a a' : Act} {w w' : World} (h0 : Rl C ρ σ a w) (h1 : Rl C ρ' σ' a' w') (hn : σ'.n = σ.n) (hk : Keep wr a a') (hp : Hp C.X ρ ρ' σ.heap σ'.heap w w') :
    ∃ σ2 ρ2, rest σ2 = some out ∧ Rl C ρ2 σ2 a' w' ∧ σ2.n = σ.n ∧ Hp C.X ρ ρ2 σ.heap σ2.heap w w' := by
  obtain ⟨q, d, e1, e2, e3⟩ := toHead_eq e
  obtain ⟨e4, _⟩ := appl_curry _ _ _ _ e3
  obtain ⟨ρ2, k1, k2, k3⟩ := rebuild_sound h0 h1 hn hk hp e1 e2
  exact ⟨_, ρ2, e4, k1, k3, hp.trans k2⟩
theorem inBlock_post {id : Nat} {Q : Exit → Act → World → Prop} {e : Ex} {a : Act} {w : World} (h : Q (toX (inBlk id e)) a w) : Exit.inBlock id Q (toX e) a w := by
  cases e with
  | normal => exact h
  | ret => exact h
  | exit i =>
    simp only [inBlk] at h
    simp only [toX, Exit.inBlock]
    by_cases hi : i = id
    · subst hi
      rw [Nat.beq_refl, if_pos rfl] at h
      rw [if_pos rfl]
      exact h
    · have hb : ¬ Nat.beq i id = true := fun h => hi (Nat.eq_of_beq_eq_true h)
      rw [if_neg hb] at h
      rw [if_neg hi]
      exact h
theorem evC_sound (hA : E.A = .real) (hE : ∀ g, FnOk P C.T E.cfg g (E.cal g)) (hc : CfgOk P E.cfg) (hm : P.follows .mixedOrders = true) :
    ∀ (c : Code) (ex : List (Nat × Nat)) (lout : Nat) (σ : St) (k : Ex → St → Option α) (ρ : Nat → RV) (a : Act) (w : World) (Q : Exit → Act → World → Prop), evC E rt ex lout c σ k = some out → Rl C ρ σ a w → LO Q →
      After P C k out (codeWrites c) ρ σ a w Q → c.wp P Q a w := by
  intro c
  induction c with
  | skip =>
    intro ex lout σ k ρ a w Q e h hl hQ
    exact wp_skip (hQ .normal σ ρ a w e h rfl (Keep.refl _ _) (Hp.refl _ _ _ _))
  | ret =>
    intro ex lout σ k ρ a w Q e h hl hQ
    exact wp_ret (hQ .ret σ ρ a w e h rfl (Keep.refl _ _) (Hp.refl _ _ _ _))
  | exit id =>
    intro ex lout σ k ρ a w Q e h hl hQ
    exact wp_exit (hQ (.exit id) σ ρ a w e h rfl (Keep.refl _ _) (Hp.refl _ _ _ _))
  | goto l => intro ex lout σ k ρ a w Q e; cases e
  | label l => intro ex lout σ k ρ a w Q e; cases e
  | seq x y ihx ihy =>
    intro ex lout σ k ρ a w Q e h hl hQ
    refine wp_seq ?_
    -- behind the first part
    have go : ∀ (k1 : Ex → St → Option α), evC E rt ex (lv rt ex y lout) x σ k1 = some out →
        (∀ e σ', e ≠ .normal → k1 e σ' = some out → k e σ' = some out) →
        (∀ σ' ρ' a' w', k1 .normal σ' = some out → Rl C ρ' σ' a' w' → σ'.n = σ.n → Keep (codeWrites x) a a' → Hp C.X ρ ρ' σ.heap σ'.heap w w' →
          ∃ σ2 ρ2, evC E rt ex lout y σ2 k = some out ∧ Rl C ρ2 σ2 a' w' ∧ σ2.n = σ.n ∧ Hp C.X ρ ρ2 σ.heap σ2.heap w w') →
        x.wp P (Exit.then (y.wp P Q) Q) a w := by
      intro k1 e1 h1 h2
      refine ihx ex _ σ k1 ρ a w _ e1 h trivial (fun en σ' ρ' a' w' q1 q2 q3 q4 q5 => ?_)
      cases en with
      | normal =>
        obtain ⟨σ2, ρ2, m1, m2, m3, m4⟩ := h2 σ' ρ' a' w' q1 q2 q3 q4 q5
        refine ihy ex lout σ2 k ρ2 a' w' Q m1 m2 hl (fun en σ'' ρ'' a'' w'' r1 r2 r3 r4 r5 => ?_)
        exact hQ en σ'' ρ'' a'' w'' r1 r2 (by rw [r3, m3]) (q4.left.trans r4.right) (m4.trans r5)
      | exit id => exact hQ (.exit id) σ' ρ' a' w' (h1 (.exit id) σ' (by intro h; cases h) q1) q2 q3 q4.left q5
      | ret => exact hQ .ret σ' ρ' a' w' (h1 .ret σ' (by intro h; cases h) q1) q2 q3 q4.left q5
    simp only [evC] at e
    split at e
    · refine go _ e (fun e σ' hne h => ?_) (fun σ' ρ' a' w' q1 q2 q3 q4 q5 => ⟨σ', ρ', q1, q2, q3, q5⟩)
      cases e with
      | normal => exact absurd rfl hne
      | exit id => exact h
      | ret => exact h
    · obtain ⟨hd, e⟩ := meet_eq hA e
      refine go _ e (fun e σ' hne h => ?_) (fun σ' ρ' a' w' q1 q2 q3 q4 q5 => ?_)
      · cases e with
        | normal => exact absurd rfl hne
        | exit id => exact h
        | ret => exact h
      · exact head_in q1 h q2 q3 q4 q5
  | cond c x y ihx ihy =>
    intro ex lout σ k ρ a w Q e h hl hQ
    have hv : SR w (okOf C.X ρ (getO σ.heap)) ρ (getO σ.heap) (evV σ.slots c) (a.eval c) := (operand_SlR c (fun t _ => ⟨h.slots t, h.inS t⟩)).1.sv
    have tt : evC E rt ex lout x σ k = some out → x.wp P Q a w := fun e => ihx ex lout σ k ρ a w Q e h hl (fun en σ' ρ' a' w' q1 q2 q3 q4 q5 => hQ en σ' ρ' a' w' q1 q2 q3 q4.left q5)
    have ff : evC E rt ex lout y σ k = some out → y.wp P Q a w := fun e => ihy ex lout σ k ρ a w Q e h hl (fun en σ' ρ' a' w' q1 q2 q3 q4 q5 => hQ en σ' ρ' a' w' q1 q2 q3 q4.right q5)
    simp only [evC] at e
    split at e
    · rename_i hcv
      rw [hcv] at hv
      exact wp_cond_true hv (tt e)
    · rename_i hcv
      rw [hcv] at hv
      exact wp_cond_false hv (ff e)
    · rename_i b hcv
      rw [hcv] at hv
      have hv := (VR_bool (w := w) (ok := okOf C.X ρ (getO σ.heap))).1 hv
      rw [hA] at e
      simp only [Alg.real] at e
      cases b with
      | true =>
        rw [if_pos rfl] at e
        exact wp_cond_true hv (tt e)
      | false =>
        rw [if_neg (by simp)] at e
        exact wp_cond_false hv (ff e)
    · cases e
  | block id x ih =>
    intro ex lout σ k ρ a w Q e h hl hQ
    refine wp_block ?_
    have hl' : LO (Exit.inBlock id Q) := trivial
    simp only [evC] at e
    split at e
    · refine ih _ lout σ _ ρ a w _ e h hl' (fun en σ' ρ' a' w' q1 q2 q3 q4 q5 => ?_)
      exact inBlock_post (hQ (inBlk id en) σ' ρ' a' w' q1 q2 q3 q4 q5)
    · obtain ⟨hd, e⟩ := meet_eq hA e
      refine ih _ lout σ _ ρ a w _ e h hl' (fun en σ' ρ' a' w' q1 q2 q3 q4 q5 => inBlock_post ?_)
      split at q1
      · rename_i hen
        rw [hen]
        obtain ⟨σ2, ρ2, m1, m2, m3, m4⟩ := head_in q1 h q2 q3 q4 q5
        exact hQ .normal σ2 ρ2 a' w' m1 m2 m3 q4 m4
      · exact hQ (inBlk id en) σ' ρ' a' w' q1 q2 q3 q4 q5
  | loop x ih =>
    intro ex lout σ k ρ a w Q e h hl hQ
    simp only [evC] at e
    rw [forceHd_eq] at e
    rw [hA] at e
    simp only [Alg.real, forceSt_eq] at e
    generalize hhd : headOf (lv rt ex (.loop x) 0) (codeWrites x) σ = hd at e
    refine wp_loop_rounds E.n ?_
    -- the rounds
    have rounds : ∀ (n : Nat) (σ' : St) (ρ' : Nat → RV) (a' : Act) (w' : World), toHead hd (loopR n (fun self => curry hd.sk.tys fun vs => evC E rt ex (lv rt ex (.loop x) 0) x (rebuild (codeWrites x) σ hd vs) fun e σ' => match e with
        | .normal => toHead hd self σ'
        | e => k e σ') (bot hd.sk.tys)) σ' = some out → Rl C ρ' σ' a' w' → σ'.n = σ.n → Keep (codeWrites x) a a' → Hp C.X ρ ρ' σ.heap σ'.heap w w' → Code.rounds P x Q n a' w' := by
      intro n
      induction n with
      | zero =>
        intro σ' ρ' a' w' e h' hn hk hp
        obtain ⟨q, d, e1, e2, e3⟩ := toHead_eq e
        obtain ⟨e4, _⟩ := appl_curry _ _ _ _ e3
        cases e4
      | succ n ihn =>
        intro σ' ρ' a' w' e h' hn hk hp
        rw [rounds_succ]
        obtain ⟨q, d, e1, e2, e3⟩ := toHead_eq e
        obtain ⟨e4, _⟩ := appl_curry _ _ _ _ e3
        obtain ⟨ρ2, k1, k2, k3⟩ := rebuild_sound h h' hn hk hp e1 e2
        refine ih ex _ _ _ ρ2 a' w' _ e4 k1 trivial (fun en σ'' ρ'' a'' w'' q1 q2 q3 q4 q5 => ?_)
        have hk2 := hk.trans q4
        have hp2 := (hp.trans k2).trans q5
        have hn2 : σ''.n = σ.n := by rw [q3, k3]
        cases en with
        | normal => exact ihn σ'' ρ'' a'' w'' q1 q2 hn2 hk2 hp2
        | exit id => exact hQ (.exit id) σ'' ρ'' a'' w'' q1 q2 hn2 hk2 hp2
        | ret => exact hQ .ret σ'' ρ'' a'' w'' q1 q2 hn2 hk2 hp2
    exact rounds E.n σ ρ a w e h rfl (Keep.refl _ _) (Hp.refl _ _ _ _)
  | region id ops draw =>
    intro ex lout σ k ρ a w Q e h hl hQ
    simp only [evC] at e
    split at e
    · obtain ⟨hd, e⟩ := meet_eq hA e
      refine evReg_sound hA hE hc hm hl e h (fun σ' ρ' a' w' q1 q2 q3 q4 q5 => ?_)
      obtain ⟨σ2, ρ2, m1, m2, m3, m4⟩ := head_in q1 h q2 q3 q4 q5
      exact hQ .normal σ2 ρ2 a' w' m1 m2 m3 q4 m4
    · refine evReg_sound hA hE hc hm hl e h (fun σ' ρ' a' w' q1 q2 q3 q4 q5 => ?_)
      exact hQ .normal (σ'.trim lout) ρ' a' w' q1 (q2.trim lout) q3 q4 q5
  | _ => intro ex lout σ k ρ a w Q e; cases e
end
end Go.Sym

/- Functions. -/
namespace Go.Sym
theorem tupOf_untup : ∀ (ts : List Ty) (ds : List DV) (y : (tupTy ts).den), tupOf ts ds = some y → untup ts y = ds
  | [], ds, y, h => by
    cases ds with
    | nil => rfl
    | cons d ds => cases h
  | [t], ds, y, h => by
    cases ds with
    | nil => cases h
    | cons d ds =>
      cases ds with
      | cons d2 ds => cases h
      | nil =>
        obtain ⟨u, x⟩ := d
        simp only [tupOf] at h
        split at h
        · rename_i e
          have := tyq_eq e
          subst this
          cases h
          rfl
        · cases h
  | t :: t2 :: ts, ds, y, h => by
    cases ds with
    | nil => cases h
    | cons d ds =>
      obtain ⟨u, x⟩ := d
      simp only [tupOf] at h
      split at h
      · rename_i e
        have := tyq_eq e
        subst this
        split at h
        · rename_i z hz
          cases h
          have ih := tupOf_untup (t2 :: ts) ds z hz
          simp only [untup]
          rw [ih]
          rfl
        · cases h
      · cases h
theorem numS_get : ∀ (l : List SV) (i j : Nat), getS (numS i l) (i + j) = if j < l.length then .one (getL .unk l j) else .one .unk
  | [], i, j => by simp [numS, getS]
  | x :: l, i, 0 => by simp [numS, getS, getL]
  | x :: l, i, j + 1 => by
    have hb : Nat.beq i (i + (j + 1)) = false := by
      cases h : Nat.beq i (i + (j + 1)) with
      | false => rfl
      | true =>
        have := Nat.eq_of_beq_eq_true h
        omega
    have ih := numS_get l (i + 1) j
    have e : i + 1 + j = i + (j + 1) := by omega
    rw [e] at ih
    simp only [numS, getS, hb, ih, List.length_cons, Nat.add_lt_add_iff_right, getL]
theorem backBits_mem : ∀ {l : List Nat} {i : Nat}, i ∈ l → Nat.testBit (backBits l) i = true
  | j :: l, i, h => by
    rw [backBits, testBit_lor, testBit_pow]
    cases h with
    | head => simp
    | tail _ h => rw [backBits_mem h]; simp
def resVal (tmps : Array Value) : ResultVar → Sem Value
  | .tmp t => pure (tmps.getD t undef)
  | .cell a t => do loadVar t (← asAddr (tmps.getD a undef))
theorem results_eq (fn : Func) (tmps : Array Value) : results fn tmps = (do
  let vs ← fn.results.mapM (resVal tmps)
  pure (if h : vs.size = 1 then vs[0] else .tuple vs)) := by
  unfold results
  congr 1
section
variable {P : Program} {C : Ctx} {ρ : Nat → RV} {σ : St} {a : Act} {w : World}
theorem loadAt_res {t : TypeId} {u v : Value} (h : (Instr.loadAt t u).run P w = .ok v w) : (do loadVar t (← asAddr u) : Sem Value).run P w = .ok v w := by
  unfold Instr.loadAt at h
  cases u with
  | pointer x =>
    cases x with
    | none => cases h
    | some x => exact h
  | _ => cases h
theorem ups_big : ∀ us : Ups, ∃ fr, ∀ p ∈ us, p.1 < fr
  | [] => ⟨0, fun p hp => by cases hp⟩
  | q :: us => by
    obtain ⟨fr, hfr⟩ := ups_big us
    refine ⟨fr + q.1 + 1, fun p hp => ?_⟩
    cases hp with
    | head => omega
    | tail _ hp =>
      have := hfr p hp
      omega
theorem resSlots_spec {c : Cfg} (hc : CfgOk P c) : ∀ (l : List ResultVar) (xs : List SV) (us : Ups) (Hr : Nat → HO) (A : Nat → Prop) (ρ : Nat → RV) (σ : St), Rel C A ρ σ a w → (∀ r, Hr r ≠ .dead → getO σ.heap r = Hr r) → resSlots c σ.slots Hr l = some (xs, us) →
    (∀ p ∈ us, Hr p.1 ≠ .dead) ∧ ∃ (ρ1 : Nat → RV) (vs : List Value), Aft C A ρ σ a w us ρ1 w ∧ (l.mapM (resVal a.tmps)).run P w = .ok vs w ∧ CellsR w (okOf C.X ρ1 (getO (updH σ.heap us))) ρ1 (getO (updH σ.heap us)) xs vs ∧ ∀ x ∈ xs, RefIn (fun r => A r ∨ refs us r) x
  | [], xs, us, Hr, A, ρ, σ, h, hH, e => by
    cases e
    exact ⟨fun p hp => (by cases hp), ρ, [], Aft.nil h, rfl, rfl, fun x hx => (by cases hx)⟩
  | .tmp t :: l, xs, us, Hr, A, ρ, σ, h, hH, e => by
    simp only [resSlots] at e
    split at e
    · rename_i r us' hr
      cases e
      obtain ⟨h0, ρ1, vs, k1, h1, h2, h3⟩ := resSlots_spec hc l r us Hr A ρ σ h hH hr
      refine ⟨h0, ρ1, a.tmps.getD t undef :: vs, k1, ?_, ⟨_, vs, rfl, k1.mono _ _ (h.inS t).sv (h.slots t).sv, h2⟩, fun x hx => ?_⟩
      · simp only [List.mapM_cons, resVal, Sem.run_bind, Sem.run_pure, Result.andThen_ok, h1]
      · cases hx with
        | head => exact (h.inS t).sv.mono (fun _ h => .inl h)
        | tail _ hx => exact h3 x hx
    · cases e
  | .cell t ty :: l, xs, us, Hr, A, ρ, σ, h, hH, e => by
    simp only [resSlots] at e
    split at e
    · rename_i x us1 hx
      split at e
      · rename_i r us2 hr
        obtain ⟨e1, e2⟩ := Prod.mk.inj (Option.some.inj e)
        have ld : ∀ fr, LawP P C A ρ σ a w Hr fr (fun s us => some (s.sv, us)) (x, us1) (Instr.loadAt ty (a.tmps.getD t undef)) := fun fr => evLoad_pure hc h hH (h.slots t).sv hx
        have hin : ∀ p ∈ us1, Hr p.1 ≠ .dead := fun p hp => by
          obtain ⟨sl, us', q1, q2, _⟩ := ld (p.1 + 1)
          obtain ⟨_, rfl⟩ := Prod.mk.inj (Option.some.inj q1)
          exact (q2 p hp).resolve_right (by omega)
        have hA : ∀ p ∈ us1, A p.1 := fun p hp => h.mem (by rw [hH _ (hin p hp)]; exact hin p hp)
        obtain ⟨fr, hfr⟩ := ups_big us1
        obtain ⟨sl, us', q1, q2, q3⟩ := ld fr
        obtain ⟨rfl, e4⟩ := Prod.mk.inj (Option.some.inj q1)
        rw [e4] at q2 q3
        obtain ⟨v, ρ1, m1, m2, m3, m4⟩ := q3 (fun p hp hn => by have := hfr p hp; omega)
        obtain ⟨h0, ρ2, vs, k1, h1, h2, h3⟩ := resSlots_spec hc l r us2 (ovr Hr us1) (fun r => A r ∨ refs us1 r) ρ1 { σ with heap := updH σ.heap us1 } m2.rel (ovr_get us1 Hr _ hH) hr
        subst e1 e2
        refine ⟨fun p hp => ?_, ρ2, v :: vs, m2.trans k1, ?_, ?_, fun y hy => ?_⟩
        · rcases List.mem_append.1 hp with hp | hp
          · exact hin p hp
          · rcases ovr_in _ _ _ (h0 p hp) with h4 | ⟨q, hq, e⟩
            · exact h4
            · exact e ▸ hin q hq
        · have hl := loadAt_res m1
          simp only [List.mapM_cons, resVal, Sem.run_bind, hl, Sem.run_pure, Result.andThen_ok, h1]
        · rw [updH_app]
          exact ⟨v, vs, rfl, k1.mono _ _ m4.sv m3.sv, h2⟩
        · have inc : ∀ r, (A r ∨ refs us1 r) ∨ refs us2 r → A r ∨ refs (us1 ++ us2) r := fun r hr => by
            rw [refs_app]
            rcases hr with (h | h) | h
            · exact .inl h
            · exact .inr (.inl h)
            · exact .inr (.inr h)
          cases hy with
          | head => exact m4.sv.mono (fun r hr => inc r (.inl hr))
          | tail _ hy => exact (h3 y hy).mono inc
      · cases e
    · cases e
theorem results_run {fn : Func} {vs : List Value} (h : (fn.results.toList.mapM (resVal a.tmps)).run P w = .ok vs w) :
    ∃ v, (results fn a.tmps).run P w = .ok v w ∧ ResOf v vs := by
  have h1 : (results fn a.tmps).run P w = .ok (if h : vs.toArray.size = 1 then vs.toArray[0] else .tuple vs.toArray) w := by
    rw [results_eq, Sem.run_bind, Array.mapM_eq_mapM_toList]
    simp only [Sem.run_map, h]
    rfl
  refine ⟨_, h1, ?_⟩
  unfold ResOf
  split
  · rename_i x
    simp
  · rename_i hne
    have : ¬ vs.toArray.size = 1 := fun hs => by
      cases vs with
      | nil => cases hs
      | cons x vs =>
        cases vs with
        | nil => exact hne x rfl
        | cons y vs => simp at hs
    rw [dif_neg this]
end
section
variable {P : Program} {E : Env}
theorem land_zero {m b i : Nat} (h : Nat.beq (Nat.land m b) 0 = true) (hb : Nat.testBit b i = true) : Nat.testBit m i = false := by
  have h0 : m &&& b = 0 := Nat.eq_of_beq_eq_true h
  have := Nat.testBit_and m b i
  rw [h0, hb, Bool.and_true] at this
  simpa using this.symm
/-- A function's end. -/
theorem leave_sound (hc : CfgOk P E.cfg) {X : Nat → Prop} {ρ : Nat → RV} {σ : St} {a : Act} {w w0 : World} {own0 : Nat → Prop} {T : List (Nat × List Value)} {k0 : _} (h : Rl ⟨X, own0, w0, T, k0⟩ ρ σ a w) {sg : Sig} {fn : Func} {y : (tupTy sg.rs.tys).den} (e : leave E.cfg sg fn σ = some y) {args : List Value}
    (hargs : ∀ i, i ∈ sg.back → a.tmps.getD i undef = args.getD i undef) :
    ∃ v, (results fn a.tmps).run P w = .ok v w ∧ ∃ ρ' vs,
      HRel X ρ' (getO (fillOs id sg.rs.objs (fillL id sg.rs.slots (untup sg.rs.tys y)).2)) w ∧
      (∀ b, ownB ρ' (getO (fillOs id sg.rs.objs (fillL id sg.rs.slots (untup sg.rs.tys y)).2)) b → own0 b ∨ w0.heap.size ≤ b) ∧
      CellsR w (okOf X ρ' (getO (fillOs id sg.rs.objs (fillL id sg.rs.slots (untup sg.rs.tys y)).2))) ρ' (getO (fillOs id sg.rs.objs (fillL id sg.rs.slots (untup sg.rs.tys y)).2)) (fillL id sg.rs.slots (untup sg.rs.tys y)).1 (sg.back.map (fun i => args.getD i undef) ++ vs) ∧
      ResOf v vs := by
  unfold leave at e
  dsimp only at e
  split at e
  · cases e
  · rename_i xs us0 hxs
    obtain ⟨r0, ρ0, vs, r4, r1, r2, r3⟩ := resSlots_spec hc _ _ _ _ _ _ _ h (fun _ _ => rfl) hxs
    obtain ⟨v, hv, hres⟩ := results_run r1
    refine ⟨v, hv, ?_⟩
    split at e
    · cases e
    · rename_i ys us n hco
      split at e
      · rename_i hsk
        have hsk := eqSk_eq hsk
        have hu := tupOf_untup _ _ _ e
        have hb : ∀ (l : List Nat), (∀ i, i ∈ l → a.tmps.getD i undef = args.getD i undef) → CellsR w (okOf X ρ0 (getO (updH σ.heap us0))) ρ0 (getO (updH σ.heap us0)) (l.map fun i => (getS σ.slots i).sv) (l.map fun i => args.getD i undef) := by
          intro l hl
          induction l with
          | nil => exact rfl
          | cons i l ih => exact ⟨_, _, rfl, (by dsimp only; rw [← hl i (List.mem_cons_self ..)]; exact r4.mono _ _ (h.inS i).sv (h.slots i).sv), ih (fun j hj => hl j (List.mem_cons_of_mem _ hj))⟩
        have hsub0 := ovr_get us0 (getO σ.heap) σ.heap (fun _ _ => rfl)
        have hA : ∀ r, (r < σ.heap.length ∨ refs us0 r) → r < σ.heap.length := fun r hr => by
          rcases hr with hr | ⟨p, hp, e⟩
          · exact hr
          · subst e
            exact h.mem (r0 p hp)
        obtain ⟨ρ1, k1, k2, k3⟩ := coerce_sound sg.rs (· < σ.heap.length) sg.rs.slots _ _ (ovr (getO σ.heap) us0) σ.len ys us n _ ρ0 { σ with heap := updH σ.heap us0 } hco r4.rel hsub0 ((hb sg.back hargs).app r2) (fun x hx => by
          rcases List.mem_append.1 hx with hx | hx
          · obtain ⟨i, hi, rfl⟩ := List.mem_map.1 hx
            exact (h.inS i).sv.mono (fun _ h => .inl h)
          · exact r3 x hx) (fun r hr => .inl (hA r hr)) (fun p hp hn => Nat.not_lt.2 hn)
        have hsub := ovr_get us (ovr (getO σ.heap) us0) (updH σ.heap us0) hsub0
        have hos := order_spec (ovr (ovr (getO σ.heap) us0) us) n ys
        generalize hrs : order (ovr (ovr (getO σ.heap) us0) us) n ys = rs at *
        have hcp : Cp rs ρ1 (fun m => ρ1 (getL 0 rs m)) (getO (updH (updH σ.heap us0) us)) (ovr (ovr (getO σ.heap) us0) us) (getO (fillOs id sg.rs.objs (fillL id sg.rs.slots (untup sg.rs.tys y)).2)) := by
          refine ⟨hos.1, hsub, hos.2, fun m => ?_, fun m hm => rfl⟩
          rw [hu, ← hsk, fillL_sk, fillOs_sk, getO_map]
        have hfl : (fillL id sg.rs.slots (untup sg.rs.tys y)).1 = ys.map (cpS rs (ovr (ovr (getO σ.heap) us0) us)) := by rw [hu, ← hsk, fillL_sk]
        obtain ⟨m1, m2⟩ := k1.rel.h.cp (X' := X) hcp (fun b hb => hb) (fun b hb => .inl hb)
        refine ⟨_, vs, m1, fun b ⟨m, o, c, hl, e'⟩ => ?_, ?_, hres⟩
        · have hlt := hcp.alive hl
          have hm := getL_mem 0 rs m hlt
          exact k1.rel.old (getL 0 rs m) (by show (getO (updH (updH σ.heap us0) us) _).live = true; rw [hcp.same hm]; exact hos.2 _ hm) b o c e'
        · rw [hfl]
          exact CellsR_cp k1.rel.h hcp m2 k2
      · cases e
/-- A function's body keeps to the contract. -/
theorem body_sound {T : List (Nat × List Value)} (hA : E.A = .real) (hE : ∀ g, FnOk P T E.cfg g (E.cal g)) (hc : CfgOk P E.cfg) (hm : P.follows .mixedOrders = true) {g : Nat} {fn : Func} (hf : P.funcs[E.cfg.real g]? = some fn) (hen : Enters P (E.cfg.real g)) :
    FnOk P T E.cfg g (body E g fn) := by
  intro ds y e w X ρ args hh hcell hK
  refine ⟨hen, ?_⟩
  unfold body at e
  dsimp only at e
  obtain ⟨e, _⟩ := appl_curry _ _ _ _ e
  split at e
  · cases e
  · rename_i code hbody
    split at e
    · rename_i hg
      simp only [Bool.and_eq_true] at hg
      obtain ⟨hg1, hg2, hg3⟩ := hg
      obtain ⟨hw1, hw2⟩ := skWf_eq hg2
      have hg3 := Nat.le_of_ble_eq_true hg3
      rw [forceSt_eq] at e
      have hal : args.length = (E.cfg.sig g).ps.slots.length := by rw [hcell.len, fillL_len]
      have htmp : ∀ i, (args.toArray ++ Array.replicate (fn.ntmps - args.toArray.size) undef).getD i undef = args.getD i undef := by
        intro i
        rw [Array.getD_eq_getD_getElem?, Array.getElem?_append]
        split
        · simp
        · rename_i hi
          rw [Array.getElem?_replicate, List.getD_eq_getElem?_getD, List.getElem?_eq_none (by simpa using hi)]
          split <;> rfl
      -- the state at the begin
      have h0 : Rl ⟨X, ownB ρ (getO (entry (E.cfg.sig g) fn ds).heap), w, T, hK⟩ ρ (entry (E.cfg.sig g) fn ds) { tmps := args.toArray ++ Array.replicate (fn.ntmps - args.toArray.size) undef, defers := [] } w := by
        have hsl : ∀ i, getS (entry (E.cfg.sig g) fn ds).slots i = .one (getL .unk (fillL id (E.cfg.sig g).ps.slots ds).1 i) := by
          intro i
          have := numS_get (fillL id (E.cfg.sig g).ps.slots ds).1 0 i
          rw [Nat.zero_add] at this
          show getS (numS 0 _) i = _
          rw [this]
          split
          · rfl
          · rename_i hi
            rw [getL_ge _ _ _ (Nat.le_of_not_lt hi)]
        have hlen : (entry (E.cfg.sig g) fn ds).heap.length = (E.cfg.sig g).ps.objs.length := fillOs_len id _ _
        refine ⟨?_, rfl, fun i => ?_, hh.objs, hh.inj, hh.noX, hh.xlt, fun r hl b o c e => .inl ⟨r, o, c, hl, e⟩, Fr.refl _ _, fun i => ?_, fun r l e x hx => ?_, fun r hr => getL_ge _ _ _ (Nat.le_of_not_lt hr)⟩
        · show fn.ntmps = _
          simp only [Array.size_append, List.size_toArray, Array.size_replicate]
          omega
        · rw [hsl]
          show SR _ _ _ _ _ _
          simp only
          rw [htmp]
          exact hcell.sv i
        · rw [hsl]
          show RefIn _ _
          rcases Nat.lt_or_ge i (fillL id (E.cfg.sig g).ps.slots ds).1.length with h1 | h1
          · rw [hlen]
            exact fillL_in _ hw1 ds _ (getL_mem _ _ i h1)
          · rw [getL_ge _ _ _ h1]
            trivial
        · rw [hlen]
          exact fillOs_in _ hw2 _ r l e x hx
      refine calls_of_wp hf hbody ?_
      refine evC_sound hA hE hc hm code [] _ _ _ ρ _ w _ e h0 trivial (fun en σ' ρ' a' w' q1 q2 q3 q4 q5 => ?_)
      have fin : leave E.cfg (E.cfg.sig g) fn σ' = some y → a'.defers = [] ∧ ∃ v, (results fn a'.tmps).run P w' = .ok v w' ∧ ∃ ρ' vs,
          HRel X ρ' (getO (fillOs id (E.cfg.sig g).rs.objs (fillL id (E.cfg.sig g).rs.slots (untup (E.cfg.sig g).rs.tys y)).2)) w' ∧
            Fr (ownB ρ (getO (fillOs id (E.cfg.sig g).ps.objs (fillL id (E.cfg.sig g).ps.slots ds).2))) w w' ∧
            (∀ b, ownB ρ' (getO (fillOs id (E.cfg.sig g).rs.objs (fillL id (E.cfg.sig g).rs.slots (untup (E.cfg.sig g).rs.tys y)).2)) b → ownB ρ (getO (fillOs id (E.cfg.sig g).ps.objs (fillL id (E.cfg.sig g).ps.slots ds).2)) b ∨ w.heap.size ≤ b) ∧
            CellsR w' (okOf X ρ' (getO (fillOs id (E.cfg.sig g).rs.objs (fillL id (E.cfg.sig g).rs.slots (untup (E.cfg.sig g).rs.tys y)).2))) ρ' (getO (fillOs id (E.cfg.sig g).rs.objs (fillL id (E.cfg.sig g).rs.slots (untup (E.cfg.sig g).rs.tys y)).2))
              (fillL id (E.cfg.sig g).rs.slots (untup (E.cfg.sig g).rs.tys y)).1 ((E.cfg.sig g).back.map (fun i => args.getD i undef) ++ vs) ∧
            ResOf v vs := by
        intro he
        refine ⟨q2.defers, ?_⟩
        obtain ⟨v, h1, ρ'', vs, h2, h3, h4, h5⟩ := leave_sound (P := P) (E := E) hc q2 he (args := args) (fun i hi => by
          rw [q4 i (land_zero hg1 (backBits_mem hi))]
          exact htmp i)
        exact ⟨v, h1, ρ'', vs, h2, q2.fr, h3, h4, h5⟩
      cases en with
      | normal => exact fin q1
      | ret => exact fin q1
      | exit id => cases q1
    · cases e
/-- No answer is a contract kept. -/
theorem bot_ok {T : List (Nat × List Value)} {c : Cfg} {g : Nat} : FnOk P T c g (curry _ fun _ => none) := fun ds y e => by
  obtain ⟨e, _⟩ := appl_curry _ _ _ _ e
  cases e
end
end Go.Sym

/- A program's functions over data, each over the others; what they answer is what the calls answer. -/
namespace Go.Sym
abbrev FnT (c : Cfg) (g : Nat) : Type := Fn (c.sig g).ins (Option (c.sig g).res.den)
def noFn (c : Cfg) (g : Nat) : FnT c g := curry _ fun _ => none
/-- The functions, n deep; ext: those whose contract is known. -/
def sysF (P : Program) (c : Cfg) (ext : (g : Nat) → Option (FnT c g)) : Nat → (g : Nat) → FnT c g
  | 0, g => noFn c g
  | n + 1, g => match ext g with
    | some F => F
    | none => match P.funcs[c.real g]? with
      | some fn => if fn.name == "runtime.NumGoroutine" then noFn c g else body ⟨c, .real, sysF P c ext n, n, g⟩ g fn
      | none => noFn c g
theorem enters_of {P : Program} {f : FuncId} {fn : Func} (hf : P.funcs[f]? = some fn) (hn : (fn.name == "runtime.NumGoroutine") = false) (hb : fn.body.isNone = false) : Enters P f := by
  intro args w
  have h1 : ¬ fn.name = "runtime.NumGoroutine" := by simpa using hn
  cases hc : fn.body with
  | none => rw [hc] at hb; cases hb
  | some code => simp [callFunc, hf, h1, hc]
theorem sys_ok {P : Program} {T : List (Nat × List Value)} {c : Cfg} (hc : CfgOk P c) (hm : P.follows .mixedOrders = true) {ext : (g : Nat) → Option (FnT c g)} (hx : ∀ g F, ext g = some F → FnOk P T c g F) : ∀ n g, FnOk P T c g (sysF P c ext n g)
  | 0, g => bot_ok
  | n + 1, g => by
    unfold sysF
    split
    · rename_i F h
      exact hx g F h
    · split
      · rename_i fn hf
        split
        · exact bot_ok
        · rename_i hn
          have hn : (fn.name == "runtime.NumGoroutine") = false := by simpa using hn
          cases hb : fn.body with
          | none =>
            have : body (⟨c, .real, sysF P c ext n, n, g⟩ : Env) g fn = noFn c g := by
              unfold body
              simp only [hb]
              rfl
            rw [this]
            exact bot_ok
          | some code => exact body_sound (E := ⟨c, .real, sysF P c ext n, n, g⟩) rfl (sys_ok hc hm hx n) hc hm hf (enters_of hf hn (by rw [hb]; rfl))
      · exact bot_ok
theorem sysF_eq {P : Program} {c : Cfg} {ext : (g : Nat) → Option (FnT c g)} {n g : Nat} {fn : Func} (he : ext g = none) (hf : P.funcs[c.real g]? = some fn) (hn : (fn.name == "runtime.NumGoroutine") = false) :
    sysF P c ext (n + 1) g = body ⟨c, .real, sysF P c ext n, n, g⟩ g fn := by
  rw [sysF, he]
  simp only [hf, hn, Bool.false_eq_true, if_false]
theorem sysF_ext {P : Program} {c : Cfg} {ext : (g : Nat) → Option (FnT c g)} {n g : Nat} {F : FnT c g} (he : ext g = some F) : sysF P c ext (n + 1) g = F := by rw [sysF, he]
/-! ### a law -/
/-- A function of data alone that answers true. -/
theorem law_calls {P : Program} {T : List (Nat × List Value)} {c : Cfg} {g : Nat} {F : FnT c g} (hok : FnOk P T c g F) {ts : List Ty} (hps : (c.sig g).ps = ⟨ts.map SSk.v, []⟩) (hrs : (c.sig g).rs = ⟨[.v .bool], []⟩) (hback : (c.sig g).back = [])
    {ds : List DV} (hds : ds.map DV.t = ts) {y : (c.sig g).res.den} (hy : appl (c.sig g).ins F ds = some y) (hy2 : untup (c.sig g).rs.tys y = [⟨.bool, true⟩]) {w : World} {args : List Value}
    (hargs : CellsR w (fun _ => True) (fun _ => .none) (fun _ => .dead) (ds.map fun d => .v d.t d.x) args)
    (hK : ∀ p ∈ T, ∃ e fz, w.heap[p.1]? = some (.cells p.2.toArray e fz)) :
    Calls P (c.real g) args.toArray w fun e w' => e = .returned (.bool true) ∧ Fr (fun _ => False) w w' := by
  have hfill : ∀ (ts : List Ty) (ds : List DV), ds.map DV.t = ts → fillL id (ts.map SSk.v) ds = (ds.map fun d => .v d.t d.x, []) := by
    intro ts
    induction ts with
    | nil =>
      intro ds h
      cases ds with
      | nil => rfl
      | cons d ds => cases h
    | cons t ts ih =>
      intro ds h
      cases ds with
      | nil => cases h
      | cons d ds =>
        simp only [List.map_cons, List.cons.injEq] at h
        simp only [List.map_cons, fillL, fillS, ih ds h.2]
  have hH : getO (fillOs id (c.sig g).ps.objs (fillL id (c.sig g).ps.slots ds).2) = fun _ => .dead := by
    funext r
    rw [hps]
    rfl
  have hq : (fillL id (c.sig g).ps.slots ds).1 = ds.map fun d => .v d.t d.x := by
    rw [hps, hfill ts ds hds]
  obtain ⟨_, hcall⟩ := hok ds y hy w (fun _ => False) (fun _ => .none) args (by
    rw [hH]
    exact ⟨fun r => trivial, fun r s _ h => (by cases h), fun r h => (by cases h), fun b h => h.elim⟩) (by
    rw [hH, hq]
    have hmono : ∀ (ds : List DV) (args : List Value), CellsR w (fun _ => True) (fun _ => .none) (fun _ => .dead) (ds.map fun d => .v d.t d.x) args → CellsR w (okOf (fun _ => False) (fun _ => RV.none) fun _ => HO.dead) (fun _ => .none) (fun _ => .dead) (ds.map fun d => .v d.t d.x) args := by
      intro ds
      induction ds with
      | nil => intro args h; exact h
      | cons d ds ih =>
        rintro _ ⟨u, cs, rfl, h1, h2⟩
        exact ⟨u, cs, rfl, VR.mono (fun b _ _ => ⟨rfl, fun h => h.elim, fun r h => (by cases h)⟩) h1, ih _ h2⟩
    exact hmono ds args hargs) (fun p hp => ⟨hK p hp, fun ⟨r, o, cc, hl, _⟩ => by rw [hH] at hl; cases hl⟩)
  refine Calls.mono hcall fun e w' he => ?_
  cases e with
  | panicked ch => exact he.elim
  | outgrown => exact he.elim
  | returned v =>
    obtain ⟨ρ', vs, h1, h2, h3, h4, h5⟩ := he
    refine ⟨?_, h2.mono (fun b ⟨r, o, cc, hl, _⟩ => by rw [hH] at hl; cases hl)⟩
    rw [hy2, hrs, hback] at h4
    obtain ⟨u, cs, e1, e2, e3⟩ := h4
    have e2 := VR_bool.1 (show VR _ _ .bool true u from e2)
    have e3 : cs = [] := e3
    subst e2 e3
    have e1 : vs = [.bool true] := e1
    rw [e1] at h5
    rw [show v = .bool true from h5]
end Go.Sym

/- A row's arguments, read as data. -/
namespace Go.Sym
open Go.ChangeShapes Go.WideShapes
/-- Does a type's whole form answer to a data type? -/
def rdChk (P : Program) : Ty → TypeId ⊕ (Nat × List Field) → Bool
  | .int k, .inl t => match P.underlying t with | some (.int k') => Nat.beq (kindN k) (kindN k') | _ => false
  | .bool, .inl t => match P.underlying t with | some .bool => true | _ => false
  | .str, .inl t => match P.underlying t with | some .string => true | _ => false
  | .slice e, .inl t => match P.underlying t with | some (.slice et) => rdChk P e (.inl et) && (Nat.beq (P.cellsOf et) e.sz && Nat.ble 1 e.sz) | _ => false
  | .unit, .inl t => match P.underlying t with | some (.struct fs) => fs.toList.isEmpty && Nat.beq (P.cellsOf t) 0 | _ => false
  | .pair a b, .inl t => match P.underlying t with
    | some (.struct fs) => (match fs.toList with | f :: r => Nat.beq f.offset 0 && (rdChk P a (.inl f.type) && (Nat.beq (P.cellsOf f.type) a.sz && rdChk P b (.inr (a.sz, r)))) | [] => false) && Nat.beq (P.cellsOf t) (a.sz + b.sz)
    | _ => false
  | .arr n e, .inl t => match P.underlying t with | some (.array m et) => Nat.beq n m && (rdChk P e (.inl et) && (Nat.beq (P.cellsOf et) e.sz && Nat.beq (P.cellsOf t) (n * e.sz))) | _ => false
  | .map .., .inl _ | .pt _, .inl _ | .clo .., .inl _ => false
  | .unit, .inr (_, fs) => fs.isEmpty
  | .pair a b, .inr (off, fs) => match fs with | f :: r => Nat.beq f.offset off && (rdChk P a (.inl f.type) && (Nat.beq (P.cellsOf f.type) a.sz && rdChk P b (.inr (off + a.sz, r)))) | [] => false
  | _, .inr _ => false
/-- What a datum that was read is. -/
def WfD : (u : Ty) → u.den → Prop
  | .int k, n => (Lit.int k n).wf = true
  | .str, s => s.size ≤ maxLen
  | .slice t, xs => List.length xs ≤ maxLen ∧ ∀ x ∈ (xs : List t.den), WfD t x
  | .pair a b, x => WfD a x.1 ∧ WfD b x.2
  | .arr n t, xs => List.length xs = n ∧ ∀ x ∈ (xs : List t.den), WfD t x
  | _, _ => True
section
variable {P : Program} {w : World} {H : Type} {enc : TypeId × Value → H} {spare : Nat → Bool} {held : Bool}
theorem seg' {α : Type} (l : List α) (n i m : Nat) (h : i + m ≤ n) : ((l.take n).drop i).take m = (l.drop i).take m := seg l n i m h
/-- Elements end to end. -/
theorem LR_of {α : Type} {R : α → List Value → Prop} {n : Nat} {Q : α → Prop} : ∀ (m : Nat) (cs : List Value), cs.length = m * n → (∀ i, i < m → ∃ x, R x ((cs.drop (i * n)).take n) ∧ Q x) → ∃ xs : List α, xs.length = m ∧ LR R xs cs ∧ ∀ x ∈ xs, Q x
  | 0, cs, h, _ => ⟨[], rfl, by rw [Nat.zero_mul] at h; exact List.eq_nil_of_length_eq_zero h, fun x hx => by cases hx⟩
  | m + 1, cs, h, h2 => by
    obtain ⟨x, q2, q1⟩ := h2 0 (Nat.zero_lt_succ _)
    rw [Nat.succ_mul] at h
    have hd : ∀ i, ((cs.drop n).drop (i * n)) = cs.drop ((i + 1) * n) := fun i => by
      rw [List.drop_drop, Nat.succ_mul, Nat.add_comm]
    obtain ⟨xs, r1, r2, r3⟩ := LR_of (R := R) (n := n) (Q := Q) m (cs.drop n) (by rw [List.length_drop]; omega) (fun i hi => by rw [hd]; exact h2 (i + 1) (by omega))
    refine ⟨x :: xs, by simp [r1], ⟨cs.take n, cs.drop n, (List.take_append_drop n cs).symm, ?_, r2⟩, fun y hy => ?_⟩
    · simpa using q2
    · cases hy with
      | head => exact q1
      | tail _ hy => exact r3 y hy
/-- What is read, as data. -/
theorem trod_TR : ∀ (u : Ty),
    (∀ (fuel : Nat) (t : TypeId) (cs : List Value) (x : DataW H × List MemPlace), rdChk P u (.inl t) = true → DataW.trod enc P w 0 spare held fuel t cs = some x → ∃ z : u.den, TR w (fun _ => True) u z cs ∧ WfD u z) ∧
    (∀ (off : Nat) (fs : List Field) (cs : List Value), rdChk P u (.inr (off, fs)) = true → (∀ (i : Nat) (f : Field), fs[i]? = some f → ∃ (n : Nat) (x : DataW H × List MemPlace), DataW.trod enc P w 0 spare held n f.type ((cs.drop f.offset).take (P.cellsOf f.type)) = some x) → cs.length = off + u.sz →
      ∃ z : u.den, TR w (fun _ => True) u z (cs.drop off) ∧ WfD u z) := by
  intro u
  induction u with
  | int k =>
    refine ⟨fun fuel t cs x hc h => ?_, fun off fs cs hc => by cases hc⟩
    simp only [rdChk] at hc
    split at hc
    · rename_i k' hu
      have := kindN_inj hc
      subst this
      obtain ⟨n, h1, _, h2⟩ := DataW.trod_int hu h
      exact ⟨n, h1, h2⟩
    · cases hc
  | bool =>
    refine ⟨fun fuel t cs x hc h => ?_, fun off fs cs hc => by cases hc⟩
    simp only [rdChk] at hc
    split at hc
    · rename_i hu
      obtain ⟨n, h1, _⟩ := DataW.trod_bool hu h
      exact ⟨n, h1, trivial⟩
    · cases hc
  | str =>
    refine ⟨fun fuel t cs x hc h => ?_, fun off fs cs hc => by cases hc⟩
    simp only [rdChk] at hc
    split at hc
    · rename_i hu
      obtain ⟨n, h1, _, h2⟩ := DataW.trod_string hu h
      exact ⟨n, h1, h2⟩
    · cases hc
  | slice e ih =>
    refine ⟨fun fuel t cs x hc h => ?_, fun off fs cs hc => by cases hc⟩
    simp only [rdChk] at hc
    split at hc
    · rename_i et hu
      simp only [Bool.and_eq_true] at hc
      obtain ⟨c1, c2, c3⟩ := hc
      have c2 := Nat.eq_of_beq_eq_true c2
      have c3 := Nat.le_of_ble_eq_true c3
      rcases DataW.trod_slice hu h with ⟨h1, _⟩ | ⟨a, len, cap, elems, rest, n, _, h1, _, h3, h4, h5, h6, h7, _⟩
      · exact ⟨[], ⟨none, 0, h1, Nat.zero_le _, .inl rfl⟩, Nat.zero_le _, fun x hx => by cases hx⟩
      · by_cases hl : len = 0
        · subst hl
          exact ⟨[], ⟨some a, cap, h1, Nat.zero_le _, .inl rfl⟩, Nat.zero_le _, fun x hx => by cases hx⟩
        · -- the block
          have el : ∀ i, i < len → ∃ cs' y, w.cells? 0 (a.add (i * P.cellsOf et)) (P.cellsOf et) = some cs' ∧ DataW.trod enc P w 0 spare held n et cs' = some y := fun i hi => by
            have := h7 i hi
            rw [List.getElem?_eq_getElem (by omega)] at this
            exact Option.bind_eq_some_iff.1 this |>.imp (fun cs' h => ⟨_, h.1, h.2⟩)
          obtain ⟨cs0, y0, g1, _⟩ := el 0 (by omega)
          obtain ⟨_, g2, g3⟩ := World.cells?_some g1
          have g4 := g3 0 (by omega)
          rw [List.getElem?_eq_getElem (by omega)] at g4
          have hz : (a.add (0 * P.cellsOf et)).add 0 = a := by simp [Addr.add]
          rw [hz] at g4
          have hsp : a.spot = none ∧ ∃ c e fr, w.heap[a.block]? = some (.cells c e fr) := by
            unfold World.cell? at g4
            split at g4
            · rename_i c e fr hb
              split at g4
              · cases g4
              · rename_i hs
                exact ⟨by simpa using hs, c, e, fr, hb⟩
            · cases g4
          obtain ⟨hsp, c, e', fr, hb⟩ := hsp
          have ha : a = ⟨a.block, a.off, none⟩ := by
            cases a
            simp only at hsp
            subst hsp
            rfl
          have add : ∀ m, a.add m = ⟨a.block, a.off + m, none⟩ := fun m => by
            unfold Addr.add
            split
            · rename_i h0
              subst h0
              exact ha
            · rfl
          have cell : ∀ m, w.cell? ⟨a.block, m, none⟩ = c[m]? := fun m => cell_of_row w a.block m c e' fr hb
          have seg : ∀ i, i < len → (∃ y, DataW.trod enc P w 0 spare held n et (((c.toList.drop a.off).drop (i * e.sz)).take e.sz) = some y) ∧ a.off + (i + 1) * e.sz ≤ c.size := by
            intro i hi
            obtain ⟨cs', y, q1, q2⟩ := el i hi
            obtain ⟨_, r1, r2⟩ := World.cells?_some q1
            rw [c2] at r1 r2
            have rr : ∀ k, k < e.sz → c[a.off + i * e.sz + k]? = cs'[k]? := fun k hk => by
              have := r2 k hk
              rw [add] at this
              have e3 : (⟨a.block, a.off + i * e.sz, none⟩ : Addr).add k = ⟨a.block, a.off + i * e.sz + k, none⟩ := by
                unfold Addr.add
                split
                · rename_i h0
                  rw [h0]
                  rfl
                · rfl
              rw [e3, cell] at this
              exact this
            constructor
            · refine ⟨y, ?_⟩
              rw [← q2]
              congr 1
              apply List.ext_getElem?
              intro k
              rw [List.getElem?_take]
              split
              · rename_i hk
                rw [List.drop_drop, List.getElem?_drop, Array.getElem?_toList]
                exact rr k hk
              · rename_i hk
                rw [List.getElem?_eq_none (by omega)]
            · have := rr (e.sz - 1) (by omega)
              rw [List.getElem?_eq_getElem (by omega)] at this
              have h9 := (Array.getElem?_eq_some_iff.1 this).1
              rw [Nat.succ_mul]
              omega
          have hcsz : a.off + len * e.sz ≤ c.size := by
            have := (seg (len - 1) (by omega)).2
            have e4 : len - 1 + 1 = len := by omega
            rw [e4] at this
            exact this
          obtain ⟨xs, x1, x2, x3⟩ := LR_of (R := TR w (fun _ => True) e) (n := e.sz) (Q := WfD e) len ((c.toList.drop a.off).take (len * e.sz)) (by
            rw [List.length_take, List.length_drop, Array.length_toList]
            omega) (fun i hi => by
            have e5 : (((c.toList.drop a.off).take (len * e.sz)).drop (i * e.sz)).take e.sz = ((c.toList.drop a.off).drop (i * e.sz)).take e.sz := seg' _ _ _ _ (by
              have := Nat.mul_le_mul_right e.sz (show i + 1 ≤ len from hi)
              rw [Nat.succ_mul] at this
              exact this)
            rw [e5]
            obtain ⟨y, q2⟩ := (seg i hi).1
            exact ih.1 n et _ y c1 q2)
          refine ⟨xs, ⟨some a, cap, by rw [h1, x1], by rw [x1]; exact h4, .inr ⟨a.block, a.off, c, e', fr, by rw [← ha], trivial, hb, by rw [x1]; exact x2⟩⟩, by rw [x1]; omega, x3⟩
    · cases hc
  | unit =>
    refine ⟨fun fuel t cs x hc h => ?_, fun off fs cs hc hm hl => ⟨(), List.drop_eq_nil_of_le (by rw [hl]; exact Nat.le_refl _), trivial⟩⟩
    simp only [rdChk] at hc
    split at hc
    · rename_i fs hu
      simp only [Bool.and_eq_true] at hc
      obtain ⟨xs, n, _, _, h3, _⟩ := DataW.trod_struct hu h
      rw [Nat.eq_of_beq_eq_true hc.2] at h3
      exact ⟨(), List.eq_nil_of_length_eq_zero h3, trivial⟩
    · cases hc
  | pair a b iha ihb =>
    have fields : ∀ (off : Nat) (f : Field) (r : List Field) (cs : List Value), f.offset = off → rdChk P a (.inl f.type) = true → P.cellsOf f.type = a.sz → rdChk P b (.inr (off + a.sz, r)) = true →
        (∀ (i : Nat) (g : Field), (f :: r)[i]? = some g → ∃ (n : Nat) (x : DataW H × List MemPlace), DataW.trod enc P w 0 spare held n g.type ((cs.drop g.offset).take (P.cellsOf g.type)) = some x) → cs.length = off + (a.sz + b.sz) →
        ∃ z : (Ty.pair a b).den, TR w (fun _ => True) (.pair a b) z (cs.drop off) ∧ WfD (.pair a b) z := by
      intro off f r cs c1 c2 c3 c4 hm hl
      obtain ⟨n, x, h1⟩ := hm 0 f rfl
      rw [c1, c3] at h1
      obtain ⟨z1, k1, k2⟩ := iha.1 n _ _ _ c2 h1
      obtain ⟨z2, k3, k4⟩ := ihb.2 (off + a.sz) r cs c4 (fun i g hg => hm (i + 1) g (by simpa using hg)) (by omega)
      refine ⟨(z1, z2), ⟨_, _, ?_, k1, k3⟩, k2, k4⟩
      rw [← List.drop_drop, List.take_append_drop]
    refine ⟨fun fuel t cs x hc h => ?_, fun off fs cs hc hm hl => ?_⟩
    · simp only [rdChk] at hc
      split at hc
      · rename_i fs hu
        simp only [Bool.and_eq_true] at hc
        obtain ⟨hc, hsz⟩ := hc
        have hsz := Nat.eq_of_beq_eq_true hsz
        obtain ⟨xs, n, _, _, h3, h4, h5⟩ := DataW.trod_struct hu h
        split at hc
        · rename_i f r hfs
          simp only [Bool.and_eq_true] at hc
          obtain ⟨c1, c2, c3, c4⟩ := hc
          obtain ⟨z, k1, k2⟩ := fields 0 f r cs (Nat.eq_of_beq_eq_true c1) c2 (Nat.eq_of_beq_eq_true c3) (by rw [Nat.zero_add]; exact c4) (fun i g hg => by
            rw [← hfs] at hg
            have hg' : fs[i]? = some g := by rw [← Array.getElem?_toList]; exact hg
            have := h5 i g hg'
            have hi : i < fs.size := (Array.getElem?_eq_some_iff.1 hg').1
            rw [List.getElem?_eq_getElem (by omega)] at this
            exact ⟨n, _, this⟩) (by rw [h3, hsz, Nat.zero_add])
          exact ⟨z, k1, k2⟩
        · cases hc
      · cases hc
    · cases fs with
      | nil => cases hc
      | cons f r =>
        simp only [rdChk, Bool.and_eq_true] at hc
        obtain ⟨c1, c2, c3, c4⟩ := hc
        exact fields off f r cs (Nat.eq_of_beq_eq_true c1) c2 (Nat.eq_of_beq_eq_true c3) c4 hm hl
  | arr n e ih =>
    refine ⟨fun fuel t cs x hc h => ?_, fun off fs cs hc => by cases hc⟩
    simp only [rdChk] at hc
    split at hc
    · rename_i m et hu
      simp only [Bool.and_eq_true] at hc
      obtain ⟨c0, c1, c2, c3⟩ := hc
      have c0 := Nat.eq_of_beq_eq_true c0
      have c2 := Nat.eq_of_beq_eq_true c2
      have c3 := Nat.eq_of_beq_eq_true c3
      subst c0
      obtain ⟨xs, k, _, _, h3, h4, h5⟩ := DataW.trod_array hu h
      obtain ⟨zs, x1, x2, x3⟩ := LR_of (R := TR w (fun _ => True) e) (n := e.sz) (Q := WfD e) n cs (by rw [h3, c3]) (fun i hi => by
        have := h5 i hi
        rw [List.getElem?_eq_getElem (by omega), c2] at this
        exact ih.1 k et _ _ c1 this)
      exact ⟨zs, ⟨x1, x2⟩, x1, x3⟩
    · cases hc
  | map k v _ _ => exact ⟨fun fuel t cs x hc => (by cases hc), fun off fs cs hc => (by cases hc)⟩
  | pt t _ => exact ⟨fun fuel t cs x hc => (by cases hc), fun off fs cs hc => (by cases hc)⟩
  | clo f t _ => exact ⟨fun fuel t cs x hc => (by cases hc), fun off fs cs hc => (by cases hc)⟩
/-- An argument, as one value. -/
theorem okWide_VR {r : Reach} {b0 : Nat} {u : Ty} {t : TypeId} {v : Value} (hc : rdChk P u (.inl t) = true) (hv : Value.okWide P w r b0 t v) {z : u.den} (h : TR w (fun _ => True) u z v.cells.toList) : VR w (fun _ => True) u z v := by
  cases u with
  | int k =>
    simp only [rdChk] at hc
    split at hc
    · rename_i k' hu
      obtain ⟨n, rfl⟩ := okWide_int hu hv
      exact VR.of_cells rfl h
    · cases hc
  | bool =>
    simp only [rdChk] at hc
    split at hc
    · rename_i hu
      obtain ⟨n, rfl⟩ := okWide_bool hu hv
      exact VR.of_cells rfl h
    · cases hc
  | str =>
    simp only [rdChk] at hc
    split at hc
    · rename_i hu
      obtain ⟨n, rfl⟩ := okWide_string hu hv
      exact VR.of_cells rfl h
    · cases hc
  | slice e =>
    simp only [rdChk] at hc
    split at hc
    · rename_i et hu
      obtain ⟨a, len, cap, rfl⟩ := okWide_slice hu hv
      exact VR.of_cells rfl h
    · cases hc
  | unit =>
    simp only [rdChk] at hc
    split at hc
    · rename_i fs hu
      simp only [Value.okWide, hu] at hv
      obtain ⟨cs, rfl, _⟩ := hv
      exact VR.of_agg rfl h
    · cases hc
  | pair a b =>
    simp only [rdChk] at hc
    split at hc
    · rename_i fs hu
      simp only [Value.okWide, hu] at hv
      obtain ⟨cs, rfl, _⟩ := hv
      exact VR.of_agg rfl h
    · cases hc
  | arr n e =>
    simp only [rdChk] at hc
    split at hc
    · rename_i m et hu
      simp only [Value.okWide, hu] at hv
      obtain ⟨cs, rfl, _⟩ := hv
      exact VR.of_agg rfl h
    · cases hc
  | map k v => cases hc
  | pt t => cases hc
  | clo f t => cases hc
def WfDs : List DV → Prop
  | [] => True
  | d :: l => WfD d.t d.x ∧ WfDs l
def rdAll (P : Program) : List Ty → List TypeId → Bool
  | [], [] => true
  | u :: us, t :: ts => rdChk P u (.inl t) && rdAll P us ts
  | _, _ => false
/-- A row's arguments as data. -/
theorem read_args {r : Reach} {b0 : Nat} : ∀ (us : List Ty) (ts : List TypeId) (vs : List Value) (ds : List (DataW H)) (ps : List MemPlace), rdAll P us ts = true → DataW.TrodAll enc P w 0 spare held ts vs ds ps →
    (∀ (j : Nat) t v, ts[j]? = some t → vs[j]? = some v → Value.okWide P w r b0 t v) →
    ∃ xs : List DV, xs.map DV.t = us ∧ CellsR w (fun _ => True) (fun _ => .none) (fun _ => .dead) (xs.map fun d => .v d.t d.x) vs ∧ WfDs xs
  | [], ts, vs, ds, ps, hc, h, hv => by
    cases ts with
    | cons t ts => cases hc
    | nil =>
      cases vs with
      | nil => exact ⟨[], rfl, rfl, trivial⟩
      | cons v vs => cases ds <;> simp [DataW.TrodAll] at h
  | u :: us, ts, vs, ds, ps, hc, h, hv => by
    cases ts with
    | nil => cases hc
    | cons t ts =>
      simp only [rdAll, Bool.and_eq_true] at hc
      obtain ⟨v, vs', d, ds', p, q, rfl, rfl, rfl, h1, h2⟩ := trodAll_cons h
      obtain ⟨fuel, hf⟩ := h1
      obtain ⟨z, k1, k2⟩ := (trod_TR u).1 fuel t _ _ hc.1 hf
      obtain ⟨xs, m1, m2, m3⟩ := read_args us ts vs' ds' q hc.2 h2 (fun j t' v' h3 h4 => hv (j + 1) t' v' (by simpa using h3) (by simpa using h4))
      refine ⟨⟨u, z⟩ :: xs, by simp [m1], ⟨v, vs', rfl, okWide_VR hc.1 (hv 0 t v rfl rfl) k1, m2⟩, k2, m3⟩
/-- The arguments read as they did. -/
theorem args_stay (hl : laidOutB P = true) {W W' : World} (hb : RowKit.Below W.heap.size W W') : ∀ (ts : List TypeId) (vs : List Value) (ds : List (DataW H)) (ps : List MemPlace), (ts.all fun t => P.readableRec t && decide (t < P.types.size)) = true →
    DataW.TrodAll enc P W 0 (fun _ => true) true ts vs ds ps → DataW.TrodAll enc P W' 0 (fun b => decide (b < W.heap.size)) true ts vs ds ps
  | [], vs, ds, ps, hc, h => by
    cases vs <;> cases ds <;> first | exact h | (simp [DataW.TrodAll] at h)
  | t :: ts, vs, ds, ps, hc, h => by
    simp only [List.all_cons, Bool.and_eq_true] at hc
    obtain ⟨v, vs', d, ds', p, q, rfl, rfl, rfl, h1, h2⟩ := trodAll_cons h
    refine trodAll_cons_mk (RowKit.Below.trod hl hc.1.1 (of_decide_eq_true hc.1.2) h1 hb ?_) (args_stay hl hb ts vs' ds' q hc.2 h2)
    obtain ⟨m, hm⟩ := h1
    exact DataW.trod_lt m _ _ _ hm
theorem trod_len : ∀ (ts : List TypeId) (vs : List Value) (ds : List (DataW H)) (ps : List MemPlace), DataW.TrodAll enc P w 0 spare held ts vs ds ps → ds.length = ts.length
  | [], vs, ds, ps, h => by
    cases vs <;> cases ds <;> first | rfl | (simp [DataW.TrodAll] at h)
  | t :: ts, vs, ds, ps, h => by
    obtain ⟨v, vs', d, ds', p, q, rfl, rfl, rfl, h1, h2⟩ := trodAll_cons h
    rw [List.length_cons, List.length_cons, trod_len ts vs' ds' q h2]
theorem below_of {W W' : World} (h : Fr (fun _ => False) W W') : RowKit.Below W.heap.size W W' := ⟨h.os, h.tape, h.output, h.size, fun k hk => h.block k hk (fun h => h)⟩
end
end Go.Sym

/- Functions of the library whose contracts lie on the shelf: at rows of integers. -/
namespace Go.Sym
open Go.Sort (Holds putRow putCells grow onCells mapBlock)
abbrev IT : Ty := .int .i64
section
variable {P : Program} {w w' : World} {X : Nat → Prop} {ρ : Nat → RV}
theorem LR_ints {ok : Nat → Prop} : ∀ {xs : List Int} {cs : List Value}, LR (TR w ok IT) xs cs ↔ cs = xs.map (Value.int .i64)
  | [], cs => Iff.rfl
  | x :: xs, cs => by
    constructor
    · rintro ⟨c1, c2, e, h1, h2⟩
      have h1 : c1 = [.int .i64 x] := h1
      rw [e, h1, LR_ints.1 h2]
      rfl
    · intro e
      exact ⟨[.int .i64 x], xs.map (Value.int .i64), by rw [e]; rfl, rfl, LR_ints.2 rfl⟩
theorem cells_seg {b off : Nat} {c : Array Value} {e : TypeId} {fr : Nat × Nat} {xs : List Int} (hb : w.heap[b]? = some (.cells c e fr)) (hs : (c.toList.drop off).take xs.length = xs.map (Value.int .i64)) : ∀ j, j < xs.length → w.cell? ⟨b, off + j, none⟩ = some (.int .i64 (xs.getD j 0)) := by
  intro j hj
  rw [cell_of_row w b (off + j) c e fr hb, ← Array.getElem?_toList, ← List.getElem?_drop]
  have : ((c.toList.drop off).take xs.length)[j]? = (xs.map (Value.int .i64))[j]? := by rw [hs]
  rw [List.getElem?_take, if_pos hj, List.getElem?_map, List.getElem?_eq_getElem hj] at this
  rw [this, List.getD_eq_getElem?_getD, List.getElem?_eq_getElem hj]
  rfl
theorem holds_seg {b off : Nat} {c : Array Value} {e : TypeId} {xs : List Int} (hb : w.heap[b]? = some (.cells c e (0, 0))) (hs : (c.toList.drop off).take xs.length = xs.map (Value.int .i64)) : Holds (Value.int .i64) w b off xs.toArray := by
  intro j hj
  have hj' : j < xs.length := by simpa using hj
  refine ⟨?_, by simp [World.frozen?, hb]⟩
  rw [cells_seg hb hs j hj']
  simp [List.getD_eq_getElem?_getD, hj']
theorem put_seg (c : Array Value) (off : Nat) (ys : List Int) (h : off + ys.length ≤ c.size) : ((putCells (Value.int .i64) off ys.toArray c).toList.drop off).take ys.length = ys.map (Value.int .i64) := by
  apply List.ext_getElem?
  intro j
  rw [List.getElem?_take]
  split
  · rename_i hj
    rw [List.getElem?_drop, Array.getElem?_toList]
    have hlt : off + j < c.size := by omega
    simp [putCells, hlt, hj]
  · rename_i hj
    rw [List.getElem?_map, List.getElem?_eq_none (by omega)]
    rfl
theorem put_size (c : Array Value) (off : Nat) (d : Array Int) : (putCells (Value.int .i64) off d c).size = c.size := by simp [putCells]
/-- The world behind the sort and its like. -/
theorem put_world {b off n : Nat} {d : Array Int} {os : Array Obj} {c : Array Value} {e : TypeId} {fr : Nat × Nat} (hb : w.heap[b]? = some (.cells c e fr)) (hw : w' = grow (putRow (Value.int .i64) (Sort.ahead w n) b off d) os) :
    w'.heap[b]? = some (.cells (putCells (Value.int .i64) off d c) e fr) ∧ Fr (· = b) w w' := by
  have hlt := lt_of_get hb
  subst hw
  refine ⟨?_, rfl, rfl, rfl, by simp [grow, putRow, mapBlock, Sort.ahead], fun k hk hne => ?_⟩
  · rw [Sort.heap_grow_old _ _ (by simpa [putRow, mapBlock, Sort.ahead] using hlt)]
    simp [putRow, mapBlock, Sort.ahead, Array.getElem?_modify, hb, onCells]
  · rw [Sort.heap_grow_old _ _ (by simpa [putRow, mapBlock, Sort.ahead] using hk)]
    have : ¬ b = k := fun e => hne e.symm
    simp [putRow, mapBlock, Sort.ahead, Array.getElem?_modify, this]
/-- One row of integers, changed in place. -/
theorem row_after {xs ys : List Int} {b off cap : Nat} (hh : HRel X ρ (getO [HO.arr IT xs]) w) (hρ : ρ 0 = .at b off cap) {c : Array Value} {e : TypeId} (hb : w'.heap[b]? = some (.cells c e (0, 0))) (hl : ys.length ≤ cap) (hc : off + cap ≤ c.size)
    (hs : (c.toList.drop off).take ys.length = ys.map (Value.int .i64)) (hf : Fr (· = b) w w') : HRel X ρ (getO [HO.arr IT ys]) w' := by
  have g0 : ∀ zs : List Int, getO [HO.arr IT zs] 0 = HO.arr IT zs := fun _ => rfl
  have g1 : ∀ (zs : List Int) r, getO [HO.arr IT zs] (r + 1) = .dead := fun zs r => by cases r <;> rfl
  refine ⟨fun r => ?_, fun r s hrs hr hs' => ?_, fun r hr b' o c' e' => ?_, fun b' hb' => Nat.lt_of_lt_of_le (hh.xlt b' hb') hf.size⟩
  · cases r with
    | zero =>
      rw [g0, hρ]
      exact ⟨c, e, (0, 0), hb, rfl, hl, by show off + cap * 1 ≤ _; omega, by
        show LR _ _ ((c.toList.drop off).take (ys.length * 1))
        rw [Nat.mul_one]
        exact LR_ints.2 hs⟩
    | succ r => rw [g1]; trivial
  · cases r with
    | zero =>
      cases s with
      | zero => exact absurd rfl hrs
      | succ s => rw [g1] at hs'; cases hs'
    | succ r => rw [g1] at hr; cases hr
  · cases r with
    | zero => exact hh.noX 0 rfl b' o c' e'
    | succ r => rw [g1] at hr; cases hr
theorem own_row {xs : List Int} (hh : HRel X ρ (getO [HO.arr IT xs]) w) {u : Value} (hs : SR w (okOf X ρ (getO [HO.arr IT xs])) ρ (getO [HO.arr IT xs]) (.own 0) u) :
    (xs = [] ∧ ρ 0 = .none ∧ u = .slice none 0 0) ∨ ∃ b off cap c e, ρ 0 = .at b off cap ∧ u = .slice (some ⟨b, off, none⟩) xs.length cap ∧ xs.length ≤ cap ∧ off + cap ≤ c.size ∧ w.heap[b]? = some (.cells c e (0, 0)) ∧ (c.toList.drop off).take xs.length = xs.map (Value.int .i64) := by
  have ho : AR w (okOf X ρ (getO [HO.arr IT xs])) (· = (0, 0)) IT xs (ρ 0) := hh.objs 0
  have hs' : (match ρ 0 with | .none => u = .slice none 0 0 | .at b off cap => u = .slice (some ⟨b, off, none⟩) xs.length cap) := hs
  cases hρ : ρ 0 with
  | none =>
    rw [hρ] at ho hs'
    exact .inl ⟨ho, rfl, hs'⟩
  | «at» b off cap =>
    rw [hρ] at ho hs'
    obtain ⟨c, e, fr, h1, h2, h3, h4, h5⟩ := ho
    rw [h2] at h1
    have h4 : off + cap * 1 ≤ c.size := h4
    have h5 : LR _ xs ((c.toList.drop off).take (xs.length * 1)) := h5
    rw [Nat.mul_one] at h5
    exact .inr ⟨b, off, cap, c, e, rfl, hs', h3, by omega, h1, LR_ints.1 h5⟩
/-- A function that changes one row of integers in place. -/
theorem ext_sort {T : List (Nat × List Value)} {c : Cfg} {g : Nat} {F : FnT c g} (f : List Int → List Int) (hps : (c.sig g).ps = ⟨[.own 0], [.arr IT]⟩) (hbk : (c.sig g).back = [0]) (hrs : (c.sig g).rs = ⟨[.own 0], [.arr IT]⟩)
    (hF : ∀ ds y, appl (c.sig g).ins F ds = some y → ∃ xs : List Int, ds = [⟨.slice IT, xs⟩] ∧ xs.length < 4611686018427387904 ∧ untup (c.sig g).rs.tys y = [⟨.slice IT, f xs⟩]) (hf : ∀ xs, (f xs).length = xs.length) (hen : Enters P (c.real g))
    (k1 : ∀ (b off cap : Nat) (xs : List Int) (w : World), Holds (Value.int .i64) w b off xs.toArray → b < w.heap.size → xs.length < 4611686018427387904 → Calls P (c.real g) #[.slice (some ⟨b, off, none⟩) xs.length cap] w fun e w' =>
      e = .returned (.tuple #[]) ∧ ∃ n os, w' = grow (putRow (Value.int .i64) (Sort.ahead w n) b off (f xs).toArray) os)
    (k2 : ∀ w, Calls P (c.real g) #[.slice none 0 0] w fun e w' => e = .returned (.tuple #[]) ∧ w' = w) : FnOk P T c g F := by
  intro ds y e w X ρ args hh hcell _
  obtain ⟨xs, rfl, hlt, hy⟩ := hF ds y e
  rw [hps] at hh hcell ⊢
  rw [hy, hrs, hbk]
  refine ⟨hen, ?_⟩
  have hh : HRel X ρ (getO [HO.arr IT xs]) w := hh
  obtain ⟨u, cs, rfl, hu, hcs⟩ := hcell
  have hcs : cs = [] := hcs
  subst hcs
  have hu : SR w (okOf X ρ (getO [HO.arr IT xs])) ρ (getO [HO.arr IT xs]) (.own 0) u := hu
  rcases own_row hh hu with ⟨rfl, hρ, rfl⟩ | ⟨b, off, cap, cc, et, hρ, rfl, h1, h2, h3, h4⟩
  · refine Calls.mono (k2 w) fun en w' he => ?_
    obtain ⟨rfl, rfl⟩ := he
    have h0 : f [] = [] := List.eq_nil_of_length_eq_zero (hf [])
    refine ⟨ρ, [], ?_, Fr.refl _ _, fun b hb => .inl ?_, ⟨.slice none 0 0, [], rfl, ?_, rfl⟩, rfl⟩
    · show HRel X ρ (getO [HO.arr IT (f [])]) w'
      rw [h0]
      exact hh
    · obtain ⟨r, o, cc, hl, e'⟩ := hb
      cases r with
      | zero => exact ⟨0, o, cc, rfl, e'⟩
      | succ r => cases r <;> cases hl
    · show SR w' _ ρ (getO [HO.arr IT (f [])]) (.own 0) _
      rw [h0]
      exact hu
  · refine Calls.mono (k1 b off cap xs w (holds_seg h3 h4) (lt_of_get h3) hlt) fun en w' he => ?_
    obtain ⟨rfl, n, os, hw⟩ := he
    obtain ⟨q1, q2⟩ := put_world h3 hw
    have hr := row_after (ys := f xs) hh hρ q1 (by rw [hf]; exact h1) (by rw [put_size]; exact h2) (put_seg cc off (f xs) (by rw [hf]; omega)) q2
    refine ⟨ρ, [], hr, q2.mono (fun k hk => ⟨0, off, cap, rfl, by rw [hk]; exact hρ⟩), fun b' hb => .inl ?_, ⟨_, [], rfl, ?_, rfl⟩, rfl⟩
    · obtain ⟨r, o, cc', hl, e'⟩ := hb
      cases r with
      | zero => exact ⟨0, o, cc', rfl, e'⟩
      | succ r => cases r <;> cases hl
    · show SR w' _ ρ (getO [HO.arr IT (f xs)]) (.own 0) _
      have := SlR_own (w := w') (ok := okOf X ρ (getO [HO.arr IT (f xs)])) (ρ := ρ) (H := getO [HO.arr IT (f xs)]) (n := 0) rfl hρ
      rw [hf] at this
      exact this
/-- slices.Compact at a row of the call's own. -/
theorem ext_compact {T : List (Nat × List Value)} {c : Cfg} {g : Nat} {F : FnT c g} (hps : (c.sig g).ps = ⟨[.own 0], [.arr IT]⟩) (hbk : (c.sig g).back = []) (hrs : (c.sig g).rs = ⟨[.own 0], [.arr IT]⟩)
    (hF : ∀ ds y, appl (c.sig g).ins F ds = some y → ∃ xs : List Int, ds = [⟨.slice IT, xs⟩] ∧ xs.length < 4611686018427387904 ∧ untup (c.sig g).rs.tys y = [⟨.slice IT, Lib.compact xs⟩]) (hen : Enters P (c.real g))
    (k1 : ∀ (b off cap : Nat) (xs : List Int) (w : World), Holds (Value.int .i64) w b off xs.toArray → xs.length ≤ 9223372036854775807 → xs.length ≤ cap → Calls P (c.real g) #[.slice (some ⟨b, off, none⟩) xs.length cap] w fun e w' =>
      e = .returned (.slice (some ⟨b, off, none⟩) (Lib.compact xs).length cap) ∧ ∃ q, w' = putRow (Value.int .i64) (Sort.ahead w q) b off (Lib.compact xs ++ List.replicate (xs.length - (Lib.compact xs).length) 0).toArray)
    (k2 : ∀ (a : Option Addr) (cap : Nat) (w : World), Calls P (c.real g) #[.slice a 0 cap] w fun e w' => e = .returned (.slice a 0 cap) ∧ w' = w) : FnOk P T c g F := by
  intro ds y e w X ρ args hh hcell _
  obtain ⟨xs, rfl, hlt, hy⟩ := hF ds y e
  rw [hps] at hh hcell ⊢
  rw [hy, hrs, hbk]
  refine ⟨hen, ?_⟩
  have hh : HRel X ρ (getO [HO.arr IT xs]) w := hh
  obtain ⟨u, cs, rfl, hu, hcs⟩ := hcell
  have hcs : cs = [] := hcs
  subst hcs
  have hu : SR w (okOf X ρ (getO [HO.arr IT xs])) ρ (getO [HO.arr IT xs]) (.own 0) u := hu
  have hcl := Lib.compact_length_le xs
  rcases own_row hh hu with ⟨rfl, hρ, rfl⟩ | ⟨b, off, cap, cc, et, hρ, rfl, h1, h2, h3, h4⟩
  · refine Calls.mono (k2 none 0 w) fun en w' he => ?_
    obtain ⟨rfl, rfl⟩ := he
    have h0 : Lib.compact ([] : List Int) = [] := List.eq_nil_of_length_eq_zero (by simpa using hcl)
    refine ⟨ρ, [.slice none 0 0], ?_, Fr.refl _ _, fun b hb => .inl ?_, ⟨.slice none 0 0, [], rfl, ?_, rfl⟩, rfl⟩
    · show HRel X ρ (getO [HO.arr IT (Lib.compact [])]) w'
      rw [h0]
      exact hh
    · obtain ⟨r, o, cc, hl, e'⟩ := hb
      cases r with
      | zero => exact ⟨0, o, cc, rfl, e'⟩
      | succ r => cases r <;> cases hl
    · show SR w' _ ρ (getO [HO.arr IT (Lib.compact [])]) (.own 0) _
      rw [h0]
      exact hu
  · refine Calls.mono (k1 b off cap xs w (holds_seg h3 h4) (by omega) h1) fun en w' he => ?_
    obtain ⟨rfl, n, hw⟩ := he
    have hw : w' = grow (putRow (Value.int .i64) (Sort.ahead w n) b off (Lib.compact xs ++ List.replicate (xs.length - (Lib.compact xs).length) 0).toArray) #[] := by rw [Sort.grow_empty]; exact hw
    obtain ⟨q1, q2⟩ := put_world h3 hw
    have hlen : (Lib.compact xs ++ List.replicate (xs.length - (Lib.compact xs).length) 0).length = xs.length := by
      rw [List.length_append, List.length_replicate]
      omega
    have hseg := put_seg cc off (Lib.compact xs ++ List.replicate (xs.length - (Lib.compact xs).length) 0) (by rw [hlen]; omega)
    have hseg2 : ((putCells (Value.int .i64) off (Lib.compact xs ++ List.replicate (xs.length - (Lib.compact xs).length) 0).toArray cc).toList.drop off).take (Lib.compact xs).length = (Lib.compact xs).map (Value.int .i64) := by
      have := congrArg (List.take (Lib.compact xs).length) hseg
      rw [List.take_take, hlen, Nat.min_eq_left hcl, List.map_append, List.take_left' (by simp)] at this
      exact this
    have hr := row_after (ys := Lib.compact xs) hh hρ q1 (by omega) (by rw [put_size]; exact h2) hseg2 q2
    refine ⟨ρ, [.slice (some ⟨b, off, none⟩) (Lib.compact xs).length cap], hr, q2.mono (fun k hk => ⟨0, off, cap, rfl, by rw [hk]; exact hρ⟩), fun b' hb => .inl ?_, ⟨_, [], rfl, ?_, rfl⟩, rfl⟩
    · obtain ⟨r, o, cc', hl, e'⟩ := hb
      cases r with
      | zero => exact ⟨0, o, cc', rfl, e'⟩
      | succ r => cases r <;> cases hl
    · exact SlR_own (w := w') (ok := okOf X ρ (getO [HO.arr IT (Lib.compact xs)])) (ρ := ρ) (H := getO [HO.arr IT (Lib.compact xs)]) (n := 0) rfl hρ
theorem data_row {ok : Nat → Prop} {xs : List Int} {u : Value} (h : VR w ok (.slice IT) xs u) : ∃ A cap, u = .slice A xs.length cap ∧ (xs = [] ∨ ∃ b off, A = some ⟨b, off, none⟩ ∧ b < w.heap.size ∧ ∀ j, j < xs.length → w.cell? ⟨b, off + j, none⟩ = some (.int .i64 (xs.getD j 0))) := by
  obtain ⟨A, cap, h1, _, h3⟩ := VR_slice.1 h
  refine ⟨A, cap, h1, h3.imp id ?_⟩
  rintro ⟨b, off, c, e, fr, rfl, _, hb, hl⟩
  have hl : LR _ xs ((c.toList.drop off).take (xs.length * 1)) := hl
  rw [Nat.mul_one] at hl
  exact ⟨b, off, rfl, lt_of_get hb, cells_seg hb (LR_ints.1 hl)⟩
theorem getO_nil (r : Nat) : getO [] r = .dead := by cases r <;> rfl
theorem noObj (hh : HRel X ρ (getO []) w) (hs : w.heap.size ≤ w'.heap.size) : HRel X ρ (getO []) w' := by
  refine ⟨fun r => ?_, fun r s _ hr => ?_, fun r hr => ?_, fun b hb => Nat.lt_of_lt_of_le (hh.xlt b hb) hs⟩
  · rw [getO_nil]; trivial
  · rw [getO_nil] at hr; cases hr
  · rw [getO_nil] at hr; cases hr
theorem noOwn {b : Nat} (h : ownB ρ (getO []) b) : False := by
  obtain ⟨r, o, c, hl, _⟩ := h
  rw [getO_nil] at hl
  cases hl
/-- slices.BinarySearch in a sorted list. -/
theorem ext_search {T : List (Nat × List Value)} {c : Cfg} {g : Nat} {F : FnT c g} (hps : (c.sig g).ps = ⟨[.v (.slice IT), .v IT], []⟩) (hbk : (c.sig g).back = []) (hrs : (c.sig g).rs = ⟨[.v IT, .v .bool], []⟩)
    (hF : ∀ ds y, appl (c.sig g).ins F ds = some y → ∃ (xs : List Int) (x : Int), ds = [⟨.slice IT, xs⟩, ⟨IT, x⟩] ∧ xs.length < 4611686018427387904 ∧ xs.Pairwise (· ≤ ·) ∧ untup (c.sig g).rs.tys y = [⟨IT, ((xs.countP (· < x) : Nat) : Int)⟩, ⟨.bool, xs.contains x⟩]) (hen : Enters P (c.real g))
    (k1 : ∀ (b off n cap : Nat) (xs : List Int) (x : Int) (w : World), n ≤ xs.length → n < 4611686018427387904 → (∀ j, j < xs.length → w.cell? ⟨b, off + j, none⟩ = some (.int .i64 (xs.getD j 0))) → (xs.take n).Pairwise (· ≤ ·) →
      Calls P (c.real g) #[.slice (some ⟨b, off, none⟩) n cap, .int .i64 x] w fun e w' => e = .returned (.tuple #[.int .i64 ((xs.take n).countP (· < x) : Nat), .bool ((xs.take n).contains x)]) ∧ ∃ q, w' = w.drewN q)
    (k2 : ∀ (a : Option Addr) (cap : Nat) (x : Int) (w : World), Calls P (c.real g) #[.slice a 0 cap, .int .i64 x] w fun e w' => e = .returned (.tuple #[.int .i64 0, .bool false]) ∧ w' = w) : FnOk P T c g F := by
  intro ds y e w X ρ args hh hcell _
  obtain ⟨xs, x, rfl, hlt, hsrt, hy⟩ := hF ds y e
  rw [hps] at hh hcell ⊢
  rw [hy, hrs, hbk]
  refine ⟨hen, ?_⟩
  obtain ⟨u, cs, rfl, hu, v, cs2, rfl, hv, hcs⟩ := hcell
  have hcs : cs2 = [] := hcs
  subst hcs
  have hv : v = .int .i64 x := (VR_int (w := w) (ok := okOf X ρ (getO []))).1 hv
  subst hv
  have hu : VR w (okOf X ρ (getO [])) (.slice IT) xs u := hu
  have hh : HRel X ρ (getO []) w := hh
  have fin : ∀ (w' : World), w'.heap = w.heap → w'.os = w.os → w'.tape = w.tape → w'.output = w.output → ∃ ρ' vs, HRel X ρ' (getO []) w' ∧ Fr (ownB ρ (getO [])) w w' ∧ (∀ b, ownB ρ' (getO []) b → ownB ρ (getO []) b ∨ w.heap.size ≤ b) ∧
      CellsR w' (okOf X ρ' (getO [])) ρ' (getO []) [.v IT ((xs.countP (· < x) : Nat) : Int), .v .bool (xs.contains x)] ([] ++ vs) ∧ ResOf (.tuple #[.int .i64 (xs.countP (· < x) : Nat), .bool (xs.contains x)]) vs := by
    intro w' h1 h2 h3 h4
    refine ⟨ρ, [.int .i64 (xs.countP (· < x) : Nat), .bool (xs.contains x)], noObj hh (by rw [h1]; exact Nat.le_refl _),
      ⟨h2, h3, h4, (by rw [h1]; exact Nat.le_refl _), fun k _ _ => (by rw [h1])⟩, fun b hb => (noOwn hb).elim, ⟨_, _, rfl, VR_int.2 rfl, _, _, rfl, VR_bool.2 rfl, rfl⟩, rfl⟩
  obtain ⟨A, cap, rfl, h3⟩ := data_row hu
  rcases h3 with rfl | ⟨b, off, rfl, hb, hcells⟩
  · refine Calls.mono (k2 A cap x w) fun en w' he => ?_
    obtain ⟨rfl, rfl⟩ := he
    exact fin w' rfl rfl rfl rfl
  · refine Calls.mono (k1 b off xs.length cap xs x w (Nat.le_refl _) hlt hcells (by rw [List.take_length]; exact hsrt)) fun en w' he => ?_
    obtain ⟨rfl, q, rfl⟩ := he
    rw [List.take_length]
    exact fin (w.drewN q) rfl rfl rfl rfl
/-- slices.Clone. -/
theorem ext_clone {T : List (Nat × List Value)} {c : Cfg} {g : Nat} {F : FnT c g} (hps : (c.sig g).ps = ⟨[.v (.slice IT)], []⟩) (hbk : (c.sig g).back = []) (hrs : (c.sig g).rs = ⟨[.v (.slice IT)], []⟩)
    (hF : ∀ ds y, appl (c.sig g).ins F ds = some y → ∃ (xs : List Int), ds = [⟨.slice IT, xs⟩] ∧ xs.length * 8 ≤ 140737488355328 ∧ untup (c.sig g).rs.tys y = [⟨.slice IT, xs⟩]) (hen : Enters P (c.real g)) {et : TypeId}
    (k1 : ∀ (b off n cap : Nat) (xs : List Int) (w : World), n ≤ xs.length → n * 8 ≤ 140737488355328 → (∀ j, j < xs.length → w.cell? ⟨b, off + j, none⟩ = some (.int .i64 (xs.getD j 0))) →
      Calls P (c.real g) #[.slice (some ⟨b, off, none⟩) n cap] w fun e w' => ∃ v', e = .returned v' ∧ w'.ownsRow w.heap.size et 1 v' n ((xs.take n).map (Value.int .i64)) ∧ v' ≠ .slice none 0 0 ∧ RowKit.Below w.heap.size w w')
    (k2 : ∀ (a : Option Addr) (cap : Nat) (w : World), Calls P (c.real g) #[.slice a 0 cap] w fun e w' => ∃ A c', e = .returned (.slice A 0 c') ∧ Fr (fun _ => False) w w') : FnOk P T c g F := by
  intro ds y e w X ρ args hh hcell _
  obtain ⟨xs, rfl, hlt, hy⟩ := hF ds y e
  rw [hps] at hh hcell ⊢
  rw [hy, hrs, hbk]
  refine ⟨hen, ?_⟩
  obtain ⟨u, cs, rfl, hu, hcs⟩ := hcell
  have hcs : cs = [] := hcs
  subst hcs
  have hu : VR w (okOf X ρ (getO [])) (.slice IT) xs u := hu
  have hh : HRel X ρ (getO []) w := hh
  have fin : ∀ (w' : World) (v : Value), Fr (fun _ => False) w w' → VR w' (okOf X ρ (getO [])) (.slice IT) xs v → ∃ ρ' vs, HRel X ρ' (getO []) w' ∧ Fr (ownB ρ (getO [])) w w' ∧ (∀ b, ownB ρ' (getO []) b → ownB ρ (getO []) b ∨ w.heap.size ≤ b) ∧
      CellsR w' (okOf X ρ' (getO [])) ρ' (getO []) [.v (.slice IT) xs] ([] ++ vs) ∧ ResOf v vs := by
    intro w' v h1 h2
    exact ⟨ρ, [v], noObj hh h1.size, h1.mono (fun _ h => h.elim), fun b hb => (noOwn hb).elim, ⟨_, _, rfl, h2, rfl⟩, rfl⟩
  obtain ⟨A, cap, rfl, h3⟩ := data_row hu
  rcases h3 with rfl | ⟨b, off, rfl, hb, hcells⟩
  · refine Calls.mono (k2 A cap w) fun en w' he => ?_
    obtain ⟨A', c', rfl, h4⟩ := he
    exact fin w' _ h4 (VR_slice.2 ⟨A', c', rfl, Nat.zero_le _, .inl rfl⟩)
  · refine Calls.mono (k1 b off xs.length cap xs w (Nat.le_refl _) hlt hcells) fun en w' he => ?_
    obtain ⟨v', rfl, h4, h5, h6⟩ := he
    rw [List.take_length] at h4
    refine fin w' v' ⟨h6.os, h6.tape, h6.output, h6.size, fun k hk _ => h6.block k hk⟩ ?_
    rcases h4.2 with ⟨rfl, h7⟩ | ⟨g', cap', cur, rfl, h7, h8, h9, h10, h11, h12⟩
    · exact absurd rfl h5
    · refine VR_slice.2 ⟨_, cap', rfl, h9, .inr ⟨g', 0, cur, _, _, rfl, ⟨fun hx => ?_, fun r hl => (by rw [getO_nil] at hl; cases hl)⟩, h8, ?_⟩⟩
      · have := hh.xlt g' hx
        omega
      · rw [List.drop_zero]
        exact LR_ints.2 h12
theorem clone_zero {et : TypeId} {v : Value} {n : Nat} (h : w'.ownsRow n et 1 v 0 []) : ∃ A c, v = .slice A 0 c := by
  rcases h.2 with ⟨rfl, _⟩ | ⟨g', cap', cur, rfl, _⟩
  · exact ⟨none, 0, rfl⟩
  · exact ⟨_, cap', rfl⟩
end
end Go.Sym

/- A table of forms, and lists that are sorted. -/
namespace Go.Sym
def pick {c : Cfg} (g : Nat) : List ((g' : Nat) × FnT c g') → Option (FnT c g)
  | [] => none
  | ⟨g', F⟩ :: l => if h : g' = g then some (h ▸ F) else pick g l
abbrev Form (c : Cfg) (g : Nat) : Type := ((g' : Nat) → FnT c g') → Nat → FnT c g
def pickF {c : Cfg} (g : Nat) : List ((g' : Nat) × Form c g') → Option (Form c g)
  | [] => none
  | ⟨g', F⟩ :: l => if h : g' = g then some (h ▸ F) else pickF g l
theorem pick_mem {c : Cfg} {g : Nat} {F : FnT c g} : ∀ {l : List ((g' : Nat) × FnT c g')}, pick g l = some F → ⟨g, F⟩ ∈ l
  | [], h => by cases h
  | ⟨g', F'⟩ :: l, h => by
    simp only [pick] at h
    split at h
    · rename_i e
      subst e
      cases h
      exact List.mem_cons_self ..
    · exact List.mem_cons_of_mem _ (pick_mem h)
theorem tyq_self : ∀ t, tyq t t = true := by
  intro t
  induction t with
  | int k => exact Nat.beq_refl _
  | bool => rfl
  | str => rfl
  | unit => rfl
  | slice t ih => exact ih
  | pair a b iha ihb => simp only [tyq, iha, ihb]
  | arr n t ih => simp only [tyq, Nat.beq_refl, ih]
  | map a b iha ihb => simp only [tyq, iha, ihb]
  | pt t ih => exact ih
  | clo f t ih => simp only [tyq, Nat.beq_refl, ih]
theorem appl_cons {t : Ty} {ts : List Ty} {R : Type} (F : Fn (t :: ts) (Option R)) (x : t.den) (vs : List DV) : appl (t :: ts) F (⟨t, x⟩ :: vs) = appl ts (F x) vs := dif_pos (tyq_self t)
theorem appl_uncons {t : Ty} {ts : List Ty} {R : Type} {F : Fn (t :: ts) (Option R)} {ds : List DV} {y : R} (h : appl (t :: ts) F ds = some y) : ∃ (x : t.den) (vs : List DV), ds = ⟨t, x⟩ :: vs ∧ appl ts (F x) vs = some y := by
  have ht := appl_tys _ _ _ _ h
  cases ds with
  | nil => cases ht
  | cons d ds =>
    obtain ⟨u, x⟩ := d
    injection ht with ht _
    have ht : u = t := ht
    subst ht
    exact ⟨x, ds, rfl, (appl_cons F x ds).symm.trans h⟩
theorem appl1 {t : Ty} {R : Type} {F : Fn [t] (Option R)} {ds : List DV} {y : R} (h : appl [t] F ds = some y) : ∃ x : t.den, ds = [⟨t, x⟩] ∧ F x = some y := by
  obtain ⟨x, vs, rfl, h2⟩ := appl_uncons h
  cases vs with
  | nil => exact ⟨x, rfl, h2⟩
  | cons v vs => cases h2
theorem appl2 {t u : Ty} {R : Type} {F : Fn [t, u] (Option R)} {ds : List DV} {y : R} (h : appl [t, u] F ds = some y) : ∃ (x : t.den) (z : u.den), ds = [⟨t, x⟩, ⟨u, z⟩] ∧ F x z = some y := by
  obtain ⟨x, vs, rfl, h2⟩ := appl_uncons h
  obtain ⟨z, rfl, h3⟩ := appl1 (F := F x) h2
  exact ⟨x, z, rfl, h3⟩
theorem appl_two {t1 t2 : Ty} {R : Type} {F : Fn [t1, t2] (Option R)} {a : t1.den} {b : t2.den} {y : R} (h : F a b = some y) : appl [t1, t2] F [⟨t1, a⟩, ⟨t2, b⟩] = some y := by
  rw [appl_cons, appl_cons]
  exact h
theorem appl_three {t1 t2 t3 : Ty} {R : Type} {F : Fn [t1, t2, t3] (Option R)} {a : t1.den} {b : t2.den} {c : t3.den} {y : R} (h : F a b c = some y) : appl [t1, t2, t3] F [⟨t1, a⟩, ⟨t2, b⟩, ⟨t3, c⟩] = some y := by
  rw [appl_cons, appl_cons, appl_cons]
  exact h
theorem appl_four {t1 t2 t3 t4 : Ty} {R : Type} {F : Fn [t1, t2, t3, t4] (Option R)} {a : t1.den} {b : t2.den} {c : t3.den} {d : t4.den} {y : R} (h : F a b c d = some y) : appl [t1, t2, t3, t4] F [⟨t1, a⟩, ⟨t2, b⟩, ⟨t3, c⟩, ⟨t4, d⟩] = some y := by
  rw [appl_cons, appl_cons, appl_cons, appl_cons]
  exact h
theorem ite_some {α : Type} {P : Prop} [Decidable P] {x y : α} (h : (if P then some x else none) = some y) : P ∧ x = y := by
  split at h
  · rename_i hp
    exact ⟨hp, Option.some.inj h⟩
  · cases h
theorem pickF_mem {c : Cfg} {g : Nat} {F : Form c g} : ∀ {l : List ((g' : Nat) × Form c g')}, pickF g l = some F → ⟨g, F⟩ ∈ l
  | [], h => by cases h
  | ⟨g', F'⟩ :: l, h => by
    simp only [pickF] at h
    split at h
    · rename_i e
      subst e
      cases h
      exact List.mem_cons_self ..
    · exact List.mem_cons_of_mem _ (pickF_mem h)
/-- The functions by their forms. -/
def tabF (P : Program) (c : Cfg) (ext : (g : Nat) → Option (FnT c g)) (tab : List ((g : Nat) × Form c g)) : Nat → (g : Nat) → FnT c g
  | 0, g => noFn c g
  | n + 1, g => match ext g with
    | some F => F
    | none => match pickF g tab with
      | some F => F (tabF P c ext tab n) n
      | none => sysF P c ext (n + 1) g
theorem tabF_eq {P : Program} {c : Cfg} {ext : (g : Nat) → Option (FnT c g)} {tab : List ((g : Nat) × Form c g)} (h : ∀ p ∈ tab, ∀ n, sysF P c ext (n + 1) p.1 = p.2 (sysF P c ext n) n) : ∀ n, tabF P c ext tab n = sysF P c ext n
  | 0 => rfl
  | n + 1 => by
    funext g
    have ih := tabF_eq h n
    unfold tabF
    cases he : ext g with
    | some F => rw [sysF_ext he]
    | none =>
      simp only
      cases hp : pickF g tab with
      | none => rfl
      | some F =>
        simp only
        rw [ih]
        exact (h ⟨g, F⟩ (pickF_mem hp) n).symm
/-! ### sorted lists -/
def ins (x : Int) : List Int → List Int
  | [] => [x]
  | y :: l => if x ≤ y then x :: y :: l else y :: ins x l
def isort : List Int → List Int
  | [] => []
  | x :: l => ins x (isort l)
theorem ins_perm (x : Int) : ∀ l, (ins x l).Perm (x :: l)
  | [] => List.Perm.refl _
  | y :: l => by
    simp only [ins]
    split
    · exact List.Perm.refl _
    · exact ((ins_perm x l).cons y).trans (List.Perm.swap x y l)
theorem isort_perm : ∀ l, (isort l).Perm l
  | [] => List.Perm.refl _
  | x :: l => (ins_perm x _).trans ((isort_perm l).cons x)
theorem ins_sorted (x : Int) : ∀ l, l.Pairwise (· ≤ ·) → (ins x l).Pairwise (· ≤ ·)
  | [], _ => List.pairwise_singleton _ _
  | y :: l, h => by
    obtain ⟨h1, h2⟩ := List.pairwise_cons.1 h
    simp only [ins]
    split
    · rename_i hxy
      exact List.pairwise_cons.2 ⟨fun z hz => by
        cases hz with
        | head => exact hxy
        | tail _ hz => exact Int.le_trans hxy (h1 z hz), h⟩
    · rename_i hxy
      refine List.pairwise_cons.2 ⟨fun z hz => ?_, ins_sorted x l h2⟩
      rcases List.mem_cons.1 ((ins_perm x l).mem_iff.1 hz) with rfl | hz
      · omega
      · exact h1 z hz
theorem isort_sorted : ∀ l, (isort l).Pairwise (· ≤ ·)
  | [] => List.Pairwise.nil
  | x :: l => ins_sorted x _ (isort_sorted l)
theorem sorted_unique : ∀ {l r : List Int}, l.Perm r → l.Pairwise (· ≤ ·) → r.Pairwise (· ≤ ·) → l = r
  | [], r, h, _, _ => (List.Perm.nil_eq h)
  | x :: l, [], h, _, _ => absurd h.length_eq (by simp)
  | x :: l, y :: r, h, h1, h2 => by
    obtain ⟨a1, a2⟩ := List.pairwise_cons.1 h1
    obtain ⟨b1, b2⟩ := List.pairwise_cons.1 h2
    have hxy : x = y := by
      have hx : x ∈ y :: r := h.mem_iff.1 (List.mem_cons_self ..)
      have hy : y ∈ x :: l := h.mem_iff.2 (List.mem_cons_self ..)
      rcases List.mem_cons.1 hx with e | hx
      · exact e
      · rcases List.mem_cons.1 hy with e | hy
        · exact e.symm
        · have := a1 y hy
          have := b1 x hx
          omega
    subst hxy
    rw [sorted_unique (List.Perm.cons_inv h) a2 b2]
theorem isort_eq (l : List Int) : l.mergeSort (fun x y => decide (x ≤ y)) = isort l := by
  refine sorted_unique ((List.mergeSort_perm l _).trans (isort_perm l).symm) ?_ (isort_sorted l)
  have := List.pairwise_mergeSort (le := fun (x y : Int) => decide (x ≤ y)) (fun a b c h1 h2 => by simp only [decide_eq_true_eq] at *; omega) (fun a b => by simp only [Bool.or_eq_true, decide_eq_true_eq]; omega) l
  exact this.imp (fun h => of_decide_eq_true h)
/-- Runs of equal elements, each once. -/
def dedup : List Int → List Int
  | [] => []
  | [x] => [x]
  | x :: y :: l => if x = y then dedup (y :: l) else x :: dedup (y :: l)
end Go.Sym
