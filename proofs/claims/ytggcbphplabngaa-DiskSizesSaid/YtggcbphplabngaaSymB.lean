/- The symbolic evaluator: operations are sound. -/
import Derived.Test.YtggcbphplabngaaSymA
import Derived.Laws.CopyRow
import Derived.Laws.AppendOwn
import Derived.Laws.MakeOwn
import Derived.Laws.Tables
import Derived.Great.BuildSlice
import Derived.Laws.Append
import Derived.Lib.ConvBytes
set_option linter.unusedVariables false
/- The operations one by one, III: slices of rows and strings, lengths, conversions, extremes. -/
namespace Go.Sym
section
variable {P : Program} {C : Ctx} {A : Nat → Prop} {ρ : Nat → RV} {σ : St} {a : Act} {w : World} {α : Type} {k : Slot → Ups → Option α} {out : α} {Hr : Nat → HO} {c : Cfg} {fr : Nat}
theorem evIndex_sound (hc : CfgOk P c) (h : Rel C A ρ σ a w) {t : Nat} {x y : SV} {u v : Value} (hx : SR w (okOf C.X ρ (getO σ.heap)) ρ (getO σ.heap) x u) (hy : SR w (okOf C.X ρ (getO σ.heap)) ρ (getO σ.heap) y v)
    (e : evIndex c Alg.real k t x y = some out) : Law P C A ρ σ a w Hr fr k out (Instr.index t u v) := by
  unfold evIndex at e
  split at e
  · rename_i s i e1 hl
    obtain ⟨kd, rfl⟩ := intOf_SR e1 hy
    have hu := VR_str.1 hx
    subst hu
    simp only [Alg.real] at e
    split at e
    · rename_i h0
      have h0 := of_decide_eq_true h0
      split at e
      · rename_i hn
        have hn := of_decide_eq_true hn
        have hnat : i.toNat < s.size := by omega
        refine Law.datum h e ?_ (VR_int.2 rfl)
        have ht := (tyTop_ok (hc.ty _ _ hl)).str rfl
        have hget : s[i.toNat]? = some (s.data.toList.getD i.toNat 0) := by
          have h1 : s[i.toNat]? = some s[i.toNat] := getElem?_pos s i.toNat hnat
          rw [h1]
          congr 1
          have h2 : i.toNat < s.data.toList.length := by simpa using hnat
          rw [List.getD_eq_getElem?_getD, List.getElem?_eq_getElem h2]
          rfl
        simp only [Instr.index, asIntOf, Sem.run_bind, Sem.run_pure, Result.andThen_ok, run_underlying ht, h0, if_true, hget]
      · cases e
    · cases e
  · cases e
/-- The bound of a slicing: told, or left out. -/
def Bound (o : Option Value) (n d : Int) : Prop := (o = none ∧ n = d) ∨ ∃ k, o = some (.int k n)
theorem run_sliceBounds {isSlice : Bool} {len cap : Nat} {lo hi : Option Value} {l m : Int} (h1 : Bound lo l 0) (h2 : Bound hi m (len : Int)) (hl : 0 ≤ l) (hm : l ≤ m) (hn : m ≤ (len : Int)) (hcap : len ≤ cap) :
    (Instr.sliceBounds isSlice len cap lo hi none).run P w = .ok (l.toNat, m.toNat, cap) w := by
  have b1 : ∀ (k : IntKind) (y : Nat) (n : Int) (cd : BoundsCode), 0 ≤ n → n ≤ (y : Int) → (Instr.sliceBound (.int k n) y cd).run P w = .ok n.toNat w := fun k y n cd g1 g2 => by
    simp only [Instr.sliceBound, asIntOf, Sem.run_bind, Sem.run_pure, Result.andThen_ok, g1, g2, and_self, if_true]
  unfold Instr.sliceBounds
  rcases h2 with ⟨rfl, rfl⟩ | ⟨k2, rfl⟩
  · rcases h1 with ⟨rfl, rfl⟩ | ⟨k1, rfl⟩
    · simp only [Sem.run_bind, Sem.run_pure, Result.andThen_ok]
      simp
    · simp only [Sem.run_bind, Sem.run_pure, Result.andThen_ok, Option.isSome_none, Bool.false_eq_true, if_false]
      rw [b1 k1 len l _ hl hm]
      simp
  · rcases h1 with ⟨rfl, rfl⟩ | ⟨k1, rfl⟩
    · simp only [Sem.run_bind, Sem.run_pure, Result.andThen_ok]
      rw [b1 k2 cap m _ (by omega) (by omega)]
      simp
    · simp only [Sem.run_bind, Sem.run_pure, Result.andThen_ok, Option.isSome_none, Bool.false_eq_true, if_false]
      rw [b1 k2 cap m _ (by omega) (by omega)]
      simp only [Result.andThen_ok]
      rw [b1 k1 m.toNat l _ hl (by omega)]
      simp
theorem run_slice_row {t et : TypeId} (h1 : P.underlying t = some (.slice et)) {i : TypeInfo} (h2 : P.info? et = some i) {A' : Option Addr} {len cap : Nat} {lo hi : Option Value} {l m : Int} (b1 : Bound lo l 0) (b2 : Bound hi m (len : Int))
    (hl : 0 ≤ l) (hm : l ≤ m) (hn : m ≤ (len : Int)) (hcap : len ≤ cap) :
    (Instr.sliceAt t (.slice A' len cap) lo hi none).run P w = .ok (.slice (if cap = l.toNat then A' else A'.map (·.add (l.toNat * i.size))) (m.toNat - l.toNat) (cap - l.toNat)) w := by
  simp only [Instr.sliceAt, Instr.slice, Sem.run_bind, run_underlying h1, Result.andThen_ok, run_sliceBounds b1 b2 hl hm hn hcap, run_sizeOf h2, Sem.run_pure]
theorem run_slice_str {t : TypeId} (h1 : P.underlying t = some .string) {s : ByteArray} {lo hi : Option Value} {l m : Int} (b1 : Bound lo l 0) (b2 : Bound hi m (s.size : Int))
    (hl : 0 ≤ l) (hm : l ≤ m) (hn : m ≤ (s.size : Int)) :
    (Instr.sliceAt t (.string s) lo hi none).run P w = .ok (.string (s.extract l.toNat m.toNat)) w := by
  simp only [Instr.sliceAt, Instr.slice, Sem.run_bind, run_underlying h1, Result.andThen_ok, run_sliceBounds b1 b2 hl hm hn (Nat.le_refl _), Sem.run_pure, Option.isSome_none, Bool.false_eq_true, if_false]
theorem slFit_row {H : Nat → HO} {t : Nat} {x : SV} (e : slFit c H t x = true) : match x with
    | .v (.slice q) _ => look c.ty t = some (.slice q)
    | .v .str _ => look c.ty t = some .str
    | .own r | .sub r _ _ => ∀ q xs, (H r = .arr q xs ∨ H r = .froz q xs) → look c.ty t = some (.slice q)
    | .nil => ∃ q, look c.ty t = some (.slice q)
    | _ => True := by
  unfold slFit at e
  split at e
  · rename_i g1 _
    show look c.ty t = _
    rw [g1, tyq_eq e]
  · rename_i q0 r g1 _
    intro q xs hr
    have e' : tyq q q0 = true := by rcases hr with hr | hr <;> (rw [hr] at e; exact e)
    rw [g1, tyq_eq e']
  · rename_i q0 r _ _ g1 _
    intro q xs hr
    have e' : tyq q q0 = true := by rcases hr with hr | hr <;> (rw [hr] at e; exact e)
    rw [g1, tyq_eq e']
  · rename_i g1 _
    exact ⟨_, g1⟩
  · rename_i g1 _
    exact g1
  · cases e
theorem SR_sub (h : Rel C A ρ σ a w) {r : Nat} {t : Ty} {xs : List t.den} (hr : getO σ.heap r = .arr t xs ∨ getO σ.heap r = .froz t xs) (o n : Nat) (hon : o + n ≤ xs.length) {A' : Option Addr} {cap : Nat} (hc : n ≤ cap)
    (hat : ∀ b off c, ρ r = .at b off c → n = 0 ∨ A' = some ⟨b, off + o * t.sz, none⟩) : SR w (okOf C.X ρ (getO σ.heap)) ρ (getO σ.heap) (.sub r o n) (.slice A' n cap) := by
  have key : o + n ≤ xs.length ∧ ∃ A'' cap', Value.slice A' n cap = .slice A'' n cap' ∧ n ≤ cap' ∧ (match ρ r with
      | .none => True
      | .at b off _ => n = 0 ∨ A'' = some ⟨b, off + o * t.sz, none⟩) := by
    refine ⟨hon, A', cap, rfl, hc, ?_⟩
    cases hρ : ρ r with
    | none => trivial
    | «at» b off c => exact hat b off c hρ
  rcases hr with hr | hr <;> (simp only [SR, hr]; exact key)
theorem evSlice_sound (hc : CfgOk P c) (h : Rel C A ρ σ a w) (hH : ∀ r, Hr r ≠ .dead → getO σ.heap r = Hr r) {t : Nat} {x : SV} {u : Value} (hx : SR w (okOf C.X ρ (getO σ.heap)) ρ (getO σ.heap) x u)
    (hin : RefIn A x) {lo hi : Option Value} {l m : Int} (b1 : Bound lo l 0) (b2 : ∀ n, lenOf Hr x = some n → Bound hi m (n : Int)) (e : evSlice c Alg.real Hr k t x l m = some out) : Law P C A ρ σ a w Hr fr k out (Instr.sliceAt t u lo hi none) := by
  unfold evSlice at e
  split at e
  · rename_i n e2 e3
    simp only [Alg.real] at e
    split at e
    · rename_i h0
      have h0 := of_decide_eq_true h0
      split at e
      · rename_i h1
        have h1 := of_decide_eq_true h1
        split at e
        · rename_i hn
          have hn := of_decide_eq_true hn
          have b2 := b2 n e2
          have fit := slFit_row e3
          -- a row of the state
          have row : ∀ (r : Nat) (q : Ty) (xs : List q.den), (getO σ.heap r = .arr q xs ∨ getO σ.heap r = .froz q xs) → A r → look c.ty t = some (.slice q) → ∀ (o : Nat) (A' : Option Addr) (cap : Nat),
              u = .slice A' n cap → n ≤ cap → o + n ≤ xs.length → (∀ b off c, ρ r = .at b off c → n = 0 ∨ A' = some ⟨b, off + o * q.sz, none⟩) → k (.one (.sub r (o + l.toNat) (m.toNat - l.toNat))) [] = some out → Law P C A ρ σ a w Hr fr k out (Instr.sliceAt t u lo hi none) := by
            intro r q xs hr hA hl o A' cap hu hcap hon hat e
            obtain ⟨et, g1, g2, _⟩ := tyChk_slice (hc.ty _ _ hl)
            obtain ⟨d, inf, d1, d2, d3, d4⟩ := g2.row
            subst hu
            refine Law.pure h e (run_slice_row g1 d2 b1 b2 h0 h1 hn hcap) ?_ hA
            refine SR_sub h hr _ _ (by omega) (by omega) (fun b off cp hρ => ?_)
            rcases hat b off cp hρ with h4 | h4
            · left; omega
            · by_cases hcl : cap = l.toNat
              · left; omega
              · right
                rw [if_neg hcl, h4, d3]
                simp only [Option.map_some, Addr.add_mid, Nat.add_mul, Nat.add_assoc]
          split at e
          · rename_i q xs
            cases e2
            have hl : look c.ty t = some (.slice q) := fit
            obtain ⟨et, g1, g2, _⟩ := tyChk_slice (hc.ty _ _ hl)
            obtain ⟨d, inf, d1, d2, d3, d4⟩ := g2.row
            obtain ⟨A', cap, hu, hcap, hs⟩ := VR_slice.1 hx
            subst hu
            refine Law.datum h e (run_slice_row g1 d2 b1 b2 h0 h1 hn hcap) (VR_slice.2 ?_)
            have hlen : List.length ((List.take m.toNat xs).drop l.toNat) = m.toNat - l.toNat := by
              rw [List.length_drop, List.length_take]
              omega
            refine ⟨_, _, by rw [hlen], by rw [hlen]; omega, ?_⟩
            rcases hs with hs | ⟨b, off, cs, et', f, s1, s2, s3, s4⟩
            · left; rw [hs]; simp
            · by_cases hcl : cap = l.toNat
              · left
                exact List.eq_nil_of_length_eq_zero (by rw [hlen]; omega)
              · right
                rw [if_neg hcl, s1, d3]
                refine ⟨b, off + l.toNat * q.sz, cs, et', f, ?_, s2, s3, ?_⟩
                · simp only [Option.map_some, Addr.add_mid]
                · have k6 := (s4.take (fun _ _ k => TR.len k) m.toNat).drop (fun _ _ k => TR.len k) l.toNat
                  rw [hlen]
                  refine (congrArg (LR (TR w _ q) _) ?_).mp k6
                  rw [List.take_take, Nat.min_eq_left (Nat.mul_le_mul_right _ (by omega)), List.drop_take, List.drop_drop, Nat.sub_mul]
          · rename_i s
            cases e2
            have hl : look c.ty t = some .str := fit
            have hu := VR_str.1 hx
            subst hu
            exact Law.datum h e (run_slice_str ((tyTop_ok (hc.ty _ _ hl)).str rfl) b1 b2 h0 h1 hn) (VR_str.2 rfl)
          · rename_i r
            unfold lenOf at e2
            simp only at e2
            split at e2
            · rename_i q xs hr
              cases e2
              have hr' := (hH r (by rw [hr]; intro h; cases h)).trans hr
              have hl : look c.ty t = some (.slice q) := fit q xs (.inl hr)
              have e : k (.one (.sub r (0 + l.toNat) (m.toNat - l.toNat))) [] = some out := by rw [Nat.zero_add]; exact e
              rcases row_slice h (.inl hr') hx with ⟨h5, h6, h7⟩ | ⟨b, off, cap, h5, h6, h7⟩
              · exact row r q xs (.inl hr') hin hl 0 none 0 (by rw [h7, h5]; rfl) (by rw [h5]; exact Nat.le_refl _) (by omega) (fun b off c' e' => by rw [h6] at e'; cases e') e
              · exact row r q xs (.inl hr') hin hl 0 _ cap h6 h7 (by omega) (fun b' off' c' e' => .inr (by rw [h5] at e'; cases e'; simp)) e
            · rename_i q xs hr
              cases e2
              have hr' := (hH r (by rw [hr]; intro h; cases h)).trans hr
              have hl : look c.ty t = some (.slice q) := fit q xs (.inr hr)
              have e : k (.one (.sub r (0 + l.toNat) (m.toNat - l.toNat))) [] = some out := by rw [Nat.zero_add]; exact e
              rcases row_slice h (.inr hr') hx with ⟨h5, h6, h7⟩ | ⟨b, off, cap, h5, h6, h7⟩
              · exact row r q xs (.inr hr') hin hl 0 none 0 (by rw [h7, h5]; rfl) (by rw [h5]; exact Nat.le_refl _) (by omega) (fun b off c' e' => by rw [h6] at e'; cases e') e
              · exact row r q xs (.inr hr') hin hl 0 _ cap h6 h7 (by omega) (fun b' off' c' e' => .inr (by rw [h5] at e'; cases e'; simp)) e
            · cases e2
          · rename_i r o m'
            unfold lenOf at e2
            simp only at e2
            split at e2
            · rename_i q xs hr
              cases e2
              have hr' := (hH r (by rw [hr]; intro h; cases h)).trans hr
              have hl : look c.ty t = some (.slice q) := fit q xs (.inl hr)
              simp only [SR, hr'] at hx
              obtain ⟨k1, A', cap, k2, k4, k3⟩ := hx
              exact row r q xs (.inl hr') hin hl o A' cap k2 k4 k1 (fun b' off' c' e' => by rw [e'] at k3; exact k3) e
            · rename_i q xs hr
              cases e2
              have hr' := (hH r (by rw [hr]; intro h; cases h)).trans hr
              have hl : look c.ty t = some (.slice q) := fit q xs (.inr hr)
              simp only [SR, hr'] at hx
              obtain ⟨k1, A', cap, k2, k4, k3⟩ := hx
              exact row r q xs (.inr hr') hin hl o A' cap k2 k4 k1 (fun b' off' c' e' => by rw [e'] at k3; exact k3) e
            · cases e2
          · cases e2
            obtain ⟨q, hl⟩ := fit
            obtain ⟨et, g1, g2, _⟩ := tyChk_slice (hc.ty _ _ hl)
            obtain ⟨d, inf, d1, d2, d3, d4⟩ := g2.row
            have hu : u = .slice none 0 0 := hx
            subst hu
            refine Law.pure h e (run_slice_row g1 d2 b1 b2 h0 h1 hn (Nat.le_refl _)) ?_ trivial
            have hl0 : l = 0 := by
              have : ((0 : Nat) : Int) = 0 := rfl
              omega
            have hm0 : m = 0 := by
              have : ((0 : Nat) : Int) = 0 := rfl
              omega
            subst hl0 hm0
            rfl
          · cases e
        · cases e
      · cases e
    · cases e
  · cases e
/-! ### conversions -/
theorem LR_bytes {ok : Nat → Prop} : ∀ (xs : List Int) (cs : List Value), LR (TR w ok (.int .u8)) xs cs → cs = xs.map (Value.int .u8)
  | [], cs, h => h
  | x :: xs, cs, ⟨c1, c2, e, h1, h2⟩ => by
    rw [e, show c1 = [Value.int .u8 x] from h1, LR_bytes xs c2 h2]
    rfl
theorem pushes (ns : List Int) : ∀ (s : ByteArray), ns.foldl (fun r (n : Int) => r.push (UInt8.ofNat n.toNat)) s = ⟨s.data ++ (ns.map fun n => UInt8.ofNat n.toNat).toArray⟩ := by
  induction ns with
  | nil => intro s; obtain ⟨d⟩ := s; simp
  | cons n ns ih =>
    intro s
    obtain ⟨d⟩ := s
    rw [List.foldl_cons, ih]
    show ByteArray.mk (d.push _ ++ _) = _
    congr 1
    simp
theorem run_bytes_str {s d et : TypeId} (hs : P.underlying s = some (.slice et)) (he : P.underlying et = some (.int .u8)) (hd : P.underlying d = some .string) {ok : Nat → Prop} {xs : List Int} {u : Value} (hu : VR w ok (.slice (.int .u8)) xs u) :
    (convert s d u).run P w = .ok (.string ⟨(xs.map fun n => UInt8.ofNat n.toNat).toArray⟩) w := by
  obtain ⟨A', cap, h1, _, h2⟩ := VR_slice.1 hu
  subst h1
  rw [run_convert_bytes_string w s d et A' _ cap hs he hd]
  rcases h2 with h2 | ⟨b, off, cs, et', f, s1, s2, s3, s4⟩
  · subst h2
    cases A' with
    | none => rfl
    | some A' =>
      show (Conv.bytesToString (.slice (some A') 0 cap)).run P w = _
      rw [run_bytesToString w A' 0 cap [] rfl]
      rfl
  · subst s1
    have hb := LR_bytes _ _ s4
    have hl : (loadCells ⟨b, off, none⟩ xs.length).run P w = .ok (xs.map (Value.int .u8)).toArray w := by
      have := run_loadCells_list (P := P) w ⟨b, off, none⟩ (xs.map (Value.int .u8)) (fun j v hv => by
        rw [Addr.add_mid]
        exact cells_at s3 (xs.length * Ty.sz (.int .u8)) j v (by rw [hb]; exact hv))
      rw [List.length_map] at this
      exact this
    rw [run_bytesToString w _ _ cap xs hl, pushes]
    rw [show ByteArray.empty.data = #[] from rfl, Array.empty_append]
/-- The row behind a slice, as a datum. -/
theorem rowOf_VR (h : Rel C A ρ σ a w) (hH : ∀ r, Hr r ≠ .dead → getO σ.heap r = Hr r) {x : SV} {d : DV} {u : Value} (e : rowOf Hr x = some d) (hx : SR w (okOf C.X ρ (getO σ.heap)) ρ (getO σ.heap) x u) :
    ∃ (t : Ty) (xs : List t.den), d = ⟨.slice t, xs⟩ ∧ VR w (fun _ => True) (.slice t) xs u := by
  have own : ∀ (r : Nat) (q : Ty) (xs : List q.den), (getO σ.heap r = .arr q xs ∨ getO σ.heap r = .froz q xs) → SR w (okOf C.X ρ (getO σ.heap)) ρ (getO σ.heap) (.own r) u → VR w (fun _ => True) (.slice q) xs u := by
    intro r q xs hr hs
    rcases row_slice h hr hs with ⟨h5, h6, h7⟩ | ⟨b, off, cap, h5, h6, h7⟩
    · rw [h5, h7]
      exact VR.of_cells rfl ⟨none, 0, rfl, Nat.zero_le _, .inl rfl⟩
    · rcases RowFacts h hr with h8 | h8
      · rw [h6, h8]
        exact VR.of_cells rfl ⟨_, cap, rfl, Nat.zero_le _, .inl rfl⟩
      · rw [h6, h5] at *
        obtain ⟨cs, e, f, k1, _, k2, k3, k4⟩ := h8
        exact VR_slice.2 ⟨_, cap, rfl, h7, .inr ⟨b, off, cs, e, f, rfl, trivial, k1, k4.mono (fun _ _ k => TR.mono (fun _ _ _ => ⟨rfl, trivial⟩) k)⟩⟩
  have sub : ∀ (r o n : Nat) (q : Ty) (xs : List q.den), (getO σ.heap r = .arr q xs ∨ getO σ.heap r = .froz q xs) → SR w (okOf C.X ρ (getO σ.heap)) ρ (getO σ.heap) (.sub r o n) u → VR w (fun _ => True) (.slice q) ((xs.drop o).take n) u := by
    intro r o n q xs hr hs
    have hs' : o + n ≤ xs.length ∧ ∃ A cap, u = .slice A n cap ∧ n ≤ cap ∧ (match ρ r with
      | .none => True
      | .at b off _ => n = 0 ∨ A = some ⟨b, off + o * q.sz, none⟩) := by
      rcases hr with hr | hr <;> (simp only [SR, hr] at hs; exact hs)
    obtain ⟨h1, A', cap, h2, h3, h4⟩ := hs'
    rw [h2]
    have hlen : ((xs.drop o).take n).length = n := by
      rw [List.length_take, List.length_drop]
      omega
    rcases RowFacts h hr with h8 | h8
    · have hn : n = 0 := by rw [h8] at h1; simp at h1; omega
      subst hn
      rw [List.take_zero]
      exact VR.of_cells rfl ⟨A', cap, rfl, Nat.zero_le _, .inl rfl⟩
    · have h9 : AR w (fun _ => True) (fun _ => True) q xs (ρ r) := by
        cases hρ : ρ r with
        | none => rw [hρ] at h8; exact h8
        | «at» b off c =>
          rw [hρ] at h8
          obtain ⟨cs, e, f, k1, k0, k2, k3, k4⟩ := h8
          exact ⟨cs, e, f, k1, k0, k2, k3, k4.mono (fun _ _ k => TR.mono (fun _ _ _ => ⟨rfl, trivial⟩) k)⟩
      exact AR.datum h9 (fun _ _ _ _ => trivial) n o h1 h3 (fun b off c e' => by rw [e'] at h4; exact h4)
  unfold rowOf at e
  split at e
  · cases e
    exact ⟨_, _, rfl, VR.mono (fun _ _ _ => ⟨rfl, trivial⟩) hx⟩
  · rename_i r
    split at e
    · rename_i q xs hr
      cases e
      have hr' := (hH r (by rw [hr]; intro h; cases h)).trans hr
      exact ⟨q, xs, rfl, own r q xs (.inl hr') hx⟩
    · rename_i q xs hr
      cases e
      have hr' := (hH r (by rw [hr]; intro h; cases h)).trans hr
      exact ⟨q, xs, rfl, own r q xs (.inr hr') hx⟩
    · cases e
  · rename_i r o n
    split at e
    · rename_i q xs hr
      cases e
      have hr' := (hH r (by rw [hr]; intro h; cases h)).trans hr
      exact ⟨q, _, rfl, sub r o n q xs (.inl hr') hx⟩
    · rename_i q xs hr
      cases e
      have hr' := (hH r (by rw [hr]; intro h; cases h)).trans hr
      exact ⟨q, _, rfl, sub r o n q xs (.inr hr') hx⟩
    · cases e
  · cases e
theorem evConv_sound (hc : CfgOk P c) (h : Rel C A ρ σ a w) (hH : ∀ r, Hr r ≠ .dead → getO σ.heap r = Hr r) {s d : Nat} {x : SV} {u : Value} (hx : SR w (okOf C.X ρ (getO σ.heap)) ρ (getO σ.heap) x u) (e : evConv c Hr k s d x = some out) : Law P C A ρ σ a w Hr fr k out (convert s d u) := by
  unfold evConv at e
  split at e
  · rename_i i j e1 e2
    split at e
    · have hu := VR_int.1 hx
      subst hu
      refine Law.datum h e ?_ (VR_int.2 rfl)
      unfold convert
      rw [Sem.run_bind, run_underlying ((tyTop_ok (hc.ty _ _ e1)).int _ rfl), Result.andThen_ok, Sem.run_bind, run_underlying ((tyTop_ok (hc.ty _ _ e2)).int _ rfl)]
      rfl
    · cases e
  · rename_i e1 e2
    split at e
    · have hu := VR_str.1 hx
      subst hu
      refine Law.datum h e ?_ (VR_str.2 rfl)
      unfold convert
      rw [Sem.run_bind, run_underlying ((tyTop_ok (hc.ty _ _ e1)).str rfl), Result.andThen_ok, Sem.run_bind, run_underlying ((tyTop_ok (hc.ty _ _ e2)).str rfl)]
      rfl
    · cases e
  · rename_i e1 e2
    obtain ⟨et, g1, g2, _⟩ := tyChk_slice (hc.ty _ _ e1)
    have g3 := g2.int _ rfl
    have g4 := (tyTop_ok (hc.ty _ _ e2)).str rfl
    split at e
    · have hu : u = .slice none 0 0 := hx
      refine Law.datum h e (run_bytes_str g1 g3 g4 (ok := fun _ => True) (xs := []) ?_) (VR_str.2 rfl)
      rw [hu]
      exact VR.of_cells rfl ⟨none, 0, rfl, Nat.zero_le _, .inl rfl⟩
    · split at e
      · rename_i xs hr
        obtain ⟨t', xs', h1, h2⟩ := rowOf_VR h hH hr hx
        cases h1
        exact Law.datum h e (run_bytes_str g1 g3 g4 h2) (VR_str.2 rfl)
      · cases e
  · cases e
theorem getObj_map {r : Nat} {es : Array MapEntry} {clock : Nat} (hb : w.heap[r]? = some (.map es clock)) : (getObj r).run P w = .ok (.map es clock) w := by
  simp [getObj, Sem.run, hb]
theorem evLen_sound (hc : CfgOk P c) (h : Rel C A ρ σ a w) (hH : ∀ r, Hr r ≠ .dead → getO σ.heap r = Hr r) {t : Nat} {ts : Array TypeId} {ty : TypeId} {x : SV} {u : Value} (ht : ts[0]? = some t) (hx : SR w (okOf C.X ρ (getO σ.heap)) ρ (getO σ.heap) x u)
    (e : evLen c Hr k t x = some out) : Law P C A ρ σ a w Hr fr k out (Builtin.len_ ts ty #[u]) := by
  unfold evLen at e
  split at e
  · rename_i kt vt hl
    split at e
    · rename_i r
      split at e
      · rename_i kt' vt' m hr
        have hr' := (hH r (by rw [hr]; intro h; cases h)).trans hr
        obtain ⟨k1, k2, g1, _⟩ := tyChk_map (hc.ty _ _ hl)
        simp only [SR, hr'] at hx
        obtain ⟨b, off, cap, e1, e2⟩ := hx
        have ho := h.objs r
        rw [hr'] at ho
        obtain ⟨b', off', cap', es, clock, h1, h2, h3⟩ := ho
        rw [e1] at h1
        cases h1
        subst e2
        refine Law.datum h e ?_ (VR_int.2 rfl)
        have hlen : es.size = m.length := by
          have : ∀ (m : List (Ty.den kt' × Ty.den vt')) (l : List MapEntry), MR w (okOf C.X ρ (getO σ.heap)) kt' vt' m l → l.length = m.length := by
            intro m
            induction m with
            | nil => intro l h; rw [show l = [] from h]; rfl
            | cons p m ih =>
              rintro l ⟨e, es', h1, _, _, h4⟩
              rw [h1, List.length_cons, List.length_cons, ih _ h4]
          have := this m es.toList h3.1
          simpa using this
        simp only [Builtin.len_, ht, List.getElem?_toArray, List.getElem?_cons_zero, Sem.run_bind, run_underlying g1, Result.andThen_ok, getObj_map h2, Sem.run_pure, goInt, hlen]
      · cases e
    · cases e
  · rename_i hl
    split at e
    · have hu := VR_str.1 hx
      subst hu
      refine Law.datum h e ?_ (VR_int.2 rfl)
      simp only [Builtin.len_, ht, List.getElem?_toArray, List.getElem?_cons_zero, Sem.run_bind, run_underlying ((tyTop_ok (hc.ty _ _ hl)).str rfl), Result.andThen_ok, Sem.run_pure, goInt]
    · cases e
  · rename_i q hl
    obtain ⟨et, g1, _⟩ := tyChk_slice (hc.ty _ _ hl)
    split at e
    · cases e
    · rename_i hns
      split at e
      · rename_i n hn
        rcases lenOf_slice h hH hx hn with ⟨s, h1, h2, h3⟩ | ⟨A', cap, h1, _⟩
        · exact absurd h3 (hns s)
        · subst h1
          refine Law.datum h e ?_ (VR_int.2 rfl)
          simp only [Builtin.len_, ht, List.getElem?_toArray, List.getElem?_cons_zero, Sem.run_bind, run_underlying g1, Result.andThen_ok, Sem.run_pure, goInt]
      · cases e
  · cases e
end
end Go.Sym

/- Cells laid into a row; a store. -/
namespace Go.Sym
def lay {α : Type} (cs : List α) (p : Nat) (ds : List α) : List α := cs.take p ++ ds ++ cs.drop (p + ds.length)
section
variable {α : Type} (cs ds : List α) (p : Nat)
theorem lay_length (h : p + ds.length ≤ cs.length) : (lay cs p ds).length = cs.length := by
  simp only [lay, List.length_append, List.length_take, List.length_drop]
  omega
theorem lay_get (h : p + ds.length ≤ cs.length) (i : Nat) : (lay cs p ds)[i]? = if i < p then cs[i]? else if i < p + ds.length then ds[i - p]? else cs[i]? := by
  have hm : min p cs.length = p := by omega
  simp only [lay, List.getElem?_append, List.length_append, List.length_take, hm, List.getElem?_take, List.getElem?_drop]
  by_cases h1 : i < p
  · simp only [h1, if_true]
    rw [if_pos (by omega)]
  · simp only [h1, if_false]
    by_cases h2 : i < p + ds.length
    · simp only [h2, if_true]
    · simp only [h2, if_false]
      congr 1
      omega
theorem lay_seg (h : p + ds.length ≤ cs.length) (o m : Nat) (h1 : o ≤ p) (h2 : p + ds.length ≤ o + m) : ((lay cs p ds).drop o).take m = lay ((cs.drop o).take m) (p - o) ds := by
  by_cases hm : o + m ≤ cs.length
  · have hl : p - o + ds.length ≤ ((cs.drop o).take m).length := by
      rw [List.length_take, List.length_drop]
      omega
    apply List.ext_getElem?
    intro i
    rw [lay_get _ _ _ hl, List.getElem?_take, List.getElem?_drop, lay_get _ _ _ h, List.getElem?_take, List.getElem?_drop]
    by_cases c1 : i < m
    · simp only [c1, if_true]
      by_cases c2 : o + i < p
      · have : i < p - o := by omega
        simp only [c2, this, if_true]
      · have : ¬ i < p - o := by omega
        simp only [c2, this, if_false]
        by_cases c3 : o + i < p + ds.length
        · have : i < p - o + ds.length := by omega
          simp only [c3, this, if_true]
          congr 1
          omega
        · have : ¬ i < p - o + ds.length := by omega
          simp only [c3, this, if_false]
    · simp only [c1, if_false]
      have : ¬ i < p - o := by omega
      have : ¬ i < p - o + ds.length := by omega
      simp only [*, if_false]
  · have hl : p - o + ds.length ≤ ((cs.drop o).take m).length := by
      rw [List.length_take, List.length_drop]
      omega
    apply List.ext_getElem?
    intro i
    rw [lay_get _ _ _ hl, List.getElem?_take, List.getElem?_drop, lay_get _ _ _ h, List.getElem?_take, List.getElem?_drop]
    by_cases c1 : i < m
    · simp only [c1, if_true]
      by_cases c2 : o + i < p
      · have : i < p - o := by omega
        simp only [c2, this, if_true]
      · have : ¬ i < p - o := by omega
        simp only [c2, this, if_false]
        by_cases c3 : o + i < p + ds.length
        · have : i < p - o + ds.length := by omega
          simp only [c3, this, if_true]
          congr 1
          omega
        · have : ¬ i < p - o + ds.length := by omega
          simp only [c3, this, if_false]
    · simp only [c1, if_false]
      have : ¬ i < p - o := by omega
      have : ¬ i < p - o + ds.length := by omega
      simp only [*, if_false]
/-- Cells laid into a part, and the part into the row. -/
theorem lay_lay (q n : Nat) (h : q + n ≤ cs.length) (hp : p + ds.length ≤ n) : lay cs q (lay ((cs.drop q).take n) p ds) = lay cs (q + p) ds := by
  have hn : ((cs.drop q).take n).length = n := by
    rw [List.length_take, List.length_drop]
    omega
  have hl : (lay ((cs.drop q).take n) p ds).length = n := by rw [lay_length _ _ _ (by omega), hn]
  apply List.ext_getElem?
  intro i
  rw [lay_get cs _ q (by omega), lay_get cs ds (q + p) (by omega), hl]
  by_cases c1 : i < q
  · have : i < q + p := by omega
    simp only [c1, this, if_true]
  · simp only [c1, if_false]
    by_cases c2 : i < q + n
    · simp only [c2, if_true]
      rw [lay_get _ _ _ (by omega)]
      by_cases c3 : i - q < p
      · have : i < q + p := by omega
        simp only [c3, this, if_true]
        rw [List.getElem?_take, if_pos (by omega), List.getElem?_drop]
        congr 1
        omega
      · have : ¬ i < q + p := by omega
        simp only [c3, this, if_false]
        by_cases c4 : i - q < p + ds.length
        · have : i < q + p + ds.length := by omega
          simp only [c4, this, if_true]
          congr 1
          omega
        · have : ¬ i < q + p + ds.length := by omega
          simp only [c4, this, if_false]
          rw [List.getElem?_take, if_pos (by omega), List.getElem?_drop]
          congr 1
          omega
    · have : ¬ i < q + p := by omega
      have : ¬ i < q + p + ds.length := by omega
      simp only [*, if_false]
end
theorem LR.lay {α : Type} {R : α → List Value → Prop} {n : Nat} (hR : ∀ x c, R x c → c.length = n) {xs : List α} {cs : List Value} (h : LR R xs cs) (i : Nat) (hi : i < xs.length) (y : α) (ds : List Value) (hy : R y ds) :
    LR R (xs.set i y) (lay cs (i * n) ds) := by
  have := h.set hR i hi y ds hy
  unfold Sym.lay
  rw [hR y ds hy]
  rw [Nat.succ_mul] at this
  exact this
theorem one_cell {v : Value} (h : isOne v = true) : v.oneCell' = true := by cases v <;> first | rfl | cases h
section
variable {P : Program} {C : Ctx} {A : Nat → Prop} {ρ ρ' : Nat → RV} {σ : St} {a : Act} {w w' : World} {c : Cfg}
theorem Fr.setRow (w : World) (g : Nat) (cs : Array Value) (wr : Nat → Prop) (h : wr g) : Fr wr w (w.setRow g cs) :=
  ⟨rfl, rfl, rfl, by rw [setRow_size]; exact Nat.le_refl _, fun k _ hk => setRow_other w g k cs (fun e => hk (e ▸ h))⟩
theorem Fr.alloc (w : World) (o : Obj) (wr : Nat → Prop) : Fr wr w (w.alloc o) :=
  ⟨rfl, rfl, rfl, (by show w.heap.size ≤ (w.heap.push o).size; rw [Array.size_push]; omega), fun k hk _ => heap_alloc_old w o k hk⟩
theorem run_store_at {t : TypeId} {i : TypeInfo} (hi : P.info? t = some i) {b off : Nat} {cs : Array Value} {et : TypeId} (hb : w.heap[b]? = some (.cells cs et (0, 0))) {v : Value} (hv : v.cells.size = i.size)
    (ho : off + v.cells.size ≤ cs.size) (h1 : ∀ u ∈ v.cells.toList, isOne u = true) :
    (Instr.storeAt t (.pointer (some ⟨b, off, none⟩)) v).run P w = .ok () (w.setRow b (lay cs.toList off v.cells.toList).toArray) := by
  have hst := run_storeCells_at P b off et v.cells.toList 0 cs w hb (by simpa using ho) (fun u hu => one_cell (h1 u hu))
  simp only [Nat.add_zero] at hst
  simp only [Instr.storeAt, Instr.sureAddr, storeVar, Sem.run_bind, Sem.run_pure, Result.andThen_ok, run_sizeOf hi, hv, ne_eq, not_true_eq_false, if_false]
  rw [hst]
  rfl
theorem CellsR.mono {X : Nat → Prop} {h h' : List HO} (hm : Mono A X ρ ρ' h h' w w') : ∀ {l : List SV} {cs : List Value}, (∀ x ∈ l, RefIn A x) → CellsR w (okOf X ρ (getO h)) ρ (getO h) l cs → CellsR w' (okOf X ρ' (getO h')) ρ' (getO h') l cs
  | [], _, _, h => h
  | x :: l, _, hi, ⟨u, cs', e, h1, h2⟩ => ⟨u, cs', e, hm x u (hi x (List.mem_cons_self ..)) h1, CellsR.mono hm (fun y hy => hi y (List.mem_cons_of_mem _ hy)) h2⟩
theorem setL_mem {α : Type} (l : List α) : ∀ (i : Nat) (x y : α), y ∈ setL l i x → y = x ∨ y ∈ l := by
  induction l with
  | nil => intro i x y h; cases h
  | cons z l ih =>
    intro i x y h
    cases i with
    | zero =>
      cases h with
      | head => exact .inl rfl
      | tail _ h => exact .inr (List.mem_cons_of_mem _ h)
    | succ i =>
      cases h with
      | head => exact .inr (List.mem_cons_self ..)
      | tail _ h => exact (ih i x y h).imp id (List.mem_cons_of_mem _)
theorem layL_mem : ∀ (xs l : List SV) (i : Nat) (y : SV), y ∈ layL l i xs → y ∈ xs ∨ y ∈ l
  | [], _, _, _, h => .inr h
  | x :: xs, l, i, y, h => by
    rcases layL_mem xs _ _ y h with h | h
    · exact .inl (List.mem_cons_of_mem _ h)
    · rcases setL_mem l i x y h with h | h
      · exact .inl (h ▸ List.mem_cons_self ..)
      · exact .inr h
/-- Cells of an object are written. -/
theorem Rel.setCells (h : Rel C A ρ σ a w) {r : Nat} {l : List SV} (hr : getO σ.heap r = .cells l) {b cap : Nat} {cs : Array Value} {et : TypeId} (hρ : ρ r = .at b 0 cap) (hb : w.heap[b]? = some (.cells cs et (0, 0)))
    (hl : CellsR w (okOf C.X ρ (getO σ.heap)) ρ (getO σ.heap) l cs.toList) {i : Nat} {ys : List SV} {ds : List Value} (hy : CellsR w (okOf C.X ρ (getO σ.heap)) ρ (getO σ.heap) ys ds) (hin : ∀ x ∈ ys, RefIn A x) (hlen : i + ds.length ≤ cs.size) :
    Aft C A ρ σ a w [(r, .cells (layL l i ys))] ρ (w.setRow b (lay cs.toList i ds).toArray) := by
  obtain ⟨ρ', h1, h2, h3⟩ := h.aft1 (w' := w.setRow b (lay cs.toList i ds).toArray) r (.cells (layL l i ys)) (ρ r) (fun _ => ⟨by rw [hr]; exact layL_length _ _ _, fun _ => rfl⟩)
    (Fr.setRow w b _ _ ⟨0, cap, by rw [hr]; rfl, hρ⟩) (fun _ b' o' c' e => .inl ⟨o', c', by rw [hr]; rfl, e⟩)
    (fun ρ' h1 h2 hp hm hg => by
      refine ⟨b, cap, (lay cs.toList i ds).toArray, et, hρ, setRow_heap w b cs _ et (0, 0) hb, ?_, ?_⟩
      · have := lay_length cs.toList ds i (by simpa using hlen)
        have h5 := hl.len
        rw [layL_length]
        simp only [List.size_toArray]
        omega
      · have k := CellsR.lay i (CellsR.mono hm (h.inO r l hr) hl) (CellsR.mono hm hin hy) (by simpa using hlen)
        have hcap : cap = 0 := by
          have ho := h.objs r
          rw [hr, hρ] at ho
          obtain ⟨_, _, _, _, q1, _, _, _, q5⟩ := ho
          cases q1
          exact q5
        refine ⟨fun j hj => ?_, hcap⟩
        have := k.get j hj
        simpa [lay] using this)
    (fun l' e x hx => by
      cases e
      rcases layL_mem ys l i x hx with hx | hx
      · exact (hin x hx).mono (fun _ h => .inl h)
      · exact (h.inO r l hr x hx).mono (fun _ h => .inl h))
  have : ρ' = ρ := funext fun s => by
    by_cases e : s = r
    · rw [e, h2]
    · exact h1 s e
  rw [this] at h3
  exact h3
/-- A part of a row's element is written. -/
theorem Rel.setElem (h : Rel C A ρ σ a w) {r : Nat} {t : Ty} {xs : List t.den} (hr : getO σ.heap r = .arr t xs) {b off cap : Nat} {cs : Array Value} {et : TypeId} (hρ : ρ r = .at b off cap) (hb : w.heap[b]? = some (.cells cs et (0, 0)))
    {i j : Nat} (hi : i < xs.length) {q : Ty} {y : q.den} {z : t.den} (hz : updAt t j q y xs[i] = some z) {ds : List Value} (hy : TR w (okOf C.X ρ (getO σ.heap)) q y ds) :
    Aft C A ρ σ a w [(r, .arr t (xs.set i z))] ρ (w.setRow b (lay cs.toList (off + (i * t.sz + j)) ds).toArray) ∧ off + (i * t.sz + j) + ds.length ≤ cs.size := by
  have ho := h.objs r
  rw [hr, hρ] at ho
  obtain ⟨cs', et', f, k1, k0, k2, k3, k4⟩ := ho
  rw [hb] at k1
  cases k1
  have hmul := Nat.mul_le_mul_right t.sz (show i + 1 ≤ xs.length from hi)
  rw [Nat.succ_mul] at hmul
  have hcapm := Nat.mul_le_mul_right t.sz k2
  have hT := k4.nth (fun _ _ k => TR.len k) i hi
  obtain ⟨u1, u2⟩ := upd_TR t j q y _ z _ ds hT hy hz
  have hdl := TR.len hy
  rw [show (∀ (l : List Value), l.take j ++ ds ++ l.drop (j + q.sz) = lay l j ds) from fun l => by rw [lay, hdl]] at u1
  have hlen : off + (i * t.sz + j) + ds.length ≤ cs.size := by omega
  refine ⟨?_, hlen⟩
  obtain ⟨ρ', h1, h2, h3⟩ := h.aft1 (w' := w.setRow b (lay cs.toList (off + (i * t.sz + j)) ds).toArray) r (.arr t (xs.set i z)) (ρ r) (fun _ => ⟨by rw [hr]; exact ⟨rfl, by simp⟩, fun _ => rfl⟩)
    (Fr.setRow w b _ _ ⟨off, cap, by rw [hr]; rfl, hρ⟩) (fun _ b' o' c' e => .inl ⟨o', c', by rw [hr]; rfl, e⟩)
    (fun ρ' h1 h2 hp hm hg => by
      rw [hρ]
      refine ⟨(lay cs.toList (off + (i * t.sz + j)) ds).toArray, et, (0, 0), setRow_heap w b cs _ et (0, 0) hb, rfl, by simpa using k2, ?_, ?_⟩
      · have := lay_length cs.toList ds (off + (i * t.sz + j)) (by simpa using hlen)
        simp only [List.size_toArray]
        simp only [Array.length_toList] at this
        omega
      · have hseg := lay_seg cs.toList ds (off + (i * t.sz + j)) (by simpa using hlen) off (xs.length * t.sz) (by omega) (by omega)
        have h5 : off + (i * t.sz + j) - off = i * t.sz + j := by omega
        rw [h5] at hseg
        have hsl : ((cs.toList.drop off).take (xs.length * t.sz)).length = xs.length * t.sz := by
          have hcl : cs.toList.length = cs.size := Array.length_toList
          rw [List.length_take, List.length_drop]
          omega
        rw [List.length_set]
        show LR _ _ (((lay cs.toList (off + (i * t.sz + j)) ds).drop off).take (xs.length * t.sz))
        rw [hseg, ← lay_lay _ ds j (i * t.sz) t.sz (by omega) (by omega)]
        exact (k4.lay (fun _ _ k => TR.len k) i hi z _ u1).mono (fun _ _ k => TR.mono hp.hp k))
    (fun l' e => by cases e)
  have : ρ' = ρ := funext fun s => by
    by_cases e : s = r
    · rw [e, h2]
    · exact h1 s e
  rw [this] at h3
  exact h3
end
end Go.Sym

/- The operations one by one, IV: what writes memory, what makes new objects. -/
namespace Go.Sym
section
variable {P : Program} {C : Ctx} {A : Nat → Prop} {ρ : Nat → RV} {σ : St} {a : Act} {w : World} {α : Type} {k : Slot → Ups → Option α} {out : α} {Hr : Nat → HO} {c : Cfg} {fr : Nat}
def LawU (P : Program) (C : Ctx) (A : Nat → Prop) (ρ : Nat → RV) (σ : St) (a : Act) (w : World) (Hr : Nat → HO) (fr : Nat) (k : Slot → Ups → Option α) (out : α) (m : Sem Unit) : Prop :=
  ∃ us, k (.one .unk) us = some out ∧ InH Hr fr us ∧ (Fresh A fr us → ResU P C A ρ σ a w us m)
theorem refs_one (p : Nat × HO) (r : Nat) : refs [p] r ↔ r = p.1 := ⟨fun ⟨q, hq, e⟩ => (by
    cases hq with
    | head => exact e.symm
    | tail _ h => cases h), fun e => ⟨p, List.mem_cons_self .., e.symm⟩⟩
/-- An empty row comes. -/
theorem Rel.empty (h : Rel C A ρ σ a w) (t : Ty) (n : Nat) (hn : ¬ A n) : ∃ ρ', ρ' n = .none ∧ Aft C A ρ σ a w [(n, .arr t [])] ρ' w := by
  obtain ⟨ρ', h1, h2, h3⟩ := h.aft1 (w' := w) n (.arr t []) .none (fun hA => absurd hA hn) (Fr.refl _ _) (fun _ b off c e => by cases e)
    (fun ρ' h1 h2 hp hm hg => rfl) (fun l e => by cases e)
  exact ⟨ρ', h2, h3⟩
theorem upd_one (σ : St) (n : Nat) (o : HO) : getO (updH σ.heap [(n, o)]) n = o := by rw [updH, updH, getO_put, if_pos rfl]
theorem SR_empty {ok : Nat → Prop} {H : Nat → HO} {t : Ty} {n : Nat} (h1 : H n = .arr t []) (h2 : ρ n = .none) : SR w ok ρ H (.own n) (.slice none 0 0) := by
  simp only [SR, h1, h2]
theorem SR_one {ok : Nat → Prop} {H : Nat → HO} {t : Ty} {x : SV} {u : Value} (hH : ∀ r, Hr r ≠ .dead → H r = Hr r) (h : okCell Hr t x = true) (hx : SR w ok ρ H x u) : isOne u = true := by
  unfold okCell at h
  split at h
  · rw [show u = .bool _ from hx]; rfl
  · simp only [Bool.and_eq_true, Bool.not_eq_true'] at h
    have := tyq_eq h.1
    subst this
    exact VR.one h.2 hx
  · rename_i r
    split at h
    · unfold liveRow at h
      split at h
      · rename_i q xs hr
        have hr' := (hH r (by rw [hr]; intro h; cases h)).trans hr
        simp only [SR, hr'] at hx
        split at hx <;> (rw [hx]; rfl)
      · rename_i q xs hr
        have hr' := (hH r (by rw [hr]; intro h; cases h)).trans hr
        simp only [SR, hr'] at hx
        split at hx <;> (rw [hx]; rfl)
      · cases h
    · cases h
  · rename_i r o n
    split at h
    · unfold liveRow at h
      split at h
      · rename_i q xs hr
        have hr' := (hH r (by rw [hr]; intro h; cases h)).trans hr
        simp only [SR, hr'] at hx
        obtain ⟨_, A', cap, h2, _⟩ := hx
        rw [h2]; rfl
      · rename_i q xs hr
        have hr' := (hH r (by rw [hr]; intro h; cases h)).trans hr
        simp only [SR, hr'] at hx
        obtain ⟨_, A', cap, h2, _⟩ := hx
        rw [h2]; rfl
      · cases h
    · cases h
  · rename_i r
    split at h
    · unfold liveMap at h
      split at h
      · rename_i kt vt m hr
        have hr' := (hH r (by rw [hr]; intro h; cases h)).trans hr
        simp only [SR, hr'] at hx
        obtain ⟨_, _, _, _, h2⟩ := hx
        rw [h2]; rfl
      · cases h
    · cases h
  · cases h
theorem SR_ref {ok : Nat → Prop} {H : Nat → HO} {x : SV} {u : Value} (hH : ∀ r, Hr r ≠ .dead → H r = Hr r) (h : isRefSV Hr x = true) (hx : SR w ok ρ H x u) : isOne u = true := by
  unfold isRefSV at h
  split at h
  · obtain ⟨b, e, _⟩ := hx
    rw [e]; rfl
  · rw [show u = .pointer none from hx]; rfl
  · obtain ⟨vs, e, _⟩ := hx
    rw [e]; rfl
  · rename_i r
    unfold liveMap at h
    split at h
    · rename_i kt vt m hr
      have hr' := (hH r (by rw [hr]; intro h; cases h)).trans hr
      simp only [SR, hr'] at hx
      obtain ⟨_, _, _, _, h2⟩ := hx
      rw [h2]; rfl
    · cases h
  · cases h
theorem one_cells {u : Value} (h : isOne u = true) : u.cells.toList = [u] := by cases u <;> first | rfl | cases h
theorem one_size {u : Value} (h : isOne u = true) : u.cells.size = 1 := by cases u <;> first | rfl | cases h
theorem cellOf_sound (hc : CfgOk P c) (h : Rel C A ρ σ a w) (hH : ∀ r, Hr r ≠ .dead → getO σ.heap r = Hr r) {t : Nat} {x : SV} {u : Value} {ys : List SV} {us : Ups} (hx : SR w (okOf C.X ρ (getO σ.heap)) ρ (getO σ.heap) x u) (hin : RefIn A x)
    (e : cellOf c Hr fr t x = some (ys, us)) : InH Hr fr us ∧ (Fresh A fr us → ∃ ρ1, Aft C A ρ σ a w us ρ1 w ∧ CellsR w (okOf C.X ρ1 (getO (updH σ.heap us))) ρ1 (getO (updH σ.heap us)) ys u.cells.toList ∧ (∀ x ∈ ys, RefIn (fun r => A r ∨ refs us r) x)) ∧
      (∀ v ∈ u.cells.toList, isOne v = true) ∧ ∃ i, P.info? t = some i ∧ u.cells.size = i.size := by
  unfold cellOf at e
  split at e
  · rename_i q hl
    have hk := tyTop_ok (hc.ty _ _ hl)
    obtain ⟨d, inf, d1, d2, d3, d4⟩ := hk.row
    split at e
    · rename_i el
      cases e
      have hu : u = .slice none 0 0 := hx
      subst hu
      refine ⟨fun p hp => .inr ?_, fun hf => ?_, fun v hv => ?_, inf, d2, by rw [d3]; rfl⟩
      · cases hp with
        | head => exact Nat.le_refl _
        | tail _ hp => cases hp
      · obtain ⟨ρ1, k1, k2⟩ := h.empty el fr (hf _ (List.mem_cons_self ..) (Nat.le_refl _))
        exact ⟨ρ1, k2, ⟨_, [], rfl, SR_empty (upd_one σ fr _) k1, rfl⟩, fun x hx => by
          cases hx with
          | head => exact .inr ((refs_one _ _).2 rfl)
          | tail _ hx => cases hx⟩
      · cases hv with
        | head => rfl
        | tail _ hv => cases hv
    · split at e
      · rename_i hg
        split at e
        · rename_i y us' hv
          obtain ⟨rfl, rfl⟩ := Prod.mk.inj (Option.some.inj e)
          obtain ⟨f1, f2⟩ := toVal_sound h hH hv hx
          have hR := f2 _ f1 (fun p hp => hp)
          have hT := VR.cells hR
          refine ⟨fun p hp => .inl (toVal_in hv p hp), fun hf => ⟨ρ, h.frz _ f1, leaves_R _ _ _ hT, fun x hx => ?_⟩, TR.one hT, inf, d2, ?_⟩
          · obtain ⟨u', y', e', _⟩ := leaves_one _ _ _ hx
            rw [e']
            trivial
          · rw [d3, ← TR.len hT, Array.length_toList]
        · cases e
      · rename_i hg
        split at e
        · rename_i ho
          cases e
          have h1 := SR_one hH ho hx
          refine ⟨InH.nil _ _, fun hf => ⟨ρ, Aft.nil h, ?_, fun x hx => ?_⟩, ?_, inf, d2, ?_⟩
          · rw [one_cells h1]
            exact ⟨u, [], rfl, hx, rfl⟩
          · cases hx with
            | head => exact hin.mono (fun _ h => .inl h)
            | tail _ hx => cases hx
          · rw [one_cells h1]
            intro v hv
            cases hv with
            | head => exact h1
            | tail _ hv => cases hv
          · rw [one_size h1, d3, TR.sz1 (by simpa using hg)]
        · cases e
  · split at e
    · rename_i ho
      cases e
      simp only [Bool.and_eq_true] at ho
      obtain ⟨d, inf, d1, d2, d3, d4⟩ := hc.one _ ho.1
      have h1 := SR_ref hH ho.2 hx
      refine ⟨InH.nil _ _, fun hf => ⟨ρ, Aft.nil h, ?_, fun x hx => ?_⟩, ?_, inf, d2, ?_⟩
      · rw [one_cells h1]
        exact ⟨u, [], rfl, hx, rfl⟩
      · cases hx with
        | head => exact hin.mono (fun _ h => .inl h)
        | tail _ hx => cases hx
      · rw [one_cells h1]
        intro v hv
        cases hv with
        | head => exact h1
        | tail _ hv => cases hv
      · rw [one_size h1, d4]
    · cases e

theorem evStore_sound (hc : CfgOk P c) (h : Rel C A ρ σ a w) (hH : ∀ r, Hr r ≠ .dead → getO σ.heap r = Hr r) {t : Nat} {y x : SV} {v u : Value} (hy : SR w (okOf C.X ρ (getO σ.heap)) ρ (getO σ.heap) y v) (hiy : RefIn A y)
    (hx : SR w (okOf C.X ρ (getO σ.heap)) ρ (getO σ.heap) x u) (hin : RefIn A x) (e : evStore c Hr fr k t y x = some out) : LawU P C A ρ σ a w Hr fr k out (Instr.storeAt t v u) := by
  unfold evStore at e
  split at e
  · rename_i r i
    split at e
    · rename_i l hr
      have hr' := (hH r (by rw [hr]; intro h; cases h)).trans hr
      split at e
      · rename_i ys us hco
        split at e
        · rename_i hg
          simp only [Bool.and_eq_true] at hg
          have hle := Nat.le_of_ble_eq_true hg.1
          have hfree := (freeOf_iff us r).1 hg.2
          obtain ⟨c1, c2, c3, inf, c4, c5⟩ := cellOf_sound hc h hH hx hin hco
          refine ⟨_, e, fun p hp => ?_, fun hf => ?_⟩
          · rcases List.mem_append.1 hp with hp | hp
            · exact c1 p hp
            · cases hp with
              | head => exact .inl (by show Hr r ≠ _; rw [hr]; intro h; cases h)
              | tail _ hp => cases hp
          · obtain ⟨ρ1, k1, k2, k3⟩ := c2 (fun p hp => hf p (List.mem_append_left _ hp))
            have hr1 : getO ({ σ with heap := updH σ.heap us } : St).heap r = .cells l := (getO_upd_not us _ r hfree).trans hr'
            obtain ⟨b, cap, cs, et, g1, g2, g3, g4⟩ := k1.rel.cellsR hr1
            have hp1 := k1.mono _ _ hiy hy
            obtain ⟨b', e1, e2⟩ := hp1
            rw [hr1] at e2
            obtain ⟨off, cap', e3⟩ := e2
            rw [g1] at e3
            cases e3
            subst e1
            have hlen := k2.len
            have hsz : i + u.cells.toList.length ≤ cs.size := by omega
            have step := k1.rel.setCells hr1 g1 g2 g4 k2 k3 hsz
            exact ⟨_, ρ1, run_store_at c4 g2 c5 (by simpa using hsz) c3, k1.trans step⟩
        · cases e
      · cases e
    · cases e
  · rename_i r i j
    split at e
    · rename_i q xs hr
      have hr' := (hH r (by rw [hr]; intro h; cases h)).trans hr
      split at e
      · rename_i u' hl
        split at e
        · rename_i y us hv
          split at e
          · rename_i z hz
            split at e
            · rename_i hg
              have hfree := (freeOf_iff us r).1 hg
              obtain ⟨f1, f2⟩ := toVal_sound h hH hv hx
              have hR := f2 us f1 (fun p hp => hp)
              have hT := VR.cells hR
              refine ⟨_, e, fun p hp => ?_, fun hf => ?_⟩
              · rcases List.mem_append.1 hp with hp | hp
                · exact .inl (toVal_in hv p hp)
                · cases hp with
                  | head => exact .inl (by show Hr r ≠ _; rw [hr]; intro h; cases h)
                  | tail _ hp => cases hp
              · have k1 := h.frz us f1
                have hr1 : getO ({ σ with heap := updH σ.heap us } : St).heap r = .arr q xs := (getO_upd_not us _ r hfree).trans hr'
                obtain ⟨hi, b, off, cap, cs, et, fz, g1, g2, g3, g4, g5, g6⟩ := k1.rel.eptr (.inl hr1) (k1.mono _ _ hiy hy)
                have ho := k1.rel.objs r
                rw [hr1, g1] at ho
                obtain ⟨cs', et', f', m1, m0, _⟩ := ho
                rw [g3] at m1
                cases m1
                rw [m0] at g3
                have hd : xs.getD i q.zero = xs[i] := by simp [List.getD_eq_getElem?_getD, hi]
                rw [hd] at hz
                obtain ⟨step, hlen⟩ := k1.rel.setElem hr1 g1 g3 hi hz hT
                obtain ⟨d, inf, d1, d2, d3, d4⟩ := (tyTop_ok (hc.ty _ _ hl)).row
                subst g2
                exact ⟨_, ρ, run_store_at d2 g3 (by rw [d3, ← TR.len hT, Array.length_toList]) (by simpa using hlen) (TR.one hT), k1.trans step⟩
            · cases e
          · cases e
        · cases e
      · cases e
    · cases e
  · cases e
/-! ### new objects -/
/-- A block comes, with an object. -/
theorem Rel.alloc (h : Rel C A ρ σ a w) (n : Nat) (hn : ¬ A n) (o : HO) (obj : Obj) (rv : RV) (hrv : ∀ b off cap, rv = .at b off cap → b = w.heap.size)
    (hobj : ∀ ρ', ρ' n = rv → Hp C.X ρ ρ' σ.heap (updH σ.heap [(n, o)]) w (w.alloc obj) → Mono A C.X ρ ρ' σ.heap (updH σ.heap [(n, o)]) w (w.alloc obj) → getO (updH σ.heap [(n, o)]) n = o → (w.alloc obj).heap[w.heap.size]? = some obj →
      OR (w.alloc obj) (okOf C.X ρ' (getO (updH σ.heap [(n, o)]))) ρ' (getO (updH σ.heap [(n, o)])) o rv)
    (hinO : ∀ l, o = .cells l → ∀ x ∈ l, RefIn A x) : ∃ ρ', ρ' n = rv ∧ Aft C A ρ σ a w [(n, o)] ρ' (w.alloc obj) := by
  obtain ⟨ρ', h1, h2, h3⟩ := h.aft1 (w' := w.alloc obj) n o rv (fun hA => absurd hA hn) (Fr.alloc w obj _) (fun _ b off c e => .inr (by rw [hrv b off c e]; exact Nat.le_refl _))
    (fun ρ' h1 h2 hp hm hg => hobj ρ' h2 hp hm hg (heap_alloc_new w obj)) (fun l e x hx => (hinO l e x hx).mono (fun _ h => .inl h))
  exact ⟨ρ', h2, h3⟩
/-- Cells come. -/
theorem Rel.newCells (h : Rel C A ρ σ a w) (n : Nat) (hn : ¬ A n) {l : List SV} {cs : Array Value} (et : TypeId) (hl : CellsR w (okOf C.X ρ (getO σ.heap)) ρ (getO σ.heap) l cs.toList) (hin : ∀ x ∈ l, RefIn A x) :
    ∃ ρ', ρ' n = .at w.heap.size 0 0 ∧ Aft C A ρ σ a w [(n, .cells l)] ρ' (w.alloc (.cells cs et)) :=
  h.alloc n hn (.cells l) (.cells cs et) (.at w.heap.size 0 0) (fun b off cap e => by cases e; rfl)
    (fun ρ' h1 hp hm hg hb => ⟨w.heap.size, 0, cs, et, rfl, hb, by have := hl.len; simpa using this, (fun i hi => by
      have := (CellsR.mono hm hin hl).get i hi
      simpa using this), rfl⟩)
    (fun l' e x hx => by cases e; exact hin x hx)
theorem SR_ptr {ok : Nat → Prop} {H : Nat → HO} {n b cap : Nat} (h : ρ n = .at b 0 cap) (i : Nat) : SR w ok ρ H (.ptr n i) (.pointer (some ⟨b, i, none⟩)) := by
  refine ⟨b, rfl, ?_⟩
  split
  · exact ⟨0, cap, h⟩
  · trivial
theorem SlR_ptr {ok : Nat → Prop} {H : Nat → HO} {n b cap : Nat} (h : ρ n = .at b 0 cap) (i : Nat) : SlR w ok ρ H (.one (.ptr n i)) (.pointer (some ⟨b, i, none⟩)) := SR_ptr (w := w) (ok := ok) h i
theorem zero_refs : ∀ (l : List ZS) (n : Nat) (xs : List SV) (us : Ups), zeroCells n l = (xs, us) → ∀ p ∈ us, n ≤ p.1
  | [], n, xs, us, e, p, hp => by cases e; cases hp
  | .sv x :: l, n, xs, us, e, p, hp => by
    simp only [zeroCells] at e
    cases e
    exact zero_refs l n _ _ rfl p hp
  | .row t :: l, n, xs, us, e, p, hp => by
    simp only [zeroCells] at e
    cases e
    cases hp with
    | head => exact Nat.le_refl _
    | tail _ hp => exact Nat.le_of_succ_le (zero_refs l (n + 1) _ _ rfl p hp)
theorem zsq_SR {x : SV} {v : Value} {ok : Nat → Prop} {H : Nat → HO} (e : zsq (.sv x) v = true) : SR w ok ρ H x v ∧ ∀ A, RefIn A x := by
  unfold zsq zsqV at e
  cases x with
  | v t x =>
    dsimp only at e
    unfold zsqD at e
    cases t with
    | int k =>
      cases v <;> dsimp only at e <;> first | cases e | skip
      simp only [Bool.and_eq_true, beq_iff_eq] at e
      have := kindN_inj e.1.1
      subst this
      exact ⟨VR_int.2 (by rw [e.2]; exact congrArg _ e.1.2.symm), fun _ => trivial⟩
    | bool =>
      cases v <;> dsimp only at e <;> first | cases e | skip
      simp only [Bool.and_eq_true, Bool.not_eq_true'] at e
      exact ⟨VR_bool.2 (by rw [e.2]; exact congrArg _ e.1.symm), fun _ => trivial⟩
    | str =>
      cases v <;> dsimp only at e <;> first | cases e | skip
      simp only [Bool.and_eq_true] at e
      exact ⟨VR_str.2 (by rw [bytes_empty (Nat.eq_of_beq_eq_true e.2)]; exact congrArg _ (bytes_empty (Nat.eq_of_beq_eq_true e.1)).symm), fun _ => trivial⟩
    | _ => cases e
  | nilp =>
    dsimp only at e
    split at e
    · exact ⟨rfl, fun _ => trivial⟩
    · cases e
  | unk => exact ⟨trivial, fun _ => trivial⟩
  | _ => cases e
end
end Go.Sym

/- The operations one by one, V: new variables, maps. -/
namespace Go.Sym
section
variable {P : Program} {C : Ctx} {A : Nat → Prop} {ρ : Nat → RV} {σ : St} {a : Act} {w : World} {α : Type} {k : Slot → Ups → Option α} {out : α} {Hr : Nat → HO} {c : Cfg} {fr : Nat}
theorem zeroCells_sound : ∀ (l : List ZS) (n : Nat) (xs : List SV) (us : Ups) (vs : List Value) (A : Nat → Prop) (ρ : Nat → RV) (σ : St), Rel C A ρ σ a w → zeroCells n l = (xs, us) → chkZ l vs = true → (∀ p ∈ us, ¬ A p.1) →
    ∃ ρ1, Aft C A ρ σ a w us ρ1 w ∧ CellsR w (okOf C.X ρ1 (getO (updH σ.heap us))) ρ1 (getO (updH σ.heap us)) xs vs ∧ ∀ x ∈ xs, RefIn (fun r => A r ∨ refs us r) x
  | [], n, xs, us, vs, A, ρ, σ, h, e, hc, hf => by
    cases e
    cases vs with
    | nil => exact ⟨ρ, Aft.nil h, rfl, fun x hx => by cases hx⟩
    | cons v vs => cases hc
  | .sv x :: l, n, xs, us, vs, A, ρ, σ, h, e, hc, hf => by
    simp only [zeroCells] at e
    cases e
    cases vs with
    | nil => cases hc
    | cons v vs =>
      simp only [chkZ] at hc
      split at hc
      · rename_i hz
        obtain ⟨ρ1, k1, k2, k3⟩ := zeroCells_sound l n _ _ vs A ρ σ h rfl hc hf
        refine ⟨ρ1, k1, ⟨v, vs, rfl, (zsq_SR hz).1, k2⟩, fun y hy => ?_⟩
        cases hy with
        | head => exact (zsq_SR (ρ := ρ) (w := w) (ok := fun _ => True) (H := fun _ => .dead) hz).2 _
        | tail _ hy => exact k3 y hy
      · cases hc
  | .row t :: l, n, xs, us, vs, A, ρ, σ, h, e, hc, hf => by
    simp only [zeroCells] at e
    cases e
    cases vs with
    | nil => cases hc
    | cons v vs =>
      simp only [chkZ] at hc
      split at hc
      · rename_i hz
        have hv : v = .slice none 0 0 := by
          simp only [zsq] at hz
          split at hz
          · rfl
          · cases hz
        subst hv
        obtain ⟨ρ1, g1, g2⟩ := h.empty t n (hf _ (List.mem_cons_self ..))
        obtain ⟨ρ2, k1, k2, k3⟩ := zeroCells_sound l (n + 1) _ _ vs _ ρ1 _ g2.rel rfl hc (fun p hp hA => by
          rcases hA with hA | hA
          · exact hf p (List.mem_cons_of_mem _ hp) hA
          · have h1 := (refs_one _ _).1 hA
            have h2 := zero_refs l (n + 1) _ _ rfl p hp
            simp only at h1
            omega)
        have tr := g2.trans k1
        have hown := k1.mono (.own n) (.slice none 0 0) (.inr ((refs_one _ _).2 rfl)) (SR_empty (upd_one σ n _) g1)
        refine ⟨ρ2, tr, ?_, fun y hy => ?_⟩
        · exact ⟨_, vs, rfl, hown, k2⟩
        · cases hy with
          | head => exact .inr ⟨_, List.mem_cons_self .., rfl⟩
          | tail _ hy =>
            refine (k3 y hy).mono (fun r hr => ?_)
            rcases hr with (hr | hr) | hr
            · exact .inl hr
            · exact .inr ⟨_, List.mem_cons_self .., ((refs_one _ _).1 hr).symm⟩
            · obtain ⟨p, hp, e⟩ := hr
              exact .inr ⟨p, List.mem_cons_of_mem _ hp, e⟩
      · cases hc
theorem run_alloc {t : TypeId} {i : TypeInfo} {z : Value} (h1 : P.info? t = some i) (h2 : i.zero = some z) : (Instr.alloc t true (.tuple #[])).run P w = .ok (.pointer (some ⟨w.heap.size, 0, none⟩)) (w.alloc (.cells z.cells t)) := by
  simp [Instr.alloc, zeroValue, typeInfo, h1, h2, newVar, newRow]
theorem evAlloc_sound (hc : CfgOk P c) (h : Rel C A ρ σ a w) {t : Nat} (e : evAlloc c fr k t = some out) : Law P C A ρ σ a w Hr fr k out (Instr.alloc t true (.tuple #[])) := by
  unfold evAlloc at e
  split at e
  · rename_i l hl
    obtain ⟨i, z, g1, g2, g3, g4⟩ := hc.zs _ _ hl
    cases hz : zeroCells (fr + 1) l with
    | mk xs us =>
      rw [hz] at e
      have e : k (.one (.ptr fr 0)) (us ++ [(fr, .cells xs)]) = some out := e
      have hge := zero_refs l (fr + 1) xs us hz
      refine ⟨_, _, e, fun p hp => .inr ?_, fun hf => ?_⟩
      · rcases List.mem_append.1 hp with hp | hp
        · exact Nat.le_of_succ_le (hge p hp)
        · cases hp with
          | head => exact Nat.le_refl _
          | tail _ hp => cases hp
      · obtain ⟨ρ1, k1, k2, k3⟩ := zeroCells_sound l (fr + 1) xs us z.cells.toList A ρ σ h hz g4 (fun p hp => hf p (List.mem_append_left _ hp) (Nat.le_of_succ_le (hge p hp)))
        obtain ⟨ρ2, m1, m2⟩ := k1.rel.newCells fr (fun hA => by
          rcases hA with hA | ⟨p, hp, e⟩
          · exact hf (fr, .cells xs) (List.mem_append_right _ (List.mem_cons_self ..)) (Nat.le_refl _) hA
          · have := hge p hp
            omega) t k2 k3
        exact ⟨_, _, ρ2, run_alloc g1 g2, k1.trans m2, SlR_ptr m1 0, .inr ⟨_, List.mem_append_right _ (List.mem_cons_self ..), rfl⟩⟩
  · cases e

theorem run_box {t : TypeId} (v : Value) : (Instr.box t v).run P w = .ok (.pointer (some ⟨w.heap.size, 0, none⟩)) (w.alloc (.cells v.cells t)) := by
  simp [Instr.box, newVar, newRow]
theorem evBox_sound (hc : CfgOk P c) (h : Rel C A ρ σ a w) (hH : ∀ r, Hr r ≠ .dead → getO σ.heap r = Hr r) {t : Nat} {x : Slot} {u : Value} (hx : SlR w (okOf C.X ρ (getO σ.heap)) ρ (getO σ.heap) x u) (hin : SlotIn A x)
    (e : evBox c Hr fr k t x = some out) : Law P C A ρ σ a w Hr fr k out (Instr.box t u) := by
  unfold evBox at e
  split at e
  · rename_i x
    split at e
    · rename_i ys us hco
      obtain ⟨c1, c2, c3, inf, c4, c5⟩ := cellOf_sound hc h hH hx hin hco
      refine ⟨_, _, e, fun p hp => ?_, fun hf => ?_⟩
      · rcases List.mem_append.1 hp with hp | hp
        · exact (c1 p hp).imp id Nat.le_of_succ_le
        · cases hp with
          | head => exact .inr (Nat.le_refl _)
          | tail _ hp => cases hp
      · obtain ⟨ρ1, k1, k2, k3⟩ := c2 (fun p hp hle => hf p (List.mem_append_left _ hp) (Nat.le_of_succ_le hle))
        have hA := hf (fr, .cells ys) (List.mem_append_right _ (List.mem_cons_self ..)) (Nat.le_refl _)
        obtain ⟨ρ2, m1, m2⟩ := k1.rel.newCells fr (fun hA' => by
          rcases hA' with hA' | ⟨p, hp, e⟩
          · exact hA hA'
          · rcases c1 p hp with h1 | h1
            · have := h.mem (r := p.1) (by rw [hH _ h1]; exact h1)
              rw [e] at this
              exact hA this
            · omega) t k2 k3
        exact ⟨_, _, ρ2, run_box u, k1.trans m2, SlR_ptr m1 0, .inr ⟨_, List.mem_append_right _ (List.mem_cons_self ..), rfl⟩⟩
    · cases e
  · rename_i l
    obtain ⟨vs, e1, e2, e3⟩ := hx
    subst e1
    refine ⟨_, _, e, fun p hp => ?_, fun hf => ?_⟩
    · cases hp with
      | head => exact .inr (Nat.le_refl _)
      | tail _ hp => cases hp
    · have hA := hf (fr, .cells l) (List.mem_cons_self ..) (Nat.le_refl _)
      obtain ⟨ρ2, m1, m2⟩ := h.newCells fr hA (cs := vs) t (CellsR.of (by simpa using e2) (fun i hi => by simpa using e3 i hi)) hin
      exact ⟨_, _, ρ2, run_box _, m2, SlR_ptr m1 0, .inr ⟨_, List.mem_cons_self .., rfl⟩⟩
  · cases e
theorem evMakeMap_sound (hc : CfgOk P c) (h : Rel C A ρ σ a w) {t : Nat} (e : evMakeMap c fr k t = some out) : Law P C A ρ σ a w Hr fr k out (Instr.makeMap t none) := by
  unfold evMakeMap at e
  split at e
  · rename_i kt vt hl
    refine ⟨_, _, e, fun p hp => ?_, fun hf => ?_⟩
    · cases hp with
      | head => exact .inr (Nat.le_refl _)
      | tail _ hp => cases hp
    · have hA := hf _ (List.mem_cons_self ..) (Nat.le_refl _)
      obtain ⟨ρ2, m1, m2⟩ := h.alloc fr hA (.map kt vt []) (.map #[] 0) (.at w.heap.size 0 0) (fun b off cap e => by cases e; rfl)
        (fun ρ' h1 hp hm hg hb => ⟨w.heap.size, 0, 0, #[], 0, rfl, hb, rfl, rfl, rfl⟩) (fun l e => by cases e)
      refine ⟨.map (some w.heap.size), _, ρ2, by simp [Instr.makeMap], m2, ?_, .inr ⟨_, List.mem_cons_self .., rfl⟩⟩
      simp only [SlR, SR, upd_one]
      exact ⟨_, _, _, m1, rfl⟩
  · cases e
end
end Go.Sym

/- The operations one by one, VI: maps, rows made, extremes. -/
namespace Go.Sym
theorem rep_cells (z : List Value) (hz : 0 < z.length) : ∀ (m : Nat), (List.range (m * z.length)).map (fun i => z[i % z.length]?.getD default) = (List.replicate m z).flatten
  | 0 => by simp
  | m + 1 => by
    rw [Nat.succ_mul, List.range_add, List.map_append, rep_cells z hz m, List.replicate_succ', List.flatten_append, List.map_map]
    congr 1
    simp only [List.flatten_cons, List.flatten_nil, List.append_nil]
    apply List.ext_getElem
    · simp
    · intro i h1 h2
      simp only [List.getElem_map, List.getElem_range, Function.comp]
      rw [Nat.add_comm, Nat.add_mul_mod_self_right, Nat.mod_eq_of_lt h2, List.getElem?_eq_getElem h2]
      rfl
section
variable {P : Program} {C : Ctx} {A : Nat → Prop} {ρ : Nat → RV} {σ : St} {a : Act} {w : World} {α : Type} {k : Slot → Ups → Option α} {out : α} {Hr : Nat → HO} {c : Cfg} {fr : Nat}
theorem foldMM_run {i : IntKind} {isMax : Bool} {f : Value → Value → Sem Value} (hf : ∀ x y j, (f (.int i x) (.int j y)).run P w = .ok (.int i (mm isMax x y)) w) {ok : Nat → Prop} {H : Nat → HO} : ∀ (l : List SV) (us : List Value) (x r : Int),
    CellsR w ok ρ H l us → foldMM isMax i l x = some r → (us.foldlM f (.int i x)).run P w = .ok (.int i r) w
  | [], us, x, r, h, e => by
    cases e
    rw [show us = [] from h]
    rfl
  | y :: l, us, x, r, ⟨u, us', e1, h1, h2⟩, e => by
    unfold foldMM at e
    split at e <;> first | (cases e; done) | skip
    · rename_i h; cases h
    · rename_i j b l' h
      cases h
      split at e
      · have hu := VR_int.1 h1
        subst hu e1
        rw [List.foldlM_cons, Sem.run_bind, hf, Result.andThen_ok]
        exact foldMM_run hf l us' _ r h2 e
      · cases e
theorem evMinMax_sound (h : Rel C A ρ σ a w) {isMax : Bool} {ts : Array TypeId} {ty : TypeId} {l : List SV} {us : List Value} (hx : CellsR w (okOf C.X ρ (getO σ.heap)) ρ (getO σ.heap) l us) (e : evMinMax k isMax l = some out) :
    Law P C A ρ σ a w Hr fr k out (if isMax then Builtin.max_ ts ty us.toArray else Builtin.min_ ts ty us.toArray) := by
  unfold evMinMax at e
  split at e
  · rename_i i x l
    split at e
    · rename_i r hr
      obtain ⟨u, us', e1, h1, h2⟩ := hx
      have hu := VR_int.1 h1
      subst hu e1
      cases isMax with
      | true =>
        refine Law.datum h e ?_ (VR_int.2 rfl)
        simp only [if_true, Builtin.max_]
        exact foldMM_run (isMax := true) (fun x y j => rfl) l us' x r h2 hr
      | false =>
        refine Law.datum h e ?_ (VR_int.2 rfl)
        simp only [Bool.false_eq_true, if_false, Builtin.min_]
        exact foldMM_run (isMax := false) (fun x y j => rfl) l us' x r h2 hr
    · cases e
  · cases e

/-! ### maps -/
/-- A key's description. -/
def keyDesc (d : TypeDesc) : Ty → Prop
  | .int _ => ∃ j, d = .int j
  | .str => d = .string
  | .bool => d = .bool
  | _ => False
theorem key_desc {kt : Ty} {t : TypeId} (hk : TyOk P kt t) (h : isKey kt = true) : ∃ d, P.underlying t = some d ∧ keyDesc d kt := by
  cases kt <;> first | (cases h; done) | skip
  · rename_i j
    exact ⟨_, hk.int _ rfl, j, rfl⟩
  · exact ⟨_, hk.bool rfl, rfl⟩
  · exact ⟨_, hk.str rfl, rfl⟩
theorem sameNow_key {kt : Ty} {d : TypeDesc} (hd : keyDesc d kt) {ok : Nat → Prop} {b x : kt.den} {u v : Value} (hu : VR w ok kt b u) (hv : VR w ok kt x v) : Instr.sameNow d u v = some (keyEq kt b x) := by
  cases kt <;> simp only [keyDesc] at hd
  · obtain ⟨j, rfl⟩ := hd
    rw [VR_int.1 hu, VR_int.1 hv]
    simp only [Instr.sameNow, if_true]
    rfl
  · subst hd
    rw [VR_bool.1 hu, VR_bool.1 hv]
    rfl
  · subst hd
    rw [VR_str.1 hu, VR_str.1 hv]
    rfl
theorem bytes_beq {a b : ByteArray} (h : (a == b) = true) : a = b := by
  obtain ⟨x⟩ := a
  obtain ⟨y⟩ := b
  have h : (x == y) = true := h
  rw [eq_of_beq h]
theorem keyEq_eq {kt : Ty} {d : TypeDesc} (hd : keyDesc d kt) {b x : kt.den} (h : keyEq kt b x = true) : b = x := by
  cases kt <;> simp only [keyDesc] at hd
  · exact beq_iff_eq.1 (show ((b : Int) == x) = true from h)
  · exact beq_iff_eq.1 (show ((b : Bool) == x) = true from h)
  · exact bytes_beq h
/-- What a search in a map finds. -/
theorem find_MR {kt vt : Ty} {d : TypeDesc} (hd : keyDesc d kt) {ok : Nat → Prop} {b : kt.den} {u : Value} (hu : VR w ok kt b u) : ∀ (m : List (kt.den × vt.den)) (es : List MapEntry) (i : Nat), MR w ok kt vt m es →
    match mget m b with
    | none => Instr.findNow d u es i = some none ∧ ∀ (y : vt.den) (e' : MapEntry), VR w ok kt b e'.key → VR w ok vt y e'.val → MR w ok kt vt (mset m b y) (es ++ [e'])
    | some x => ∃ pre e post, es = pre ++ e :: post ∧ Instr.findNow d u es i = some (some (i + pre.length, e.val)) ∧ VR w ok kt b e.key ∧ VR w ok vt x e.val ∧
        ∀ (y : vt.den) (e' : MapEntry), VR w ok kt b e'.key → VR w ok vt y e'.val → MR w ok kt vt (mset m b y) (pre ++ e' :: post)
  | [], es, i, h => by
    rw [show es = [] from h]
    exact ⟨rfl, fun y e' h1 h2 => ⟨e', [], rfl, h1, h2, rfl⟩⟩
  | (x, y) :: m, es, i, ⟨e, es', h1, h2, h3, h4⟩ => by
    subst h1
    have hs := sameNow_key hd hu h2
    unfold mget
    cases hq : keyEq kt b x with
    | true =>
      rw [hq] at hs
      simp only [if_true]
      refine ⟨[], e, es', rfl, ?_, by rw [keyEq_eq hd hq]; exact h2, h3, fun z e' k1 k2 => ?_⟩
      · simp only [Instr.findNow, hs, List.length_nil, Nat.add_zero]
      · simp only [mset, hq, if_true]
        exact ⟨e', es', rfl, k1, k2, h4⟩
    | false =>
      rw [hq] at hs
      have ih := find_MR hd hu m es' (i + 1) h4
      simp only [Bool.false_eq_true, if_false]
      cases hm : mget m b with
      | none =>
        rw [hm] at ih
        refine ⟨by simp only [Instr.findNow, hs]; exact ih.1, fun z e' k1 k2 => ?_⟩
        simp only [mset, hq, Bool.false_eq_true, if_false]
        exact ⟨e, es' ++ [e'], rfl, h2, h3, ih.2 z e' k1 k2⟩
      | some z =>
        rw [hm] at ih
        obtain ⟨pre, e', post, k1, k2, k3, k4, k5⟩ := ih
        refine ⟨e :: pre, e', post, by rw [k1]; rfl, ?_, k3, k4, fun z e'' j1 j2 => ?_⟩
        · simp only [Instr.findNow, hs, List.length_cons]
          rw [k2]
          congr 2
          congr 1
          omega
        · simp only [mset, hq, Bool.false_eq_true, if_false]
          exact ⟨e, pre ++ e'' :: post, rfl, h2, h3, k5 z e'' j1 j2⟩
theorem run_checkKey {kt : Ty} {d : TypeDesc} (hd : keyDesc d kt) {t : TypeId} (ht : P.underlying t = some d) {ok : Nat → Prop} {b : kt.den} {u : Value} (hu : VR w ok kt b u) (em : Bool) : (Instr.checkKey em 10000 t u).run P w = .ok () w := by
  unfold Instr.checkKey
  rw [Sem.run_bind, run_underlying ht, Result.andThen_ok]
  cases kt <;> simp only [keyDesc] at hd
  · obtain ⟨j, rfl⟩ := hd
    rw [VR_int.1 hu]
    rfl
  · subst hd
    rfl
  · subst hd
    rfl
theorem run_find {kt : Ty} {d : TypeDesc} {t : TypeId} (ht : P.underlying t = some d) {u : Value} {es : List MapEntry} {r : Option (Nat × Value)} (h : Instr.findNow d u es 0 = some r) : (Instr.findKey t u es).run P w = .ok r w := by
  unfold Instr.findKey
  rw [Sem.run_bind, run_underlying ht, Result.andThen_ok, h]
  rfl
theorem run_zero {t : TypeId} {i : TypeInfo} {z : Value} (h1 : P.info? t = some i) (h2 : i.zero = some z) : (zeroValue t).run P w = .ok z w := by
  simp [zeroValue, typeInfo, h1, h2]
theorem mapFit_eq {t : Nat} {kt vt : Ty} (h : mapFit c t kt vt = true) : look c.ty t = some (.map kt vt) := by
  unfold mapFit at h
  split at h
  · rename_i u hl
    rw [hl, tyq_eq h]
  · cases h
theorem evLookup_sound (hc : CfgOk P c) (h : Rel C A ρ σ a w) (hH : ∀ r, Hr r ≠ .dead → getO σ.heap r = Hr r) {t : Nat} {x y : SV} {u v : Value} {cok : Bool} (hx : SR w (okOf C.X ρ (getO σ.heap)) ρ (getO σ.heap) x u) (hy : SR w (okOf C.X ρ (getO σ.heap)) ρ (getO σ.heap) y v)
    (e : evLookup c Hr k t x y cok = some out) : Law P C A ρ σ a w Hr fr k out (Instr.lookup t u v cok) := by
  unfold evLookup at e
  split at e
  · rename_i r
    split at e
    · rename_i kt vt m hr
      have hr' := (hH r (by rw [hr]; intro h; cases h)).trans hr
      split at e
      · rename_i hk
        simp only [Bool.and_eq_true] at hk
        obtain ⟨k1, k2, g1, g2, g3, g4⟩ := tyChk_map (hc.ty _ _ (mapFit_eq hk.2))
        obtain ⟨d, d1, d2⟩ := key_desc g2 hk.1
        split at e
        · rename_i b hv
          obtain ⟨f1, f2⟩ := toVal_sound h hH hv hy
          have hb : VR w (okOf C.X ρ (getO σ.heap)) kt b v := f2 [] (Frz.nil _) (fun p hp => hp)
          simp only [SR, hr'] at hx
          obtain ⟨bl, off, cap, e1, e2⟩ := hx
          have ho := h.objs r
          rw [hr'] at ho
          obtain ⟨b', off', cap', es, clock, h1, h2, h3⟩ := ho
          rw [e1] at h1
          cases h1
          subst e2
          have hf := find_MR d2 hb m es.toList 0 h3.1
          have main : ∃ z, VR w (okOf C.X ρ (getO σ.heap)) vt ((mget m b).getD vt.zero) z ∧ (Instr.lookup t (.map (some bl)) v cok).run P w = .ok (if cok then .tuple #[z, .bool (mget m b).isSome] else z) w := by
            cases hm : mget m b with
            | none =>
              rw [hm] at hf
              obtain ⟨i, z, z1, z2, z3⟩ := g3.zero g4
              refine ⟨z, z3 _ _, ?_⟩
              simp only [Instr.lookup, Sem.run_bind, run_underlying g1, Result.andThen_ok, getObj_map h2, Sem.run_pure, run_checkKey d2 d1 hb, run_find (kt := kt) d1 hf.1, run_zero z1 z2]
              rfl
            | some x =>
              rw [hm] at hf
              obtain ⟨pre, e', post, p1, p2, p3, p4, _⟩ := hf
              refine ⟨e'.val, p4, ?_⟩
              simp only [Instr.lookup, Sem.run_bind, run_underlying g1, Result.andThen_ok, getObj_map h2, Sem.run_pure, run_checkKey d2 d1 hb, run_find (kt := kt) d1 p2]
              rfl
          obtain ⟨z, z1, z2⟩ := main
          split at e
          · rename_i hok
            rw [if_pos hok] at z2
            refine Law.pure h e z2 ⟨_, rfl, rfl, fun i hi => ?_⟩ (fun s hs => ?_)
            · match i, hi with
              | 0, _ => exact z1
              | 1, _ => exact VR_bool.2 rfl
            · cases hs with
              | head => trivial
              | tail _ hs => cases hs with
                | head => trivial
                | tail _ hs => cases hs
          · rename_i hok
            rw [if_neg hok] at z2
            exact Law.datum h e z2 z1
        · cases e
      · cases e
    · cases e
  · cases e
theorem setObj_map {r : Nat} {es : Array MapEntry} {clock : Nat} (o : Obj) (hb : w.heap[r]? = some (.map es clock)) : (setObj r o).run P w = .ok () { w with heap := w.heap.setIfInBounds r o } := by
  simp [setObj, Sem.run, hb]
theorem keeps {kt : Ty} {d : TypeDesc} (hd : keyDesc d kt) {ok ok' : Nat → Prop} {b : kt.den} {u v : Value} (hu : VR w ok kt b u) (hv : VR w ok' kt b v) : (Instr.keyThatStays u v).run P w = .ok v w := by
  cases kt <;> simp only [keyDesc] at hd
  · rw [VR_int.1 hu, VR_int.1 hv]
    simp [Instr.keyThatStays, Instr.sameBits]
  · rw [VR_bool.1 hu, VR_bool.1 hv]
    simp [Instr.keyThatStays, Instr.sameBits]
  · rw [VR_str.1 hu, VR_str.1 hv]
    have : ∀ s : ByteArray, (s == s) = true := fun s => by
      obtain ⟨x⟩ := s
      show (x == x) = true
      exact beq_self_eq_true x
    simp [Instr.keyThatStays, Instr.sameBits, this]
/-- A map changes. -/
theorem Rel.setMap (h : Rel C A ρ σ a w) {r : Nat} {kt vt : Ty} {m m' : List (kt.den × vt.den)} (hr : getO σ.heap r = .map kt vt m) {b off cap : Nat} (hρ : ρ r = .at b off cap) {es es' : Array MapEntry} {cl cl' : Nat} (hb : w.heap[b]? = some (.map es cl))
    (hm : MR w (okOf C.X ρ (getO σ.heap)) kt vt m' es'.toList) : Aft C A ρ σ a w [(r, .map kt vt m')] ρ { w with heap := w.heap.setIfInBounds b (.map es' cl') } := by
  have hlt := lt_of_get hb
  obtain ⟨ρ', h1, h2, h3⟩ := h.aft1 (w' := { w with heap := w.heap.setIfInBounds b (.map es' cl') }) r (.map kt vt m') (ρ r) (fun _ => ⟨by rw [hr]; exact ⟨rfl, rfl⟩, fun _ => rfl⟩)
    ⟨rfl, rfl, rfl, by show w.heap.size ≤ (w.heap.setIfInBounds b _).size; rw [Array.size_setIfInBounds]; exact Nat.le_refl _, fun k hk hn => by
      show (w.heap.setIfInBounds b _)[k]? = _
      rw [Array.getElem?_setIfInBounds_ne]
      rintro rfl
      exact hn ⟨off, cap, by rw [hr]; rfl, hρ⟩⟩ (fun _ b' o' c' e => .inl ⟨o', c', by rw [hr]; rfl, e⟩)
    (fun ρ' h1 h2 hp hm' hg => ⟨b, off, cap, es', cl', hρ, by
      show (w.heap.setIfInBounds b _)[b]? = _
      rw [Array.getElem?_setIfInBounds_self_of_lt hlt], hm.mono hp.hp, by
      have ho := h.objs r
      rw [hr, hρ] at ho
      obtain ⟨_, _, _, _, _, q1, _, _, q5⟩ := ho
      cases q1
      exact q5⟩)
    (fun l e => by cases e)
  have : ρ' = ρ := funext fun s => by
    by_cases e : s = r
    · rw [e, h2]
    · exact h1 s e
  rw [this] at h3
  exact h3
theorem modify_mid {α : Type} (f : α → α) (e : α) (post : List α) : ∀ pre : List α, (pre ++ e :: post).modify pre.length f = pre ++ f e :: post
  | [] => rfl
  | x :: pre => by rw [List.cons_append, List.length_cons, List.modify_succ_cons, modify_mid f e post pre]; rfl
theorem evMapUpdate_sound (hc : CfgOk P c) (h : Rel C A ρ σ a w) (hH : ∀ r, Hr r ≠ .dead → getO σ.heap r = Hr r) {t : Nat} {x y z : SV} {u v q : Value} (hx : SR w (okOf C.X ρ (getO σ.heap)) ρ (getO σ.heap) x u) (hy : SR w (okOf C.X ρ (getO σ.heap)) ρ (getO σ.heap) y v)
    (hz : SR w (okOf C.X ρ (getO σ.heap)) ρ (getO σ.heap) z q) (e : evMapUpdate c Hr k t x y z = some out) : LawU P C A ρ σ a w Hr fr k out (Instr.mapUpdate t u v q) := by
  unfold evMapUpdate at e
  split at e
  · rename_i r
    split at e
    · rename_i kt vt m hr
      have hr' := (hH r (by rw [hr]; intro h; cases h)).trans hr
      split at e
      · rename_i hk
        simp only [Bool.and_eq_true] at hk
        obtain ⟨k1, k2, g1, g2, g3, g4⟩ := tyChk_map (hc.ty _ _ (mapFit_eq hk.2))
        obtain ⟨d, d1, d2⟩ := key_desc g2 hk.1
        split at e
        · rename_i b y' us hv hv2
          split at e
          · rename_i hg
            have hfree := (freeOf_iff us r).1 hg
            obtain ⟨f1, f2⟩ := toVal_sound h hH hv hy
            obtain ⟨f3, f4⟩ := toVal_sound h hH hv2 hz
            have fz := h.frz us f3
            have hb : VR w (okOf C.X ρ (getO (updH σ.heap us))) kt b v := f2 us f3 (fun p hp => by cases hp)
            have hq : VR w (okOf C.X ρ (getO (updH σ.heap us))) vt y' q := f4 us f3 (fun p hp => hp)
            have hr1 : getO ({ σ with heap := updH σ.heap us } : St).heap r = .map kt vt m := (getO_upd_not us _ r hfree).trans hr'
            have ho := fz.rel.objs r
            rw [hr1] at ho
            obtain ⟨bl, off, cap, es, clock, h1, h2, h3⟩ := ho
            simp only [SR, hr'] at hx
            obtain ⟨b', off', cap', e1, e2⟩ := hx
            rw [h1] at e1
            cases e1
            subst e2
            have hf := find_MR d2 hb m es.toList 0 h3.1
            refine ⟨_, e, fun p hp => ?_, fun hfr => ?_⟩
            · rcases List.mem_append.1 hp with hp | hp
              · exact .inl (toVal_in hv2 p hp)
              · cases hp with
                | head => exact .inl (by show Hr r ≠ _; rw [hr]; intro h; cases h)
                | tail _ hp => cases hp
            · cases hm : mget m b with
              | none =>
                rw [hm] at hf
                refine ⟨_, ρ, ?_, fz.trans (fz.rel.setMap (es' := es.push ⟨v, q, clock⟩) (cl' := clock + 1) hr1 h1 h2 ?_)⟩
                · simp only [Instr.mapUpdate, Sem.run_bind, run_underlying g1, Result.andThen_ok, getObj_map h2, run_checkKey d2 d1 hb, run_find (kt := kt) d1 hf.1, setObj_map _ h2]
                · rw [Array.toList_push]
                  exact hf.2 y' ⟨v, q, clock⟩ hb hq
              | some x =>
                rw [hm] at hf
                obtain ⟨pre, e', post, p1, p2, p3, p4, p5⟩ := hf
                rw [Nat.zero_add] at p2
                have hes : es[pre.length]? = some e' := by
                  rw [← Array.getElem?_toList, p1]
                  simp
                refine ⟨_, ρ, ?_, fz.trans (fz.rel.setMap (es' := es.modify pre.length fun e => { e with key := v, val := q }) (cl' := clock) hr1 h1 h2 ?_)⟩
                · simp only [Instr.mapUpdate, Sem.run_bind, run_underlying g1, Result.andThen_ok, getObj_map h2, run_checkKey d2 d1 hb, run_find (kt := kt) d1 p2, hes, Option.map_some, Option.getD_some, keeps d2 p3 hb, setObj_map _ h2]
                · have : (es.modify pre.length fun e => { e with key := v, val := q }).toList = pre ++ { e' with key := v, val := q } :: post := by
                    rw [Array.toList_modify, p1, modify_mid]
                  rw [this]
                  exact p5 y' { e' with key := v, val := q } hb hq
          · cases e
        · cases e
      · cases e
    · cases e
  · cases e
end
end Go.Sym

/- The operations one by one, VII: rows made. -/
namespace Go.Sym
theorem made_list (z : Array Value) (hz : 0 < z.size) (m : Nat) : (madeCells z (m * z.size)).toList = (List.replicate m z.toList).flatten := by
  have := rep_cells z.toList (by simpa using hz) m
  rw [← this]
  simp only [madeCells, Array.toList_map, Array.toList_range, Array.length_toList]
  apply List.map_congr_left
  intro i hi
  have hlt : i % z.size < z.size := Nat.mod_lt _ hz
  simp [hlt]
theorem flat_len {α : Type} (l : List α) : ∀ n, (List.replicate n l).flatten.length = n * l.length
  | 0 => by simp
  | n + 1 => by rw [List.replicate_succ, List.flatten_cons, List.length_append, flat_len l n, Nat.succ_mul, Nat.add_comm]
section
variable {P : Program} {C : Ctx} {A : Nat → Prop} {ρ : Nat → RV} {σ : St} {a : Act} {w : World} {α : Type} {k : Slot → Ups → Option α} {out : α} {Hr : Nat → HO} {c : Cfg} {fr : Nat}
/-- A row of the call's own comes. -/
theorem Rel.newRow (h : Rel C A ρ σ a w) (n : Nat) (hn : ¬ A n) (t : Ty) (xs : List t.den) (cap : Nat) (cs : Array Value) (et : TypeId) (h1 : xs.length ≤ cap) (h2 : cap * t.sz ≤ cs.size)
    (h3 : LR (TR w (okOf C.X ρ (getO σ.heap)) t) xs (cs.toList.take (xs.length * t.sz))) :
    ∃ ρ', ρ' n = .at w.heap.size 0 cap ∧ Aft C A ρ σ a w [(n, .arr t xs)] ρ' (w.alloc (.cells cs et)) :=
  h.alloc n hn (.arr t xs) (.cells cs et) (.at w.heap.size 0 cap) (fun b off cap e => by cases e; rfl)
    (fun ρ' _ hp hm hg hb => ⟨cs, et, (0, 0), hb, rfl, h1, by omega, by rw [List.drop_zero]; exact h3.mono (fun _ _ k => TR.mono hp.hp k)⟩)
    (fun l e => by cases e)
theorem SlR_own {ok : Nat → Prop} {H : Nat → HO} {n b off cap : Nat} {t : Ty} {xs : List t.den} (h : H n = .arr t xs) (h2 : ρ n = .at b off cap) : SlR w ok ρ H (.one (.own n)) (.slice (some ⟨b, off, none⟩) xs.length cap) := by
  simp only [SlR, SR, h, h2]
theorem evMakeSlice_sound (hc : CfgOk P c) (h : Rel C A ρ σ a w) {t : Nat} {x y : SV} {u v : Value} (hx : SR w (okOf C.X ρ (getO σ.heap)) ρ (getO σ.heap) x u) (hy : SR w (okOf C.X ρ (getO σ.heap)) ρ (getO σ.heap) y v)
    (e : evMakeSlice c Alg.real fr k t x y = some out) : Law P C A ρ σ a w Hr fr k out (Instr.makeSlice t u v) := by
  unfold evMakeSlice at e
  split at e
  · rename_i q by_ n m hl hb e1 e2
    obtain ⟨k1, rfl⟩ := intOf_SR e1 hx
    obtain ⟨k2, rfl⟩ := intOf_SR e2 hy
    simp only [Alg.real] at e
    split at e
    · rename_i h0
      have h0 := of_decide_eq_true h0
      split at e
      · rename_i h1
        have h1 := of_decide_eq_true h1
        split at e
        · rename_i h2
          have h2 := of_decide_eq_true h2
          obtain ⟨et, g1, g2, g3⟩ := tyChk_slice (hc.ty _ _ hl)
          obtain ⟨et', inf, j1, j2, j3, j4, j5, j6⟩ := hc.by_ _ _ hb
          rw [g1] at j1
          cases j1
          obtain ⟨inf', z, z1, z2, z3⟩ := g2.zero g3
          rw [j2] at z1
          cases z1
          obtain ⟨d, inf', d1, d2, d3, d4⟩ := g2.row
          rw [j2] at d2
          cases d2
          have hT := VR.cells (z3 w (okOf C.X ρ (getO σ.heap)))
          have hzs : z.cells.size = q.sz := by rw [← TR.len hT, Array.length_toList]
          have hpos : 0 < z.cells.size := by omega
          have hm : m ≤ 140737488355328 := by
            have hq : (1 : Int) ≤ (by_ : Int) := by omega
            have hmn : 0 ≤ m := by omega
            have := Int.mul_le_mul_of_nonneg_left hq hmn
            omega
          have hcells := made_list z.cells hpos m.toNat
          refine ⟨_, _, e, fun p hp => ?_, fun hf => ?_⟩
          · cases hp with
            | head => exact .inr (Nat.le_refl _)
            | tail _ hp => cases hp
          · have hA := hf _ (List.mem_cons_self ..) (Nat.le_refl _)
            have hsz : (madeCells z.cells (m.toNat * z.cells.size)).size = m.toNat * q.sz := by rw [size_madeCells, hzs]
            obtain ⟨ρ', m1, m2⟩ := h.newRow fr hA q (List.replicate n.toNat q.zero) m.toNat (madeCells z.cells (m.toNat * z.cells.size)) et (by rw [List.length_replicate]; omega) (by rw [hsz]; exact Nat.le_refl _) (by
              rw [List.length_replicate, hcells]
              have hsplit : List.replicate m.toNat z.cells.toList = List.replicate n.toNat z.cells.toList ++ List.replicate (m.toNat - n.toNat) z.cells.toList := by
                rw [List.replicate_append_replicate]
                congr 1
                omega
              have hlen : n.toNat * q.sz = (List.replicate n.toNat z.cells.toList).flatten.length := by rw [flat_len, Array.length_toList, hzs]
              rw [hsplit, List.flatten_append, hlen, List.take_left]
              exact LR.replicate hT _)
            have hrun := run_make (P := P) w t et inf z g1 j2 z2 k1 k2 n m h0 h1 (by
              rw [j3, Int.mul_comm]
              omega) (by omega)
            rw [d3, ← hzs] at hrun
            refine ⟨_, _, ρ', hrun, m2, ?_, .inr ⟨_, List.mem_cons_self .., rfl⟩⟩
            have := SlR_own (w := w.alloc (.cells (madeCells z.cells (m.toNat * z.cells.size)) et)) (ok := okOf C.X ρ' (getO (updH σ.heap [(fr, .arr q (List.replicate n.toNat q.zero))]))) (upd_one σ fr (.arr q (List.replicate n.toNat q.zero))) m1
            rw [List.length_replicate] at this
            exact this
        · cases e
      · cases e
    · cases e
  · cases e
end
end Go.Sym

/- The operations one by one, VIII: values built of parts. -/
namespace Go.Sym
theorem set_lay' (cs us : List Value) (u : Value) (i : Nat) (h : i + (us.length + 1) ≤ cs.length) : lay (cs.set i u) (i + 1) us = lay cs i (u :: us) := by
  have := set_lay cs u us i h
  simpa [lay] using this
theorem fold_lay (off : Nat) : ∀ (l : List Value) (n : Nat) (cs : Array Value), off + n + l.length ≤ cs.size →
    ((l.zipIdx n).foldl (fun (cs : Array Value) (p : Value × Nat) => cs.setIfInBounds (off + p.2) p.1) cs).toList = lay cs.toList (off + n) l
  | [], n, cs, h => by simp [lay]
  | x :: l, n, cs, h => by
    simp only [List.length_cons] at h
    rw [List.zipIdx_cons, List.foldl_cons, fold_lay off l (n + 1) _ (by simp; omega), Array.toList_setIfInBounds]
    exact set_lay' _ _ _ _ (by simpa using h)
theorem fill_cons {place : Nat → Option (Nat × Nat)} {cs : Array Value} {i : Nat} {v : Value} {rest : List (Nat × Value)} {off n : Nat} (hp : place i = some (off, n)) (h1 : v.cells.size = n) (h2 : off + v.cells.size ≤ cs.size) :
    Instr.fill place cs ((i, v) :: rest) = Instr.fill place (lay cs.toList off v.cells.toList).toArray rest := by
  have h3 : ¬ (v.cells.size ≠ n ∨ off + v.cells.size > cs.size) := by omega
  have h4 := fold_lay off v.cells.toList 0 cs (by simpa using h2)
  simp only [Nat.add_zero] at h4
  rw [Instr.fill, hp]
  have h3' : (decide (v.cells.size ≠ n) || decide (off + v.cells.size > cs.size)) = false := by simpa using h3
  simp only [h3', if_false, Bool.false_eq_true]
  rw [← h4]
  congr 1
  apply Array.ext'
  rw [← Array.toList_zipIdx, ← Array.foldl_toList]
section
variable {P : Program} {C : Ctx} {A : Nat → Prop} {ρ : Nat → RV} {σ : St} {a : Act} {w : World} {α : Type} {k : Slot → Ups → Option α} {out : α} {Hr : Nat → HO} {c : Cfg} {fr : Nat}
/-- The parts' values. -/
def PartsR (w : World) (ok : Nat → Prop) (ρ : Nat → RV) (H : Nat → HO) : List (Nat × SV) → List (Nat × Value) → Prop
  | [], vs => vs = []
  | (i, x) :: l, vs => ∃ u vs', vs = (i, u) :: vs' ∧ SR w ok ρ H x u ∧ PartsR w ok ρ H l vs'
def PlaceOk (P : Program) (fs : List (Nat × Nat)) (place : Nat → Option (Nat × Nat)) : Prop := ∀ i off ft, fs[i]? = some (off, ft) → ∃ inf, P.info? ft = some inf ∧ place i = some (off, inf.size)
theorem buildV_sound (hc : CfgOk P c) (h : Rel C A ρ σ a w) (hH : ∀ r, Hr r ≠ .dead → getO σ.heap r = Hr r) {fs : List (Nat × Nat)} {place : Nat → Option (Nat × Nat)} (hp : PlaceOk P fs place) (u : Ty) :
    ∀ (ps : List (Nat × SV)) (x r : u.den) (us0 : Ups) (vs : List (Nat × Value)), buildV c Hr fs u ps x = some (r, us0) → PartsR w (okOf C.X ρ (getO σ.heap)) ρ (getO σ.heap) ps vs →
      (∀ p ∈ us0, Hr p.1 ≠ .dead) ∧ Frz (getO σ.heap) us0 ∧ ∀ us, Frz (getO σ.heap) us → (∀ p ∈ us0, p ∈ us) → ∀ cs : Array Value, TR w (okOf C.X ρ (getO (updH σ.heap us))) u x cs.toList →
        ∃ cs', Instr.fill place cs vs = some cs' ∧ TR w (okOf C.X ρ (getO (updH σ.heap us))) u r cs'.toList
  | [], x, r, us0, vs, e, hv => by
    cases e
    cases hv
    exact ⟨fun _ h => (by cases h), Frz.nil _, fun us hf _ cs hT => ⟨cs, rfl, hT⟩⟩
  | (i, y) :: ps, x, r, us0, vs, e, hv => by
    obtain ⟨v, vs', rfl, hy, hv⟩ := hv
    simp only [buildV] at e
    split at e
    · rename_i off ft hfs
      split at e
      · rename_i q hl
        split at e
        · rename_i z us1 hz
          split at e
          · rename_i x' hx'
            split at e
            · rename_i r' us2 hb
              cases e
              obtain ⟨m1, m2, m3⟩ := buildV_sound hc h hH hp u ps x' r us2 vs' hb hv
              obtain ⟨f1, f2⟩ := toVal_sound h hH hz hy
              refine ⟨fun p hp => ?_, f1.app m2, fun us hf hin cs hT => ?_⟩
              · rcases List.mem_append.1 hp with hp | hp
                · exact toVal_in hz p hp
                · exact m1 p hp
              · have hV := VR.cells (f2 us hf (fun p hp => hin p (List.mem_append_left _ hp)))
                obtain ⟨u1, u2⟩ := upd_TR u off q z x x' _ _ hT hV hx'
                have hdl := TR.len hV
                have hcl := TR.len hT
                obtain ⟨inf, i1, i2⟩ := hp i off ft hfs
                obtain ⟨d, inf', d1, d2, d3, d4⟩ := (tyTop_ok (hc.ty _ _ hl)).row
                rw [i1] at d2
                cases d2
                rw [Array.length_toList] at hdl hcl
                rw [fill_cons i2 (by omega) (by omega)]
                refine m3 us hf (fun p hp => hin p (List.mem_append_right _ hp)) _ ?_
                simp only [lay, Array.length_toList, hdl]
                exact u1
            · cases e
          · cases e
        · cases e
      · cases e
    · cases e
theorem ovr_get : ∀ (us : Ups) (Hr : Nat → HO) (l : List HO), (∀ r, Hr r ≠ .dead → getO l r = Hr r) → ∀ r, ovr Hr us r ≠ .dead → getO (updH l us) r = ovr Hr us r
  | [], _, _, h, r, hr => h r hr
  | (q, o) :: us, Hr, l, h, r, hr => ovr_get us _ (putL .dead l q o) (fun s hs => by
      rw [getO_put]
      by_cases e : s = q
      · subst e
        rw [if_pos rfl]
        show o = if Nat.beq s s = true then o else Hr s
        rw [Nat.beq_refl, if_pos rfl]
      · rw [if_neg e]
        have e2 : ¬ Nat.beq s q = true := fun h => e (Nat.eq_of_beq_eq_true h)
        show getO l s = if Nat.beq s q = true then o else Hr s
        have hs' : (if Nat.beq s q = true then o else Hr s) ≠ .dead := hs
        rw [if_neg e2] at hs' ⊢
        exact h s hs') r hr
theorem ovr_in : ∀ (us : Ups) (Hr : Nat → HO) (r : Nat), ovr Hr us r ≠ .dead → Hr r ≠ .dead ∨ refs us r
  | [], _, _, h => .inl h
  | (q, o) :: us, Hr, r, h => by
    rcases ovr_in us _ r h with h1 | ⟨p, hp, e⟩
    · by_cases e : r = q
      · exact .inr ⟨(q, o), List.mem_cons_self .., e.symm⟩
      · have e2 : ¬ Nat.beq r q = true := fun h => e (Nat.eq_of_beq_eq_true h)
        have h1 : (if Nat.beq r q = true then o else Hr r) ≠ .dead := h1
        rw [if_neg e2] at h1
        exact .inl h1
    · exact .inr ⟨p, List.mem_cons_of_mem _ hp, e⟩
theorem cellOf_refs {n t : Nat} {x : SV} {ys : List SV} {us : Ups} (e : cellOf c Hr n t x = some (ys, us)) : ∀ p ∈ us, Hr p.1 ≠ .dead ∨ p.1 = n := by
  unfold cellOf at e
  split at e
  · split at e
    · cases e
      intro p hp
      cases hp with
      | head => exact .inr rfl
      | tail _ hp => cases hp
    · split at e
      · split at e
        · rename_i y us' hv
          obtain ⟨rfl, rfl⟩ := Prod.mk.inj (Option.some.inj e)
          exact fun p hp => .inl (toVal_in hv p hp)
        · cases e
      · split at e
        · cases e
          intro p hp
          cases hp
        · cases e
  · split at e
    · cases e
      intro p hp
      cases hp
    · cases e
theorem zero_lt : ∀ (l : List ZS) (n : Nat) (xs : List SV) (us : Ups), zeroCells n l = (xs, us) → ∀ p ∈ us, p.1 < n + us.length
  | [], n, xs, us, e, p, hp => by cases e; cases hp
  | .sv x :: l, n, xs, us, e, p, hp => by
    simp only [zeroCells] at e
    cases e
    exact zero_lt l n _ _ rfl p hp
  | .row t :: l, n, xs, us, e, p, hp => by
    simp only [zeroCells] at e
    cases e
    cases hp with
    | head => simp
    | tail _ hp =>
      have := zero_lt l (n + 1) _ _ rfl p hp
      simp only [List.length_cons]
      omega
theorem PartsR.mono {X : Nat → Prop} {ρ' : Nat → RV} {l l' : List HO} {w' : World} (hm : Mono A X ρ ρ' l l' w w') : ∀ {ps : List (Nat × SV)} {vs : List (Nat × Value)}, (∀ p ∈ ps, RefIn A p.2) →
    PartsR w (okOf X ρ (getO l)) ρ (getO l) ps vs → PartsR w' (okOf X ρ' (getO l')) ρ' (getO l') ps vs
  | [], _, _, h => h
  | (i, x) :: ps, _, hi, ⟨u, vs', e, h1, h2⟩ => ⟨u, vs', e, hm x u (hi _ (List.mem_cons_self ..)) h1, PartsR.mono hm (fun p hp => hi p (List.mem_cons_of_mem _ hp)) h2⟩
theorem buildC_sound (hc : CfgOk P c) {fs : List (Nat × Nat)} {place : Nat → Option (Nat × Nat)} (hp : PlaceOk P fs place) (A0 : Nat → Prop) :
    ∀ (ps : List (Nat × SV)) (n : Nat) (l l' : List SV) (us : Ups) (vs : List (Nat × Value)) (cs : Array Value) (Hr : Nat → HO) (A : Nat → Prop) (ρ : Nat → RV) (σ : St), buildC c fs Hr ps n l = some (l', us) → Rel C A ρ σ a w →
      (∀ r, Hr r ≠ .dead → getO σ.heap r = Hr r) → PartsR w (okOf C.X ρ (getO σ.heap)) ρ (getO σ.heap) ps vs → (∀ p ∈ ps, RefIn A p.2) → CellsR w (okOf C.X ρ (getO σ.heap)) ρ (getO σ.heap) l cs.toList → (∀ x ∈ l, RefIn A x) →
      (∀ r, A r → A0 r ∨ r < n) → (∀ p ∈ us, n ≤ p.1 → ¬ A0 p.1) →
      ∃ ρ1 cs', Aft C A ρ σ a w us ρ1 w ∧ Instr.fill place cs vs = some cs' ∧ CellsR w (okOf C.X ρ1 (getO (updH σ.heap us))) ρ1 (getO (updH σ.heap us)) l' cs'.toList ∧ (∀ x ∈ l', RefIn (fun r => A r ∨ refs us r) x)
  | [], n, l, l', us, vs, cs, Hr, A, ρ, σ, e, h, hH, hv, hi, hl, hil, hA, hf => by
    cases e
    cases hv
    exact ⟨ρ, cs, Aft.nil h, rfl, hl, fun x hx => (hil x hx).mono (fun _ h => .inl h)⟩
  | (i, y) :: ps, n, l, l', us, vs, cs, Hr, A, ρ, σ, e, h, hH, hv, hi, hl, hil, hA, hf => by
    obtain ⟨v, vs', rfl, hy, hv⟩ := hv
    simp only [buildC] at e
    split at e
    · rename_i off ft hfs
      split at e
      · rename_i ys us1 hco
        split at e
        · rename_i hle
          have hle := Nat.le_of_ble_eq_true hle
          split at e
          · rename_i l2 us2 hb
            cases e
            obtain ⟨c1, c2, c3, inf, c4, c5⟩ := cellOf_sound hc h hH hy (hi _ (List.mem_cons_self ..)) hco
            obtain ⟨ρ1, k1, k2, k3⟩ := c2 (fun p hp hn hAp => by
              rcases hA _ hAp with h1 | h1
              · exact hf p (List.mem_append_left _ hp) hn h1
              · omega)
            have hls := CellsR.mono k1.mono hil hl
            have hlen := k2.len
            have hlen2 := hl.len
            have hrefs := cellOf_refs hco
            obtain ⟨inf', i1, i2⟩ := hp i off ft hfs
            rw [c4] at i1
            cases i1
            have hsz : off + v.cells.toList.length ≤ cs.toList.length := by omega
            obtain ⟨ρ2, cs', m1, m2, m3, m4⟩ := buildC_sound hc hp A0 ps (n + 1) (layL l off ys) l' us2 vs' (lay cs.toList off v.cells.toList).toArray (ovr Hr us1) (fun r => A r ∨ refs us1 r) ρ1 { σ with heap := updH σ.heap us1 } hb k1.rel (ovr_get us1 Hr _ hH)
              (PartsR.mono k1.mono (fun p hp => hi p (List.mem_cons_of_mem _ hp)) hv) (fun p hp => (hi p (List.mem_cons_of_mem _ hp)).mono (fun _ h => .inl h))
              (CellsR.lay off hls k2 hsz) (fun x hx => by
                rcases layL_mem ys l off x hx with hx | hx
                · exact k3 x hx
                · exact (hil x hx).mono (fun _ h => .inl h))
              (fun r hr => by
                rcases hr with hr | ⟨p, hp, e⟩
                · exact (hA r hr).imp id (by omega)
                · subst e
                  rcases hrefs p hp with h1 | h1
                  · exact (hA _ (h.mem (by rw [hH _ h1]; exact h1))).imp id (by omega)
                  · exact .inr (by omega))
              (fun p hp hn => hf p (List.mem_append_right _ hp) (by omega))
            refine ⟨ρ2, cs', k1.trans m1, ?_, ?_, ?_⟩
            · rw [fill_cons i2 c5 (by simpa using hsz)]
              exact m2
            · rw [updH_app]
              exact m3
            · intro x hx
              refine (m4 x hx).mono (fun r hr => ?_)
              rw [refs_app]
              rcases hr with (h | h) | h
              · exact .inl h
              · exact .inr (.inl h)
              · exact .inr (.inr h)
          · cases e
        · cases e
      · cases e
    · cases e
theorem built_struct {t : TypeId} {i : TypeInfo} {z : Value} {f : Array Field} (h1 : P.info? t = some i) (h2 : i.zero = some z) (h3 : P.underlying t = some (.struct f)) {fs : List (Nat × Nat)} (hf : chkFs P fs f.toList = true) :
    ∃ place, PlaceOk P fs place ∧ ∀ (parts : Array (Nat × Value)) cells, Instr.fill place z.cells parts.toList = some cells → (Instr.build t parts).run P w = .ok (.agg cells) w := by
  have key : ∀ (l : List (Nat × Nat)) (fl : List Field), chkFs P l fl = true → ∃ places, fl.mapM (fun f => (P.info? f.type).map fun i => (f.offset, i.size)) = some places ∧ ∀ (i : Nat) off ft, l[i]? = some (off, ft) → ∃ inf, P.info? ft = some inf ∧ places[i]? = some (off, inf.size) := by
    intro l
    induction l with
    | nil =>
      intro fl h
      cases fl with
      | nil => exact ⟨[], rfl, fun i off ft e => by simp at e⟩
      | cons f fl => cases h
    | cons p l ih =>
      intro fl h
      obtain ⟨o, t'⟩ := p
      cases fl with
      | nil => cases h
      | cons f fl =>
        simp only [chkFs] at h
        split at h
        · rename_i h1
          obtain ⟨pl, e1, e2⟩ := ih fl h
          simp only [Bool.and_eq_true] at h1
          have g := h1.2
          have ho := Nat.eq_of_beq_eq_true h1.1.1
          have ht := Nat.eq_of_beq_eq_true h1.1.2
          split at g
          · rename_i j hj
            refine ⟨(f.offset, j.size) :: pl, ?_, fun i off ft e => ?_⟩
            · simp only [List.mapM_cons, ht, hj, e1]
              rfl
            · cases i with
              | zero =>
                cases e
                exact ⟨j, hj, by rw [ho]; rfl⟩
              | succ i => exact e2 i off ft e
          · cases g
        · cases h
  obtain ⟨places, e1, e2⟩ := key fs f.toList hf
  refine ⟨fun i => places.toArray[i]?, fun i off ft e => ?_, fun parts cells hfl => run_build w t parts cells ?_⟩
  · obtain ⟨inf, i1, i2⟩ := e2 i off ft e
    exact ⟨inf, i1, by simpa using i2⟩
  · simp only [Program.built, h1, h3, h2, e1]
    exact hfl
theorem buildC_in : ∀ (fs : List (Nat × Nat)) (ps : List (Nat × SV)) (n : Nat) (l l' : List SV) (us : Ups) (Hr : Nat → HO), buildC c fs Hr ps n l = some (l', us) → ∀ p ∈ us, Hr p.1 ≠ .dead ∨ n ≤ p.1
  | fs, [], n, l, l', us, Hr, e, p, hp => by cases e; cases hp
  | fs, (i, y) :: ps, n, l, l', us, Hr, e, p, hp => by
    simp only [buildC] at e
    split at e
    · split at e
      · rename_i ys us1 hco
        split at e
        · split at e
          · rename_i us2 hb
            cases e
            have hrefs := cellOf_refs hco
            rcases List.mem_append.1 hp with hp | hp
            · exact (hrefs p hp).imp id (fun e => by omega)
            · rcases buildC_in fs ps _ _ _ _ _ hb p hp with h1 | h1
              · rcases ovr_in _ _ _ h1 with h2 | ⟨q, hq, e⟩
                · exact .inl h2
                · rw [← e]
                  exact (hrefs q hq).imp id (fun e => by omega)
              · exact .inr (by omega)
          · cases e
        · cases e
      · cases e
    · cases e
theorem evBuild_sound (hc : CfgOk P c) (h : Rel C A ρ σ a w) (hH : ∀ r, Hr r ≠ .dead → getO σ.heap r = Hr r) {t : Nat} {ps : List (Nat × SV)} {vs : Array (Nat × Value)} (hv : PartsR w (okOf C.X ρ (getO σ.heap)) ρ (getO σ.heap) ps vs.toList)
    (hin : ∀ p ∈ ps, RefIn A p.2) (e : evBuild c Hr fr k t ps = some out) : Law P C A ρ σ a w Hr fr k out (Instr.build t vs) := by
  unfold evBuild at e
  split at e
  · cases e
  · rename_i fs hfs
    obtain ⟨f, f1, f2⟩ := hc.fld _ _ hfs
    split at e
    · rename_i u hl
      have hk := hc.ty _ _ hl
      split at e
      · rename_i x us hb
        obtain ⟨d, inf, d1, d2, d3, d4⟩ := (tyTop_ok hk).row
        rw [f1] at d1
        cases d1
        have hagg : u.agg = true := d4.symm
        obtain ⟨inf', z, z1, z2, z3⟩ := (tyTop_ok hk).zero (fun k v e => by rw [e] at hagg; cases hagg)
        obtain ⟨place, p1, p2⟩ := built_struct (P := P) (w := w) z1 z2 f1 f2
        obtain ⟨m1, m2, m3⟩ := buildV_sound hc h hH p1 u ps _ x us vs.toList hb hv
        obtain ⟨cs', q1, q2⟩ := m3 us m2 (fun p hp => hp) z.cells (VR.cells (z3 _ _))
        exact ⟨_, us, e, fun p hp => .inl (m1 p hp), fun hf => ⟨_, w, ρ, p2 vs cs' q1, h.frz us m2, VR.of_agg hagg q2, trivial⟩⟩
      · cases e
    · split at e
      · rename_i l hzs
        obtain ⟨inf, z, z1, z2, z3, z4⟩ := hc.zs _ _ hzs
        split at e
        rename_i xs us0 hzc
        split at e
        · rename_i l' us hb
          obtain ⟨place, p1, p2⟩ := built_struct (P := P) (w := w) z1 z2 f1 f2
          have hzr := zero_refs l fr xs us0 hzc
          have hzl := zero_lt l fr xs us0 hzc
          refine ⟨_, _, e, ?_, fun hf => ?_⟩
          · intro p hp
            rcases List.mem_append.1 hp with hp | hp
            · exact .inr (hzr p hp)
            · rcases buildC_in _ _ _ _ _ _ _ hb p hp with h1 | h1
              · rcases ovr_in _ _ _ h1 with h2 | ⟨q, hq, e⟩
                · exact .inl h2
                · exact .inr (e ▸ hzr q hq)
              · exact .inr (by omega)
          · obtain ⟨ρ1, k1, k2, k3⟩ := zeroCells_sound l fr xs us0 z.cells.toList A ρ σ h hzc z4 (fun p hp => hf p (List.mem_append_left _ hp) (hzr p hp))
            obtain ⟨ρ2, cs', m1, m2, m3, m4⟩ := buildC_sound hc p1 A ps (fr + us0.length) xs l' us vs.toList z.cells (ovr Hr us0) (fun r => A r ∨ refs us0 r) ρ1 { σ with heap := updH σ.heap us0 } hb k1.rel (ovr_get us0 Hr _ hH)
              (PartsR.mono k1.mono hin hv) (fun p hp => (hin p hp).mono (fun _ h => .inl h)) k2 k3 (fun r hr => by
                rcases hr with hr | ⟨p, hp, e⟩
                · exact .inl hr
                · subst e
                  exact .inr (hzl p hp)) (fun p hp hn => hf p (List.mem_append_right _ hp) (by omega))
            refine ⟨.agg cs', w, ρ2, p2 vs cs' m2, k1.trans m1, ?_, ?_⟩
            · rw [updH_app]
              refine ⟨cs', rfl, ?_, fun i hi => ?_⟩
              · have := m3.len
                simpa using this
              · have := m3.get i hi
                simpa using this
            · intro x hx
              refine (m4 x hx).mono (fun r hr => ?_)
              rw [refs_app]
              rcases hr with (h | h) | h
              · exact .inl h
              · exact .inr (.inl h)
              · exact .inr (.inr h)
        · cases e
      · cases e
theorem buildRow_sound (h : Rel C A ρ σ a w) (hH : ∀ r, Hr r ≠ .dead → getO σ.heap r = Hr r) (u : Ty) :
    ∀ (ps : List (Nat × SV)) (xs r : List u.den) (us0 : Ups) (vs : List (Nat × Value)), buildRow Hr u ps xs = some (r, us0) → PartsR w (okOf C.X ρ (getO σ.heap)) ρ (getO σ.heap) ps vs →
      (∀ p ∈ us0, Hr p.1 ≠ .dead) ∧ Frz (getO σ.heap) us0 ∧ ∀ us, Frz (getO σ.heap) us → (∀ p ∈ us0, p ∈ us) → ∀ cs : Array Value, LR (TR w (okOf C.X ρ (getO (updH σ.heap us))) u) xs cs.toList →
        ∃ cs', Instr.fill (fun i => some (i * u.sz, u.sz)) cs vs = some cs' ∧ LR (TR w (okOf C.X ρ (getO (updH σ.heap us))) u) r cs'.toList ∧ cs'.size = cs.size ∧ r.length = xs.length
  | [], xs, r, us0, vs, e, hv => by
    cases e
    cases hv
    exact ⟨fun _ h => (by cases h), Frz.nil _, fun us hf _ cs hT => ⟨cs, rfl, hT, rfl, rfl⟩⟩
  | (i, y) :: ps, xs, r, us0, vs, e, hv => by
    obtain ⟨v, vs', rfl, hy, hv⟩ := hv
    simp only [buildRow] at e
    split at e
    · rename_i z us1 hz
      split at e
      · rename_i hi
        have hi := Nat.le_of_ble_eq_true hi
        split at e
        · rename_i us2 hb
          cases e
          obtain ⟨m1, m2, m3⟩ := buildRow_sound h hH u ps _ _ us2 vs' hb hv
          obtain ⟨f1, f2⟩ := toVal_sound h hH hz hy
          refine ⟨fun p hp => ?_, f1.app m2, fun us hf hin cs hT => ?_⟩
          · rcases List.mem_append.1 hp with hp | hp
            · exact toVal_in hz p hp
            · exact m1 p hp
          · have hV := VR.cells (f2 us hf (fun p hp => hin p (List.mem_append_left _ hp)))
            have hdl := TR.len hV
            have hcl := hT.len (fun _ _ h => TR.len h)
            have hmul := Nat.mul_le_mul_right u.sz hi
            rw [Nat.succ_mul] at hmul
            rw [Array.length_toList] at hdl hcl
            rw [fill_cons (off := i * u.sz) (n := u.sz) rfl hdl (by omega)]
            have hL := hT.lay (fun _ _ h => TR.len h) i hi z _ hV
            obtain ⟨cs', q1, q2, q3, q4⟩ := m3 us hf (fun p hp => hin p (List.mem_append_right _ hp)) (lay cs.toList (i * u.sz) v.cells.toList).toArray hL
            refine ⟨cs', q1, q2, ?_, by rw [q4, List.length_set]⟩
            rw [q3]
            have := lay_length cs.toList v.cells.toList (i * u.sz) (by simp only [Array.length_toList]; omega)
            simpa using this
        · cases e
      · cases e
    · cases e
theorem evBuildSlice_sound (hc : CfgOk P c) (h : Rel C A ρ σ a w) (hH : ∀ r, Hr r ≠ .dead → getO σ.heap r = Hr r) {t n : Nat} {ps : List (Nat × SV)} {vs : Array (Nat × Value)} (hv : PartsR w (okOf C.X ρ (getO σ.heap)) ρ (getO σ.heap) ps vs.toList)
    (e : evBuildSlice c Hr fr k t n ps = some out) : Law P C A ρ σ a w Hr fr k out (Instr.buildSlice t n vs) := by
  unfold evBuildSlice at e
  split at e
  · rename_i u hl
    split at e
    · rename_i hg
      unfold bsOk at hg
      simp only [Bool.and_eq_true] at hg
      obtain ⟨hg1, hg2⟩ := hg
      have hg1 := Nat.le_of_ble_eq_true hg1
      split at e
      · rename_i xs us hb
        obtain ⟨et, g1, g2, g3⟩ := tyChk_slice (hc.ty _ _ hl)
        obtain ⟨inf, z, z1, z2, z3⟩ := g2.zero g3
        obtain ⟨d, inf', d1, d2, d3, d4⟩ := g2.row
        rw [z1] at d2
        cases d2
        obtain ⟨m1, m2, m3⟩ := buildRow_sound h hH u ps _ xs us vs.toList hb hv
        refine ⟨_, _, e, fun p hp => ?_, fun hf => ?_⟩
        · rcases List.mem_append.1 hp with hp | hp
          · exact .inl (m1 p hp)
          · cases hp with
            | head => exact .inr (Nat.le_refl _)
            | tail _ hp => cases hp
        · have hA : ¬ A fr := hf (fr, .arr u xs) (List.mem_append_right _ (List.mem_cons_self ..)) (Nat.le_refl _)
          have hT := VR.cells (z3 w (okOf C.X ρ (getO (updH σ.heap us))))
          have hzs : z.cells.size = u.sz := by rw [← TR.len hT, Array.length_toList]
          have k1 := h.frz us m2
          have hA1 : ¬ (A fr ∨ refs us fr) := by
            rintro (h1 | ⟨p, hp, e⟩)
            · exact hA h1
            · exact hA (h.mem (by rw [hH _ (e ▸ m1 p hp)]; exact e ▸ m1 p hp))
          have fin : ∀ (cs : Array Value), LR (TR w (okOf C.X ρ (getO (updH σ.heap us))) u) xs cs.toList → xs.length = n → n * u.sz ≤ cs.size → (Instr.buildSlice t n vs).run P w = .ok (.slice (some ⟨w.heap.size, 0, none⟩) n n) (w.alloc (.cells cs et)) →
              Res P C A ρ σ a w (.one (.own fr)) (us ++ [(fr, .arr u xs)]) (Instr.buildSlice t n vs) := by
            intro cs hL hn hsz hrun
            have hlen := hL.len (fun _ _ h => TR.len h)
            obtain ⟨ρ', q1, q2⟩ := k1.rel.newRow fr hA1 u xs n cs et (by omega) hsz (by
              rw [← hlen, List.take_length]
              exact hL)
            refine ⟨_, _, ρ', hrun, k1.trans q2, ?_, .inr ((refs_app _ _ _).2 (.inr ((refs_one _ _).2 rfl)))⟩
            rw [updH_app]
            have := SlR_own (w := w.alloc (.cells cs et)) (ok := okOf C.X ρ' (getO (updH (updH σ.heap us) [(fr, .arr u xs)]))) (upd_one ({ σ with heap := updH σ.heap us }) fr (.arr u xs)) q1
            rw [hn] at this
            exact this
          split at hg2
          · rename_i hn0
            have hn0 := Nat.eq_of_beq_eq_true hn0
            subst hn0
            have hps : ps = [] := by simpa using hg2
            subst hps
            cases hb
            have hvs : vs.toList = [] := hv
            refine fin #[] rfl rfl (by simp) ?_
            simp [Instr.buildSlice, run_underlying g1, sizeOf, typeInfo, z1, hvs, Instr.fill, newRow]
            rw [Array.eq_empty_of_size_eq_zero (show (Array.map (fun x => default) (Array.range 0) : Array Value).size = 0 by simp)]
          · have hpos := Nat.le_of_ble_eq_true hg2
            have hz0 : 0 < z.cells.size := by
              rw [hzs]
              exact Nat.pos_of_mul_pos_left hpos
            have hml := made_list z.cells hz0 n
            rw [hzs] at hml
            obtain ⟨cs', q1, q2, q3, q4⟩ := m3 us m2 (fun p hp => hp) (madeCells z.cells (n * u.sz)) (by rw [hml]; exact LR.replicate hT n)
            refine fin cs' q2 (by rw [q4, List.length_replicate]) (by rw [q3, size_madeCells]; exact Nat.le_refl _) ?_
            refine run_buildSlice (P := P) w t et n vs cs' inf z g1 z1 z2 (by rw [d3]; omega) (by rw [d3]; omega) ?_
            rw [d3]
            exact q1
      · cases e
    · cases e
  · cases e
end
end Go.Sym

/- Arrays in the elements of rows, I. -/
namespace Go.Sym
section
variable {P : Program} {C : Ctx} {A : Nat → Prop} {ρ ρ' : Nat → RV} {σ : St} {a : Act} {w w' : World} {α : Type} {k : Slot → Ups → Option α} {out : α} {Hr : Nat → HO} {c : Cfg} {fr : Nat}
/-- Where an array of a row's element lies. -/
theorem arr_at (h : Rel C A ρ σ a w) {r i j n : Nat} {e u : Ty} {xs : List u.den} {ys : List e.den} (hr : getO σ.heap r = .arr u xs ∨ getO σ.heap r = .froz u xs) (hi : i < xs.length) (hp : projAt u j (.arr n e) (xs.getD i u.zero) = some ys) :
    ∃ (b off cap : Nat) (cs : Array Value) (et : TypeId) (f : Nat × Nat), ρ r = .at b off cap ∧ w.heap[b]? = some (.cells cs et f) ∧ projAt u j (.arr n e) xs[i] = some ys ∧ ys.length = n ∧
      LR (TR w (okOf C.X ρ (getO σ.heap)) e) ys ((cs.toList.drop (off + (i * u.sz + j))).take (n * e.sz)) ∧ off + (i * u.sz + j) + n * e.sz ≤ cs.size := by
  have hd : xs.getD i u.zero = xs[i] := by simp [List.getD_eq_getElem?_getD, hi]
  rw [hd] at hp
  rcases RowFacts h hr with h3 | h3
  · rw [h3] at hi
    cases hi
  · cases hρ : ρ r with
    | none =>
      rw [hρ] at h3
      rw [show xs = [] from h3] at hi
      cases hi
    | «at» b off cap =>
      rw [hρ] at h3
      obtain ⟨cs, et, f, k1, _, k2, k3, k4⟩ := h3
      have hmul := Nat.mul_le_mul_right u.sz (show i + 1 ≤ xs.length from hi)
      rw [Nat.succ_mul] at hmul
      have hcapm := Nat.mul_le_mul_right u.sz k2
      have hT := k4.nth (fun _ _ k => TR.len k) i hi
      rw [seg _ _ _ _ hmul, List.drop_drop] at hT
      obtain ⟨p1, p2⟩ := proj_TR u j (.arr n e) _ ys _ hT hp
      have hs : (Ty.arr n e).sz = n * e.sz := rfl
      rw [seg _ _ _ _ p2, List.drop_drop, hs] at p1
      rw [hs] at p2
      obtain ⟨p3, p4⟩ := p1
      refine ⟨b, off, cap, cs, et, f, rfl, k1, hp, p3, ?_, by omega⟩
      rw [show off + (i * u.sz + j) = off + i * u.sz + j by omega]
      exact p4
theorem arrIn_at (h : Rel C A ρ σ a w) (hH : ∀ r, Hr r ≠ .dead → getO σ.heap r = Hr r) {r i j n : Nat} {e : Ty} {ys : List e.den} (he : arrIn Hr r i j n e = some ys)
    (hi : ∀ (t : Ty) (xs : List t.den), (getO σ.heap r = .arr t xs ∨ getO σ.heap r = .froz t xs) → i < xs.length) :
    ∃ (u : Ty) (xs : List u.den) (b off cap : Nat) (cs : Array Value) (et : TypeId) (f : Nat × Nat), (getO σ.heap r = .arr u xs ∨ getO σ.heap r = .froz u xs) ∧ ρ r = .at b off cap ∧ w.heap[b]? = some (.cells cs et f) ∧ ys.length = n ∧
      LR (TR w (okOf C.X ρ (getO σ.heap)) e) ys ((cs.toList.drop (off + (i * u.sz + j))).take (n * e.sz)) ∧ off + (i * u.sz + j) + n * e.sz ≤ cs.size := by
  unfold arrIn at he
  split at he
  · rename_i u xs hr
    have hr' := (hH r (by rw [hr]; intro h; cases h)).trans hr
    obtain ⟨b, off, cap, cs, et, f, k1, k2, _, k3, k4, k5⟩ := arr_at h (.inl hr') (hi u xs (.inl hr')) he
    exact ⟨u, xs, b, off, cap, cs, et, f, .inl hr', k1, k2, k3, k4, k5⟩
  · rename_i u xs hr
    have hr' := (hH r (by rw [hr]; intro h; cases h)).trans hr
    obtain ⟨b, off, cap, cs, et, f, k1, k2, _, k3, k4, k5⟩ := arr_at h (.inr hr') (hi u xs (.inr hr')) he
    exact ⟨u, xs, b, off, cap, cs, et, f, .inr hr', k1, k2, k3, k4, k5⟩
  · cases he
theorem xptr_at {ok : Nat → Prop} {H : Nat → HO} {r i j l n : Nat} {e : Ty} {v : Value} (hx : SR w ok ρ H (.xptr r i j l n e) v) {u : Ty} {xs : List u.den} (hr : H r = .arr u xs ∨ H r = .froz u xs) :
    i < xs.length ∧ l < n ∧ ∃ b off cap, ρ r = .at b off cap ∧ v = .pointer (some ⟨b, off + (i * u.sz + j) + l * e.sz, none⟩) := by
  obtain ⟨b, o, e1, e2⟩ := hx
  rcases hr with hr | hr
  all_goals
    simp only [hr] at e2
    obtain ⟨h1, h2, off, cap, h3, h4⟩ := e2
    refine ⟨h1, h2, b, off, cap, h3, ?_⟩
    rw [e1, h4]
    congr 3
    omega
theorem asl_at {ok : Nat → Prop} {H : Nat → HO} {r i j lo len n : Nat} {e : Ty} {v : Value} (hx : SR w ok ρ H (.asl r i j lo len n e) v) {u : Ty} {xs : List u.den} (hr : H r = .arr u xs ∨ H r = .froz u xs) :
    i < xs.length ∧ lo + len ≤ n ∧ ∃ A c, v = .slice A len c ∧ len ≤ c ∧ ∃ b off cap, ρ r = .at b off cap ∧ (len = 0 ∨ A = some ⟨b, off + (i * u.sz + j) + lo * e.sz, none⟩) := by
  rcases hr with hr | hr
  all_goals
    simp only [SR, hr] at hx
    obtain ⟨h1, h2, A', c, h3, h4, b, off, cap, h5, h6⟩ := hx
    refine ⟨h1, h2, A', c, h3, h4, b, off, cap, h5, h6.imp id (fun h => ?_)⟩
    rw [h]
    congr 2
    omega
end
end Go.Sym

/- The operations one by one, IX: append. -/
namespace Go.Sym
/-- A row, as a slice sees it. -/
def RowAt (w : World) (ok : Nat → Prop) (t : Ty) (xs : List t.den) (v : Value) : Prop :=
  ∃ A cap, v = .slice A xs.length cap ∧ (xs = [] ∨ ∃ b off c e fr, A = some ⟨b, off, none⟩ ∧ w.heap[b]? = some (.cells c e fr) ∧ LR (TR w ok t) xs ((c.toList.drop off).take (xs.length * t.sz)))
section
variable {P : Program} {C : Ctx} {A : Nat → Prop} {ρ ρ' : Nat → RV} {σ : St} {a : Act} {w w' : World} {α : Type} {k : Slot → Ups → Option α} {out : α} {Hr : Nat → HO} {c : Cfg} {fr : Nat}
theorem rowOf_at (h : Rel C A ρ σ a w) (hH : ∀ r, Hr r ≠ .dead → getO σ.heap r = Hr r) {x : SV} {d : DV} {u : Value} (e : rowOf Hr x = some d) (hx : SR w (okOf C.X ρ (getO σ.heap)) ρ (getO σ.heap) x u) :
    ∃ (t : Ty) (xs : List t.den), d = ⟨.slice t, xs⟩ ∧ RowAt w (okOf C.X ρ (getO σ.heap)) t xs u := by
  have own : ∀ (r : Nat) (q : Ty) (xs : List q.den), (getO σ.heap r = .arr q xs ∨ getO σ.heap r = .froz q xs) → SR w (okOf C.X ρ (getO σ.heap)) ρ (getO σ.heap) (.own r) u → RowAt w (okOf C.X ρ (getO σ.heap)) q xs u := by
    intro r q xs hr hs
    rcases row_slice h hr hs with ⟨h5, h6, h7⟩ | ⟨b, off, cap, h5, h6, h7⟩
    · rw [h5, h7]
      exact ⟨none, 0, rfl, .inl rfl⟩
    · rcases RowFacts h hr with h8 | h8
      · rw [h6, h8]
        exact ⟨_, cap, rfl, .inl rfl⟩
      · rw [h5] at h8
        rw [h6]
        obtain ⟨cs, e, f, k1, _, k2, k3, k4⟩ := h8
        exact ⟨_, cap, rfl, .inr ⟨b, off, cs, e, f, rfl, k1, k4⟩⟩
  have sub : ∀ (r o n : Nat) (q : Ty) (xs : List q.den), (getO σ.heap r = .arr q xs ∨ getO σ.heap r = .froz q xs) → SR w (okOf C.X ρ (getO σ.heap)) ρ (getO σ.heap) (.sub r o n) u → RowAt w (okOf C.X ρ (getO σ.heap)) q ((xs.drop o).take n) u := by
    intro r o n q xs hr hs
    have hs' : o + n ≤ xs.length ∧ ∃ A cap, u = .slice A n cap ∧ n ≤ cap ∧ (match ρ r with
      | .none => True
      | .at b off _ => n = 0 ∨ A = some ⟨b, off + o * q.sz, none⟩) := by
      rcases hr with hr | hr <;> (simp only [SR, hr] at hs; exact hs)
    obtain ⟨h1, A', cap, h2, h3, h4⟩ := hs'
    rw [h2]
    have hlen : ((xs.drop o).take n).length = n := by
      rw [List.length_take, List.length_drop]
      omega
    refine ⟨A', cap, by rw [hlen], ?_⟩
    rcases RowFacts h hr with h8 | h8
    · left
      rw [h8]
      simp
    · cases hρ : ρ r with
      | none =>
        rw [hρ] at h8
        rw [show xs = [] from h8]
        left
        simp
      | «at» b off cp =>
        rw [hρ] at h8 h4
        rcases h4 with h0 | h0
        · left
          rw [h0, List.take_zero]
        · right
          obtain ⟨cs, e, f, k1, _, k2, k3, k5⟩ := h8
          refine ⟨b, off + o * q.sz, cs, e, f, h0, k1, ?_⟩
          have k6 := (k5.drop (fun _ _ k => TR.len k) o).take (fun _ _ k => TR.len k) n
          rw [hlen, ← List.drop_drop]
          refine (congrArg (LR (TR w _ q) ((xs.drop o).take n)) ?_).mp k6
          rw [List.drop_take, List.take_take]
          congr 1
          rw [← Nat.sub_mul]
          exact Nat.min_eq_left (Nat.mul_le_mul_right _ (by omega))
  unfold rowOf at e
  split at e
  · cases e
    obtain ⟨A', cap, h1, h2, h3⟩ := VR_slice.1 hx
    refine ⟨_, _, rfl, A', cap, h1, h3.imp id ?_⟩
    rintro ⟨b, off, cs, e, f, k1, k2, k3, k4⟩
    exact ⟨b, off, cs, e, f, k1, k3, k4⟩
  · rename_i r
    split at e
    · rename_i q xs hr
      cases e
      have hr' := (hH r (by rw [hr]; intro h; cases h)).trans hr
      exact ⟨q, xs, rfl, own r q xs (.inl hr') hx⟩
    · rename_i q xs hr
      cases e
      have hr' := (hH r (by rw [hr]; intro h; cases h)).trans hr
      exact ⟨q, xs, rfl, own r q xs (.inr hr') hx⟩
    · cases e
  · rename_i r o n
    split at e
    · rename_i q xs hr
      cases e
      have hr' := (hH r (by rw [hr]; intro h; cases h)).trans hr
      exact ⟨q, _, rfl, sub r o n q xs (.inl hr') hx⟩
    · rename_i q xs hr
      cases e
      have hr' := (hH r (by rw [hr]; intro h; cases h)).trans hr
      exact ⟨q, _, rfl, sub r o n q xs (.inr hr') hx⟩
    · cases e
  · cases e
/-- What an append brings. -/
structure Src (P : Program) (w : World) (size n : Nat) (v : Value) (news : List Value) : Prop where
  len : ∀ w', (Builtin.lenOf v).run P w' = .ok n w'
  cells : ∀ w', w'.heap = w.heap → (Builtin.firstCells size n v).run P w' = .ok news.toArray w'
structure Srcs (P : Program) (w : World) (size n : Nat) (v : Value) (news : List Value) : Prop extends Src P w size n v news where
  pre : ∀ w', w'.heap = w.heap → ∀ m, m ≤ n → (Builtin.firstCells size m v).run P w' = .ok (news.take (m * size)).toArray w'
theorem cell_heap (h : w'.heap = w.heap) (a : Addr) : w'.cell? a = w.cell? a := by simp only [World.cell?, h]
theorem seg_cells {b off : Nat} {cs : Array Value} {e : TypeId} {f : Nat × Nat} (hb : w.heap[b]? = some (.cells cs e f)) (n : Nat) : ∀ j v, ((cs.toList.drop off).take n)[j]? = some v → w.cell? ((⟨b, off, none⟩ : Addr).add j) = some v := by
  intro j v hj
  have hadd : (⟨b, off, none⟩ : Addr).add j = ⟨b, off + j, none⟩ := by
    unfold Addr.add
    split <;> simp_all
  rw [hadd, cell_of_row w b (off + j) cs e f hb]
  rw [List.getElem?_take] at hj
  split at hj
  · simpa using hj
  · cases hj
theorem RowAt.src {ok : Nat → Prop} {t : Ty} {xs : List t.den} {v : Value} (h : RowAt w ok t xs v) : ∃ news, Srcs P w t.sz xs.length v news ∧ LR (TR w ok t) xs news := by
  obtain ⟨A', cap, rfl, h⟩ := h
  rcases h with rfl | ⟨b, off, cs, e, f, rfl, h1, h2⟩
  · refine ⟨[], ⟨⟨fun w' => rfl, fun w' hw => ?_⟩, fun w' hw m hm => ?_⟩, rfl⟩
    · cases A' with
      | none => simp [Builtin.firstCells]
      | some a => simp [Builtin.firstCells, loadCells, loadCellsFrom]
    · have hm : m = 0 := Nat.le_zero.1 hm
      subst hm
      cases A' with
      | none => simp [Builtin.firstCells]
      | some a => simp [Builtin.firstCells, loadCells, loadCellsFrom]
  · refine ⟨_, ⟨⟨fun w' => rfl, fun w' hw => ?_⟩, fun w' hw m hm => ?_⟩, h2⟩
    rotate_left
    · have h3 := h2.take (fun _ _ k => TR.len k) m
      refine run_firstCells_some w' t.sz m ⟨b, off, none⟩ xs.length cap _ (by rw [h3.len (fun _ _ k => TR.len k), List.length_take, Nat.min_eq_left hm]) (fun j v hj => ?_)
      rw [cell_heap hw]
      rw [List.getElem?_take] at hj
      split at hj
      · exact seg_cells h1 _ j v hj
      · cases hj
    exact run_firstCells_some w' t.sz xs.length ⟨b, off, none⟩ xs.length cap _ (h2.len (fun _ _ k => TR.len k)) (fun j v hj => by
      rw [cell_heap hw]
      exact seg_cells h1 _ j v hj)
theorem appSrc_sound (h : Rel C A ρ σ a w) (hH : ∀ r, Hr r ≠ .dead → getO σ.heap r = Hr r) {t : Ty} {y : SV} {ys : List t.den} {v : Value} (e : appSrc Hr t y = some ys) (hy : SR w (okOf C.X ρ (getO σ.heap)) ρ (getO σ.heap) y v) :
    ∃ news, Srcs P w t.sz ys.length v news ∧ LR (TR w (okOf C.X ρ (getO σ.heap)) t) ys news := by
  unfold appSrc at e
  split at e
  · cases e
    have hv : v = .slice none 0 0 := hy
    subst hv
    exact RowAt.src ⟨none, 0, rfl, .inl rfl⟩
  · rename_i s
    split at e
    · rename_i hc
      have hq := tyq_eq hc
      cases hq
      cases e
      have hv := VR_str.1 hy
      subst hv
      refine ⟨s.data.toList.map fun b => Value.int .u8 (b.toNat : Int), ⟨⟨fun w' => ?_, fun w' hw => ?_⟩, fun w' hw m hm => ?_⟩, ?_⟩
      · have : (cast (tyq_eq hc) (s.data.toList.map fun b => ((b.toNat : Nat) : Int)) : List Int).length = s.size := by
          show (s.data.toList.map fun b => ((b.toNat : Nat) : Int)).length = s.size
          simp
        rw [this]
        rfl
      · have hl : (cast (tyq_eq hc) (s.data.toList.map fun b => ((b.toNat : Nat) : Int)) : List Int).length = s.size := by
          show (s.data.toList.map fun b => ((b.toNat : Nat) : Int)).length = s.size
          simp
        rw [hl]
        simp only [Builtin.firstCells]
        have : s.extract 0 s.size = s := ByteArray.extract_zero_size
        rw [this]
        have : (s.data.map fun b => Value.int .u8 (b.toNat : Int)) = (s.data.toList.map fun b => Value.int .u8 (b.toNat : Int)).toArray := by
          apply Array.ext'
          simp
        rw [this]
        rfl
      · have hl : (cast (tyq_eq hc) (s.data.toList.map fun b => ((b.toNat : Nat) : Int)) : List Int).length = s.size := by
          show (s.data.toList.map fun b => ((b.toNat : Nat) : Int)).length = s.size
          simp
        simp only [Builtin.firstCells]
        have : ((s.extract 0 m).data.map fun b => Value.int .u8 (b.toNat : Int)) = ((s.data.toList.map fun b => Value.int .u8 (b.toNat : Int)).take (m * 1)).toArray := by
          apply Array.ext'
          rw [Nat.mul_one, ← List.map_take]
          simp
        rw [this]
        rfl
      · show LR (TR w _ (.int .u8)) (s.data.toList.map fun b => ((b.toNat : Nat) : Int)) _
        generalize s.data.toList = l
        induction l with
        | nil => rfl
        | cons b l ih => exact ⟨[_], _, rfl, rfl, ih⟩
    · cases e
  · split at e
    · rename_i t' ys' hro
      split at e
      · rename_i hc
        obtain ⟨q, xs, h1, h2⟩ := rowOf_at h hH hro hy
        cases h1
        have hq := tyq_eq hc
        cases hq
        cases e
        exact h2.src
      · cases e
    · cases e
theorem appSrcX_sound (h : Rel C A ρ σ a w) (hH : ∀ r, Hr r ≠ .dead → getO σ.heap r = Hr r) {t : Ty} {y : SV} {ys : List t.den} {v : Value} (e : appSrcX Hr t y = some ys) (hy : SR w (okOf C.X ρ (getO σ.heap)) ρ (getO σ.heap) y v) :
    ∃ news, Srcs P w t.sz ys.length v news ∧ LR (TR w (okOf C.X ρ (getO σ.heap)) t) ys news := by
  unfold appSrcX at e
  split at e
  · rename_i r i j lo len n q
    split at e
    · rename_i zs hz
      split at e
      · rename_i hc
        have hq := tyq_eq hc
        subst hq
        cases e
        obtain ⟨u, xs, b, off, cap, cs, et, f, k1, k2, k3, k4, k5, k6⟩ := arrIn_at h hH hz (fun t xs hr => (asl_at hy hr).1)
        obtain ⟨m1, m2, A', cp, m3, m4, b', off', cap', m5, m6⟩ := asl_at hy k1
        rw [k2] at m5
        cases m5
        refine RowAt.src (xs := (List.drop lo zs).take len) ⟨A', cp, ?_, ?_⟩
        · rw [m3, List.length_take, List.length_drop]
          congr 1
          omega
        · rcases m6 with m6 | m6
          · left
            rw [m6, List.take_zero]
          · right
            refine ⟨b, _, cs, et, f, m6, k3, ?_⟩
            have k7 := (k5.drop (fun _ _ k => TR.len k) lo).take (fun _ _ k => TR.len k) len
            have hl : ((List.drop lo zs).take len).length = len := by
              rw [List.length_take, List.length_drop]
              omega
            rw [hl, ← List.drop_drop]
            refine (congrArg (LR (TR w _ q) ((List.drop lo zs).take len)) ?_).mp k7
            rw [List.drop_take, List.take_take]
            congr 1
            rw [← Nat.sub_mul]
            exact Nat.min_eq_left (Nat.mul_le_mul_right _ (by omega))
      · cases e
    · cases e
  · exact appSrc_sound h hH e hy
/-! ### the run -/
theorem run_app_room {t t2 ty e : TypeId} {i : TypeInfo} {d2 : TypeDesc} (ht : P.underlying t = some (.slice e)) (hi : P.info? e = some i) (ht2 : P.underlying t2 = some d2) (hd : (∃ e2, d2 = .slice e2) ∨ d2 = .string)
    {n : Nat} {v : Value} {news : List Value} (hs : Src P w i.size n v news) {b off sLen sCap : Nat} {cur : Array Value} {et : TypeId} (hb : w.heap[b]? = some (.cells cur et (0, 0))) (hroom : sLen + n ≤ sCap)
    (hfit : off + sLen * i.size + news.length ≤ cur.size) (h1 : ∀ u ∈ news, isOne u = true) :
    (Builtin.append_ #[t, t2] ty #[.slice (some ⟨b, off, none⟩) sLen sCap, v]).run P w = .ok (.slice (some ⟨b, off, none⟩) (sLen + n) sCap) (w.setRow b (lay cur.toList (off + sLen * i.size) news).toArray) := by
  have hst := run_storeCells_at P b (off + sLen * i.size) et news 0 cur w hb (by simpa using hfit) (fun u hu => one_cell (h1 u hu))
  simp only [Nat.add_zero] at hst
  have hadd : (⟨b, off, none⟩ : Addr).add (sLen * i.size) = ⟨b, off + sLen * i.size, none⟩ := by
    unfold Addr.add
    split <;> simp_all
  rcases hd with ⟨e2, rfl⟩ | rfl
  all_goals
    simp [Builtin.append_, run_underlying ht, run_underlying ht2, sizeOf, typeInfo, hi, hs.len, hroom, hs.cells w rfl, hadd, hst, lay]
theorem run_app_none {t t2 ty e : TypeId} {i : TypeInfo} {d2 : TypeDesc} (ht : P.underlying t = some (.slice e)) (hi : P.info? e = some i) (ht2 : P.underlying t2 = some d2) (hd : (∃ e2, d2 = .slice e2) ∨ d2 = .string)
    {v : Value} {news : List Value} (hs : Src P w i.size 0 v news) :
    (Builtin.append_ #[t, t2] ty #[.slice none 0 0, v]).run P w = .ok (.slice none 0 0) w := by
  rcases hd with ⟨e2, rfl⟩ | rfl
  all_goals
    simp [Builtin.append_, run_underlying ht, run_underlying ht2, sizeOf, typeInfo, hi, hs.len, hs.cells w rfl]
theorem run_app_grow {t t2 ty e : TypeId} {i : TypeInfo} {z : Value} {d2 : TypeDesc} (ht : P.underlying t = some (.slice e)) (hi : P.info? e = some i) (hz : i.zero = some z) (ht2 : P.underlying t2 = some d2) (hd : (∃ e2, d2 = .slice e2) ∨ d2 = .string)
    {n m : Nat} {s v : Value} {olds news : List Value} {B : Option Addr} {sCap : Nat} (hsv : s = .slice B m sCap) (ho : Src P w i.size m s olds) (hs : Src P w i.size n v news)
    (hg : sCap < m + n) (h63 : ((m + n : Nat) : Int) ≤ 9223372036854775807) (hfit : Builtin.nextslicecap (m + n) sCap * i.bytes ≤ 281474976710656) :
    (Builtin.append_ #[t, t2] ty #[s, v]).run P w = .ok (.slice (some ⟨w.heap.size, 0, none⟩) (m + n) (grownCap w (m + n) sCap e))
        (w.drew.alloc (.cells (olds.toArray ++ news.toArray ++ Builtin.zeroCells z.cells (grownCap w (m + n) sCap e - (m + n))) e)) := by
  subst hsv
  have hn : ¬ (m + n ≤ sCap) := by omega
  have h63' : ¬ (9223372036854775807 < ((m : Int) + (n : Int))) := by omega
  have h48' : ¬ (281474976710656 < Builtin.nextslicecap (m + n) sCap * i.bytes) := by omega
  have hfo := ho.cells w.drew rfl
  have hfn := hs.cells w.drew rfl
  rcases hd with ⟨e2, rfl⟩ | rfl
  all_goals
    simp [Builtin.append_, run_underlying ht, run_underlying ht2, sizeOf, typeInfo, zeroValue, hi, hz, hs.len, hn, h63', h48', Question.forced, hfn, hfo, newRow, grownCap]
    try
      congr 2
      apply Array.ext'
      simp [List.append_assoc]
/-! ### rows that grow -/
theorem SR.heap {ok : Nat → Prop} {H : Nat → HO} (hw : w'.heap = w.heap) {x : SV} {u : Value} (h : SR w ok ρ H x u) : SR w' ok ρ H x u :=
  SR.mono (A := fun _ => True) (fun b hb _ => ⟨by rw [hw], hb⟩) (fun r _ => ⟨HC.refl _, fun _ => rfl⟩) (by cases x <;> first | trivial | exact fun _ _ => trivial) h
/-- The draws before it do not count. -/
theorem Aft.drawn {us : Ups} {w1 : World} (h : Aft C A ρ σ a w1 us ρ' w') (hw : w1.heap = w.heap) : Aft C A ρ σ a w us ρ' w' :=
  ⟨h.rel, ⟨by rw [← hw]; exact h.hp.sz, by rw [← hw]; exact h.hp.hp⟩, fun x u hi hs => h.mono x u hi (hs.heap hw)⟩
/-- A row's reference dies, and a new one comes. -/
theorem Rel.grow (h : Rel C A ρ σ a w) {r n : Nat} {t : Ty} {xs zs : List t.den} (hr : getO σ.heap r = .arr t xs) (hn : ¬ A n) (rv : RV) (hfr : Fr (fun b => ∃ o c, ρ r = .at b o c) w w')
    (hrv : ∀ b o c, rv = .at b o c → (∃ o' c', ρ r = .at b o' c') ∨ w.heap.size ≤ b)
    (hobj : ∀ ρ', Hp C.X ρ ρ' σ.heap (updH σ.heap [(r, .dead), (n, .arr t zs)]) w w' → AR w' (okOf C.X ρ' (getO (updH σ.heap [(r, .dead), (n, .arr t zs)]))) (· = (0, 0)) t zs rv) :
    ∃ ρ', ρ' n = rv ∧ Aft C A ρ σ a w [(r, .dead), (n, .arr t zs)] ρ' w' := by
  have hAr : A r := h.mem (by rw [hr]; intro h; cases h)
  have hrn : r ≠ n := fun e => hn (e ▸ hAr)
  have hlr : (getO σ.heap r).live = true := by rw [hr]; rfl
  have hget : ∀ s, getO (updH σ.heap [(r, .dead), (n, .arr t zs)]) s = if s = n then .arr t zs else if s = r then .dead else getO σ.heap s := fun s => by
    rw [updH, updH, updH, getO_put, getO_put]
  have hrefs : ∀ s, refs [(r, .dead), (n, HO.arr t zs)] s ↔ s = r ∨ s = n := fun s => ⟨fun ⟨p, hp, e⟩ => (by
    cases hp with
    | head => exact .inl e.symm
    | tail _ h => cases h with
      | head => exact .inr e.symm
      | tail _ h => cases h), fun e => by
    rcases e with e | e
    · exact ⟨_, List.mem_cons_self .., e.symm⟩
    · exact ⟨_, List.mem_cons_of_mem _ (List.mem_cons_self ..), e.symm⟩⟩
  have hgr : getO (updH σ.heap [(r, .dead), (n, .arr t zs)]) r = .dead := by rw [hget, if_neg hrn, if_pos rfl]
  have hgn : getO (updH σ.heap [(r, .dead), (n, .arr t zs)]) n = .arr t zs := by rw [hget, if_pos rfl]
  let ρ' : Nat → RV := fun s => if s = n then rv else ρ s
  have hρ : ∀ s, s ≠ n → ρ' s = ρ s := fun s hs => if_neg hs
  have hρn : ρ' n = rv := if_pos rfl
  refine ⟨ρ', hρn, h.aft (ρ' := ρ') _ ?_ ?_ ?_ ?_ ?_ ?_⟩
  · intro s hs
    have hsn : s ≠ n := fun e => hn (e ▸ hs)
    rw [hget, if_neg hsn]
    by_cases e : s = r
    · rw [if_pos e]
      exact ⟨(by cases getO σ.heap s <;> trivial), fun hd => absurd rfl hd⟩
    · rw [if_neg e]
      exact ⟨HC.refl _, fun _ => hρ s hsn⟩
  · exact ⟨hfr.os, hfr.tape, hfr.output, hfr.size, fun k hk hb => hfr.block k hk (fun ⟨o, c, e⟩ => hb ⟨r, o, c, (hrefs r).2 (.inl rfl), hlr, e⟩)⟩
  · intro s hs hl b o c e
    rcases (hrefs s).1 hs with rfl | rfl
    · rw [hgr] at hl
      cases hl
    · rw [hρn] at e
      rcases hrv b o c e with ⟨o', c', h1⟩ | h1
      · exact .inl ⟨r, o', c', hlr, h1⟩
      · exact .inr h1
  · intro hp hm s hs
    rcases (hrefs s).1 hs with rfl | rfl
    · rw [hgr]
      trivial
    · rw [hgn, hρn]
      exact hobj ρ' hp
  · intro s q hs hsq hl hq b o c b' o' c' e1 e2
    rcases (hrefs s).1 hs with rfl | rfl
    · rw [hgr] at hl
      cases hl
    · have hqn : q ≠ s := Ne.symm hsq
      rw [hρn] at e1
      rw [hρ q hqn] at e2
      rw [hget, if_neg hqn] at hq
      by_cases e : q = r
      · rw [if_pos e] at hq
        cases hq
      · rw [if_neg e] at hq
        rcases hrv b o c e1 with ⟨o'', c'', h1⟩ | h1
        · exact h.inj r q (Ne.symm e) hlr hq b o'' c'' b' o' c' h1 e2
        · have := h.lt hq e2
          omega
  · intro s l hs e
    rcases (hrefs s).1 hs with rfl | rfl
    · rw [hgr] at e
      cases e
    · rw [hgn] at e
      cases e
theorem SlR_empty {ok : Nat → Prop} {H : Nat → HO} {t : Ty} {n : Nat} (h1 : H n = .arr t []) (h2 : ρ n = .none) : SlR w ok ρ H (.one (.own n)) (.slice none 0 0) := by
  simp only [SlR, SR, h1, h2]
theorem LR_seg_app {ok : Nat → Prop} {t : Ty} {xs ys : List t.den} {cs news : List Value} {off : Nat} (h1 : LR (TR w ok t) xs ((cs.drop off).take (xs.length * t.sz))) (h2 : LR (TR w ok t) ys news) (hf : off + xs.length * t.sz + news.length ≤ cs.length) :
    LR (TR w ok t) (xs ++ ys) (((lay cs (off + xs.length * t.sz) news).drop off).take ((xs ++ ys).length * t.sz)) := by
  have hn := h2.len (fun _ _ k => TR.len k)
  have hl := h1.len (fun _ _ k => TR.len k)
  rw [List.length_append, Nat.add_mul, ← hn]
  rw [lay_seg cs news (off + xs.length * t.sz) hf off (xs.length * t.sz + news.length) (by omega) (by omega)]
  have : lay ((cs.drop off).take (xs.length * t.sz + news.length)) (off + xs.length * t.sz - off) news = (cs.drop off).take (xs.length * t.sz) ++ news := by
    unfold lay
    have hd : ((cs.drop off).take (xs.length * t.sz + news.length)).drop (xs.length * t.sz + news.length) = [] := List.drop_eq_nil_of_le (by rw [List.length_take]; omega)
    rw [Nat.add_sub_cancel_left, List.take_take, Nat.min_eq_left (by omega), hd, List.append_nil]
  rw [this]
  exact h1.app h2
theorem evAppend_sound (hc : CfgOk P c) (h : Rel C A ρ σ a w) (hH : ∀ r, Hr r ≠ .dead → getO σ.heap r = Hr r) {t t2 : Nat} {ty : TypeId} {x y : SV} {u v : Value} (hx : SR w (okOf C.X ρ (getO σ.heap)) ρ (getO σ.heap) x u) (hy : SR w (okOf C.X ρ (getO σ.heap)) ρ (getO σ.heap) y v)
    (e : evAppend c Alg.real Hr fr k t t2 x y = some out) : Law P C A ρ σ a w Hr fr k out (Builtin.append_ #[t, t2] ty #[u, v]) := by
  unfold evAppend at e
  split at e
  · rename_i q by_ hl hb hs2
    obtain ⟨et, g1, g2, g3⟩ := tyChk_slice (hc.ty _ _ hl)
    obtain ⟨et', inf, j1, j2, j3, j4, j5, j6⟩ := hc.by_ _ _ hb
    rw [g1] at j1
    cases j1
    obtain ⟨inf', z, z1, z2, z3⟩ := g2.zero g3
    rw [j2] at z1
    cases z1
    obtain ⟨d, inf', d1, d2, d3, d4⟩ := g2.row
    rw [j2] at d2
    cases d2
    have hT := VR.cells (z3 w (okOf C.X ρ (getO σ.heap)))
    have hzs : z.cells.size = q.sz := by rw [← TR.len hT, Array.length_toList]
    have hd2 : ∃ d2, P.underlying t2 = some d2 ∧ ((∃ e2, d2 = .slice e2) ∨ d2 = .string) := by
      unfold isSrc at hs2
      split at hs2
      · rename_i q2 h2
        obtain ⟨et2, k1, _⟩ := tyChk_slice (hc.ty _ _ h2)
        exact ⟨_, k1, .inl ⟨_, rfl⟩⟩
      · rename_i h2
        exact ⟨_, (tyTop_ok (hc.ty _ _ h2)).str rfl, .inr rfl⟩
      · cases hs2
    obtain ⟨dd, hd2, hd3⟩ := hd2
    split at e
    · cases e
    · rename_i ys hsrc
      obtain ⟨news, hsr, hL⟩ := appSrcX_sound (P := P) h hH hsrc hy
      have hsr := hsr.toSrc
      have hnl := hL.len (fun _ _ k => TR.len k)
      rw [← d3] at hsr
      have rows : ∀ (m : Nat) (olds : List Value) (xs : List q.den), LR (TR w (okOf C.X ρ (getO σ.heap)) q) xs olds → xs.length = m → ∀ cap, m + ys.length ≤ cap →
          m + ys.length ≤ cap ∧ cap * q.sz ≤ (olds.toArray ++ news.toArray ++ Builtin.zeroCells z.cells (cap - (m + ys.length))).size ∧
          LR (TR w (okOf C.X ρ (getO σ.heap)) q) (xs ++ ys) ((olds.toArray ++ news.toArray ++ Builtin.zeroCells z.cells (cap - (m + ys.length))).toList.take ((m + ys.length) * q.sz)) := by
        intro m olds xs ho hm cap hcap
        have hol := ho.len (fun _ _ k => TR.len k)
        refine ⟨hcap, ?_, ?_⟩
        · simp only [Array.size_append, List.size_toArray, size_zeroCells, hzs, hol, hnl, hm, ← Nat.add_mul]
          apply Nat.mul_le_mul_right
          omega
        · simp only [Array.toList_append]
          rw [List.take_append_of_le_length (by simp only [List.length_append, hol, hnl, hm, ← Nat.add_mul]; exact Nat.le_refl _), List.take_of_length_le (by simp only [List.length_append, hol, hnl, hm, ← Nat.add_mul]; exact Nat.le_refl _)]
          exact ho.app hL
      have big : ∀ m : Nat, (m + ys.length) * by_ ≤ 140737488355328 → ((m + ys.length : Nat) : Int) ≤ 9223372036854775807 := by
        intro m hm
        have := Nat.le_mul_of_pos_right (m + ys.length) j4
        omega
      have fresh1 : ∀ {r : Nat}, A r → InH Hr fr [(r, .dead), (fr, .arr q ys)] → True := fun _ _ => trivial
      split at e
      · -- nil
        simp only [Alg.real] at e
        split at e
        · rename_i hbz
          have hbz := of_decide_eq_true hbz
          have hu : u = .slice none 0 0 := hx
          subst hu
          refine ⟨_, _, e, fun p hp => ?_, fun hf => ?_⟩
          · cases hp with
            | head => exact .inr (Nat.le_refl _)
            | tail _ hp => cases hp
          · have hA := hf _ (List.mem_cons_self ..) (Nat.le_refl _)
            by_cases h0 : ys = []
            · subst h0
              obtain ⟨ρ1, k1, k2⟩ := h.empty q fr hA
              exact ⟨_, w, ρ1, run_app_none g1 j2 hd2 hd3 hsr, k2, SlR_empty (upd_one σ fr _) k1, .inr ((refs_one _ _).2 rfl)⟩
            · have hpos : 0 < ys.length := List.length_pos_iff.2 h0
              have hs0 : Src P w inf.size 0 (.slice none 0 0) [] := ⟨fun _ => rfl, fun w' _ => by simp [Builtin.firstCells]⟩
              have hfit : Builtin.nextslicecap (0 + ys.length) 0 * inf.bytes ≤ 281474976710656 := growslice_fits (by omega) (by rw [j3, Nat.zero_add]; exact hbz)
              have hrun := run_app_grow (ty := ty) g1 j2 z2 hd2 hd3 rfl hs0 hsr (by omega) (big 0 (by rw [Nat.zero_add]; exact hbz)) hfit
              obtain ⟨r1, r2, r3⟩ := rows 0 [] [] rfl rfl (grownCap w (0 + ys.length) 0 et) (grownCap_ge _ _ _ _)
              simp only [Nat.zero_add] at hrun r1 r2 r3
              have hd := h.world (w' := w.drew) rfl rfl rfl rfl
              obtain ⟨ρ', m1, m2⟩ := hd.newRow fr hA q ys _ _ et r1 r2 (LR.mono r3 (fun _ _ k => TR.mono (w := w) (w' := w.drew) (fun _ hb _ => ⟨rfl, hb⟩) k))
              refine ⟨_, _, ρ', hrun, m2.drawn rfl, ?_, .inr ((refs_one _ _).2 rfl)⟩
              exact SlR_own (upd_one σ fr (.arr q ys)) m1
        · cases e
      · -- own
        rename_i r
        try dsimp only at e
        split at e
        · rename_i u' xs hr
          split at e
          · rename_i hq
            simp only [Alg.real] at e
            split at e
            · rename_i hbz
              have hbz := of_decide_eq_true hbz
              have hqq := tyq_eq hq
              cases hqq
              have hr' := (hH r (by rw [hr]; intro h; cases h)).trans hr
              refine ⟨_, _, e, fun p hp => ?_, fun hf => ?_⟩
              · cases hp with
                | head => exact .inl (by show Hr r ≠ _; rw [hr]; intro h; cases h)
                | tail _ hp => cases hp with
                  | head => exact .inr (Nat.le_refl _)
                  | tail _ hp => cases hp
              · have hA := hf (fr, .arr q (List.append xs ys)) (List.mem_cons_of_mem _ (List.mem_cons_self ..)) (Nat.le_refl _)
                have hAr : A r := h.mem (by rw [hr']; intro h; cases h)
                have hrn : r ≠ fr := fun e => hA (e ▸ hAr)
                have hgn : ∀ zs : List q.den, getO (updH σ.heap [(r, .dead), (fr, .arr q zs)]) fr = .arr q zs := fun zs => by rw [updH, updH, updH, getO_put, if_pos rfl]
                have hrf : ∀ zs : List q.den, refs [(r, .dead), (fr, HO.arr q zs)] fr := fun zs => ⟨_, List.mem_cons_of_mem _ (List.mem_cons_self ..), rfl⟩
                show Res P C A ρ σ a w (.one (.own fr)) [(r, .dead), (fr, .arr q (xs ++ ys))] _
                have hbz : (xs.length + ys.length) * by_ ≤ 140737488355328 := hbz
                -- it grows
                have grow : ∀ (olds : List Value) (B : Option Addr) (sCap : Nat), u = .slice B xs.length sCap → Src P w inf.size xs.length u olds → LR (TR w (okOf C.X ρ (getO σ.heap)) q) xs olds → sCap < xs.length + ys.length →
                    Res P C A ρ σ a w (.one (.own fr)) [(r, .dead), (fr, .arr q (xs ++ ys))] (Builtin.append_ #[t, t2] ty #[u, v]) := by
                  intro olds B sCap hu ho hol hg
                  have hfit : Builtin.nextslicecap (xs.length + ys.length) sCap * inf.bytes ≤ 281474976710656 := growslice_fits (by omega) (by rw [j3]; exact hbz)
                  have hrun := run_app_grow (ty := ty) g1 j2 z2 hd2 hd3 hu ho hsr hg (big _ hbz) hfit
                  obtain ⟨r1, r2, r3⟩ := rows xs.length olds xs hol rfl (grownCap w (xs.length + ys.length) sCap et) (grownCap_ge _ _ _ _)
                  obtain ⟨ρ', m1, m2⟩ := h.grow (zs := xs ++ ys) hr' hA (.at w.heap.size 0 (grownCap w (xs.length + ys.length) sCap et))
                    (w' := w.drew.alloc (.cells (olds.toArray ++ news.toArray ++ Builtin.zeroCells z.cells (grownCap w (xs.length + ys.length) sCap et - (xs.length + ys.length))) et))
                    ⟨rfl, rfl, rfl, by simp, fun k hk _ => heap_alloc_old w.drew _ k hk⟩ (fun b o c e => by cases e; exact .inr (Nat.le_refl _))
                    (fun ρ' hp => ⟨_, et, (0, 0), heap_alloc_new w.drew _, rfl, by rw [List.length_append]; exact r1, by omega, by
                      rw [List.drop_zero, List.length_append]
                      exact r3.mono (fun _ _ k => TR.mono hp.hp k)⟩)
                  refine ⟨_, _, ρ', hrun, m2, ?_, .inr (hrf _)⟩
                  have := SlR_own (w := w.drew.alloc (.cells (olds.toArray ++ news.toArray ++ Builtin.zeroCells z.cells (grownCap w (xs.length + ys.length) sCap et - (xs.length + ys.length))) et)) (ok := okOf C.X ρ' (getO (updH σ.heap [(r, .dead), (fr, .arr q (xs ++ ys))]))) (hgn (xs ++ ys)) m1
                  rw [List.length_append] at this
                  exact this
                rcases row_slice h (.inl hr') hx with ⟨h5, h6, h7⟩ | ⟨b, off, cap, h5, h6, h7⟩
                · subst h5 h7
                  by_cases h0 : ys = []
                  · subst h0
                    obtain ⟨ρ', m1, m2⟩ := h.grow (zs := ([] : List q.den)) hr' hA .none (w' := w) (Fr.refl _ _) (fun b o c e => by cases e) (fun ρ' hp => rfl)
                    refine ⟨_, w, ρ', run_app_none g1 j2 hd2 hd3 hsr, m2, ?_, .inr (hrf _)⟩
                    exact SlR_empty (hgn _) m1
                  · have hpos : 0 < ys.length := List.length_pos_iff.2 h0
                    exact grow [] none 0 rfl ⟨fun _ => rfl, fun w' _ => by simp [Builtin.firstCells]⟩ rfl (by simp; omega)
                · subst h6
                  have ho := h.objs r
                  rw [hr', h5] at ho
                  obtain ⟨cs, e', f, k1, k0, k2, k3, k4⟩ := ho
                  rw [k0] at k1
                  have hol := k4.len (fun _ _ k => TR.len k)
                  by_cases hroom : xs.length + ys.length ≤ cap
                  · have hmul := Nat.mul_le_mul_right q.sz hroom
                    rw [Nat.add_mul] at hmul
                    have hfit : off + xs.length * inf.size + news.length ≤ cs.size := by rw [d3]; omega
                    have hrun := run_app_room (ty := ty) g1 j2 hd2 hd3 hsr k1 hroom hfit (hL.all (fun _ _ k => TR.one k))
                    rw [d3] at hrun hfit
                    obtain ⟨ρ', m1, m2⟩ := h.grow (zs := xs ++ ys) hr' hA (.at b off cap) (w' := w.setRow b (lay cs.toList (off + xs.length * q.sz) news).toArray) (Fr.setRow w b _ _ ⟨off, cap, h5⟩) (fun b' o c e => by cases e; exact .inl ⟨_, _, h5⟩)
                      (fun ρ' hp => ⟨_, e', (0, 0), setRow_heap w b cs _ e' (0, 0) k1, rfl, by rw [List.length_append]; exact hroom, by
                        have := lay_length cs.toList news (off + xs.length * q.sz) (by simpa using hfit)
                        simp only [List.size_toArray, this, Array.length_toList]
                        exact k3, by
                        have := LR_seg_app k4 hL (by simpa using hfit)
                        exact this.mono (fun _ _ k => TR.mono hp.hp k)⟩)
                    refine ⟨_, _, ρ', hrun, m2, ?_, .inr (hrf _)⟩
                    have := SlR_own (w := w.setRow b (lay cs.toList (off + xs.length * q.sz) news).toArray) (ok := okOf C.X ρ' (getO (updH σ.heap [(r, .dead), (fr, .arr q (xs ++ ys))]))) (hgn (xs ++ ys)) m1
                    rw [List.length_append] at this
                    exact this
                  · refine grow _ _ _ rfl ⟨fun _ => rfl, fun w' hw => ?_⟩ k4 (by omega)
                    exact run_firstCells_some w' inf.size xs.length ⟨b, off, none⟩ xs.length cap _ (by rw [hol, d3]) (fun j v hj => by
                      rw [cell_heap hw]
                      exact seg_cells k1 _ j v hj)
            · cases e
          · cases e
        · cases e
      · cases e
  · cases e
end
end Go.Sym

/- Arrays in the elements of rows, II: the operations. -/
namespace Go.Sym
section
variable {P : Program} {C : Ctx} {A : Nat → Prop} {ρ ρ' : Nat → RV} {σ : St} {a : Act} {w w' : World} {α : Type} {k : Slot → Ups → Option α} {out : α} {Hr : Nat → HO} {c : Cfg} {fr : Nat}
theorem tyChk_arr {e : Ty} {n : Nat} {t : TypeId} (h : tyTop P (.arr n e) t = true) : ∃ et, P.underlying t = some (.array n et) ∧ TyOk P e et := by
  simp only [tyTop, tyChk, Bool.and_eq_true] at h
  obtain ⟨d, i, e1, _, _, _, e⟩ := row1_eq h.1
  cases d <;> simp only at e <;> first | cases e | skip
  simp only [Bool.and_eq_true] at e
  have := Nat.eq_of_beq_eq_true e.1
  subst this
  exact ⟨_, e1, tyChk_ok e.2⟩
theorem evLoadX_sound (hc : CfgOk P c) (h : Rel C A ρ σ a w) (hH : ∀ r, Hr r ≠ .dead → getO σ.heap r = Hr r) {t : Nat} {x : SV} {u : Value} (hx : SR w (okOf C.X ρ (getO σ.heap)) ρ (getO σ.heap) x u)
    (e : evLoadX c Hr k t x = some out) : Law P C A ρ σ a w Hr fr k out (Instr.loadAt t u) := by
  unfold evLoadX at e
  split at e
  · rename_i r i j l n q
    split at e
    · rename_i ys hy
      split at e
      · rename_i q' hl
        split at e
        · rename_i hq
          have hqq := tyq_eq hq
          subst hqq
          obtain ⟨u', xs, b, off, cap, cs, et, f, k1, k2, k3, k4, k5, k6⟩ := arrIn_at h hH hy (fun t xs hr => (xptr_at hx hr).1)
          obtain ⟨m1, m2, b', off', cap', m3, m4⟩ := xptr_at hx k1
          rw [k2] at m3
          cases m3
          have hT := k5.nth (fun _ _ k => TR.len k) l (by omega)
          have hm := Nat.mul_le_mul_right q.sz (show l + 1 ≤ n from m2)
          rw [Nat.succ_mul] at hm
          rw [seg _ _ _ _ hm, List.drop_drop] at hT
          obtain ⟨v, hv, hR⟩ := load_datum (P := P) (tyTop_ok (hc.ty _ _ hl)) k3 hT
          subst m4
          have hd : List.getD ys l q.zero = ys[l]'(by omega) := by simp [List.getD_eq_getElem?_getD, show l < ys.length by omega]
          rw [hd] at e
          exact Law.datum h e hv hR
        · cases e
      · cases e
    · cases e
  · exact evLoad_sound hc h hH hx e
/-- Part of an array of a row's element is written. -/
theorem Rel.setArr (h : Rel C A ρ σ a w) {r i j n : Nat} {e u : Ty} {xs : List u.den} (hr : getO σ.heap r = .arr u xs) {b off cap : Nat} {cs : Array Value} {et : TypeId} (hρ : ρ r = .at b off cap) (hb : w.heap[b]? = some (.cells cs et (0, 0)))
    (hi : i < xs.length) {ys' : List e.den} {z : u.den} (hz : updAt u j (.arr n e) ys' xs[i] = some z) {p : Nat} {ds : List Value} (hp : p + ds.length ≤ n * e.sz) (hn : off + (i * u.sz + j) + n * e.sz ≤ cs.size)
    (hy : TR w (okOf C.X ρ (getO σ.heap)) (.arr n e) ys' (lay ((cs.toList.drop (off + (i * u.sz + j))).take (n * e.sz)) p ds)) :
    Aft C A ρ σ a w [(r, .arr u (xs.set i z))] ρ (w.setRow b (lay cs.toList (off + (i * u.sz + j) + p) ds).toArray) ∧ off + (i * u.sz + j) + p + ds.length ≤ cs.size := by
  have h1 := (h.setElem hr hρ hb hi hz hy).1
  have hcl : cs.toList.length = cs.size := Array.length_toList
  rw [lay_lay cs.toList ds p (off + (i * u.sz + j)) (n * e.sz) (by omega) hp] at h1
  exact ⟨h1, by omega⟩
theorem free_frz (h : Rel C A ρ σ a w) (hH : ∀ r, Hr r ≠ .dead → getO σ.heap r = Hr r) {us : Ups} {r : Nat} {u : Ty} {xs : List u.den} (hr : Hr r = .arr u xs) (hg : freeOf us r = true) : getO (updH σ.heap us) r = .arr u xs :=
  (getO_upd_not us _ r ((freeOf_iff us r).1 hg)).trans ((hH r (by rw [hr]; intro h; cases h)).trans hr)
theorem row00 (h : Rel C A ρ σ a w) {r : Nat} {u : Ty} {xs : List u.den} (hr : getO σ.heap r = .arr u xs) {b off cap : Nat} {cs : Array Value} {et : TypeId} {f : Nat × Nat} (hρ : ρ r = .at b off cap) (hb : w.heap[b]? = some (.cells cs et f)) : f = (0, 0) := by
  have ho := h.objs r
  rw [hr, hρ] at ho
  obtain ⟨cs', et', f', m1, m0, _⟩ := ho
  rw [hb] at m1
  cases m1
  exact m0
theorem evStoreX_sound (hc : CfgOk P c) (h : Rel C A ρ σ a w) (hH : ∀ r, Hr r ≠ .dead → getO σ.heap r = Hr r) {t : Nat} {y x : SV} {v u : Value} (hy : SR w (okOf C.X ρ (getO σ.heap)) ρ (getO σ.heap) y v) (hiy : RefIn A y)
    (hx : SR w (okOf C.X ρ (getO σ.heap)) ρ (getO σ.heap) x u) (hin : RefIn A x) (e : evStoreX c Hr fr k t y x = some out) : LawU P C A ρ σ a w Hr fr k out (Instr.storeAt t v u) := by
  unfold evStoreX at e
  split at e
  · rename_i r i j l n q
    split at e
    · rename_i q' hl
      split at e
      · rename_i hq
        have hqq := tyq_eq hq
        subst hqq
        split at e
        · rename_i y us hv
          split at e
          · rename_i ys hys
            unfold putArr at e
            split at e
            · rename_i q2 xs hr
              split at e
              · rename_i z hz
                split at e
                · rename_i hg
                  obtain ⟨f1, f2⟩ := toVal_sound h hH hv hx
                  have hR := f2 us f1 (fun p hp => hp)
                  have hT := VR.cells hR
                  refine ⟨_, e, fun p hp => ?_, fun hf => ?_⟩
                  · rcases List.mem_append.1 hp with hp | hp
                    · exact .inl (toVal_in hv p hp)
                    · cases hp with
                      | head => exact .inl (by show Hr r ≠ _; rw [hr]; intro h; cases h)
                      | tail _ hp => cases hp
                  · have k1 := h.frz us f1
                    have hr1 : getO ({ σ with heap := updH σ.heap us } : St).heap r = .arr q2 xs := free_frz h hH hr hg
                    obtain ⟨m1, m2, b, off, cap, m3, m4⟩ := xptr_at (k1.mono _ _ hiy hy) (.inl hr1)
                    have hys' : projAt q2 j (.arr n q) (xs.getD i q2.zero) = some ys := by
                      unfold arrIn at hys
                      rw [hr] at hys
                      exact hys
                    obtain ⟨b', off', cap', cs, et, f, g1, g2, g3, g4, g5, g6⟩ := arr_at k1.rel (.inl hr1) m1 hys'
                    rw [m3] at g1
                    cases g1
                    have hf0 := row00 k1.rel hr1 m3 g2
                    rw [hf0] at g2
                    have hd : xs.getD i q2.zero = xs[i] := by simp [List.getD_eq_getElem?_getD, m1]
                    rw [hd] at hz
                    have hml := Nat.mul_le_mul_right q.sz (show l + 1 ≤ n from m2)
                    rw [Nat.succ_mul] at hml
                    have hdl := TR.len hT
                    obtain ⟨step, hlen⟩ := k1.rel.setArr (p := l * q.sz) (ds := u.cells.toList) hr1 m3 g2 m1 hz (by omega) g6 ⟨by rw [List.length_set, g4], g5.lay (fun _ _ k => TR.len k) l (by omega) y _ hT⟩
                    obtain ⟨d, inf, d1, d2, d3, d4⟩ := (tyTop_ok (hc.ty _ _ hl)).row
                    subst m4
                    exact ⟨_, ρ, run_store_at d2 g2 (by rw [d3, ← hdl, Array.length_toList]) (by simpa using hlen) (TR.one hT), k1.trans step⟩
                · cases e
              · cases e
            · cases e
          · cases e
        · cases e
      · cases e
    · cases e
  · exact evStore_sound hc h hH hy hiy hx hin e
theorem evAllocX_sound (hc : CfgOk P c) (h : Rel C A ρ σ a w) {t : Nat} (e : evAllocX c fr k t = some out) : Law P C A ρ σ a w Hr fr k out (Instr.alloc t true (.tuple #[])) := by
  unfold evAllocX at e
  split at e
  · exact evAlloc_sound hc h e
  · split at e
    · rename_i q hl
      have key : (∀ k v, q ≠ .map k v) → k (.one (.bx fr)) [(fr, .arr q [q.zero])] = some out → Law P C A ρ σ a w Hr fr k out (Instr.alloc t true (.tuple #[])) := by
        intro hm e
        have hk := tyTop_ok (hc.ty _ _ hl)
        obtain ⟨i, z, g1, g2, g3⟩ := hk.zero hm
        have hT := VR.cells (g3 w (okOf C.X ρ (getO σ.heap)))
        have hsz : z.cells.size = q.sz := by rw [← TR.len hT, Array.length_toList]
        refine ⟨_, _, e, fun p hp => ?_, fun hf => ?_⟩
        · cases hp with
          | head => exact .inr (Nat.le_refl _)
          | tail _ hp => cases hp
        · have hA := hf _ (List.mem_cons_self ..) (Nat.le_refl _)
          obtain ⟨ρ', m1, m2⟩ := h.newRow fr hA q [q.zero] 1 z.cells t (Nat.le_refl _) (by rw [hsz, Nat.one_mul]; exact Nat.le_refl _) (by
            rw [List.take_of_length_le (by rw [Array.length_toList, hsz]; simp)]
            exact ⟨z.cells.toList, [], by simp, hT, rfl⟩)
          refine ⟨_, _, ρ', run_alloc g1 g2, m2, ⟨w.heap.size, 0, rfl, ?_⟩, .inr ⟨_, List.mem_cons_self .., rfl⟩⟩
          rw [upd_one]
          exact ⟨by simp, 0, 1, m1, rfl⟩
      split at e
      · exact key (fun _ _ h => by cases h) e
      · exact key (fun _ _ h => by cases h) e
      · cases e
    · cases e
theorem arrTy_eq {t n : Nat} {e : Ty} (h : arrTy c t = some (n, e)) : look c.ty t = some (.arr n e) := by
  unfold arrTy at h
  split at h
  · rename_i g
    cases h
    exact g
  · cases h
theorem run_indexAt_arr {t et : TypeId} {n : Nat} (h1 : P.underlying t = some (.array n et)) {i : TypeInfo} (h2 : P.info? et = some i) (b off : Nat) (m : Int) (kd : IntKind) (h0 : 0 ≤ m) (hn : m < (n : Int)) :
    (Instr.indexAt t (.pointer (some ⟨b, off, none⟩)) (.int kd m)).run P w = .ok (.pointer (some ⟨b, off + m.toNat * i.size, none⟩)) w := by
  have hadd : (⟨b, off, none⟩ : Addr).add (m.toNat * i.size) = ⟨b, off + m.toNat * i.size, none⟩ := by unfold Addr.add; split <;> simp_all
  simp only [Instr.indexAt, asIntOf, Sem.run_bind, Sem.run_pure, Result.andThen_ok, run_underlying h1, Instr.sureAddr, h0, hn, and_self, if_true, run_sizeOf h2, hadd]
theorem evIndexAddrX_sound (hc : CfgOk P c) (h : Rel C A ρ σ a w) (hH : ∀ r, Hr r ≠ .dead → getO σ.heap r = Hr r) {t : Nat} {x y : SV} {u v : Value} (hx : SR w (okOf C.X ρ (getO σ.heap)) ρ (getO σ.heap) x u) (hy : SR w (okOf C.X ρ (getO σ.heap)) ρ (getO σ.heap) y v)
    (hin : RefIn A x) (e : evIndexAddrX c Alg.real Hr k t x y = some out) : Law P C A ρ σ a w Hr fr k out (Instr.indexAt t u v) := by
  unfold evIndexAddrX at e
  split at e
  · rename_i n q hat
    obtain ⟨et, g1, g2⟩ := tyChk_arr (hc.ty _ _ (arrTy_eq hat))
    obtain ⟨d, inf, d1, d2, d3, d4⟩ := g2.row
    split at e
    · rename_i r i j
      split at e
      · rename_i m e1
        obtain ⟨kd, rfl⟩ := intOf_SR e1 hy
        simp only [Alg.real] at e
        split at e
        · rename_i h0
          have h0 := of_decide_eq_true h0
          split at e
          · rename_i hn
            have hn := of_decide_eq_true hn
            obtain ⟨b, o, e2, e3⟩ := hx
            subst e2
            refine Law.pure h e (run_indexAt_arr g1 d2 b o m kd h0 hn) ⟨b, _, rfl, ?_⟩ hin
            split at e3
            · obtain ⟨k1, off, cap, k2, k3⟩ := e3
              exact ⟨k1, by omega, off, cap, k2, by rw [d3]; omega⟩
            · obtain ⟨k1, off, cap, k2, k3⟩ := e3
              exact ⟨k1, by omega, off, cap, k2, by rw [d3]; omega⟩
            · trivial
          · cases e
        · cases e
      · cases e
    · cases e
  · exact evIndexAddr_sound hc h hH hx hy hin e
theorem run_sliceAt_arr {t et : TypeId} {n : Nat} (h1 : P.underlying t = some (.array n et)) {i : TypeInfo} (h2 : P.info? et = some i) (b off : Nat) {lo hi : Option Value} {l m : Int} (b1 : Bound lo l 0) (b2 : Bound hi m (n : Int))
    (hl : 0 ≤ l) (hm : l ≤ m) (hn : m ≤ (n : Int)) : ∃ A', (Instr.sliceAt t (.pointer (some ⟨b, off, none⟩)) lo hi none).run P w = .ok (.slice A' (m.toNat - l.toNat) (n - l.toNat)) w ∧ (m.toNat - l.toNat = 0 ∨ A' = some ⟨b, off + l.toNat * i.size, none⟩) := by
  have hadd : (⟨b, off, none⟩ : Addr).add (l.toNat * i.size) = ⟨b, off + l.toNat * i.size, none⟩ := by unfold Addr.add; split <;> simp_all
  refine ⟨some (if n = l.toNat then ⟨b, off, none⟩ else ⟨b, off + l.toNat * i.size, none⟩), ?_, ?_⟩
  · simp only [Instr.sliceAt, Sem.run_bind, run_underlying h1, Result.andThen_ok, Instr.sureAddr, run_sliceBounds b1 b2 hl hm hn (Nat.le_refl _), run_sizeOf h2, Sem.run_pure, hadd]
  · by_cases h : n = l.toNat
    · left
      omega
    · right
      rw [if_neg h]
theorem evSliceX_sound (hc : CfgOk P c) (h : Rel C A ρ σ a w) (hH : ∀ r, Hr r ≠ .dead → getO σ.heap r = Hr r) {t : Nat} {x : SV} {u : Value} (hx : SR w (okOf C.X ρ (getO σ.heap)) ρ (getO σ.heap) x u)
    (hin : RefIn A x) {lo hi : Option Value} {l : Option Int} {m : Option (Option Int)} (b1 : ∀ l', l = some l' → Bound lo l' 0) (b2 : ∀ (n m' : Int), (m = none ∧ m' = n ∨ m = some (some m')) → Bound hi m' n)
    (e : evSliceX c Alg.real Hr k t x l m = some out) : Law P C A ρ σ a w Hr fr k out (Instr.sliceAt t u lo hi none) := by
  unfold evSliceX at e
  split at e
  · cases e
  · rename_i l
    split at e
    · rename_i n q hat
      obtain ⟨et, g1, g2⟩ := tyChk_arr (hc.ty _ _ (arrTy_eq hat))
      obtain ⟨d, inf, d1, d2, d3, d4⟩ := g2.row
      split at e
      · rename_i r i j
        split at e
        · rename_i m' hm
          have b2' := b2 (n : Int) m' (by
            cases m with
            | none => exact .inl ⟨rfl, (Option.some.inj hm).symm⟩
            | some m => exact .inr (congrArg some hm))
          simp only [Alg.real] at e
          split at e
          · rename_i h0
            have h0 := of_decide_eq_true h0
            split at e
            · rename_i h1
              have h1 := of_decide_eq_true h1
              split at e
              · rename_i h2
                have h2 := of_decide_eq_true h2
                obtain ⟨b, o, e2, e3⟩ := hx
                subst e2
                obtain ⟨A', hrun, hA'⟩ := run_sliceAt_arr (w := w) g1 d2 b o (b1 l rfl) b2' h0 h1 h2
                refine Law.pure h e hrun ?_ hin
                have key : ∀ (t : Ty) (xs : List t.den), (i < xs.length ∧ ∃ off cap, ρ r = .at b off cap ∧ o = off + (i * t.sz + j)) →
                    i < xs.length ∧ l.toNat + (m'.toNat - l.toNat) ≤ n ∧ ∃ A c, Value.slice A' (m'.toNat - l.toNat) (n - l.toNat) = .slice A (m'.toNat - l.toNat) c ∧ m'.toNat - l.toNat ≤ c ∧ ∃ b off cap, ρ r = .at b off cap ∧ (m'.toNat - l.toNat = 0 ∨ A = some ⟨b, off + (i * t.sz + (j + l.toNat * q.sz)), none⟩) := by
                  rintro t xs ⟨k1, off, cap, k2, k3⟩
                  refine ⟨k1, by omega, A', _, rfl, by omega, b, off, cap, k2, hA'.imp id (fun hh => ?_)⟩
                  rw [hh, d3, k3]
                  congr 2
                  omega
                show SR w (okOf C.X ρ (getO σ.heap)) ρ (getO σ.heap) (.asl r i j l.toNat (m'.toNat - l.toNat) n q) _
                simp only [SR]
                split at e3
                · rename_i t xs hr
                  exact key t xs e3
                · rename_i t xs hr
                  exact key t xs e3
                · trivial
              · cases e
            · cases e
          · cases e
        · cases e
      · cases e
    · split at e
      · rename_i m' hm
        refine evSlice_sound hc h hH hx hin (b1 l rfl) (fun n hn => b2 (n : Int) m' ?_) e
        cases m with
        | none =>
          have hm : (lenOf Hr x).map (fun n => (n : Int)) = some m' := hm
          rw [hn] at hm
          exact .inl ⟨rfl, (Option.some.inj hm).symm⟩
        | some m => exact .inr (congrArg some hm)
      · cases e
theorem run_mark {t et : TypeId} (h1 : P.underlying t = some (.slice et)) (h2 : P.underlying et = some (.int .u8)) {b : Nat} {cs : Array Value} {e : TypeId} (hb : w.heap[b]? = some (.cells cs e (0, 0))) (off len cap : Nat) :
    ∃ w', (convert t t (.slice (some ⟨b, off, none⟩) len cap)).run P w = .ok (.slice (some ⟨b, off, none⟩) len cap) w' ∧ w'.os = w.os ∧ w'.tape = w.tape ∧ w'.output = w.output ∧ w'.heap.size = w.heap.size ∧
      (∀ j, j ≠ b → w'.heap[j]? = w.heap[j]?) ∧ w'.heap[b]? = some (.cells cs e (cs.size, cs.size + 1)) := by
  have hsh : w.shape? b = some (e, cs.size) := by
    unfold World.shape?
    rw [hb]
  refine ⟨w.freeze ⟨b, cs.size, none⟩ 1, ?_, ?_⟩
  · simp [convert, run_underlying h1, run_underlying h2, markStringish, hsh]
  · unfold World.freeze
    rw [if_neg (by decide)]
    refine ⟨rfl, rfl, rfl, by simp, fun j hj => ?_, ?_⟩
    · simp only [Array.getElem?_modify]
      rw [if_neg (Ne.symm hj)]
    · simp only [Array.getElem?_modify]
      rw [if_pos trivial, hb]
      rfl
theorem evBytes_sound (hc : CfgOk P c) (h : Rel C A ρ σ a w) (hH : ∀ r, Hr r ≠ .dead → getO σ.heap r = Hr r) {s d : Nat} {x : SV} {u : Value} (hx : SR w (okOf C.X ρ (getO σ.heap)) ρ (getO σ.heap) x u)
    (hin : RefIn A x) (e : evBytes c Alg.real Hr fr k s d x = some out) : Law P C A ρ σ a w Hr fr k out (convert s d u) := by
  unfold evBytes at e
  split at e
  · rename_i b hs hd
    obtain ⟨et, g1, g2, _⟩ := tyChk_slice (hc.ty _ _ hd)
    have hst := (tyTop_ok (hc.ty _ _ hs)).str rfl
    have hv := VR_str.1 hx
    subst hv
    have hrun := Go.Lib.run_convert_string_bytes w s d et b hst g1 (g2.int _ rfl)
    refine ⟨_, _, e, fun p hp => ?_, fun hf => ?_⟩
    · cases hp with
      | head => exact .inr (Nat.le_refl _)
      | tail _ hp => cases hp
    · have hA := hf _ (List.mem_cons_self ..) (Nat.le_refl _)
      have hdead : getO σ.heap fr = .dead := h.out fr hA
      have hcap : b.size ≤ Go.grownCap w b.size 0 et := by
        exact grownCap_ge w b.size 0 et
      obtain ⟨ρ', m1, m2, m3⟩ := h.aft1 (w' := Go.Lib.bytesWorld w et b) fr (.froz (.int .u8) (b.data.toList.map fun x => (x.toNat : Int))) (.at w.heap.size 0 (Go.grownCap w b.size 0 et)) (fun hA' => absurd hA' hA)
        ⟨rfl, rfl, rfl, by rw [Go.Lib.bytesWorld_size]; omega, fun j hj _ => Go.Lib.bytesWorld_at_old w et b j hj⟩ (fun hl => by cases hl)
        (fun ρ' n1 n2 hp hm hg => by
          refine .inr ⟨⟨_, et, _, Go.Lib.bytesWorld_at_new w et b, trivial, ?_, ?_, ?_⟩, fun b' off cap e => ?_⟩
          · rw [List.length_map, Array.length_toList]
            exact hcap
          · show 0 + Go.grownCap w b.size 0 et * 1 ≤ (Go.Lib.bytesCells w et b).size
            have : b.data.size = b.size := rfl
            simp only [Go.Lib.bytesCells, Array.size_append, Array.size_map, Array.size_replicate]
            omega
          · have hb : (Go.Lib.bytesCells w et b).toList = b.data.toList.map (fun x => Value.int .u8 (x.toNat : Int)) ++ List.replicate (Go.grownCap w b.size 0 et - b.size) (.int .u8 0) := by
              simp [Go.Lib.bytesCells]
            rw [List.drop_zero, hb, List.take_left' (by
              rw [List.length_map, List.length_map]
              exact (Nat.mul_one _).symm)]
            generalize b.data.toList = l
            induction l with
            | nil => rfl
            | cons x l ih => exact ⟨[_], _, rfl, rfl, ih⟩
          · cases e
            refine ⟨fun hX => Nat.lt_irrefl _ (h.xlt _ hX), fun r hl off' cap' e => ?_⟩
            have hne : r ≠ fr := fun er => by
              subst er
              rw [hg] at hl
              cases hl
            rw [n1 r hne] at e
            have hg2 : getO (updH σ.heap [(fr, HO.froz (.int .u8) (b.data.toList.map fun x => (x.toNat : Int)))]) r = getO σ.heap r := getO_upd_not _ _ r (fun p hp => by
              cases hp with
              | head => exact fun e => hne e.symm
              | tail _ hp => cases hp)
            rw [hg2] at hl
            exact Nat.lt_irrefl _ (h.lt hl e))
        (fun l e => by cases e)
      refine ⟨_, _, ρ', hrun, m3, ?_, .inr ⟨_, List.mem_cons_self .., rfl⟩⟩
      simp only [SlR, SR, upd_one, m2, List.length_map, Array.length_toList]
      rfl
  · rename_i r hs hd
    split at e
    · rename_i xs hr
      split at e
      · rename_i hsd
        have hsd := Nat.eq_of_beq_eq_true hsd
        subst hsd
        simp only [Alg.real] at e
        split at e
        · rename_i h0
          have h0 : 0 < xs.length := of_decide_eq_true h0
          obtain ⟨et, g1, g2, _⟩ := tyChk_slice (hc.ty _ _ hd)
          have hr' : getO σ.heap r = .arr (.int .u8) xs := (hH r (by rw [hr]; intro h; cases h)).trans hr
          rcases row_slice h (.inl hr') hx with ⟨h5, _⟩ | ⟨b, off, cap, h5, h6, h7⟩
          · rw [h5] at h0
            cases h0
          · have ho := h.objs r
            rw [hr', h5] at ho
            obtain ⟨cs, et', f', m1, m0, m2, m3, m4⟩ := ho
            rw [m0] at m1
            subst h6
            obtain ⟨w', q1, q2, q3, q4, q5, q6, q7⟩ := run_mark (P := P) (w := w) g1 (g2.int _ rfl) m1 off xs.length cap
            refine ⟨_, _, e, fun p hp => ?_, fun hf => ?_⟩
            · cases hp with
              | head => exact .inl (by show Hr r ≠ _; rw [hr]; intro h; cases h)
              | tail _ hp => cases hp
            · obtain ⟨ρ', n1, n2, n3⟩ := h.aft1 (w' := w') r (.froz (.int .u8) xs) (ρ r) (fun _ => ⟨by rw [hr']; exact ⟨rfl, rfl⟩, fun _ => rfl⟩)
                ⟨q2, q3, q4, by rw [q5]; exact Nat.le_refl _, fun j hj hn => q6 j (fun e => hn ⟨off, cap, by rw [hr']; rfl, by rw [e]; exact h5⟩)⟩ (fun hl => by cases hl)
                (fun ρ' n1 n2 hp hm hg => by
                  rw [h5]
                  refine .inr ⟨⟨cs, et', _, q7, trivial, m2, m3, m4.mono (fun _ _ k => TR.mono hp.hp k)⟩, fun b' off' cap' e => ?_⟩
                  cases e
                  refine ⟨h.noX r (by rw [hr']; rfl) _ _ _ h5, fun s hl off' cap' e => ?_⟩
                  have hne : s ≠ r := fun er => by
                    subst er
                    rw [hg] at hl
                    cases hl
                  rw [n1 s hne] at e
                  have hg2 : getO (updH σ.heap [(r, HO.froz (.int .u8) xs)]) s = getO σ.heap s := getO_upd_not _ _ s (fun p hp => by
                    cases hp with
                    | head => exact fun e => hne e.symm
                    | tail _ hp => cases hp)
                  rw [hg2] at hl
                  exact h.inj r s (fun e => hne e.symm) (by rw [hr']; rfl) hl _ _ _ _ _ _ h5 e rfl)
                (fun l e => by cases e)
              refine ⟨_, _, ρ', q1, n3, ?_, .inr ⟨_, List.mem_cons_self .., rfl⟩⟩
              simp only [SlR, SR, upd_one, n2, h5]
        · cases e
      · cases e
    · cases e
  · exact evConv_sound hc h hH hx e
theorem setRow_same {b : Nat} {cs : Array Value} {et : TypeId} {f : Nat × Nat} (hb : w.heap[b]? = some (.cells cs et f)) : w.setRow b cs.toList.toArray = w := by
  have h1 : (w.setRow b cs.toList.toArray).heap = w.heap := by
    apply Array.ext_getElem?
    intro j
    by_cases hj : j = b
    · subst hj
      rw [setRow_heap w j cs _ et f hb, hb, Array.toArray_toList]
    · simp [World.setRow, Array.getElem?_modify, Ne.symm hj]
  have : w.setRow b cs.toList.toArray = { w with heap := (w.setRow b cs.toList.toArray).heap } := rfl
  rw [this, h1]
theorem run_copy {t ty et : TypeId} (h1 : P.underlying t = some (.slice et)) {i : TypeInfo} (h2 : P.info? et = some i) {ts : Array TypeId} (ht : ts[0]? = some t) {A' : Option Addr} {dl dc m n : Nat} {v : Value} (hm : m = min n dl) (hlen : ∀ w', (Builtin.lenOf v).run P w' = .ok n w') {news : List Value}
    (hcells : (Builtin.firstCells i.size m v).run P w = .ok news.toArray w) {b off : Nat} {cs : Array Value} {e : TypeId} (hA : m = 0 ∨ A' = some ⟨b, off, none⟩) (hz : m = 0 → news = []) (hb : w.heap[b]? = some (.cells cs e (0, 0))) (ho : off + news.length ≤ cs.size) (h1' : ∀ u ∈ news, isOne u = true) :
    (Builtin.copy_ ts ty #[.slice A' dl dc, v]).run P w = .ok (.int .i64 (m : Int)) (if m = 0 then w else w.setRow b (lay cs.toList off news).toArray) := by
  have hmin : Nat.min n dl = m := hm.symm
  unfold Builtin.copy_
  simp only [ht, Sem.run_bind, Result.andThen_ok, run_underlying h1, hlen, run_sizeOf h2, hmin, hcells, List.getElem?_toArray, List.getElem?_cons_zero, List.getElem?_cons_succ]
  by_cases h0 : m = 0
  · rw [if_pos h0, hz h0, h0]
    cases A' with
    | none => rfl
    | some a => rfl
  · rw [if_neg h0]
    have hA := hA.resolve_left h0
    subst hA
    have hst := run_storeCells_at P b off e news 0 cs w hb (by simpa using ho) (fun u hu => one_cell (h1' u hu))
    simp only [Nat.add_zero] at hst
    simp only [Sem.run_bind, hst, Result.andThen_ok]
    rfl
theorem evCopy_sound (hc : CfgOk P c) (h : Rel C A ρ σ a w) (hH : ∀ r, Hr r ≠ .dead → getO σ.heap r = Hr r) {t : Nat} {ts : Array TypeId} {ty : TypeId} (ht : ts[0]? = some t) {x y : SV} {u v : Value} (hx : SR w (okOf C.X ρ (getO σ.heap)) ρ (getO σ.heap) x u) (hy : SR w (okOf C.X ρ (getO σ.heap)) ρ (getO σ.heap) y v)
    (e : evCopy c Hr k t x y = some out) : Law P C A ρ σ a w Hr fr k out (Builtin.copy_ ts ty #[u, v]) := by
  unfold evCopy at e
  split at e
  · rename_i r i j lo len n q
    split at e
    · rename_i q' hl
      split at e
      · rename_i hq
        have hqq := tyq_eq hq
        subst hqq
        split at e
        · rename_i ys hsrc
          split at e
          · rename_i zs hzs
            unfold putArr at e
            split at e
            · rename_i q2 xs hr
              split at e
              · rename_i z hz
                split at e
                · rename_i hg
                  have hr' : getO σ.heap r = .arr q2 xs := (hH r (by rw [hr]; intro h; cases h)).trans hr
                  obtain ⟨et, g1, g2, _⟩ := tyChk_slice (hc.ty _ _ hl)
                  obtain ⟨d, inf, d1, d2, d3, d4⟩ := g2.row
                  obtain ⟨news, hsr, hL⟩ := appSrcX_sound (P := P) h hH hsrc hy
                  obtain ⟨m1, m2, A', cp, m3, m4, b, off, cap, m5, m6⟩ := asl_at hx (.inl hr')
                  have hzs' : projAt q2 j (.arr n q) (xs.getD i q2.zero) = some zs := by
                    unfold arrIn at hzs
                    rw [hr] at hzs
                    exact hzs
                  obtain ⟨b', off', cap', cs, et', f, k1, k2, k3, k4, k5, k6⟩ := arr_at h (.inl hr') m1 hzs'
                  rw [m5] at k1
                  cases k1
                  have hf0 := row00 h hr' m5 k2
                  rw [hf0] at k2
                  have hd : xs.getD i q2.zero = xs[i] := by simp [List.getD_eq_getElem?_getD, m1]
                  rw [hd] at hz
                  have hnl := hL.len (fun _ _ k => TR.len k)
                  have hmy : min ys.length len ≤ ys.length := Nat.min_le_left ..
                  have hml : min ys.length len ≤ len := Nat.min_le_right ..
                  generalize hmm : min ys.length len = m at *
                  have hpre := hsr.pre w rfl m hmy
                  have hT3 := hL.take (fun _ _ k => TR.len k) m
                  have hml3 : (news.take (m * q.sz)).length = m * q.sz := by
                    rw [hT3.len (fun _ _ k => TR.len k), List.length_take, Nat.min_eq_left hmy]
                  have hlm := Nat.mul_le_mul_right q.sz (show lo + m ≤ n by omega)
                  rw [Nat.add_mul] at hlm
                  have hcl : ((cs.toList.drop (off + (i * q2.sz + j))).take (n * q.sz)).length = n * q.sz := by
                    have hcl : cs.toList.length = cs.size := Array.length_toList
                    rw [List.length_take, List.length_drop]
                    omega
                  have hnew : TR w (okOf C.X ρ (getO σ.heap)) (.arr n q) (List.take lo zs ++ (List.take m ys ++ List.drop (lo + m) zs)) (lay ((cs.toList.drop (off + (i * q2.sz + j))).take (n * q.sz)) (lo * q.sz) (news.take (m * q.sz))) := by
                    refine ⟨?_, ?_⟩
                    · show (List.take lo zs ++ (List.take m ys ++ List.drop (lo + m) zs)).length = n
                      rw [List.length_append, List.length_append, List.length_take, List.length_take, List.length_drop]
                      omega
                    · have a1 := k5.take (fun _ _ k => TR.len k) lo
                      have a2 := k5.drop (fun _ _ k => TR.len k) (lo + m)
                      have := a1.app (hT3.app a2)
                      unfold lay
                      rw [hml3, List.append_assoc]
                      rw [Nat.add_mul] at this
                      exact this
                  obtain ⟨step, hlen⟩ := h.setArr (p := lo * q.sz) (ds := news.take (m * q.sz)) hr' m5 k2 m1 hz (by rw [hml3]; omega) k6 hnew
                  have hrun := run_copy (P := P) (w := w) (ty := ty) (A' := A') (b := b) (off := off + (i * q2.sz + j) + lo * q.sz) g1 d2 ht (dl := len) (dc := cp) hmm.symm hsr.len (by rw [d3]; exact hpre) (by
                    rcases m6 with m6 | m6
                    · left
                      omega
                    · exact .inr m6) (fun h0 => by rw [h0, Nat.zero_mul, List.take_zero]) k2 hlen (hT3.all (fun _ _ k => TR.one k))
                  subst m3
                  have hset : (if m = 0 then w else w.setRow b (lay cs.toList (off + (i * q2.sz + j) + lo * q.sz) (news.take (m * q.sz))).toArray) = w.setRow b (lay cs.toList (off + (i * q2.sz + j) + lo * q.sz) (news.take (m * q.sz))).toArray := by
                    split
                    · rename_i h0
                      rw [h0, Nat.zero_mul, List.take_zero]
                      have : lay cs.toList (off + (i * q2.sz + j) + lo * q.sz) ([] : List Value) = cs.toList := by simp [lay]
                      rw [this]
                      exact (setRow_same k2).symm
                    · rfl
                  rw [hset] at hrun
                  have hv : ∀ (w' : World) (ok : Nat → Prop), VR w' ok (.int .i64) (m : Int) (.int .i64 (m : Int)) := fun _ _ => VR_int.2 rfl
                  refine ⟨_, _, e, fun p hp => ?_, fun hf => ⟨_, _, ρ, hrun, step, ?_, trivial⟩⟩
                  · cases hp with
                    | head => exact .inl (by show Hr r ≠ _; rw [hr]; intro h; cases h)
                    | tail _ hp => cases hp
                  · exact hv w (fun _ => True)
                · cases e
              · cases e
            · cases e
          · cases e
        · cases e
      · cases e
    · cases e
  · cases e
end
end Go.Sym
