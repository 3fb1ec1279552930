/- What the functions of this seat answer. -/
import Derived.Test.YtbhnbgelkemhiaaSys
import Derived.Test.YtbhnbgelkemhiaaPl
set_option linter.unusedVariables false
namespace Go.Sym.T22
set_option maxRecDepth 100000
theorem ofNats_app (l r : List Nat) : (l ++ r).map Int.ofNat = l.map Int.ofNat ++ r.map Int.ofNat := List.map_append
theorem R67_spec (cal : Cal) (n : Nat) (v : Int) (b : List Nat) (h0 : 0 ≤ v) (h1 : v < 4611686018427387904) (hb : b.length ≤ 70368744177664) (hn : v.toNat < n) :
    R67 .real cal n v (b.map Int.ofNat) = some ((b ++ uintN v.toNat).map Int.ofNat) := by
  have hlen := uintN_len 9 v.toNat (by omega)
  unfold R67
  refine loop2 (fun k v c r => 0 ≤ v ∧ v < 4611686018427387904 ∧ k = v.toNat ∧ ∃ b : List Nat, c = b.map Int.ofNat ∧ b.length + (uintN v.toNat).length ≤ 140737488355328 ∧ r = (b ++ uintN v.toNat).map Int.ofNat) ?_ n _ _ _ _ ⟨h0, h1, rfl, b, rfl, by omega, rfl⟩ hn
  rintro k self x1 x2 r ⟨h0, h1, rfl, b, rfl, hb, rfl⟩ ih
  dsimp only [Alg.real]
  by_cases hv : x1 < 128
  · have hu := uintN_lt (v := x1.toNat) (by omega)
    rw [hu] at hb ⊢
    rw [if_neg (by rw [geq_eq]; simpa using hv), if_pos (by simpa using hb), u8_small (by omega), ofNats_app]
    simp only [List.replicate_one, List.set_cons_zero, List.map_cons, List.map_nil]
    rw [show (Int.ofNat x1.toNat) = x1 from by show ((x1.toNat : Nat) : Int) = x1; omega]
  · have hu := uintN_ge (v := x1.toNat) (by omega)
    rw [hu] at hb ⊢
    have e1 : (x1 / 128).toNat = x1.toNat / 128 := by omega
    rw [if_pos (by rw [geq_eq]; simp; omega), if_pos (by simp at hb ⊢; omega), if_pos (by decide), or128 _ h0, shr7 _ h0]
    rw [← hu]
    refine ih (x1 / 128).toNat _ _ (by omega) ⟨by omega, by omega, rfl, b ++ [x1.toNat % 128 + 128], ?_, ?_, ?_⟩
    · rw [ofNats_app]
      simp only [List.replicate_one, List.set_cons_zero, List.map_cons, List.map_nil]
      congr 2
      show x1 % 128 + 128 = ((x1.toNat % 128 + 128 : Nat) : Int)
      omega
    · rw [e1]
      simp only [List.length_append, List.length_cons, List.length_nil] at hb ⊢
      omega
    · rw [e1, hu, List.append_assoc]
      rfl
theorem uint_spec (v : Int) (h0 : 0 ≤ v) (h1 : v < 4611686018427387904) : ∃ N, ∀ n, N ≤ n → ∀ b : List Nat, b.length ≤ 70368744177664 → c67 (F n) v (b.map Int.ofNat) = some ((b ++ uintN v.toNat).map Int.ofNat) := by
  refine ⟨v.toNat + 2, fun n hn b hb => ?_⟩
  obtain ⟨m, rfl⟩ : ∃ m, n = m + 1 := ⟨n - 1, by omega⟩
  rw [t67]
  exact R67_spec _ _ v b h0 h1 hb (by omega)
/-! ### key -/
theorem R52_spec (cal : Cal) (n : Nat) (x : GN) (hx : KeyOk x) (hl : x.2.2.2.1.length ≤ 1099511627776) (hn : x.2.2.2.1.length < n)
    (hu : ∀ v, v = x.2.1 ∨ v = x.2.2.1 + 1 ∨ v ∈ x.2.2.2.1 → ∀ b : List Nat, b.length ≤ 70368744177664 → c67 cal v (b.map Int.ofNat) = some ((b ++ uintN v.toNat).map Int.ofNat)) :
    R52 .real cal n x = some (keyB x) := by
  obtain ⟨k, bl, al, l, u⟩ := x
  have hk0 := hx.k0; have hk1 := hx.k1; have hb0 := hx.b0; have hb1 := hx.b1; have ha0 := hx.a0; have ha1 := hx.a1; have hi := hx.i0
  simp only at hk0 hk1 hb0 hb1 ha0 ha1 hi hl hn hu
  unfold R52
  dsimp only [Alg.real]
  rw [u8_small (by omega), add64 (by omega)]
  have e0 : ([k] : List Int) = [k.toNat].map Int.ofNat := by
    simp only [List.map_cons, List.map_nil]
    congr 1
    exact (Int.toNat_of_nonneg hk0).symm
  have l1 := uintN_len 9 bl.toNat (by omega)
  have l2 := uintN_len 9 (al + 1).toNat (by omega)
  simp only [List.replicate_one, List.set_cons_zero]
  rw [e0, hu bl (.inl rfl) _ (by simp), Option.bind_some, hu (al + 1) (.inr (.inl rfl)) _ (by simp only [List.length_append, List.length_cons, List.length_nil]; omega), Option.bind_some]
  refine loop2 (fun q (i : Int) c r => ∃ j : Nat, i = j ∧ q = l.length - j ∧ j ≤ l.length ∧ ∃ b : List Nat, c = b.map Int.ofNat ∧ b.length ≤ 30 + 10 * j ∧ r = bytesOf (b ++ ((l.drop j).map Int.toNat).flatMap uintN)) ?_ n l.length _ _ _ ⟨0, rfl, by omega, by omega, _, rfl, ?_, ?_⟩ hn
  · rintro q self i c r ⟨j, rfl, rfl, hj, b, rfl, hb, rfl⟩ ih
    by_cases hlt : j < l.length
    · have hmem : l[j] ∈ l := List.getElem_mem hlt
      have hv := hi _ hmem
      rw [if_pos (by rw [lss_eq]; simpa using hlt), if_pos (by simp), if_pos (by simpa using hlt)]
      rw [show l.getD (Int.toNat (j : Int)) (Ty.int .i64).zero = l[j] from by simp [List.getD_eq_getElem?_getD, hlt]]
      rw [hu _ (.inr (.inr hmem)) b (by omega), Option.bind_some, add64 (by omega)]
      have l3 := uintN_len 9 (l[j]).toNat (by omega)
      refine ih (l.length - (j + 1)) _ _ (by omega) ⟨j + 1, by omega, rfl, by omega, _, rfl, ?_, ?_⟩
      · simp only [List.length_append]; omega
      · rw [List.drop_eq_getElem_cons hlt, List.map_cons, List.flatMap_cons, List.append_assoc]
    · rw [if_neg (by rw [lss_eq]; simpa using hlt), bytesOf_ints, show l.drop j = [] from List.drop_eq_nil_of_le (by omega)]
      simp
  · simp only [List.length_append, List.length_cons, List.length_nil]; omega
  · simp [keyB, keyN]
theorem key_spec (x : GN) (hx : KeyOk x) (hl : x.2.2.2.1.length ≤ 1099511627776) : Ans (fun n => c52 (F n) x) (keyB x) := by
  obtain ⟨N1, h1⟩ := uint_spec x.2.1 hx.b0 hx.b1
  obtain ⟨N2, h2⟩ := uint_spec (x.2.2.1 + 1) (by have := hx.a0; omega) (by have := hx.a1; omega)
  obtain ⟨N3, h3⟩ : ∃ N, ∀ n, N ≤ n → ∀ v ∈ x.2.2.2.1, ∀ b : List Nat, b.length ≤ 70368744177664 → c67 (F n) v (b.map Int.ofNat) = some ((b ++ uintN v.toNat).map Int.ofNat) := by
    have := hx.i0
    generalize x.2.2.2.1 = l at this
    clear hl
    induction l with
    | nil => exact ⟨0, fun n _ v hv => by cases hv⟩
    | cons y l ih =>
      obtain ⟨M1, g1⟩ := uint_spec y (this y (List.mem_cons_self ..)).1 (this y (List.mem_cons_self ..)).2
      obtain ⟨M2, g2⟩ := ih (fun x hx => this x (List.mem_cons_of_mem _ hx))
      refine ⟨M1 + M2, fun n hn v hv => ?_⟩
      cases hv with
      | head => exact g1 n (by omega)
      | tail _ hv => exact g2 n (by omega) v hv
  obtain ⟨q, hq⟩ : ∃ q, q = x.2.2.2.1.length := ⟨_, rfl⟩
  refine ⟨N1 + N2 + N3 + q + 2, fun n hn => ?_⟩
  obtain ⟨m, rfl⟩ : ∃ m, n = m + 1 := ⟨n - 1, by omega⟩
  show c52 (F (m + 1)) x = _
  rw [t52]
  refine R52_spec _ m x hx hl (by rw [← hq]; omega) (fun v hv => ?_)
  rcases hv with rfl | rfl | hv
  · exact h1 m (by omega)
  · exact h2 m (by omega)
  · exact h3 m (by omega) v hv
end Go.Sym.T22

namespace Go.Sym.T22
set_option maxRecDepth 100000
theorem R41_spec (cal : Cal) (n : Nat) (x : GN) (mx : Int) (L : List GN) (hx : KeyOk x) (hL : ∀ m ∈ L, KeyOk m) (hlen : L.length ≤ 67108864) (hk : c52 cal x = some (keyB x)) : R41 .real cal n x mx L (idx L) = some (gres mx (addM mx L x)) := by
  obtain ⟨k, bl, al, l, u⟩ := x
  unfold R41
  dsimp only [Alg.real]
  rw [hk, Option.bind_some]
  have hm := mget_idx hx L 0 hL
  rw [hm]
  have hl1 : ((L ++ [(k, bl, al, l, ())]).length : Int) - 1 = (L.length : Int) := by simp
  have hs1 : arith .sub .i64 ((L ++ [(k, bl, al, l, ())]).length : Int) 1 = (L.length : Int) := by rw [sub64 (by rw [hl1]; omega), hl1]
  cases hp : posOf (k, bl, al, l, u) L with
  | some i =>
    have hA : addM mx L (k, bl, al, l, u) = ((i : Int), L) := by unfold addM; rw [hp]
    rw [hA]
    simp [gres]
  | none =>
    have hset := mset_idx hx L 0 hL (posOf_none.1 hp)
    rw [Nat.zero_add] at hset
    rw [if_neg (by simp)]
    have fin : (if decide ((L.length + (List.set (List.replicate 1 (Ty.zero (.pair (.int .i64) (.pair (.int .i64) (.pair (.int .i64) (.pair (.slice (.int .i64)) .unit)))))) 0 (k, bl, al, l, ())).length) * 48 ≤ 140737488355328) = true then
        some (arith .sub .i64 ((L ++ [(k, bl, al, l, ())]).length : Int) 1, mx, L ++ [(k, bl, al, l, ())], @mset .str (.int .i64) (idx L) (keyB (k, bl, al, l, u)) (arith .sub .i64 ((L ++ [(k, bl, al, l, ())]).length : Int) 1)) else none) = some (gres mx ((L.length : Int), L ++ [(k, bl, al, l, ())])) := by
      rw [if_pos (decT (by simp; omega)), hs1]
      exact congrArg (fun q => some ((L.length : Int), mx, L ++ [(k, bl, al, l, ())], q)) hset
    by_cases h1 : mx > 0
    · by_cases h2 : (L.length : Int) ≥ mx
      · have hA : addM mx L (k, bl, al, l, u) = (-1, L) := by unfold addM; rw [hp]; exact if_pos ⟨h1, h2⟩
        rw [hA, if_pos (gtrT h1), if_pos (geqT h2)]
        rfl
      · have hA : addM mx L (k, bl, al, l, u) = ((L.length : Int), L ++ [(k, bl, al, l, ())]) := by unfold addM; rw [hp]; exact if_neg (fun h => h2 h.2)
        rw [hA, if_pos (gtrT h1), if_neg (geqF h2)]
        exact fin
    · have hA : addM mx L (k, bl, al, l, u) = ((L.length : Int), L ++ [(k, bl, al, l, ())]) := by unfold addM; rw [hp]; exact if_neg (fun h => h1 h.1)
      rw [hA, if_neg (gtrF h1), if_neg (by simp)]
      exact fin
theorem add_spec (x : GN) (mx : Int) (L : List GN) (hx : KeyOk x) (hl : x.ins.length ≤ 1099511627776) (hL : Gr L) : Ans (fun n => c41 (F n) x mx L (idx L)) (gres mx (addM mx L x)) := by
  obtain ⟨N, h⟩ := key_spec x hx hl
  refine Ans.step (x' := fun n => R41 .real (F n) n x mx L (idx L)) ⟨N, fun n hn => R41_spec _ _ x mx L hx hL.keys hL.len (h n hn)⟩ (fun n => by rw [t41])
theorem R29_spec (cal : Cal) (n : Nat) (a mx : Int) (L : List GN) (m : GM) : R29 .real cal n a mx L m = some (hasM L a, mx, L, m) := by
  unfold R29 hasM
  dsimp only [Alg.real]
  by_cases h : 0 ≤ a
  · rw [if_pos (geqT h), decT h]
    rfl
  · rw [if_neg (geqF h)]
    simp [h]
theorem has_spec (n : Nat) (a mx : Int) (L : List GN) (m : GM) : c29 (F (n + 1)) a mx L m = some (hasM L a, mx, L, m) := by
  rw [t29]
  exact R29_spec ..
theorem R23_spec (cal : Cal) (n : Nat) (b a mx : Int) (L : List GN) (m : GM) (r : Int × Int × List GN × GM) (hk : ¬ (b < 0 ∨ b ≥ 4096 ∨ a < -1 ∨ a ≥ 16) → c41 cal (nd 2 b a []) mx L m = some r) :
    R23 .real cal n b a mx L m = some (if b < 0 ∨ b ≥ 4096 ∨ a < -1 ∨ a ≥ 16 then (-1, mx, L, m) else r) := by
  unfold R23
  dsimp only [Alg.real]
  by_cases h1 : b < 0
  · rw [if_pos (lssT h1), if_pos rfl, if_pos (.inl h1)]
  · rw [if_neg (lssF h1)]
    by_cases h2 : b ≥ 4096
    · rw [if_pos (geqT h2), if_pos rfl, if_pos (.inr (.inl h2))]
    · rw [if_neg (geqF h2)]
      by_cases h3 : a < -1
      · rw [if_pos (lssT h3), if_pos rfl, if_pos (.inr (.inr (.inl h3)))]
      · rw [if_neg (lssF h3)]
        by_cases h4 : a ≥ 16
        · rw [if_pos (geqT h4), if_pos (.inr (.inr (.inr h4)))]
        · rw [if_neg (geqF h4), if_neg (by omega)]
          show Option.bind (c41 cal (nd 2 b a []) mx L m) _ = _
          rw [hk (by omega)]
          rfl
theorem pick_spec (b a mx : Int) (L : List GN) (hL : Gr L) : Ans (fun n => c23 (F n) b a mx L (idx L)) (gres mx (pickM mx L b a)) := by
  by_cases h : b < 0 ∨ b ≥ 4096 ∨ a < -1 ∨ a ≥ 16
  · refine Ans.step (x' := fun n => R23 .real (F n) n b a mx L (idx L)) ⟨0, fun n hn => ?_⟩ (fun n => by rw [t23])
    show R23 .real (F n) n b a mx L (idx L) = _
    rw [R23_spec _ _ _ _ _ _ _ (0, mx, L, idx L) (fun h' => absurd h h'), if_pos h]
    unfold pickM gres
    rw [if_pos h]
  · obtain ⟨N, hN⟩ := add_spec (nd 2 b a []) mx L (keyOk_nd (by decide) (by omega) (by omega) (fun x hx => by cases hx)) (Nat.zero_le _) hL
    refine Ans.step (x' := fun n => R23 .real (F n) n b a mx L (idx L)) ⟨N, fun n hn => ?_⟩ (fun n => by rw [t23])
    show R23 .real (F n) n b a mx L (idx L) = _
    rw [R23_spec _ _ _ _ _ _ _ _ (fun _ => hN n hn), if_neg h]
    unfold pickM
    rw [if_neg h]
theorem R26_spec (cal : Cal) (n : Nat) (a mx : Int) (L : List GN) (hL : Gr L) (h29 : c29 cal a mx L (idx L) = some (hasM L a, mx, L, idx L))
    (hk : hasM L a = true → ¬ a ≤ 1 → (nat L a).kind ≠ 3 → c41 cal (nd 3 0 0 [a]) mx L (idx L) = some (gres mx (addM mx L (nd 3 0 0 [a])))) :
    R26 .real cal n a mx L (idx L) = some (gres mx (notM mx L a)) := by
  unfold R26
  dsimp only [Alg.real]
  rw [h29, Option.bind_some]
  dsimp only
  by_cases h1 : hasM L a = true
  · obtain ⟨g1, g2⟩ := hasM_iff.1 h1
    rw [if_neg (notF h1)]
    by_cases h2 : a ≤ 1
    · have hM : notM mx L a = (1 - a, L) := by unfold notM; rw [if_neg (fun h => h h1), if_pos h2]
      rw [if_pos (leqT h2), hM, sub64 (by omega)]
      rfl
    · rw [if_neg (leqF h2), if_pos (decT g1), if_pos (decT g2)]
      show (if cmpI .eql (nat L a).kind 3 = true then _ else _) = _
      by_cases h3 : (nat L a).kind = 3
      · have hM : notM mx L a = ((nat L a).ins.getD 0 0, L) := by unfold notM; rw [if_neg (fun h => h h1), if_neg h2, if_pos h3]
        obtain ⟨c, hc, _⟩ := (hL.at g1 g2).not h3
        rw [if_pos (eqlT h3), if_pos (decT g1), if_pos (decT g2), if_pos (by decide), hM]
        show (if decide ((0 : Int) < ((nat L a).ins.length : Nat)) = true then some ((nat L a).ins.getD 0 0, _) else none) = _
        rw [hc]
        rfl
      · have hM : notM mx L a = addM mx L (nd 3 0 0 [a]) := by unfold notM; rw [if_neg (fun h => h h1), if_neg h2, if_neg h3]
        rw [if_neg (eqlF h3), hM]
        show Option.bind (c41 cal (nd 3 0 0 [a]) mx L (idx L)) _ = _
        rw [hk h1 h2 h3]
        rfl
  · have hM : notM mx L a = (-1, L) := by unfold notM; rw [if_pos h1]
    rw [if_pos (notT h1), hM]
    rfl
theorem not_spec (a mx : Int) (L : List GN) (hL : Gr L) : Ans (fun n => c26 (F n) a mx L (idx L)) (gres mx (notM mx L a)) := by
  have hlen := hL.len
  by_cases h1 : hasM L a = true
  · obtain ⟨g1, g2⟩ := hasM_iff.1 h1
    obtain ⟨N, hN⟩ := add_spec (nd 3 0 0 [a]) mx L (keyOk_nd (by decide) (by decide) (by decide) (fun x hx => by
      simp only [List.mem_singleton] at hx
      omega)) (by show 1 ≤ _; omega) hL
    refine Ans.step (x' := fun n => R26 .real (F n) n a mx L (idx L)) ⟨N + 1, fun n hn => ?_⟩ (fun n => by rw [t26])
    obtain ⟨m, rfl⟩ : ∃ m, n = m + 1 := ⟨n - 1, by omega⟩
    exact R26_spec _ _ a mx L hL (has_spec m a mx L _) (fun _ _ _ => hN _ (by omega))
  · refine Ans.step (x' := fun n => R26 .real (F n) n a mx L (idx L)) ⟨1, fun n hn => ?_⟩ (fun n => by rw [t26])
    obtain ⟨m, rfl⟩ : ∃ m, n = m + 1 := ⟨n - 1, by omega⟩
    exact R26_spec _ _ a mx L hL (has_spec m a mx L _) (fun h => absurd h h1)
end Go.Sym.T22

namespace Go.Sym.T22
set_option maxRecDepth 100000
theorem sort_spec (n : Nat) (xs : List Int) (h : xs.length < 4611686018427387904) : c39 (F (n + 1)) xs = some (isort xs) := by
  rw [c39_F]
  exact if_pos h
theorem compact_spec (n : Nat) (xs : List Int) (h : xs.length < 4611686018427387904) : c40 (F (n + 1)) xs = some (Lib.compact xs) := by
  rw [c40_F]
  exact if_pos h
theorem search_spec (n : Nat) (xs : List Int) (x : Int) (h : xs.length < 4611686018427387904) (hs : xs.Pairwise (· ≤ ·)) : c33 (F (n + 1)) xs x = some (((xs.countP (· < x) : Nat) : Int), xs.contains x) := by
  rw [c33_F]
  exact if_pos ⟨h, hs⟩
theorem gather1_len {L : List GN} (hL : Gr L) {k z a : Int} (h : hasM L a = true) : (gather1 k z L a).length ≤ 67108864 := by
  obtain ⟨h0, h1⟩ := hasM_iff.1 h
  have := (hL.at h0 h1).ilen
  have := hL.len
  unfold gather1
  split
  · omega
  · split
    · simp
    · simp
theorem gathers_len {L : List GN} (hL : Gr L) {k z : Int} : ∀ (l : List Int), l.all (hasM L) = true → (l.flatMap (gather1 k z L)).length ≤ l.length * 67108864
  | [], _ => by simp
  | a :: l, h => by
    simp only [List.all_cons, Bool.and_eq_true] at h
    have := gather1_len hL (k := k) (z := z) h.1
    have := gathers_len hL (k := k) (z := z) l h.2
    rw [List.flatMap_cons, List.length_append, List.length_cons]
    omega
def gatherR (mx : Int) (L : List GN) : Option (List Int) → List Int × (Bool × (Int × (List GN × GM)))
  | none => ([], false, mx, L, idx L)
  | some l => (l, true, mx, L, idx L)
theorem take_snoc {α : Type} (l : List α) (j : Nat) (h : j < l.length) : l.take (j + 1) = l.take j ++ [l[j]] := by
  rw [List.take_add_one, List.getElem?_eq_getElem h]
  rfl
theorem getD_at {l : List Int} {j : Nat} (h : j < l.length) (d : Int) : l.getD (Int.toNat (j : Int)) d = l[j] := by
  rw [Int.toNat_natCast, List.getD_eq_getElem?_getD, List.getElem?_eq_getElem h]
  rfl
theorem R42_spec (cal : Cal) (n : Nat) (k z mx : Int) (inputs : List Int) (L : List GN) (hL : Gr L) (hlen : inputs.length ≤ 65536) (hn : inputs.length < n)
    (h29 : ∀ a, c29 cal a mx L (idx L) = some (hasM L a, mx, L, idx L)) (h39 : ∀ xs : List Int, xs.length < 4611686018427387904 → c39 cal xs = some (isort xs)) (h40 : ∀ xs : List Int, xs.length < 4611686018427387904 → c40 cal xs = some (Lib.compact xs)) :
    R42 .real cal n k z inputs mx L (idx L) = some (gatherR mx L (gatherM k z L inputs)) := by
  unfold R42
  dsimp only [Alg.real]
  refine loop5 (fun q (i : Int) mx' acc L' m' r => mx = mx' ∧ L = L' ∧ idx L = m' ∧ ∃ j : Nat, i = j ∧ j ≤ inputs.length ∧ q = inputs.length - j ∧ (inputs.take j).all (hasM L) = true ∧ acc = (inputs.take j).flatMap (gather1 k z L) ∧ r = gatherR mx L (gatherM k z L inputs)) ?_ n inputs.length _ _ _ _ _ _ ⟨rfl, rfl, rfl, 0, rfl, by omega, by omega, rfl, rfl, rfl⟩ hn
  rintro q self i mx' acc L' m' r ⟨rfl, rfl, rfl, j, rfl, hj, rfl, hall, rfl, rfl⟩ ih
  have hal := gathers_len hL (k := k) (z := z) _ hall
  rw [List.length_take] at hal
  by_cases hlt : j < inputs.length
  · rw [if_pos (lssT (by omega)), if_pos (decT (by omega)), if_pos (decT (by omega)), getD_at hlt, h29, Option.bind_some]
    dsimp only
    by_cases hh : hasM L inputs[j] = true
    · obtain ⟨g0, g1⟩ := hasM_iff.1 hh
      have hall' : (inputs.take (j + 1)).all (hasM L) = true := by rw [take_snoc _ _ hlt, List.all_append, hall]; simpa using hh
      have hst : ∀ acc', acc' = (inputs.take (j + 1)).flatMap (gather1 k z L) → self (arith .add .i64 (j : Int) 1) mx acc' L (idx L) = some (gatherR mx L (gatherM k z L inputs)) := fun acc' hacc => by
        rw [add64 (by omega)]
        exact ih (inputs.length - (j + 1)) _ _ _ _ _ (by omega) ⟨rfl, rfl, rfl, j + 1, by omega, by omega, rfl, hall', hacc, rfl⟩
      have hsn : (inputs.take (j + 1)).flatMap (gather1 k z L) = (inputs.take j).flatMap (gather1 k z L) ++ gather1 k z L inputs[j] := by rw [take_snoc _ _ hlt, List.flatMap_append]; simp
      rw [if_neg (notF hh), if_pos (decT g0), if_pos (decT g1)]
      show (if cmpI .eql (nat L inputs[j]).kind k = true then _ else _) = _
      have hg := gather1_len hL (k := k) (z := z) hh
      by_cases hk : (nat L inputs[j]).kind = k
      · have e1 : gather1 k z L inputs[j] = (nat L inputs[j]).ins := by unfold gather1; rw [if_pos hk]
        rw [e1] at hg hsn
        rw [if_pos (eqlT hk), if_pos (decT g0), if_pos (decT g1)]
        show (if decide ((((inputs.take j).flatMap (gather1 k z L)).length + (nat L inputs[j]).ins.length) * 8 ≤ 140737488355328) = true then self _ _ (_ ++ (nat L inputs[j]).ins) _ _ else none) = _
        rw [if_pos (decT (by omega))]
        exact hst _ hsn.symm
      · rw [if_neg (eqlF hk)]
        by_cases hz : inputs[j] = z
        · have e1 : gather1 k z L inputs[j] = [] := by unfold gather1; rw [if_neg hk, if_neg (fun h => h hz)]
          rw [e1, List.append_nil] at hsn
          rw [if_neg (neqF hz)]
          exact hst _ hsn.symm
        · have e1 : gather1 k z L inputs[j] = [inputs[j]] := by unfold gather1; rw [if_neg hk, if_pos hz]
          rw [e1] at hsn
          rw [if_pos (neqT hz)]
          show (if decide ((((inputs.take j).flatMap (gather1 k z L)).length + 1) * 8 ≤ 140737488355328) = true then self _ _ (_ ++ [inputs[j]]) _ _ else none) = _
          rw [if_pos (decT (by omega))]
          exact hst _ hsn.symm
    · have hM : gatherM k z L inputs = none := by
        unfold gatherM
        refine if_neg (fun h => hh ?_)
        rw [List.all_eq_true] at h
        exact h _ (List.getElem_mem hlt)
      rw [if_pos (notT hh), hM]
      rfl
  · have e : inputs.take j = inputs := List.take_of_length_le (by omega)
    rw [e] at hall hal ⊢
    have hM : gatherM k z L inputs = some (Lib.compact (isort (inputs.flatMap (gather1 k z L)))) := by unfold gatherM; rw [if_pos hall]
    rw [if_neg (lssF (by omega)), h39 _ (by omega), Option.bind_some, h40 _ (by rw [(isort_perm _).length_eq]; omega), Option.bind_some, hM]
    rfl
theorem gather_spec (k z mx : Int) (inputs : List Int) (L : List GN) (hL : Gr L) (hlen : inputs.length ≤ 65536) : Ans (fun n => c42 (F n) k z inputs mx L (idx L)) (gatherR mx L (gatherM k z L inputs)) := by
  refine Ans.step (x' := fun n => R42 .real (F n) n k z inputs mx L (idx L)) ⟨inputs.length + 1, fun n hn => ?_⟩ (fun n => by rw [t42])
  obtain ⟨m, rfl⟩ : ∃ m, n = m + 1 := ⟨n - 1, by omega⟩
  exact R42_spec _ _ k z mx inputs L hL hlen hn (fun a => has_spec m a mx L _) (fun xs h => sort_spec m xs h) (fun xs h => compact_spec m xs h)
end Go.Sym.T22

namespace Go.Sym.T22
set_option maxRecDepth 100000
abbrev AM : Type := List (Int × Int)
abbrev mgI (m : AM) (a : Int) : Option Int := @mget (.int .i64) (.int .i64) m a
abbrev msI (m : AM) (a b : Int) : AM := @mset (.int .i64) (.int .i64) m a b
theorem mget_msetI : ∀ (m : AM) (a b c : Int), mgI (msI m a b) c = if c = a then some b else mgI m c
  | [], a, b, c => by
    by_cases h : c = a
    · rw [if_pos h]
      exact mget_here (k := .int .i64) (v := .int .i64) (by rw [keyEq_int]; exact decide_eq_true h)
    · rw [if_neg h]
      exact mget_there (k := .int .i64) (v := .int .i64) (by rw [keyEq_int]; exact decide_eq_false h)
  | (k, v) :: m, a, b, c => by
    by_cases h : a = k
    · have e : msI ((k, v) :: m) a b = (a, b) :: m := mset_here (k := .int .i64) (v := .int .i64) (by rw [keyEq_int]; exact decide_eq_true h)
      rw [e]
      by_cases h2 : c = a
      · rw [if_pos h2]
        exact mget_here (k := .int .i64) (v := .int .i64) (by rw [keyEq_int]; exact decide_eq_true h2)
      · rw [if_neg h2]
        exact (mget_there (k := .int .i64) (v := .int .i64) (by rw [keyEq_int]; exact decide_eq_false h2)).trans (mget_there (k := .int .i64) (v := .int .i64) (by rw [keyEq_int]; exact decide_eq_false (fun e => h2 (e.trans h.symm)))).symm
    · have e : msI ((k, v) :: m) a b = (k, v) :: msI m a b := mset_there (k := .int .i64) (v := .int .i64) (by rw [keyEq_int]; exact decide_eq_false h)
      rw [e]
      by_cases h2 : c = k
      · have : ¬ c = a := fun e => h (e.symm.trans h2)
        rw [if_neg this]
        exact (mget_here (k := .int .i64) (v := .int .i64) (by rw [keyEq_int]; exact decide_eq_true h2)).trans (mget_here (k := .int .i64) (v := .int .i64) (by rw [keyEq_int]; exact decide_eq_true h2)).symm
      · have e2 : mgI ((k, v) :: m) c = mgI m c := mget_there (k := .int .i64) (v := .int .i64) (by rw [keyEq_int]; exact decide_eq_false h2)
        have e3 : mgI ((k, v) :: msI m a b) c = mgI (msI m a b) c := mget_there (k := .int .i64) (v := .int .i64) (by rw [keyEq_int]; exact decide_eq_false h2)
        rw [e3, e2]
        exact mget_msetI m a b c
/-! ### complementary -/
theorem R53_spec (cal : Cal) (n : Nat) (l : List Int) (mx : Int) (L : List GN) (hL : Gr L) (hl : ∀ a ∈ l, hasM L a = true) (hlen : l.length < 4611686018427387904) (hn : l.length < n)
    (h33 : ∀ x, c33 cal l x = some (((l.countP (· < x) : Nat) : Int), l.contains x)) :
    R53 .real cal n l mx L (idx L) = some (complM L l, mx, L, idx L) := by
  unfold R53
  dsimp only [Alg.real]
  refine loop4 (fun q (i : Int) mx' L' m' r => mx = mx' ∧ L = L' ∧ idx L = m' ∧ ∃ j : Nat, i = j ∧ j ≤ l.length ∧ q = l.length - j ∧ complM L (l.take j) = complM L [] ∧ r = (complM L l, mx, L, idx L) ∧ ∀ a ∈ l.take j, ((nat L a).kind == 3 && l.contains ((nat L a).ins.getD 0 0)) = false) ?_ n l.length _ _ _ _ _ ⟨rfl, rfl, rfl, 0, rfl, by omega, by omega, rfl, rfl, fun a ha => (by cases ha)⟩ hn
  rintro q self i mx' L' m' r ⟨rfl, rfl, rfl, j, rfl, hj, rfl, -, rfl, hall⟩ ih
  by_cases hlt : j < l.length
  · obtain ⟨g0, g1⟩ := hasM_iff.1 (hl _ (List.getElem_mem hlt))
    have hst : ((nat L l[j]).kind == 3 && l.contains ((nat L l[j]).ins.getD 0 0)) = false → self (arith .add .i64 (j : Int) 1) mx L (idx L) = some (complM L l, mx, L, idx L) := fun he => by
      rw [add64 (by omega)]
      have hall' : ∀ a ∈ l.take (j + 1), ((nat L a).kind == 3 && l.contains ((nat L a).ins.getD 0 0)) = false := fun a ha => by
        rw [take_snoc _ _ hlt] at ha
        rcases List.mem_append.1 ha with ha | ha
        · exact hall a ha
        · rw [List.mem_singleton.1 ha]; exact he
      refine ih (l.length - (j + 1)) _ _ _ _ (by omega) ⟨rfl, rfl, rfl, j + 1, by omega, by omega, rfl, ?_, rfl, hall'⟩
      show complM L _ = false
      unfold complM
      rw [List.any_eq_false]
      intro a ha h
      have h1 := hall' a ha
      simp only [Bool.and_eq_true] at h
      obtain ⟨h2, h3⟩ := h
      rw [h2] at h1
      have : l.contains ((nat L a).ins.getD 0 0) = true := by
        rw [List.contains_iff_mem] at h3 ⊢
        exact List.mem_of_mem_take h3
      rw [this] at h1
      cases h1
    rw [if_pos (lssT (by omega)), if_pos (decT (by omega)), if_pos (decT (by omega)), getD_at hlt, if_pos (decT g0), if_pos (decT g1)]
    show (if cmpI .eql (nat L l[j]).kind 3 = true then _ else _) = _
    by_cases hk : (nat L l[j]).kind = 3
    · obtain ⟨c, hc, _⟩ := (hL.at g0 g1).not hk
      rw [if_pos (eqlT hk), if_pos (by decide)]
      show (if decide ((0 : Int) < ((nat L l[j]).ins.length : Nat)) = true then Option.bind (c33 cal l ((nat L l[j]).ins.getD 0 0)) _ else none) = _
      rw [if_pos (decT (by rw [hc]; show (0 : Int) < ((1 : Nat) : Int); omega)), h33, Option.bind_some]
      dsimp only
      by_cases hcon : l.contains ((nat L l[j]).ins.getD 0 0) = true
      · rw [if_pos hcon]
        have : complM L l = true := by
          unfold complM
          rw [List.any_eq_true]
          exact ⟨_, List.getElem_mem hlt, by rw [hcon, hk]; rfl⟩
        rw [this]
      · rw [if_neg hcon]
        exact hst (by rw [Bool.eq_false_iff.2 hcon, Bool.and_false])
    · rw [if_neg (eqlF hk)]
      exact hst (by rw [show ((nat L l[j]).kind == 3) = false from by simpa using hk, Bool.false_and])
  · have e : l.take j = l := List.take_of_length_le (by omega)
    rw [e] at hall
    have : complM L l = false := by
      unfold complM
      rw [List.any_eq_false]
      intro a ha
      rw [hall a ha]
      decide
    rw [if_neg (lssF (by omega)), this]
/-! ### conflicting -/
structure AltsOk (ps : List (Int × Int)) (m : AM) : Prop where
  has : ∀ p ∈ ps, mgI m p.1 = some p.2
  only : ∀ b v, mgI m b = some v → (b, v) ∈ ps
theorem conflP_true {ps : List (Int × Int)} {b v w : Int} (h1 : (b, v) ∈ ps) (h2 : (b, w) ∈ ps) (h : v ≠ w) : conflP ps = true := by
  unfold conflP
  rw [List.any_eq_true]
  refine ⟨_, h1, ?_⟩
  rw [List.any_eq_true]
  exact ⟨_, h2, by simpa using h⟩
theorem AltsOk.calm {ps : List (Int × Int)} {m : AM} (h : AltsOk ps m) : conflP ps = false := by
  unfold conflP
  rw [List.any_eq_false]
  intro p hp h1
  rw [List.any_eq_true] at h1
  obtain ⟨q, hq, h2⟩ := h1
  simp only [Bool.and_eq_true, beq_iff_eq, bne_iff_ne] at h2
  have := h.has p hp
  rw [h2.1, h.has q hq] at this
  exact h2.2 (Option.some.inj this).symm
theorem AltsOk.step {ps : List (Int × Int)} {m : AM} (h : AltsOk ps m) {b v : Int} (hb : ∀ w, mgI m b = some w → w = v) : AltsOk (ps ++ [(b, v)]) (msI m b v) := by
  refine ⟨fun p hp => ?_, fun c w hc => ?_⟩
  · rw [mget_msetI]
    rcases List.mem_append.1 hp with hp | hp
    · split
      · rename_i e
        have := h.has p hp
        rw [e] at this
        rw [hb _ this]
      · exact h.has p hp
    · rw [List.mem_singleton.1 hp, if_pos rfl]
  · rw [mget_msetI] at hc
    split at hc
    · rename_i e
      cases hc
      subst e
      simp
    · exact List.mem_append_left _ (h.only c w hc)
theorem R54_spec (cal : Cal) (n : Nat) (l : List Int) (neg : Bool) (mx : Int) (L : List GN) (hL : Gr L) (hl : ∀ a ∈ l, hasM L a = true) (hlen : l.length < 4611686018427387904) (hn : l.length < n) :
    R54 .real cal n l neg mx L (idx L) = some (conflM L l neg, mx, L, idx L) := by
  unfold R54
  dsimp only [Alg.real]
  refine loop5 (fun q (i : Int) mx' al L' m' r => mx = mx' ∧ L = L' ∧ idx L = m' ∧ ∃ j : Nat, i = j ∧ j ≤ l.length ∧ q = l.length - j ∧ AltsOk ((l.take j).filterMap (pick1 L neg)) al ∧ r = (conflM L l neg, mx, L, idx L)) ?_ n l.length _ _ _ _ _ _ ⟨rfl, rfl, rfl, 0, rfl, by omega, by omega, ⟨fun p hp => (by cases hp), fun b v h => (by cases h)⟩, rfl⟩ hn
  rintro q self i mx' al L' m' r ⟨rfl, rfl, rfl, j, rfl, hj, rfl, hal, rfl⟩ ih
  by_cases hlt : j < l.length
  · obtain ⟨g0, g1⟩ := hasM_iff.1 (hl _ (List.getElem_mem hlt))
    have hsn : (l.take (j + 1)).filterMap (pick1 L neg) = (l.take j).filterMap (pick1 L neg) ++ (pick1 L neg l[j]).toList := by
      rw [take_snoc _ _ hlt, List.filterMap_append]
      cases h : pick1 L neg l[j] <;> simp [h]
    have hst : ∀ al', AltsOk ((l.take j).filterMap (pick1 L neg) ++ (pick1 L neg l[j]).toList) al' → self (arith .add .i64 (j : Int) 1) mx al' L (idx L) = some (conflM L l neg, mx, L, idx L) := fun al' ha => by
      rw [add64 (by omega)]
      exact ih (l.length - (j + 1)) _ _ _ _ _ (by omega) ⟨rfl, rfl, rfl, j + 1, by omega, by omega, rfl, by rw [hsn]; exact ha, rfl⟩
    have skip : pick1 L neg l[j] = none → self (arith .add .i64 (j : Int) 1) mx al L (idx L) = some (conflM L l neg, mx, L, idx L) := fun hp => hst al (by rw [hp]; simpa using hal)
    have core : ∀ m0 : GN, pick1 L neg l[j] = (if m0.kind = 2 then some (m0.2.1, m0.2.2.1) else none) →
        (if cmpI .neq m0.1 2 = true then self (arith .add .i64 (j : Int) 1) mx al L (idx L) else
          if Option.isSome (mgI al m0.2.1) = true then
            (if cmpI .neq (Option.getD (mgI al m0.2.1) (Ty.zero (.int .i64))) m0.2.2.1 = true then some (true, mx, L, idx L) else self (arith .add .i64 (j : Int) 1) mx (msI al m0.2.1 m0.2.2.1) L (idx L))
          else if false = true then some (true, mx, L, idx L) else self (arith .add .i64 (j : Int) 1) mx (msI al m0.2.1 m0.2.2.1) L (idx L)) = some (conflM L l neg, mx, L, idx L) := by
      intro m0 hp
      by_cases hk : m0.1 = 2
      · rw [if_pos hk] at hp
        rw [if_neg (neqF hk)]
        have hmem : (m0.2.1, m0.2.2.1) ∈ l.filterMap (pick1 L neg) := List.mem_filterMap.2 ⟨_, List.getElem_mem hlt, hp⟩
        cases hg : mgI al m0.2.1 with
        | some w =>
          rw [if_pos (show Option.isSome (some w) = true from rfl)]
          show (if cmpI .neq w m0.2.2.1 = true then _ else _) = _
          by_cases hw : w = m0.2.2.1
          · rw [if_neg (neqF hw)]
            refine hst _ ?_
            rw [hp]
            exact hal.step (fun w' h => by rw [hg] at h; cases h; exact hw)
          · rw [if_pos (neqT hw)]
            have h1 := hal.only _ _ hg
            have h2 : (m0.2.1, w) ∈ l.filterMap (pick1 L neg) := by
              obtain ⟨a, ha, e⟩ := List.mem_filterMap.1 h1
              exact List.mem_filterMap.2 ⟨a, List.mem_of_mem_take ha, e⟩
            have : conflM L l neg = true := conflP_true h2 hmem hw
            rw [this]
        | none =>
          rw [if_neg (by decide), if_neg (by decide)]
          refine hst _ ?_
          rw [hp]
          exact hal.step (fun w' h => by rw [hg] at h; cases h)
      · rw [if_neg hk] at hp
        rw [if_pos (neqT hk)]
        exact skip hp
    rw [if_pos (lssT (by omega)), if_pos (decT (by omega)), if_pos (decT (by omega)), getD_at hlt, if_pos (decT g0), if_pos (decT g1)]
    cases neg with
    | true =>
      rw [if_pos rfl]
      show (if cmpI .neq (nat L l[j]).kind 3 = true then _ else _) = _
      by_cases hk : (nat L l[j]).kind = 3
      · obtain ⟨c, hc, c0, c1, _⟩ := (hL.at g0 g1).not hk
        have hci : (nat L l[j]).ins.getD 0 0 = c := by rw [hc]; rfl
        rw [if_neg (neqF hk), if_pos (by decide)]
        show (if decide ((0 : Int) < ((nat L l[j]).ins.length : Nat)) = true then (if decide (0 ≤ (nat L l[j]).ins.getD 0 0) = true then (if decide ((nat L l[j]).ins.getD 0 0 < (L.length : Int)) = true then _ else none) else none) else none) = _
        rw [if_pos (decT (by rw [hc]; show (0 : Int) < ((1 : Nat) : Int); omega)), if_pos (decT (by rw [hci]; omega)), if_pos (decT (by rw [hci]; omega))]
        exact core (nat L ((nat L l[j]).ins.getD 0 0)) (by
          unfold pick1
          rw [if_pos rfl, if_pos hk])
      · rw [if_pos (neqT hk)]
        exact skip (by
          unfold pick1
          rw [if_pos rfl, if_neg hk])
    | false =>
      rw [if_neg (by decide)]
      exact core (nat L l[j]) (by
        unfold pick1
        rw [if_neg (by decide)])
  · have e : l.take j = l := List.take_of_length_le (by omega)
    rw [e] at hal
    have : conflM L l neg = false := hal.calm
    rw [if_neg (lssF (by omega)), this]
end Go.Sym.T22

namespace Go.Sym.T22
set_option maxRecDepth 100000
theorem compl_spec (l : List Int) (mx : Int) (L : List GN) (hL : Gr L) (hl : ∀ a ∈ l, hasM L a = true) (hlen : l.length < 4611686018427387904) (hs : l.Pairwise (· ≤ ·)) : Ans (fun n => c53 (F n) l mx L (idx L)) (complM L l, mx, L, idx L) := by
  refine Ans.step (x' := fun n => R53 .real (F n) n l mx L (idx L)) ⟨l.length + 1, fun n hn => ?_⟩ (fun n => by rw [t53])
  obtain ⟨m, rfl⟩ : ∃ m, n = m + 1 := ⟨n - 1, by omega⟩
  exact R53_spec _ _ l mx L hL hl hlen hn (fun x => search_spec m l x hlen hs)
theorem confl_spec (l : List Int) (neg : Bool) (mx : Int) (L : List GN) (hL : Gr L) (hl : ∀ a ∈ l, hasM L a = true) (hlen : l.length < 4611686018427387904) : Ans (fun n => c54 (F n) l neg mx L (idx L)) (conflM L l neg, mx, L, idx L) :=
  Ans.step (x' := fun n => R54 .real (F n) n l neg mx L (idx L)) ⟨l.length + 1, fun n hn => R54_spec _ _ l neg mx L hL hl hlen hn⟩ (fun n => by rw [t54])
theorem R43_spec (cal : Cal) (n : Nat) (k z mx : Int) (l : List Int) (L : List GN) (hz : z = 0 ∨ z = 1) (h53 : c53 cal l mx L (idx L) = some (complM L l, mx, L, idx L)) (h54 : c54 cal l (k == 5) mx L (idx L) = some (conflM L l (k == 5), mx, L, idx L))
    (h41 : 2 ≤ l.length → c41 cal (nd k 0 0 l) mx L (idx L) = some (gres mx (addM mx L (nd k 0 0 l)))) : R43 .real cal n k z l mx L (idx L) = some (gres mx (finishM k z mx L l)) := by
  unfold R43
  dsimp only [Alg.real]
  rw [sub64 (by omega)]
  have rest : l.head? ≠ some (1 - z) → (Option.bind (c53 cal l mx L (idx L)) fun x15 => if x15.1 = true then
        (if true = true then some (1 - z, x15.2.1, x15.2.2.1, x15.2.2.2) else if cmpI .eql (l.length : Int) 0 = true then some (z, x15.2.1, x15.2.2.1, x15.2.2.2) else if cmpI .eql (l.length : Int) 1 = true then (if decide (0 ≤ 0) = true then (if decide ((0 : Int) < (l.length : Int)) = true then some (l.getD (Int.toNat 0) (Ty.zero (.int .i64)), x15.2.1, x15.2.2.1, x15.2.2.2) else none) else none) else Option.bind (c41 cal (k, Ty.zero (.int .i64), Ty.zero (.int .i64), l, Ty.zero .unit) x15.2.1 x15.2.2.1 x15.2.2.2) fun x18 => some (x18.1, x18.2.1, x18.2.2.1, x18.2.2.2))
      else Option.bind (c54 cal l (cmpI .eql k 5) x15.2.1 x15.2.2.1 x15.2.2.2) fun x16 => (if x16.1 = true then some (1 - z, x16.2.1, x16.2.2.1, x16.2.2.2) else if cmpI .eql (l.length : Int) 0 = true then some (z, x16.2.1, x16.2.2.1, x16.2.2.2) else if cmpI .eql (l.length : Int) 1 = true then (if decide (0 ≤ 0) = true then (if decide ((0 : Int) < (l.length : Int)) = true then some (l.getD (Int.toNat 0) (Ty.zero (.int .i64)), x16.2.1, x16.2.2.1, x16.2.2.2) else none) else none) else Option.bind (c41 cal (k, Ty.zero (.int .i64), Ty.zero (.int .i64), l, Ty.zero .unit) x16.2.1 x16.2.2.1 x16.2.2.2) fun x18 => some (x18.1, x18.2.1, x18.2.2.1, x18.2.2.2))) = some (gres mx (finishM k z mx L l)) := by
    intro hh
    rw [h53, Option.bind_some]
    dsimp only
    by_cases h1 : complM L l = true
    · have hM : finishM k z mx L l = (1 - z, L) := by unfold finishM; rw [if_neg hh, if_pos (by rw [h1]; rfl)]
      rw [if_pos h1, if_pos rfl, hM]
      rfl
    · rw [if_neg h1]
      show (Option.bind (c54 cal l (k == 5) mx L (idx L)) _) = _
      rw [h54, Option.bind_some]
      dsimp only
      by_cases h2 : conflM L l (k == 5) = true
      · have hM : finishM k z mx L l = (1 - z, L) := by unfold finishM; rw [if_neg hh, if_pos (by rw [h2, Bool.or_true])]
        rw [if_pos h2, hM]
        rfl
      · rw [if_neg h2]
        have h12 : ¬ (complM L l || conflM L l (k == 5)) = true := by simp [h1, h2]
        match l, h12, hh, h41 with
        | [], h12, hh, _ =>
          have hM : finishM k z mx L [] = (z, L) := by unfold finishM; rw [if_neg hh, if_neg h12]
          rw [hM]
          rfl
        | [a], h12, hh, _ =>
          have hM : finishM k z mx L [a] = (a, L) := by unfold finishM; rw [if_neg hh, if_neg h12]
          rw [hM]
          rfl
        | a :: b :: l, h12, hh, h41 =>
          have hM : finishM k z mx L (a :: b :: l) = addM mx L (nd k 0 0 (a :: b :: l)) := by unfold finishM; rw [if_neg hh, if_neg h12]
          rw [if_neg (eqlF (by simp; omega)), if_neg (eqlF (by simp; omega))]
          show Option.bind (c41 cal (nd k 0 0 (a :: b :: l)) mx L (idx L)) _ = _
          rw [h41 (by simp), hM]
          rfl
  cases l with
  | nil =>
    rw [if_neg (gtrF (by simp))]
    rw [if_neg (by decide)]
    exact rest (by simp)
  | cons a l =>
    rw [if_pos (gtrT (by rw [List.length_cons]; omega)), if_pos (by decide), if_pos (decT (by rw [List.length_cons]; omega))]
    show (if cmpI .eql a (1 - z) = true then _ else _) = _
    by_cases h : a = 1 - z
    · have hM : finishM k z mx L (a :: l) = (1 - z, L) := by unfold finishM; rw [if_pos (by simp [h])]
      rw [if_pos (eqlT h), hM]
      rfl
    · rw [if_neg (eqlF h)]
      exact rest (by simpa using h)
end Go.Sym.T22

namespace Go.Sym.T22
set_option maxRecDepth 100000
theorem finish_spec (k z mx : Int) (l : List Int) (L : List GN) (hL : Gr L) (h : Gath L k z l) (h45 : k = 4 ∨ k = 5) (hz : z = 0 ∨ z = 1) : Ans (fun n => c43 (F n) k z l mx L (idx L)) (gres mx (finishM k z mx L l)) := by
  have hlen := hL.len
  have hl := h.len
  obtain ⟨N1, h1⟩ := compl_spec l mx L hL h.has (by omega) (lt_le h.lt)
  obtain ⟨N2, h2⟩ := confl_spec l (k == 5) mx L hL h.has (by omega)
  obtain ⟨N3, h3⟩ := add_spec (nd k 0 0 l) mx L (keyOk_gath h h45 hL) (by show l.length ≤ _; omega) hL
  exact Ans.step (x' := fun n => R43 .real (F n) n k z l mx L (idx L)) ⟨N1 + N2 + N3, fun n hn => R43_spec _ _ k z mx l L hz (h1 n (by omega)) (h2 n (by omega)) (fun _ => h3 n (by omega))⟩ (fun n => by rw [t43])
theorem R24_spec (cal : Cal) (n : Nat) (mx : Int) (inputs : List Int) (L : List GN) (h42 : c42 cal 4 1 inputs mx L (idx L) = some (gatherR mx L (gatherM 4 1 L inputs)))
    (h43 : ∀ l, gatherM 4 1 L inputs = some l → c43 cal 4 1 l mx L (idx L) = some (gres mx (finishM 4 1 mx L l))) : R24 .real cal n inputs mx L (idx L) = some (gres mx (andM mx L inputs)) := by
  unfold R24 andM joinM
  dsimp only [Alg.real]
  rw [h42, Option.bind_some]
  cases hg : gatherM 4 1 L inputs with
  | none => rfl
  | some l =>
    rw [if_neg (by show ¬ Bool.not true = true; decide)]
    show Option.bind (c43 cal 4 1 l mx L (idx L)) _ = _
    rw [h43 l hg]
    rfl
theorem R25_spec (cal : Cal) (n : Nat) (mx : Int) (inputs : List Int) (L : List GN) (h42 : c42 cal 5 0 inputs mx L (idx L) = some (gatherR mx L (gatherM 5 0 L inputs)))
    (h43 : ∀ l, gatherM 5 0 L inputs = some l → c43 cal 5 0 l mx L (idx L) = some (gres mx (finishM 5 0 mx L l))) : R25 .real cal n inputs mx L (idx L) = some (gres mx (orM mx L inputs)) := by
  unfold R25 orM joinM
  dsimp only [Alg.real]
  rw [h42, Option.bind_some]
  cases hg : gatherM 5 0 L inputs with
  | none => rfl
  | some l =>
    rw [if_neg (by show ¬ Bool.not true = true; decide)]
    show Option.bind (c43 cal 5 0 l mx L (idx L)) _ = _
    rw [h43 l hg]
    rfl
theorem finish_all (k z mx : Int) (inputs : List Int) (L : List GN) (hL : Gr L) (h45 : k = 4 ∨ k = 5) (hz : z = 0 ∨ z = 1) : ∃ N, ∀ n, N ≤ n → ∀ l, gatherM k z L inputs = some l → c43 (F n) k z l mx L (idx L) = some (gres mx (finishM k z mx L l)) := by
  cases hg : gatherM k z L inputs with
  | none => exact ⟨0, fun n _ l h => by cases h⟩
  | some l =>
    obtain ⟨N, h⟩ := finish_spec k z mx l L hL (gatherM_some hL h45 hz hg).1 h45 hz
    exact ⟨N, fun n hn l' h' => by cases h'; exact h n hn⟩
theorem and_spec (mx : Int) (inputs : List Int) (L : List GN) (hL : Gr L) (hlen : inputs.length ≤ 65536) : Ans (fun n => c24 (F n) inputs mx L (idx L)) (gres mx (andM mx L inputs)) := by
  obtain ⟨N1, h1⟩ := gather_spec 4 1 mx inputs L hL hlen
  obtain ⟨N2, h2⟩ := finish_all 4 1 mx inputs L hL (.inl rfl) (.inr rfl)
  exact Ans.step (x' := fun n => R24 .real (F n) n inputs mx L (idx L)) ⟨N1 + N2, fun n hn => R24_spec _ _ mx inputs L (h1 n (by omega)) (h2 n (by omega))⟩ (fun n => by rw [t24])
theorem or_spec (mx : Int) (inputs : List Int) (L : List GN) (hL : Gr L) (hlen : inputs.length ≤ 65536) : Ans (fun n => c25 (F n) inputs mx L (idx L)) (gres mx (orM mx L inputs)) := by
  obtain ⟨N1, h1⟩ := gather_spec 5 0 mx inputs L hL hlen
  obtain ⟨N2, h2⟩ := finish_all 5 0 mx inputs L hL (.inr rfl) (.inl rfl)
  exact Ans.step (x' := fun n => R25 .real (F n) n inputs mx L (idx L)) ⟨N1 + N2, fun n hn => R25_spec _ _ mx inputs L (h1 n (by omega)) (h2 n (by omega))⟩ (fun n => by rw [t25])
/-! ### the store -/
theorem Ans.bind_some {α β : Type} {x : Nat → Option α} {y : α} {f : α → Option β} {z : β} (h : Ans x y) (e : f y = some z) : Ans (fun n => (x n).bind f) z := by
  obtain ⟨N, h⟩ := h
  exact ⟨N, fun n hn => (congrArg (fun q => q.bind f) (h n hn)).trans e⟩
theorem st_pick (b a mx : Int) (L : List GN) (hL : Gr L) : Ans (fun n => c8 (F n) b a mx L (idx L)) (gres mx (pickM mx L b a)) := by
  refine Ans.step (x' := fun n => R8 .real (F n) n b a mx L (idx L)) ?_ (fun n => by rw [t8])
  exact Ans.bind_some (pick_spec b a mx L hL) rfl
theorem st_and (mx : Int) (inputs : List Int) (L : List GN) (hL : Gr L) (hlen : inputs.length ≤ 65536) : Ans (fun n => c9 (F n) inputs mx L (idx L)) (gres mx (andM mx L inputs)) := by
  refine Ans.step (x' := fun n => R9 .real (F n) n inputs mx L (idx L)) ?_ (fun n => by rw [t9])
  exact Ans.bind_some (and_spec mx inputs L hL hlen) rfl
theorem st_or (mx : Int) (inputs : List Int) (L : List GN) (hL : Gr L) (hlen : inputs.length ≤ 65536) : Ans (fun n => c10 (F n) inputs mx L (idx L)) (gres mx (orM mx L inputs)) := by
  refine Ans.step (x' := fun n => R10 .real (F n) n inputs mx L (idx L)) ?_ (fun n => by rw [t10])
  exact Ans.bind_some (or_spec mx inputs L hL hlen) rfl
theorem st_not (a mx : Int) (L : List GN) (hL : Gr L) : Ans (fun n => c11 (F n) a mx L (idx L)) (gres mx (notM mx L a)) := by
  refine Ans.step (x' := fun n => R11 .real (F n) n a mx L (idx L)) ?_ (fun n => by rw [t11])
  exact Ans.bind_some (not_spec a mx L hL) rfl
theorem st_len (mx : Int) (L : List GN) (m : GM) : Ans (fun n => c13 (F n) mx L m) ((L.length : Int), mx, L, m) := by
  refine ⟨2, fun n hn => ?_⟩
  obtain ⟨q, rfl⟩ : ∃ q, n = q + 2 := ⟨n - 2, by omega⟩
  show c13 (F (q + 1 + 1)) mx L m = _
  rw [t13]
  unfold R13
  rw [t28]
  rfl
abbrev mx0 : Int := 33554432
abbrev L0 : List GN := [nd 0 0 0 [], nd 1 0 0 []]
theorem gr0 : Gr L0 := by
  refine ⟨by decide, by decide, fun i n h => ?_, by decide⟩
  match i with
  | 0 => cases h; exact .inl ⟨rfl, rfl⟩
  | 1 => cases h; exact .inr (.inl ⟨rfl, rfl⟩)
  | i + 2 => cases h
theorem key0_spec (k : Int) (h0 : 0 ≤ k) (h1 : k < 128) : Ans (fun n => c52 (F n) (nd k 0 0 [])) (keyB (nd k 0 0 [])) := key_spec _ (keyOk_nd ⟨h0, h1⟩ (by decide) (by decide) (fun x hx => by cases hx)) (Nat.zero_le _)
theorem st_new : Ans (fun n => c6 (F n)) (mx0, L0, idx L0) := by
  have h22 : Ans (fun n => c22 (F n) mx0) (mx0, L0, idx L0) := by
    refine Ans.step (x' := fun n => R22 .real (F n) n mx0) ?_ (fun n => by rw [t22])
    obtain ⟨N1, h1⟩ := key0_spec 0 (by decide) (by decide)
    obtain ⟨N2, h2⟩ := key0_spec 1 (by decide) (by decide)
    refine ⟨N1 + N2 + 1, fun n hn => ?_⟩
    obtain ⟨m, rfl⟩ : ∃ m, n = m + 1 := ⟨n - 1, by omega⟩
    have a1 : c41 (F (m + 1)) (nd 0 0 0 []) mx0 [] (idx []) = some (gres mx0 (addM mx0 [] (nd 0 0 0 []))) := by
      rw [t41]
      exact R41_spec _ _ _ _ _ (keyOk_nd (by decide) (by decide) (by decide) (fun x hx => by cases hx)) (fun m hm => by cases hm) (by decide) (h1 m (by omega))
    have a2 : c41 (F (m + 1)) (nd 1 0 0 []) mx0 [nd 0 0 0 []] (idx [nd 0 0 0 []]) = some (gres mx0 (addM mx0 [nd 0 0 0 []] (nd 1 0 0 []))) := by
      rw [t41]
      refine R41_spec _ _ _ _ _ (keyOk_nd (by decide) (by decide) (by decide) (fun x hx => by cases hx)) (fun m hm => ?_) (by decide) (h2 m (by omega))
      rw [List.mem_singleton.1 hm]
      exact keyOk_nd (by decide) (by decide) (by decide) (fun x hx => by cases hx)
    have b1 : gres mx0 (addM mx0 [] (nd 0 0 0 [])) = (0, mx0, [nd 0 0 0 []], idx [nd 0 0 0 []]) := rfl
    have b2 : gres mx0 (addM mx0 [nd 0 0 0 []] (nd 1 0 0 [])) = (1, mx0, L0, idx L0) := rfl
    rw [b1] at a1
    rw [b2] at a2
    show R22 .real (F (m + 1)) (m + 1) mx0 = _
    unfold R22
    show Option.bind (c41 (F (m + 1)) (nd 0 0 0 []) mx0 [] (idx [])) _ = _
    rw [a1, Option.bind_some]
    show Option.bind (c41 (F (m + 1)) (nd 1 0 0 []) mx0 [nd 0 0 0 []] (idx [nd 0 0 0 []])) _ = _
    rw [a2, Option.bind_some]
  refine Ans.step (x' := fun n => R6 .real (F n) n) ?_ (fun n => by rw [t6])
  exact Ans.bind_some h22 rfl
end Go.Sym.T22

namespace Go.Sym.T22
set_option maxRecDepth 1000000
theorem awakeT (m : Nat) : T (Nat.succ (Nat.succ (Nat.succ (Nat.succ (Nat.succ (Nat.succ (Nat.succ (Nat.succ (Nat.succ (Nat.succ (Nat.succ (Nat.succ (Nat.succ (Nat.succ (Nat.succ (Nat.succ (Nat.succ (Nat.succ (Nat.succ (Nat.succ (Nat.succ (Nat.succ (Nat.succ (Nat.succ (Nat.succ (Nat.succ (Nat.succ (Nat.succ (Nat.succ (Nat.succ (Nat.succ (Nat.succ (Nat.succ (Nat.succ (Nat.succ (Nat.succ (Nat.succ (Nat.succ (Nat.succ (Nat.succ m)))))))))))))))))))))))))))))))))))))))) 12 = (some true : Option Bool) := by kernel_rfl
theorem succ40 (m : Nat) : m + 40 = (Nat.succ (Nat.succ (Nat.succ (Nat.succ (Nat.succ (Nat.succ (Nat.succ (Nat.succ (Nat.succ (Nat.succ (Nat.succ (Nat.succ (Nat.succ (Nat.succ (Nat.succ (Nat.succ (Nat.succ (Nat.succ (Nat.succ (Nat.succ (Nat.succ (Nat.succ (Nat.succ (Nat.succ (Nat.succ (Nat.succ (Nat.succ (Nat.succ (Nat.succ (Nat.succ (Nat.succ (Nat.succ (Nat.succ (Nat.succ (Nat.succ (Nat.succ (Nat.succ (Nat.succ (Nat.succ (Nat.succ m)))))))))))))))))))))))))))))))))))))))) := rfl
theorem awake_ans : Ans (fun n => c12 (F n)) true := by
  refine ⟨40, fun n hn => ?_⟩
  obtain ⟨m, rfl⟩ : ∃ m, n = m + 40 := ⟨n - 40, by omega⟩
  have h := awakeT m
  rw [← succ40 m, T_eq] at h
  show c12 (F (m + 40)) = _
  rw [c12_eq]
  exact h
end Go.Sym.T22

namespace Go.Sym.T22
set_option maxRecDepth 100000
def idxM (a k : Int) : Int := if a.tmod k < 0 then a.tmod k + k else a.tmod k
theorem idxM_rng (a k : Int) (h : 0 < k) : 0 ≤ idxM a k ∧ idxM a k < k := by
  have h1 := Int.tmod_lt_of_pos a h
  have h2 : -k < a.tmod k := by
    have h3 : (a.tmod k).natAbs < k.natAbs := by
      rw [Int.natAbs_tmod]
      exact Nat.mod_lt _ (by omega)
    omega
  unfold idxM
  split <;> omega
theorem index_spec (a k : Int) (h : 0 < k) (hk : k < 4611686018427387904) : Ans (fun n => c7 (F n) a k) (idxM a k) := by
  refine Ans.step (x' := fun n => R7 .real (F n) n a k) (Ans.of fun n => ?_) (fun n => by rw [t7])
  show R7 .real (F n) n a k = _
  unfold R7
  dsimp only [Alg.real]
  have hr := idxM_rng a k h
  have e : arith .rem .i64 a k = a.tmod k := rfl
  rw [if_neg (by simp; omega), e]
  unfold idxM at hr ⊢
  split at hr
  · rename_i h1
    rw [if_pos (lssT h1), if_pos h1, add64 (by omega)]
  · rename_i h1
    rw [if_neg (lssF h1), if_neg h1]
theorem mx_room {L : List GN} (h : L.length < 33554432) : Room mx0 L := ⟨by omega, fun _ => by show (L.length : Int) < 33554432; omega⟩
theorem Ans.bind {α β : Type} {x : Nat → Option α} {f : Nat → α → Option β} {a : α} {y : β} (h : Ans x a) (h2 : Ans (fun n => f n a) y) : Ans (fun n => (x n).bind (f n)) y := by
  obtain ⟨N, h⟩ := h
  obtain ⟨M, h2⟩ := h2
  refine ⟨N + M, fun n hn => ?_⟩
  have h1 := h n (by omega)
  have h3 := h2 n (by omega)
  show (x n).bind (f n) = some y
  rw [h1]
  exact h3
theorem Ans.yes {α : Type} {c : Bool} {x x' : Nat → Option α} {y : α} (hc : c = true) (h : Ans x y) : Ans (fun n => if c = true then x n else x' n) y := by
  subst hc
  exact h
theorem Ans.no {α : Type} {c : Bool} {x x' : Nat → Option α} {y : α} (hc : ¬ c = true) (h : Ans x' y) : Ans (fun n => if c = true then x n else x' n) y := by
  have hc : c = false := by simpa using hc
  subst hc
  exact h
theorem Ans.val {α : Type} (y : α) : Ans (fun _ => some y) y := Ans.of fun _ => rfl
/-- The last part. -/
theorem excl_last {L : List GN} {a b c β γ p q : Int} (hL : Gr L) (hl : L.length ≤ 100) (ha : IsPick L a β p) (hb : IsPick L b β q) (hc : IsPick L c γ q) :
    Ans (fun n => if cmpI .eql β γ = true then (c10 (F n) [a, b] mx0 L (idx L)).bind fun x29 => if cmpI .gtr x29.1 1 = true then (c12 (F n)).bind fun x30 => some x30 else some false
      else (c9 (F n) [a, c] mx0 L (idx L)).bind fun x29 => if cmpI .gtr x29.1 1 = true then (c11 (F n) a x29.2.1 x29.2.2.1 x29.2.2.2).bind fun x30 => (c11 (F n) c x30.2.1 x30.2.2.1 x30.2.2.2).bind fun x31 =>
        (c10 (F n) [x30.1, x31.1] x31.2.1 x31.2.2.1 x31.2.2.2).bind fun x32 => if cmpI .gtr x32.1 1 = true then (c10 (F n) [a, b] x32.2.1 x32.2.2.1 x32.2.2.2).bind fun x33 => if cmpI .gtr x33.1 1 = true then (c12 (F n)).bind fun x34 => some x34 else some false else some false else some false) true := by
  by_cases h : β = γ
  · refine Ans.yes (eqlT h) (Ans.bind (st_or mx0 [a, b] L hL (by simp)) ?_)
    have := or_picks (mx := mx0) hL (mx_room (by omega)) ha hb
    exact Ans.yes (gtrT (by show (orM mx0 L [a, b]).1 > 1; omega)) (Ans.bind awake_ans (Ans.val _))
  · refine Ans.no (eqlF h) (Ans.bind (st_and mx0 [a, c] L hL (by simp)) ?_)
    have h1 := and_new (mx := mx0) hL (mx_room (by omega)) ha hc h
    have g1 := (joinM_grow (k := 4) (z := 1) (mx := mx0) (inputs := [a, c]) (.inl rfl) (.inr rfl) hL (.inr (by omega))).1
    have l1 := joinM_len (k := 4) (z := 1) (mx := mx0) (inputs := [a, c]) (.inl rfl) (.inr rfl) hL
    refine Ans.yes (gtrT (by show (andM mx0 L [a, c]).1 > 1; omega)) ?_
    dsimp only [gres]
    change Grow L (andM mx0 L [a, c]).2 at g1
    change (andM mx0 L [a, c]).2.length ≤ _ at l1
    generalize andM mx0 L [a, c] = r1 at *
    obtain ⟨v1, L1⟩ := r1
    dsimp only at *
    have ha1 := ha.grow g1; have hb1 := hb.grow g1; have hc1 := hc.grow g1
    refine Ans.bind (st_not a mx0 L1 g1.gr) ?_
    obtain ⟨g2, n2, l2⟩ := notM_is g1.gr (mx_room (by omega)) ha1
    dsimp only [gres]
    generalize notM mx0 L1 a = r2 at *
    obtain ⟨v2, L2⟩ := r2
    dsimp only at *
    have ha2 := ha1.grow g2; have hb2 := hb1.grow g2; have hc2 := hc1.grow g2
    refine Ans.bind (st_not c mx0 L2 g2.gr) ?_
    obtain ⟨g3, n3, l3⟩ := notM_is g2.gr (mx_room (by omega)) hc2
    dsimp only [gres]
    generalize notM mx0 L2 c = r3 at *
    obtain ⟨v3, L3⟩ := r3
    dsimp only at *
    have ha3 := ha2.grow g3; have hb3 := hb2.grow g3; have hc3 := hc2.grow g3; have n23 := n2.grow g3
    refine Ans.bind (st_or mx0 [v2, v3] L3 g3.gr (by simp)) ?_
    have h4 := or_new_not (mx := mx0) g3.gr (mx_room (by omega)) ha3 hc3 h n23 n3
    have g4 := (joinM_grow (k := 5) (z := 0) (mx := mx0) (inputs := [v2, v3]) (.inr rfl) (.inl rfl) g3.gr (.inr (by omega))).1
    have l4 := joinM_len (k := 5) (z := 0) (mx := mx0) (inputs := [v2, v3]) (.inr rfl) (.inl rfl) g3.gr
    change Grow L3 (orM mx0 L3 [v2, v3]).2 at g4
    change (orM mx0 L3 [v2, v3]).2.length ≤ _ at l4
    dsimp only [gres]
    generalize orM mx0 L3 [v2, v3] = r4 at *
    obtain ⟨v4, L4⟩ := r4
    dsimp only at *
    refine Ans.yes (gtrT (by omega)) ?_
    have ha4 := ha3.grow g4; have hb4 := hb3.grow g4
    refine Ans.bind (st_or mx0 [a, b] L4 g4.gr (by simp)) ?_
    have := or_picks (mx := mx0) g4.gr (mx_room (by omega)) ha4 hb4
    exact Ans.yes (gtrT (by show (orM mx0 L4 [a, b]).1 > 1; omega)) (Ans.bind awake_ans (Ans.val _))
theorem excl_ans (x1 x2 x3 x4 : Int) : Ans (fun n => c3 (F n) x1 x2 x3 x4) true := by
  refine Ans.step (x' := fun n => R3 .real (F n) n x1 x2 x3 x4) ?_ (fun n => by rw [t3])
  unfold R3
  dsimp only [Alg.real]
  refine Ans.bind st_new ?_
  refine Ans.bind (index_spec x1 4096 (by decide) (by decide)) ?_
  refine Ans.bind (index_spec x2 4096 (by decide) (by decide)) ?_
  refine Ans.bind (index_spec x3 17 (by decide) (by decide)) ?_
  refine Ans.bind (index_spec x4 17 (by decide) (by decide)) ?_
  have r1 := idxM_rng x1 4096 (by decide); have r2 := idxM_rng x2 4096 (by decide); have r3 := idxM_rng x3 17 (by decide); have r4 := idxM_rng x4 17 (by decide)
  generalize idxM x1 4096 = β at *
  generalize idxM x2 4096 = γ at *
  generalize idxM x3 17 = p' at *
  generalize idxM x4 17 = q' at *
  dsimp only
  rw [sub64 (a := p') (b := 1) (by omega), sub64 (a := q') (b := 1) (by omega)]
  generalize hp : p' - 1 = p at *
  generalize hq : q' - 1 = q at *
  refine Ans.bind (st_pick β p mx0 L0 gr0) ?_
  obtain ⟨g1, i1, l1⟩ := pickM_is (mx := mx0) gr0 (mx_room (by decide)) (β := β) (p := p) (by omega)
  dsimp only [gres]
  generalize pickM mx0 L0 β p = s1 at *
  obtain ⟨a, L1⟩ := s1
  dsimp only at *
  have l0 : L0.length = 2 := rfl
  refine Ans.bind (st_pick β q mx0 L1 g1.gr) ?_
  obtain ⟨g2, i2, l2⟩ := pickM_is (mx := mx0) g1.gr (mx_room (by omega)) (β := β) (p := q) (by omega)
  dsimp only [gres]
  generalize pickM mx0 L1 β q = s2 at *
  obtain ⟨b, L2⟩ := s2
  dsimp only at *
  refine Ans.bind (st_pick γ q mx0 L2 g2.gr) ?_
  obtain ⟨g3, hc, l3⟩ := pickM_is (mx := mx0) g2.gr (mx_room (by omega)) (β := γ) (p := q) (by omega)
  dsimp only [gres]
  generalize pickM mx0 L2 γ q = s3 at *
  obtain ⟨c, L⟩ := s3
  dsimp only at *
  have ha := (i1.grow g2).grow g3
  have hb := i2.grow g3
  have hL := g3.gr
  have hA := ha.big hL; have hB := hb.big hL; have hC := hc.big hL
  refine Ans.no (lssF (by omega)) (Ans.no (lssF (by omega)) (Ans.no (lssF (by omega)) (Ans.no ?_ (Ans.no ?_ ?_))))
  · have : cmpI .eql a b = cmpI .eql p q := by
      by_cases h : p = q
      · subst h
        rw [eqlT (ha.unique hL hb), eqlT rfl]
      · have : ¬ a = b := fun e => by subst e; exact h (ha.same hb).2
        rw [Bool.eq_false_iff.2 (eqlF this), Bool.eq_false_iff.2 (eqlF h)]
    rw [this]
    simp
  · have : cmpI .eql b c = cmpI .eql β γ := by
      by_cases h : β = γ
      · subst h
        rw [eqlT (hb.unique hL hc), eqlT rfl]
      · have : ¬ b = c := fun e => by subst e; exact h (hb.same hc).1
        rw [Bool.eq_false_iff.2 (eqlF this), Bool.eq_false_iff.2 (eqlF h)]
    rw [this]
    simp
  by_cases hpq : p = q
  · -- the same alternative
    subst hpq
    have hab := ha.unique hL hb
    subst hab
    refine Ans.no (neqF rfl) (Ans.no (by decide) (Ans.yes (eqlT rfl) ?_))
    refine Ans.bind (st_and mx0 [a, a] L hL (by simp)) ?_
    rw [and_same hL ha]
    dsimp only [gres]
    refine Ans.no (neqF rfl) ?_
    refine Ans.bind (st_not a mx0 L hL) ?_
    obtain ⟨g4, n4, l4⟩ := notM_is (mx := mx0) hL (mx_room (by omega)) ha
    dsimp only [gres]
    generalize hs4 : notM mx0 L a = s4 at *
    obtain ⟨v4, L4⟩ := s4
    dsimp only at *
    have ha4 := ha.grow g4
    refine Ans.bind (st_not a mx0 L4 g4.gr) ?_
    obtain ⟨g5, n5, l5⟩ := notM_is (mx := mx0) g4.gr (mx_room (by omega)) ha4
    dsimp only [gres]
    generalize notM mx0 L4 a = s5 at *
    obtain ⟨v5, L5⟩ := s5
    dsimp only at *
    have ha5 := ha4.grow g5
    have n45 := n4.grow g5
    have e45 : v4 = v5 := nat_inj g5.gr n45.has n5.has (n45.eq.trans n5.eq.symm)
    subst e45
    refine Ans.bind (st_or mx0 [v4, v4] L5 g5.gr (by simp)) ?_
    rw [or_same g5.gr ha5 n5]
    dsimp only [gres]
    refine Ans.bind (st_not a mx0 L5 g5.gr) ?_
    obtain ⟨g6, n6, l6⟩ := notM_is (mx := mx0) g5.gr (mx_room (by omega)) ha5
    dsimp only [gres]
    generalize notM mx0 L5 a = s6 at *
    obtain ⟨v6, L6⟩ := s6
    dsimp only at *
    have n56 := n5.grow g6
    have e56 : v4 = v6 := nat_inj g6.gr n56.has n6.has (n56.eq.trans n6.eq.symm)
    subst e56
    refine Ans.no (neqF rfl) ?_
    exact excl_last g6.gr (by omega) (ha5.grow g6) (ha5.grow g6) (((hc.grow g4).grow g5).grow g6)
  · refine Ans.yes (neqT hpq) ?_
    refine Ans.bind (st_and mx0 [a, b] L hL (by simp)) ?_
    rw [and_apart hL ha hb hpq (fun x hx => by
      simp only [List.mem_cons, List.not_mem_nil, or_false] at hx
      rcases hx with rfl | rfl
      · exact ⟨_, _, ha⟩
      · exact ⟨_, _, hb⟩) (by simp) (by simp)]
    dsimp only [gres]
    refine Ans.no (by decide) ?_
    refine Ans.bind (st_not a mx0 L hL) ?_
    obtain ⟨g4, n4, l4⟩ := notM_is (mx := mx0) hL (mx_room (by omega)) ha
    dsimp only [gres]
    generalize notM mx0 L a = s4 at *
    obtain ⟨v4, L4⟩ := s4
    dsimp only at *
    have ha4 := ha.grow g4; have hb4 := hb.grow g4; have hc4 := hc.grow g4
    refine Ans.bind (st_not b mx0 L4 g4.gr) ?_
    obtain ⟨g5, n5, l5⟩ := notM_is (mx := mx0) g4.gr (mx_room (by omega)) hb4
    dsimp only [gres]
    generalize notM mx0 L4 b = s5 at *
    obtain ⟨v5, L5⟩ := s5
    dsimp only at *
    have ha5 := ha4.grow g5; have hb5 := hb4.grow g5; have hc5 := hc4.grow g5
    refine Ans.bind (st_or mx0 [v4, v5] L5 g5.gr (by simp)) ?_
    rw [or_apart g5.gr ha5 hb5 hpq (n4.grow g5) n5]
    dsimp only [gres]
    refine Ans.no (by decide) ?_
    refine Ans.bind (st_and mx0 [a, c, b] L5 g5.gr (by simp)) ?_
    rw [and_apart g5.gr ha5 hb5 hpq (fun x hx => by
      simp only [List.mem_cons, List.not_mem_nil, or_false] at hx
      rcases hx with rfl | rfl | rfl
      · exact ⟨_, _, ha5⟩
      · exact ⟨_, _, hc5⟩
      · exact ⟨_, _, hb5⟩) (by simp) (by simp)]
    dsimp only [gres]
    refine Ans.no (by decide) ?_
    refine Ans.no (eqlF hpq) (Ans.no (by decide) ?_)
    exact excl_last g5.gr (by omega) ha5 hb5 hc5
end Go.Sym.T22
