/- What the law on sizes computes. -/
import Derived.Test.YtggcbphplabngaaSpPl
set_option linter.unusedVariables false
namespace Go.Sym.T6
set_option maxRecDepth 100000
theorem Ans.alt1 {α β : Type} {x : Nat → Option α} {f : Nat → α → Option β} {r : Nat → Option β} {a : α} {y : β} (h : Ans x a) (h2 : Ans (fun n => f n a) y) : Ans (fun n => Alg.real.alt (x n) (f n) (r n)) y := by
  obtain ⟨N, h⟩ := h
  obtain ⟨M, h2⟩ := h2
  refine ⟨N + M, fun n hn => ?_⟩
  have h1 := h n (by omega)
  have h3 := h2 n (by omega)
  show Alg.real.alt (x n) (f n) (r n) = some y
  rw [h1]
  exact h3
theorem Ans.alt2 {α β : Type} {x : Nat → Option α} {f : Nat → α → Option β} {r : Nat → Option β} {y : β} (h : ∀ n, x (n + 1) = none) (h2 : Ans r y) : Ans (fun n => Alg.real.alt (x n) (f n) (r n)) y := by
  obtain ⟨M, h2⟩ := h2
  refine ⟨M + 1, fun n hn => ?_⟩
  obtain ⟨m, rfl⟩ : ∃ m, n = m + 1 := ⟨n - 1, by omega⟩
  have h3 := h2 (m + 1) (by omega)
  show Alg.real.alt (x (m + 1)) (f (m + 1)) (r (m + 1)) = some y
  rw [h m]
  exact h3
theorem new_none (n : Int) (h : n < 1 ∨ n > 8192) (k : Nat) : c10 (F (k + 1)) n = none := by
  rw [t10]
  unfold R10
  dsimp only [Alg.real]
  by_cases h1 : n < 1
  · rw [if_pos (lssT h1), if_pos rfl]
  · rw [if_neg (lssF h1), gtrT (show n > 8192 by omega), if_pos rfl]
theorem nil_ans (n : Int) (h : n < 1 ∨ n > 8192) : Ans (fun k => c110 (F k) n) 1 := Ans.from 1 fun k => by
  show c110 (F (k + 1)) n = some 1
  rw [t110]
  unfold R110
  dsimp only [Alg.real]
  by_cases h1 : n < 1
  · rw [if_pos (lssT h1), if_pos rfl]
  · rw [if_neg (lssF h1), gtrT (show n > 8192 by omega), if_pos rfl]
theorem and63 (a : Int) : ∃ m : Nat, m ≤ 63 ∧ arith .add .i64 1 (arith .and .i64 a 63) = (m : Int) + 1 ∧ arith .sub .i64 ((m : Int) + 1) 1 = (m : Int) := by
  have h : (BitVec.ofInt 64 a &&& BitVec.ofInt 64 63).toNat ≤ 63 := by
    rw [BitVec.toNat_and]
    exact Nat.and_le_right
  have e : arith .and .i64 a 63 = IntKind.wrap .i64 (((BitVec.ofInt 64 a &&& BitVec.ofInt 64 63).toNat : Nat) : Int) := rfl
  rw [e]
  generalize (BitVec.ofInt 64 a &&& BitVec.ofInt 64 63).toNat = m at *
  have h1 : ∀ m : Nat, m ≤ 63 → IntKind.wrap .i64 (m : Int) = (m : Int) := by decide
  refine ⟨m, h, ?_, sub64 (by omega) |>.trans (by omega)⟩
  rw [h1 m h, add64 (by omega)]
  omega
theorem zeros64 (n : Nat) (p : Nat) : (List.replicate n zSc).getD p zSc = zSc := by
  rw [List.getD_eq_getElem?_getD, List.getElem?_replicate]
  split <;> rfl
theorem fresh_ok (n : Int) (h : n ≤ 8192) : DOk (List.replicate n.toNat zSc) [] := ⟨by rw [List.length_replicate]; omega, zeros_sec _, fun x hx => (by cases hx), by simp⟩
theorem sizes_ans (n : Int) : Ans (fun k => c6 (F k) n) true := by
  refine Ans.step (x' := fun k => R6 .real (F k) k n) ?_ (fun k => by rw [t6])
  unfold R6
  dsimp only [real_bind, real_branch]
  obtain ⟨m, hm, em, es⟩ := and63 n
  rw [em, es]
  have hlen : ∀ k : Int, 0 ≤ k → ((List.length (List.replicate k.toNat zSc) : Nat) : Int) = k := fun k hk => by rw [List.length_replicate]; omega
  have hread : Ans (fun k => c14 (F k) (m : Int) true false 0 (List.replicate ((m : Int) + 1).toNat zSc) []) (0, true, false, 0, zSc, List.replicate ((m : Int) + 1).toNat zSc, []) := by
    have h1 := read_ans (m : Int) true false 0 (List.replicate ((m : Int) + 1).toNat zSc) [] (fresh_ok _ (by omega))
    rw [readM_ok ⟨by omega, by rw [hlen _ (by omega)]; omega⟩] at h1
    rw [zeros64] at h1
    exact h1
  have hsize : ∀ k : Int, 0 ≤ k → Ans (fun q => c19 (F q) true false 0 (List.replicate k.toNat zSc) []) (k, true, false, 0, List.replicate k.toNat zSc, []) := fun k hk => Ans.from 1 fun q => by
    show c19 (F (q + 1)) true false 0 (List.replicate k.toNat zSc) [] = _
    rw [size_spec, hlen k hk]
  by_cases hg : 1 ≤ n ∧ n ≤ 8192
  · refine Ans.alt1 (new_ans n hg.1 hg.2) (Ans.alt1 (new_ans ((m : Int) + 1) (by omega) (by omega)) (Ans.alt2 (new_none 8193 (by decide)) (Ans.bind (nil_ans 8193 (by decide)) (Ans.alt1 (new_ans 8192 (by decide) (by decide)) ?_))))
    dsimp only
    refine Ans.join fun J9 h9 => ?_
    refine Ans.no (neqF rfl) (Ans.no (neqF rfl) (Ans.no (neqF rfl) (Ans.bind (hsize 8192 (by decide)) ?_)))
    dsimp only
    subst h9
    refine Ans.no (neqF rfl) (Ans.bind hread ?_)
    dsimp only
    refine Ans.join fun J21 h21 => ?_
    refine Ans.no (lssF (by omega)) ?_
    subst h21
    refine Ans.no (gtrF (by omega)) ?_
    refine Ans.join fun J28 h28 => ?_
    refine Ans.yes (eqlT rfl) (Ans.bind (hsize n (by omega)) ?_)
    dsimp only
    refine Ans.yes (eqlT rfl) (Ans.yes (eqlT rfl) (Ans.yes (by decide) (Ans.yes (by decide) (Ans.yes (by decide) (Ans.yes (cmpS_refl _) (Ans.bind awake_ans ?_))))))
    subst h28
    exact Ans.val _
  · have hb : n < 1 ∨ n > 8192 := by omega
    refine Ans.alt2 (new_none n hb) (Ans.bind (nil_ans n hb) (Ans.alt1 (new_ans ((m : Int) + 1) (by omega) (by omega)) (Ans.alt2 (new_none 8193 (by decide)) (Ans.bind (nil_ans 8193 (by decide)) (Ans.alt1 (new_ans 8192 (by decide) (by decide)) ?_)))))
    dsimp only
    refine Ans.join fun J9 h9 => ?_
    refine Ans.no (neqF rfl) (Ans.no (neqF rfl) (Ans.no (neqF rfl) (Ans.bind (hsize 8192 (by decide)) ?_)))
    dsimp only
    subst h9
    refine Ans.no (neqF rfl) (Ans.bind hread ?_)
    dsimp only
    refine Ans.join fun J16 h16 => ?_
    have hfin : ∀ b, b = true → Ans (fun k => J16 k b zSc) true := by
      rintro b rfl
      subst h16
      refine Ans.yes rfl (Ans.join fun J18 h18 => ?_)
      refine Ans.yes (eqlT rfl) (Ans.bind awake_ans ?_)
      subst h18
      exact Ans.val _
    by_cases h1 : n < 1
    · exact Ans.yes (lssT h1) (hfin _ rfl)
    · exact Ans.no (lssF h1) (hfin _ (gtrT (by omega)))
end Go.Sym.T6
