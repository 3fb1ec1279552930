/- What the functions on formulas answer. -/
import Derived.Test.YtbhnbgelkemhiaaSp
import Derived.Test.YtbhnbgelkemhiaaPlB
set_option linter.unusedVariables false
namespace Go.Sym.T22
set_option maxRecDepth 100000
theorem real_bind {α β : Type} (x : Option α) (f : α → Option β) : Alg.real.bind x f = x.bind f := rfl
theorem real_branch {α : Type} (b : Bool) (x y : Option α) : Alg.real.branch b x y = if b = true then x else y := rfl
theorem if_tt {α : Type} {x y : α} : (if true = true then x else y) = x := rfl
theorem if_ff {α : Type} {x y : α} : (if false = true then x else y) = y := rfl
/-- A node's tests, behind those of its inputs. -/
def nodeB (x : GN) : Bool :=
  if x.1 = 2 then decide (x.ins.length = 0) && (decide (0 ≤ x.2.1) && (decide (x.2.1 < 4096) && (decide (-1 ≤ x.2.2.1) && decide (x.2.2.1 < 16))))
  else if x.2.1 ≠ 0 ∨ x.2.2.1 ≠ 0 then false
  else if x.1 = 0 ∨ x.1 = 1 then decide (x.ins.length = 0)
  else if x.1 = 3 then decide (x.ins.length = 1)
  else decide (x.1 = 4 ∨ x.1 = 5)
theorem nodeB_eq {x : GN} {i : Nat} (h : ∀ a ∈ x.ins, 0 ≤ a ∧ a < (i : Int)) : decide (NOk x i) = nodeB x := by
  rw [Bool.eq_iff_iff, decide_eq_true_iff]
  unfold NOk nodeB
  constructor
  · rintro ⟨_, ⟨h1, h2, h3⟩ | ⟨h1, h2, h3, h4⟩⟩
    · rw [if_pos h1]
      simp only [Bool.and_eq_true, decide_eq_true_eq]
      exact ⟨h2, h3.1, h3.2.1, h3.2.2.1, h3.2.2.2⟩
    · rw [if_neg h1, if_neg (by omega)]
      rcases h4 with ⟨h4, h5⟩ | ⟨h4, h5⟩ | h4 | h4
      · rw [if_pos h4]
        exact decide_eq_true h5
      · have h4 : x.1 = 3 := h4
        rw [if_neg (by omega), if_pos h4]
        exact decide_eq_true h5
      · have h4 : x.1 = 4 := h4
        rw [if_neg (by omega), if_neg (by omega)]
        exact decide_eq_true (.inl h4)
      · have h4 : x.1 = 5 := h4
        rw [if_neg (by omega), if_neg (by omega)]
        exact decide_eq_true (.inr h4)
  · intro hb
    refine ⟨h, ?_⟩
    split at hb
    · rename_i h1
      simp only [Bool.and_eq_true, decide_eq_true_eq] at hb
      exact .inl ⟨h1, hb.1, hb.2.1, hb.2.2.1, hb.2.2.2.1, hb.2.2.2.2⟩
    · rename_i h1
      refine .inr ⟨h1, ?_⟩
      split at hb
      · cases hb
      · rename_i h2
        refine ⟨by omega, by omega, ?_⟩
        split at hb
        · rename_i h3
          exact .inl ⟨h3, of_decide_eq_true hb⟩
        · split at hb
          · rename_i h4
            exact .inr (.inl ⟨h4, of_decide_eq_true hb⟩)
          · have hb := of_decide_eq_true hb
            rcases hb with hb | hb
            · exact .inr (.inr (.inl hb))
            · exact .inr (.inr (.inr hb))
theorem NOk_bad {x : GN} {i j : Nat} (hj : j < x.ins.length) (h : ¬ (0 ≤ x.ins[j] ∧ x.ins[j] < (i : Int))) : decide (NOk x i) = false :=
  decide_eq_false (fun hn => h (hn.1 _ (List.getElem_mem hj)))
theorem R44_spec (cal : Cal) (n : Nat) (x : GN) (i : Nat) (hl : x.ins.length < 4611686018427387904) (hn : x.ins.length < n) : R44 .real cal n x i = some (decide (NOk x i)) := by
  unfold R44
  dsimp only [Alg.real]
  refine loop5 (fun q (i' : Int) k b a l r => x.1 = k ∧ x.2.1 = b ∧ x.2.2.1 = a ∧ x.2.2.2.1 = l ∧ r = decide (NOk x i) ∧ ∃ j : Nat, i' = j ∧ j ≤ x.ins.length ∧ q = x.ins.length - j ∧ ∀ y ∈ x.ins.take j, 0 ≤ y ∧ y < (i : Int)) ?_ n x.ins.length _ _ _ _ _ _ ⟨rfl, rfl, rfl, rfl, rfl, 0, rfl, by omega, by omega, fun y hy => by simp at hy⟩ hn
  rintro q self i' k b a l r ⟨rfl, rfl, rfl, rfl, rfl, j, rfl, hj, rfl, hall⟩ ih
  by_cases hlt : j < x.ins.length
  · rw [if_pos (lssT (by show (j : Int) < (x.ins.length : Int); omega)), if_pos (decT (by omega)), if_pos (decT (by show (j : Int) < (x.ins.length : Int); omega)), show x.2.2.2.1.getD (Int.toNat (j : Int)) (Ty.zero (.int .i64)) = x.ins[j] from getD_at hlt _]
    by_cases h0 : x.ins[j] < 0
    · rw [if_pos (lssT h0), if_tt, NOk_bad hlt (by omega)]
    · rw [if_neg (lssF h0)]
      by_cases h1 : x.ins[j] < (i : Int)
      · rw [if_neg (geqF (by omega)), add64 (by omega)]
        refine ih (x.ins.length - (j + 1)) _ _ _ _ _ (by omega) ⟨rfl, rfl, rfl, rfl, rfl, j + 1, by omega, by omega, rfl, fun y hy => ?_⟩
        rw [take_snoc _ _ hlt] at hy
        rcases List.mem_append.1 hy with hy | hy
        · exact hall y hy
        · rw [List.mem_singleton] at hy
          subst hy
          omega
      · rw [if_pos (geqT (by omega)), NOk_bad hlt (by omega)]
  · have e : x.ins.take j = x.ins := List.take_of_length_le (by omega)
    rw [e] at hall
    rw [if_neg (lssF (by show ¬ (j : Int) < (x.ins.length : Int); omega)), nodeB_eq hall]
    unfold nodeB
    have l0 : cmpI .eql ((x.2.2.2.1.length : Nat) : Int) 0 = decide (x.ins.length = 0) := by
      rw [eql_eq, Bool.eq_iff_iff, beq_iff_eq, decide_eq_true_iff]
      exact Int.ofNat_eq_zero
    have l1 : cmpI .eql ((x.2.2.2.1.length : Nat) : Int) 1 = decide (x.ins.length = 1) := by
      rw [eql_eq, Bool.eq_iff_iff, beq_iff_eq, decide_eq_true_iff]
      show (x.ins.length : Int) = 1 ↔ _
      omega
    rw [l0, l1]
    by_cases h2 : x.1 = 2
    · rw [if_pos (eqlT h2), if_pos h2, geq_eq, lss_eq, geq_eq, lss_eq]
      show _ = some (decide (x.ins.length = 0) && (decide (x.2.1 ≥ 0) && (decide (x.2.1 < 4096) && (decide (x.2.2.1 ≥ -1) && decide (x.2.2.1 < 16)))))
      cases decide (x.ins.length = 0) <;> cases decide (x.2.1 ≥ 0) <;> cases decide (x.2.1 < 4096) <;> cases decide (x.2.2.1 ≥ -1) <;> rfl
    · rw [if_neg (eqlF h2), if_neg h2]
      by_cases h3 : x.2.1 = 0
      · rw [if_neg (neqF h3)]
        by_cases h4 : x.2.2.1 = 0
        · rw [if_neg (neqF h4), if_neg (show ¬ (x.2.1 ≠ 0 ∨ x.2.2.1 ≠ 0) by omega)]
          by_cases h5 : x.1 = 0
          · rw [if_pos (eqlT h5), if_pos (eqlT h5), if_pos (.inl h5)]
          · rw [if_neg (eqlF h5)]
            by_cases h6 : x.1 = 1
            · rw [if_pos (eqlT h6), if_pos (.inr h6)]
            · rw [if_neg (eqlF h6), if_neg (show ¬ (x.1 = 0 ∨ x.1 = 1) by omega)]
              by_cases h7 : x.1 = 3
              · rw [if_pos (eqlT h7), if_pos h7]
              · rw [if_neg (eqlF h7), if_neg h7]
                by_cases h8 : x.1 = 4
                · rw [if_pos (eqlT h8), decide_eq_true (.inl h8)]
                · rw [if_neg (eqlF h8), eql_eq]
                  congr 1
                  rw [Bool.eq_iff_iff, beq_iff_eq, decide_eq_true_iff]
                  omega
        · rw [if_pos (neqT h4), if_pos (.inr h4)]
      · rw [if_pos (neqT h3), if_tt, if_pos (.inl h3)]
/-! ### valid formulas -/
theorem getD_get {f : List GN} {j : Nat} (h : j < f.length) (d : GN) : f.getD (Int.toNat (j : Int)) d = f[j] := by
  rw [Int.toNat_natCast, List.getD_eq_getElem?_getD, List.getElem?_eq_getElem h]
  rfl
theorem okFrom_take : ∀ {f : List GN} {t i j : Nat} (hj : j < f.length), okFrom t i (f.drop j) = (decide (t + f[j].ins.length ≤ 33554432) && (decide (NOk f[j] i) && okFrom (t + f[j].ins.length) (i + 1) (f.drop (j + 1)))) := by
  intro f t i j hj
  rw [List.drop_eq_getElem_cons hj]
  rfl
theorem R27_spec (cal : Cal) (n : Nat) (f : List GN) (hl : ∀ x ∈ f, x.ins.length < 4611686018427387904) (hn : f.length < n) (h44 : ∀ x ∈ f, ∀ i : Nat, c44 cal x i = some (decide (NOk x i))) : R27 .real cal n (f, ()) = some (validM f) := by
  unfold R27 validM
  dsimp only [Alg.real]
  by_cases h : f.length ≤ 65536
  · rw [if_neg (gtrF (by omega)), decide_eq_true h, Bool.true_and]
    refine loop2 (fun q (t : Int) (i : Int) r => ∃ t' j : Nat, t = t' ∧ i = j ∧ j ≤ f.length ∧ q = f.length - j ∧ t' ≤ 33554432 ∧ r = okFrom t' j (f.drop j)) ?_ n f.length _ _ _ ⟨0, 0, rfl, rfl, by omega, by omega, by omega, rfl⟩ hn
    rintro q self t i r ⟨t', j, rfl, rfl, hj, rfl, ht, rfl⟩ ih
    by_cases hlt : j < f.length
    · have hx := hl _ (List.getElem_mem hlt)
      rw [if_pos (lssT (by omega)), if_pos (decT (by omega)), if_pos (decT (by omega)), getD_get hlt, okFrom_take hlt]
      rw [show arith .add .i64 (t' : Int) ((f[j].2.2.2.1.length : Nat) : Int) = ((t' + f[j].ins.length : Nat) : Int) from by rw [add64 (by show _ ≤ (t' : Int) + (f[j].ins.length : Int) ∧ (t' : Int) + (f[j].ins.length : Int) ≤ _; omega)]; show (t' : Int) + (f[j].ins.length : Int) = _; omega]
      by_cases h1 : t' + f[j].ins.length ≤ 33554432
      · rw [if_neg (gtrF (by omega)), decide_eq_true h1, Bool.true_and]
        show (c44 cal f[j] (j : Int)).bind _ = _
        rw [h44 _ (List.getElem_mem hlt), Option.bind_some]
        by_cases h2 : NOk f[j] j
        · rw [decide_eq_true h2, Bool.true_and]
          have e : okFrom t' j (f.drop j) = okFrom (t' + f[j].ins.length) (j + 1) (f.drop (j + 1)) := by rw [okFrom_take hlt, decide_eq_true h1, decide_eq_true h2]; rfl
          rw [if_neg (by decide), add64 (by omega)]
          rw [← e]
          exact ih (f.length - (j + 1)) ((t' + f[j].ins.length : Nat) : Int) ((j : Int) + 1) (by omega) ⟨t' + f[j].ins.length, j + 1, rfl, by omega, by omega, rfl, h1, e⟩
        · rw [decide_eq_false h2]
          rfl
      · rw [if_pos (gtrT (by omega)), decide_eq_false h1]
        rfl
    · rw [if_neg (lssF (by omega)), List.drop_of_length_le (by omega)]
      rfl
  · rw [if_pos (gtrT (by omega)), decide_eq_false h]
    rfl
theorem valid_spec (f : List GN) (hl : ∀ x ∈ f, x.ins.length < 4611686018427387904) : Ans (fun n => c27 (F n) (f, ())) (validM f) := by
  obtain ⟨N, hN⟩ : ∃ N, ∀ x ∈ f, x.ins.length < N := by
    clear hl
    induction f with
    | nil => exact ⟨0, fun x hx => by cases hx⟩
    | cons y f ih =>
      obtain ⟨N, h⟩ := ih
      refine ⟨N + y.ins.length + 1, fun x hx => ?_⟩
      rcases List.mem_cons.1 hx with rfl | hx
      · omega
      · have := h x hx
        omega
  refine Ans.step (x' := fun n => R27 .real (F n) n (f, ())) ⟨N + f.length + 1, fun n hn => ?_⟩ (fun n => by rw [t27])
  obtain ⟨m, rfl⟩ : ∃ m, n = m + 1 := ⟨n - 1, by omega⟩
  refine R27_spec _ _ f hl (by omega) (fun x hx i => ?_)
  rw [t44]
  exact R44_spec _ _ x i (hl x hx) (by have := hN x hx; omega)
end Go.Sym.T22

namespace Go.Sym.T22
set_option maxRecDepth 100000
theorem eqlD (a b : Int) : cmpI .eql a b = decide (a = b) := by rw [eql_eq, Bool.eq_iff_iff, beq_iff_eq, decide_eq_true_iff]
theorem neqD (a b : Int) : cmpI .neq a b = !decide (a = b) := by rw [neq_eq, bne, ← eql_eq, eqlD]
def jj (S : Option Bool) (k b a : Int) (z : Nat) (p q : Bool) : Option Bool :=
  if q = true then if (!p) = true then if true = true then some false else S else if cmpI .neq (z : Int) 0 = true then some false else S
  else if cmpI .eql k 2 = true then
    if cmpI .lss b 0 = true then if true = true then some false else S
    else if cmpI .geq b 4096 = true then if true = true then some false else S
    else if cmpI .lss a (-1) = true then if true = true then some false else S
    else if cmpI .geq a 16 = true then if true = true then some false else S
    else if cmpI .neq (z : Int) 0 = true then some false else S
  else if cmpI .eql k 3 = true then if (!p) = true then if true = true then some false else S else if cmpI .neq (z : Int) 1 = true then some false else S
  else if cmpI .eql k 4 = true then if cmpI .eql k 4 = true then if (!p) = true then some false else S else some false
  else if cmpI .eql k 5 = true then if (!p) = true then some false else S else some false
def j14 (S : Option Bool) (k b a : Int) (z : Nat) (p : Bool) : Option Bool := if cmpI .eql k 0 = true then jj S k b a z p (cmpI .eql k 0) else jj S k b a z p (cmpI .eql k 1)
theorem j14_eq (S : Option Bool) (k b a : Int) (z : Nat) (p : Bool) (hp : p = true ↔ b = 0 ∧ a = 0) (rest d : Bool)
    (hS : ((k = 2 ∧ z = 0 ∧ 0 ≤ b ∧ b < 4096 ∧ -1 ≤ a ∧ a < 16) ∨ (k ≠ 2 ∧ b = 0 ∧ a = 0 ∧ (((k = 0 ∨ k = 1) ∧ z = 0) ∨ (k = 3 ∧ z = 1) ∨ k = 4 ∨ k = 5))) → S = some rest)
    (h1 : ((k = 2 ∧ z = 0 ∧ 0 ≤ b ∧ b < 4096 ∧ -1 ≤ a ∧ a < 16) ∨ (k ≠ 2 ∧ b = 0 ∧ a = 0 ∧ (((k = 0 ∨ k = 1) ∧ z = 0) ∨ (k = 3 ∧ z = 1) ∨ k = 4 ∨ k = 5))) → d = true)
    (h2 : ¬ ((k = 2 ∧ z = 0 ∧ 0 ≤ b ∧ b < 4096 ∧ -1 ≤ a ∧ a < 16) ∨ (k ≠ 2 ∧ b = 0 ∧ a = 0 ∧ (((k = 0 ∨ k = 1) ∧ z = 0) ∨ (k = 3 ∧ z = 1) ∨ k = 4 ∨ k = 5))) → d = false) :
    j14 S k b a z p = some (d && rest) := by
  have no : ¬ ((k = 2 ∧ z = 0 ∧ 0 ≤ b ∧ b < 4096 ∧ -1 ≤ a ∧ a < 16) ∨ (k ≠ 2 ∧ b = 0 ∧ a = 0 ∧ (((k = 0 ∨ k = 1) ∧ z = 0) ∨ (k = 3 ∧ z = 1) ∨ k = 4 ∨ k = 5))) → some false = some (d && rest) := fun h => by rw [h2 h]; rfl
  have yes : ((k = 2 ∧ z = 0 ∧ 0 ≤ b ∧ b < 4096 ∧ -1 ≤ a ∧ a < 16) ∨ (k ≠ 2 ∧ b = 0 ∧ a = 0 ∧ (((k = 0 ∨ k = 1) ∧ z = 0) ∨ (k = 3 ∧ z = 1) ∨ k = 4 ∨ k = 5))) → S = some (d && rest) := fun h => by rw [h1 h, hS h]; rfl
  have fin : ∀ c : Int, (c = 0 ∧ (k = 0 ∨ k = 1) ∨ c = 1 ∧ k = 3) → (if (!p) = true then if true = true then some false else S else if cmpI .neq (z : Int) c = true then some false else S) = some (d && rest) := by
    intro c hc
    by_cases g : p = true
    · have g' := hp.1 g
      rw [if_neg (notF g)]
      by_cases hz : (z : Int) = c
      · rw [if_neg (neqF hz)]
        exact yes (by omega)
      · rw [if_pos (neqT hz)]
        exact no (by omega)
    · rw [if_pos (notT g), if_tt]
      exact no (by rw [hp] at g; omega)
  unfold j14
  by_cases k0 : k = 0
  · rw [if_pos (eqlT k0)]
    unfold jj
    rw [if_pos (eqlT k0)]
    exact fin 0 (by omega)
  · rw [if_neg (eqlF k0)]
    unfold jj
    by_cases k1 : k = 1
    · rw [if_pos (eqlT k1)]
      exact fin 0 (by omega)
    · rw [if_neg (eqlF k1)]
      by_cases k2 : k = 2
      · rw [if_pos (eqlT k2)]
        by_cases b0 : b < 0
        · rw [if_pos (lssT b0), if_tt]
          exact no (by omega)
        · rw [if_neg (lssF b0)]
          by_cases b1 : b ≥ 4096
          · rw [if_pos (geqT b1), if_tt]
            exact no (by omega)
          · rw [if_neg (geqF b1)]
            by_cases a0 : a < -1
            · rw [if_pos (lssT a0), if_tt]
              exact no (by omega)
            · rw [if_neg (lssF a0)]
              by_cases a1 : a ≥ 16
              · rw [if_pos (geqT a1), if_tt]
                exact no (by omega)
              · rw [if_neg (geqF a1)]
                by_cases hz : (z : Int) = 0
                · rw [if_neg (neqF hz)]
                  exact yes (by omega)
                · rw [if_pos (neqT hz)]
                  exact no (by omega)
      · rw [if_neg (eqlF k2)]
        by_cases k3 : k = 3
        · rw [if_pos (eqlT k3)]
          exact fin 1 (by omega)
        · rw [if_neg (eqlF k3)]
          have two : (k = 4 ∨ k = 5) → (if (!p) = true then some false else S) = some (d && rest) := fun h45 => by
            by_cases g : p = true
            · have g' := hp.1 g
              rw [if_neg (notF g)]
              exact yes (by omega)
            · rw [if_pos (notT g)]
              exact no (by rw [hp] at g; omega)
          by_cases k4 : k = 4
          · rw [if_pos (eqlT k4), if_pos (eqlT k4)]
            exact two (.inl k4)
          · rw [if_neg (eqlF k4)]
            by_cases k5 : k = 5
            · rw [if_pos (eqlT k5)]
              exact two (.inr k5)
            · rw [if_neg (eqlF k5)]
              exact no (by omega)
theorem R18_spec (cal : Cal) (n : Nat) (f : List GN) (hl : ∀ x ∈ f, x.ins.length < n) (h62 : ∀ x ∈ f, x.ins.length < 4611686018427387904) (hn : f.length < n) : R18 .real cal n (f, ()) = some (validM f) := by
  unfold R18 validM
  dsimp only [Alg.real]
  by_cases h : f.length ≤ 65536
  · rw [if_neg (gtrF (by omega)), decide_eq_true h, Bool.true_and]
    refine loop2 (fun q (t : Int) (i : Int) r => ∃ t' j : Nat, t = t' ∧ i = j ∧ j ≤ f.length ∧ q = f.length - j ∧ t' ≤ 33554432 ∧ r = okFrom t' j (f.drop j)) ?_ n f.length _ _ _ ⟨0, 0, rfl, rfl, by omega, by omega, by omega, rfl⟩ hn
    rintro q self t i r ⟨t', j, rfl, rfl, hj, rfl, ht, rfl⟩ ih
    by_cases hlt : j < f.length
    · have hx := h62 _ (List.getElem_mem hlt)
      have hxn := hl _ (List.getElem_mem hlt)
      rw [if_pos (lssT (by omega)), if_pos (decT (by omega)), if_pos (decT (by omega)), getD_get hlt, okFrom_take hlt]
      rw [show arith .add .i64 (t' : Int) ((f[j].2.2.2.1.length : Nat) : Int) = ((t' + f[j].ins.length : Nat) : Int) from by rw [add64 (by show _ ≤ (t' : Int) + (f[j].ins.length : Int) ∧ (t' : Int) + (f[j].ins.length : Int) ≤ _; omega)]; show (t' : Int) + (f[j].ins.length : Int) = _; omega]
      rw [sub64 (by omega), add64 (by omega)]
      have ef : okFrom t' j (f.drop j) = (decide (t' + f[j].ins.length ≤ 33554432) && (decide (NOk f[j] j) && okFrom (t' + f[j].ins.length) (j + 1) (f.drop (j + 1)))) := okFrom_take hlt
      by_cases h1 : t' + f[j].ins.length ≤ 33554432
      · rw [if_neg (gtrF (by show ¬ ((f[j].ins.length : Nat) : Int) > _; omega)), decide_eq_true h1, Bool.true_and]
        rw [decide_eq_true h1, Bool.true_and] at ef
        have hS : NOk f[j] j → self ((t' + f[j].ins.length : Nat) : Int) ((j : Int) + 1) = some (okFrom (t' + f[j].ins.length) (j + 1) (f.drop (j + 1))) := fun h2 => by
          rw [decide_eq_true h2, Bool.true_and] at ef
          rw [← ef]
          exact ih (f.length - (j + 1)) ((t' + f[j].ins.length : Nat) : Int) ((j : Int) + 1) (by omega) ⟨t' + f[j].ins.length, j + 1, rfl, by omega, by omega, rfl, h1, ef⟩
        generalize f[j] = x at *
        generalize okFrom (t' + x.ins.length) (j + 1) (f.drop (j + 1)) = rest at *
        refine loop5 (fun q (i' : Int) k b a l r => x.1 = k ∧ x.2.1 = b ∧ x.2.2.1 = a ∧ x.2.2.2.1 = l ∧ r = (decide (NOk x j) && rest) ∧ ∃ u : Nat, i' = u ∧ u ≤ x.ins.length ∧ q = x.ins.length - u ∧ ∀ y ∈ x.ins.take u, 0 ≤ y ∧ y < (j : Int)) ?_ n x.ins.length _ _ _ _ _ _ ⟨rfl, rfl, rfl, rfl, rfl, 0, rfl, by omega, by omega, fun y hy => by simp at hy⟩ hxn
        rintro q self2 i' k b a l r ⟨rfl, rfl, rfl, rfl, rfl, u, rfl, hu, rfl, hall⟩ ih2
        by_cases hlu : u < x.ins.length
        · rw [if_pos (lssT (by show (u : Int) < (x.ins.length : Int); omega)), if_pos (decT (by omega)), if_pos (decT (by show (u : Int) < (x.ins.length : Int); omega)), show x.2.2.2.1.getD (Int.toNat (u : Int)) (Ty.zero (.int .i64)) = x.ins[u] from getD_at hlu _]
          by_cases g0 : x.ins[u] < 0
          · rw [if_pos (lssT g0), if_tt, NOk_bad hlu (by omega)]
            rfl
          · rw [if_neg (lssF g0)]
            by_cases g1 : x.ins[u] < (j : Int)
            · rw [if_neg (geqF (by omega)), add64 (by omega)]
              refine ih2 (x.ins.length - (u + 1)) _ _ _ _ _ (by omega) ⟨rfl, rfl, rfl, rfl, rfl, u + 1, by omega, by omega, rfl, fun y hy => ?_⟩
              rw [take_snoc _ _ hlu] at hy
              rcases List.mem_append.1 hy with hy | hy
              · exact hall y hy
              · rw [List.mem_singleton] at hy
                subst hy
                omega
            · rw [if_pos (geqT (by omega)), NOk_bad hlu (by omega)]
              rfl
        · have e : x.ins.take u = x.ins := List.take_of_length_le (by omega)
          rw [e] at hall
          rw [if_neg (lssF (by show ¬ (u : Int) < (x.ins.length : Int); omega))]
          have hN : NOk x j ↔ ((x.1 = 2 ∧ x.2.2.2.1.length = 0 ∧ 0 ≤ x.2.1 ∧ x.2.1 < 4096 ∧ -1 ≤ x.2.2.1 ∧ x.2.2.1 < 16) ∨ (x.1 ≠ 2 ∧ x.2.1 = 0 ∧ x.2.2.1 = 0 ∧ (((x.1 = 0 ∨ x.1 = 1) ∧ x.2.2.2.1.length = 0) ∨ (x.1 = 3 ∧ x.2.2.2.1.length = 1) ∨ x.1 = 4 ∨ x.1 = 5))) := ⟨fun h => h.2, fun h => ⟨hall, h⟩⟩
          generalize self ((t' + x.ins.length : Nat) : Int) ((j : Int) + 1) = S at *
          have hd : (NOk x j → decide (NOk x j) = true) ∧ (¬ NOk x j → decide (NOk x j) = false) := ⟨decide_eq_true, decide_eq_false⟩
          generalize decide (NOk x j) = d at *
          rw [hN] at hS hd
          clear hN ih ih2 hall hl h62 hx hxn ef
          have hz : (x.ins.length : Int) = (x.2.2.2.1.length : Int) := rfl
          generalize x.2.2.2.1.length = z at *
          generalize x.1 = k at *
          generalize x.2.1 = b at *
          generalize x.2.2.1 = a at *
          clear h1 hu hz e hlu
          by_cases hb : b = 0
          · rw [if_pos (eqlT hb)]
            exact j14_eq S k b a z (cmpI .eql a 0) (by rw [eqlD, decide_eq_true_iff]; exact ⟨fun h => ⟨hb, h⟩, fun h => h.2⟩) rest d hS hd.1 hd.2
          · rw [if_neg (eqlF hb)]
            exact j14_eq S k b a z false ⟨fun h => (by cases h), fun h => absurd h.1 hb⟩ rest d hS hd.1 hd.2
      · rw [if_pos (gtrT (by show ((f[j].ins.length : Nat) : Int) > _; omega)), decide_eq_false h1]
        rfl
    · rw [if_neg (lssF (by omega)), List.drop_of_length_le (by omega)]
      rfl
  · rw [if_pos (gtrT (by omega)), decide_eq_false h]
    rfl
end Go.Sym.T22

namespace Go.Sym.T22
set_option maxRecDepth 100000
theorem fuelOf (f : List GN) : ∃ N, ∀ x ∈ f, x.ins.length < N := by
  induction f with
  | nil => exact ⟨0, fun x hx => by cases hx⟩
  | cons y f ih =>
    obtain ⟨N, h⟩ := ih
    refine ⟨N + y.ins.length + 1, fun x hx => ?_⟩
    rcases List.mem_cons.1 hx with rfl | hx
    · omega
    · have := h x hx
      omega
theorem rvalid_spec (f : List GN) (h62 : ∀ x ∈ f, x.ins.length < 4611686018427387904) : Ans (fun n => c18 (F n) (f, ())) (validM f) := by
  obtain ⟨N, hN⟩ := fuelOf f
  refine Ans.step (x' := fun n => R18 .real (F n) n (f, ())) ⟨N + f.length + 1, fun n hn => ?_⟩ (fun n => by rw [t18])
  exact R18_spec _ _ f (fun x hx => by have := hN x hx; omega) h62 (by omega)
/-! ### small formulas -/
def smallM (f : List GN) (k : Int) : Bool := decide ((f.length : Int) ≤ k) && f.all fun x => decide ((x.ins.length : Int) ≤ k)
theorem R16_spec (cal : Cal) (n : Nat) (f : List GN) (k : Int) (hl : k < 4611686018427387904) (hn : f.length < n) : R16 .real cal n (f, ()) k = some (smallM f k) := by
  unfold R16 smallM
  dsimp only [Alg.real]
  by_cases h : (f.length : Int) ≤ k
  · rw [if_neg (gtrF (by omega)), decide_eq_true h, Bool.true_and]
    refine loop1 (fun q (i : Int) r => ∃ j : Nat, i = j ∧ j ≤ f.length ∧ q = f.length - j ∧ r = f.all (fun x => decide ((x.ins.length : Int) ≤ k)) ∧ (f.take j).all (fun x => decide ((x.ins.length : Int) ≤ k)) = true) ?_ n f.length _ _ ⟨0, rfl, by omega, by omega, rfl, rfl⟩ hn
    rintro q self i r ⟨j, rfl, hj, rfl, rfl, hall⟩ ih
    by_cases hlt : j < f.length
    · rw [if_pos (lssT (by omega)), if_pos (decT (by omega)), if_pos (decT (by omega)), getD_get hlt]
      by_cases h1 : (f[j].ins.length : Int) ≤ k
      · rw [if_neg (gtrF (by show ¬ ((f[j].ins.length : Nat) : Int) > _; omega)), add64 (by omega)]
        refine ih (f.length - (j + 1)) _ (by omega) ⟨j + 1, by omega, by omega, rfl, rfl, ?_⟩
        have e : f.take (j + 1) = f.take j ++ [f[j]] := by rw [List.take_add_one, List.getElem?_eq_getElem hlt]; rfl
        rw [e, List.all_append, hall]
        simpa using h1
      · rw [if_pos (gtrT (by show ((f[j].ins.length : Nat) : Int) > _; omega))]
        have : f.all (fun x => decide ((x.ins.length : Int) ≤ k)) = false := by
          rw [List.all_eq_false]
          exact ⟨_, List.getElem_mem hlt, by simpa using h1⟩
        rw [this]
    · rw [List.take_of_length_le (by omega)] at hall
      rw [if_neg (lssF (by omega)), hall]
  · rw [if_pos (gtrT (by omega)), decide_eq_false h]
    rfl
theorem small_spec (f : List GN) (k : Int) (hl : k < 4611686018427387904) : Ans (fun n => c16 (F n) (f, ()) k) (smallM f k) :=
  Ans.step (x' := fun n => R16 .real (F n) n (f, ()) k) ⟨f.length + 1, fun n hn => R16_spec _ _ f k hl hn⟩ (fun n => by rw [t16])
/-! ### equal formulas -/
theorem R48_spec (cal : Cal) (n : Nat) (l r : List Int) (hl : l.length < 4611686018427387904) (hn : l.length < n) : R48 .real cal n l r = some (decide (l = r)) := by
  unfold R48
  dsimp only [Alg.real]
  by_cases h : l.length = r.length
  · rw [if_neg (neqF (by omega))]
    refine loop1 (fun q (i : Int) r' => ∃ j : Nat, i = j ∧ j ≤ l.length ∧ q = l.length - j ∧ r' = decide (l = r) ∧ l.take j = r.take j) ?_ n l.length _ _ ⟨0, rfl, by omega, by omega, rfl, by simp⟩ hn
    rintro q self i r' ⟨j, rfl, hj, rfl, rfl, hall⟩ ih
    by_cases hlt : j < l.length
    · have hlr : j < r.length := by omega
      rw [if_pos (lssT (by omega)), if_pos (decT (by omega)), if_pos (decT (by omega)), if_pos (decT (by omega)), if_pos (decT (by omega)), getD_at hlt, getD_at hlr]
      by_cases h1 : l[j] = r[j]
      · rw [if_neg (neqF h1), add64 (by omega)]
        refine ih (l.length - (j + 1)) _ (by omega) ⟨j + 1, by omega, by omega, rfl, rfl, ?_⟩
        rw [take_snoc _ _ hlt, take_snoc _ _ hlr, hall, h1]
      · rw [if_pos (neqT h1), decide_eq_false (fun e => h1 (by subst e; rfl))]
    · rw [List.take_of_length_le (by omega), List.take_of_length_le (by omega)] at hall
      rw [if_neg (lssF (by omega)), decide_eq_true hall]
  · rw [if_pos (neqT (by omega)), decide_eq_false (fun e => h (by rw [e]))]
theorem R35_spec (cal : Cal) (n : Nat) (x y : GN) (h : c48 cal x.2.2.2.1 y.2.2.2.1 = some (decide (x.2.2.2.1 = y.2.2.2.1))) : R35 .real cal n x y = some (decide (x = y)) := by
  unfold R35
  dsimp only [Alg.real]
  obtain ⟨k, b, a, l, u⟩ := x
  obtain ⟨k', b', a', l', u'⟩ := y
  dsimp only at h ⊢
  by_cases h1 : k = k'
  · rw [if_pos (eqlT h1)]
    by_cases h2 : b = b'
    · rw [if_pos (eqlT h2)]
      by_cases h3 : a = a'
      · rw [if_pos (eqlT h3), h, Option.bind_some]
        congr 1
        rw [Bool.eq_iff_iff, decide_eq_true_iff, decide_eq_true_iff]
        subst h1 h2 h3
        exact ⟨fun e => by rw [e], fun e => by simp only [Prod.mk.injEq] at e; exact e.2.2.2.1⟩
      · rw [if_neg (eqlF h3), decide_eq_false (fun e => h3 (by simp only [Prod.mk.injEq] at e; exact e.2.2.1))]
    · rw [if_neg (eqlF h2), decide_eq_false (fun e => h2 (by simp only [Prod.mk.injEq] at e; exact e.2.1))]
  · rw [if_neg (eqlF h1), decide_eq_false (fun e => h1 (by simp only [Prod.mk.injEq] at e; exact e.1))]
theorem R19_spec (cal : Cal) (n : Nat) (f g : List GN) (hl : f.length < 4611686018427387904) (hn : f.length < n) (h35 : ∀ x ∈ f, ∀ y, c35 cal x y = some (decide (x = y))) : R19 .real cal n (f, ()) (g, ()) = some (decide (f = g)) := by
  unfold R19
  dsimp only [Alg.real]
  by_cases h : f.length = g.length
  · rw [if_neg (neqF (by omega))]
    refine loop3 (fun q (i : Int) f' g' r' => f = f' ∧ g = g' ∧ ∃ j : Nat, i = j ∧ j ≤ f.length ∧ q = f.length - j ∧ r' = decide (f = g) ∧ f.take j = g.take j) ?_ n f.length _ _ _ _ ⟨rfl, rfl, 0, rfl, by omega, by omega, rfl, by simp⟩ hn
    rintro q self i f' g' r' ⟨rfl, rfl, j, rfl, hj, rfl, rfl, hall⟩ ih
    by_cases hlt : j < f.length
    · have hlr : j < g.length := by omega
      rw [if_pos (lssT (by omega)), if_pos (decT (by omega)), if_pos (decT (by omega)), if_pos (decT (by omega)), if_pos (decT (by omega)), getD_get hlt, getD_get hlr, h35 _ (List.getElem_mem hlt), Option.bind_some]
      by_cases h1 : f[j] = g[j]
      · rw [decide_eq_true h1, if_neg (by decide), add64 (by omega)]
        refine ih (f.length - (j + 1)) _ _ _ (by omega) ⟨rfl, rfl, j + 1, by omega, by omega, rfl, rfl, ?_⟩
        rw [List.take_add_one, List.take_add_one, List.getElem?_eq_getElem hlt, List.getElem?_eq_getElem hlr, hall, h1]
      · rw [decide_eq_false h1, decide_eq_false (fun e => h1 (by subst e; rfl))]
        rfl
    · rw [List.take_of_length_le (by omega), List.take_of_length_le (by omega)] at hall
      rw [if_neg (lssF (by omega)), decide_eq_true hall]
  · rw [if_pos (neqT (by omega)), decide_eq_false (fun e => h (by rw [e]))]
theorem same_spec (f g : List GN) (hl : f.length < 4611686018427387904) (h62 : ∀ x ∈ f, x.ins.length < 4611686018427387904) : Ans (fun n => c19 (F n) (f, ()) (g, ())) (decide (f = g)) := by
  obtain ⟨N, hN⟩ := fuelOf f
  refine Ans.step (x' := fun n => R19 .real (F n) n (f, ()) (g, ())) ⟨N + f.length + 2, fun n hn => ?_⟩ (fun n => by rw [t19])
  obtain ⟨m, rfl⟩ : ∃ m, n = m + 1 + 1 := ⟨n - 2, by omega⟩
  refine R19_spec _ _ f g hl (by omega) (fun x hx y => ?_)
  rw [t35]
  refine R35_spec _ _ x y ?_
  rw [t48]
  exact R48_spec _ _ _ _ (h62 x hx) (by have := hN x hx; show x.ins.length < _; omega)
end Go.Sym.T22

namespace Go.Sym.T22
set_option maxRecDepth 100000
theorem R37_spec (cal : Cal) (n : Nat) (a : Int) (v : List Bool) (h0 : 0 ≤ a) (h1 : a < v.length) : R37 .real cal n a v = some (!v.getD a.toNat false) := by
  unfold R37
  dsimp only [Alg.real]
  rw [if_pos (decT h0), if_pos (decT h1)]
  rfl
theorem R38_spec (cal : Cal) (n : Nat) (a : Int) (v : List Bool) (h0 : 0 ≤ a) (h1 : a < v.length) : R38 .real cal n a v = some (v.getD a.toNat false) := by
  unfold R38
  dsimp only [Alg.real]
  rw [if_pos (decT h0), if_pos (decT h1)]
  rfl
theorem any_take {p : Int → Bool} {l : List Int} {j : Nat} (h : j < l.length) (hp : p l[j] = true) : l.any p = true := List.any_eq_true.2 ⟨_, List.getElem_mem h, hp⟩
theorem R149_spec (cal : Cal) (n : Nat) (l : List Int) (v : List Bool) (p : Int → Bool) (hl : l.length < 4611686018427387904) (hn : l.length < n) (h37 : ∀ a ∈ l, c37 cal a v = some (p a)) : ∃ i : Int, R149 .real cal n l v = some i ∧ (cmpI .geq i 0 = l.any p) := by
  unfold R149
  dsimp only [Alg.real]
  have key : ∀ (k j : Nat), j ≤ l.length → k + j = l.length → (l.take j).any p = false → ∀ m, k < m → ∃ i : Int, loopR m (fun (x6 : Int → Option Int) (x7 : Int) => if cmpI .lss x7 ((l.length : Nat) : Int) = true then if decide (0 ≤ x7) = true then if decide (x7 < ((l.length : Nat) : Int)) = true then (c37 cal (l.getD (Int.toNat x7) (Ty.zero (.int .i64))) v).bind fun x8 => if x8 = true then some x7 else x6 (arith .add .i64 x7 1) else none else none else some (-1)) (fun (x6 : Int) => none) (j : Int) = some i ∧ cmpI .geq i 0 = l.any p := by
    intro k
    induction k with
    | zero =>
      intro j hj hk hall m hm
      obtain ⟨m, rfl⟩ : ∃ q, m = q + 1 := ⟨m - 1, by omega⟩
      refine ⟨-1, ?_, ?_⟩
      · show (if _ = true then _ else some (-1)) = _
        rw [if_neg (lssF (by omega))]
      · rw [List.take_of_length_le (by omega)] at hall
        rw [hall]
        rfl
    | succ k ih =>
      intro j hj hk hall m hm
      obtain ⟨m, rfl⟩ : ∃ q, m = q + 1 := ⟨m - 1, by omega⟩
      have hlt : j < l.length := by omega
      by_cases hp : p l[j] = true
      · refine ⟨j, ?_, ?_⟩
        · show (if _ = true then _ else some (-1)) = _
          rw [if_pos (lssT (by omega)), if_pos (decT (by omega)), if_pos (decT (by omega)), getD_at hlt, h37 _ (List.getElem_mem hlt), Option.bind_some, if_pos hp]
        · rw [any_take hlt hp]
          exact geqT (by omega)
      · obtain ⟨i, h1, h2⟩ := ih (j + 1) (by omega) (by omega) (by rw [take_snoc _ _ hlt, List.any_append, hall]; simpa using hp) m (by omega)
        refine ⟨i, ?_, h2⟩
        show (if _ = true then _ else some (-1)) = _
        rw [if_pos (lssT (by omega)), if_pos (decT (by omega)), if_pos (decT (by omega)), getD_at hlt, h37 _ (List.getElem_mem hlt), Option.bind_some, if_neg hp, add64 (by omega)]
        exact h1
  exact key l.length 0 (Nat.zero_le _) rfl (by simp) n hn
theorem any_spec (n : Nat) (l : List Int) (v : List Bool) (hl : l.length < 4611686018427387904) (hn : l.length < n) (h : ∀ a ∈ l, 0 ≤ a ∧ a < v.length) : c136 (F (n + 2)) l v = some (l.any fun a => !v.getD a.toNat false) := by
  obtain ⟨m, rfl⟩ : ∃ m, n = m + 1 := ⟨n - 1, by omega⟩
  show c136 (F (m + 1 + 1 + 1)) l v = _
  rw [t136]
  unfold R136
  dsimp only [Alg.real]
  rw [t149]
  obtain ⟨i, h1, h2⟩ := R149_spec (F (m + 1)) (m + 1) l v (fun a => !v.getD a.toNat false) hl hn (fun a ha => by rw [t37]; exact R37_spec _ _ a v (h a ha).1 (h a ha).2)
  rw [h1, Option.bind_some, h2]
theorem R249_spec (cal : Cal) (n : Nat) (l : List Int) (v : List Bool) (p : Int → Bool) (hl : l.length < 4611686018427387904) (hn : l.length < n) (h38 : ∀ a ∈ l, c38 cal a v = some (p a)) : ∃ i : Int, R249 .real cal n l v = some i ∧ (cmpI .geq i 0 = l.any p) := by
  unfold R249
  dsimp only [Alg.real]
  have key : ∀ (k j : Nat), j ≤ l.length → k + j = l.length → (l.take j).any p = false → ∀ m, k < m → ∃ i : Int, loopR m (fun (x6 : Int → Option Int) (x7 : Int) => if cmpI .lss x7 ((l.length : Nat) : Int) = true then if decide (0 ≤ x7) = true then if decide (x7 < ((l.length : Nat) : Int)) = true then (c38 cal (l.getD (Int.toNat x7) (Ty.zero (.int .i64))) v).bind fun x8 => if x8 = true then some x7 else x6 (arith .add .i64 x7 1) else none else none else some (-1)) (fun (x6 : Int) => none) (j : Int) = some i ∧ cmpI .geq i 0 = l.any p := by
    intro k
    induction k with
    | zero =>
      intro j hj hk hall m hm
      obtain ⟨m, rfl⟩ : ∃ q, m = q + 1 := ⟨m - 1, by omega⟩
      refine ⟨-1, ?_, ?_⟩
      · show (if _ = true then _ else some (-1)) = _
        rw [if_neg (lssF (by omega))]
      · rw [List.take_of_length_le (by omega)] at hall
        rw [hall]
        rfl
    | succ k ih =>
      intro j hj hk hall m hm
      obtain ⟨m, rfl⟩ : ∃ q, m = q + 1 := ⟨m - 1, by omega⟩
      have hlt : j < l.length := by omega
      by_cases hp : p l[j] = true
      · refine ⟨j, ?_, ?_⟩
        · show (if _ = true then _ else some (-1)) = _
          rw [if_pos (lssT (by omega)), if_pos (decT (by omega)), if_pos (decT (by omega)), getD_at hlt, h38 _ (List.getElem_mem hlt), Option.bind_some, if_pos hp]
        · rw [any_take hlt hp]
          exact geqT (by omega)
      · obtain ⟨i, h1, h2⟩ := ih (j + 1) (by omega) (by omega) (by rw [take_snoc _ _ hlt, List.any_append, hall]; simpa using hp) m (by omega)
        refine ⟨i, ?_, h2⟩
        show (if _ = true then _ else some (-1)) = _
        rw [if_pos (lssT (by omega)), if_pos (decT (by omega)), if_pos (decT (by omega)), getD_at hlt, h38 _ (List.getElem_mem hlt), Option.bind_some, if_neg hp, add64 (by omega)]
        exact h1
  exact key l.length 0 (Nat.zero_le _) rfl (by simp) n hn
theorem some_spec (n : Nat) (l : List Int) (v : List Bool) (hl : l.length < 4611686018427387904) (hn : l.length < n) (h : ∀ a ∈ l, 0 ≤ a ∧ a < v.length) : c236 (F (n + 2)) l v = some (l.any fun a => v.getD a.toNat false) := by
  obtain ⟨m, rfl⟩ : ∃ m, n = m + 1 := ⟨n - 1, by omega⟩
  show c236 (F (m + 1 + 1 + 1)) l v = _
  rw [t236]
  unfold R236
  dsimp only [Alg.real]
  rw [t249]
  obtain ⟨i, h1, h2⟩ := R249_spec (F (m + 1)) (m + 1) l v (fun a => v.getD a.toNat false) hl hn (fun a ha => by rw [t38]; exact R38_spec _ _ a v (h a ha).1 (h a ha).2)
  rw [h1, Option.bind_some, h2]
/-! ### the value in a world -/
theorem set_mid {α : Type} (l : List α) (b c : α) (m : Nat) (x : Int) (hx : x.toNat = l.length) : (l ++ List.replicate (m + 1) c).set x.toNat b = (l ++ [b]) ++ List.replicate m c := by
  rw [hx, List.set_append_right _ _ (Nat.le_refl _), Nat.sub_self, List.replicate_succ, List.set_cons_zero, List.append_assoc]
  rfl
theorem R20_spec (cal : Cal) (n : Nat) (f : List GN) (w : List Int) (hw : w.length < 4611686018427387904) (hn : f.length < n) (h27 : c27 cal (f, ()) = some (validM f))
    (h136 : ∀ x ∈ f, ∀ v : List Bool, (∀ a ∈ x.ins, 0 ≤ a ∧ a < v.length) → c136 cal x.ins v = some (x.ins.any fun a => !v.getD a.toNat false))
    (h236 : ∀ x ∈ f, ∀ v : List Bool, (∀ a ∈ x.ins, 0 ≤ a ∧ a < v.length) → c236 cal x.ins v = some (x.ins.any fun a => v.getD a.toNat false)) : R20 .real cal n (f, ()) w = some (holdsM f w) := by
  unfold R20 holdsM
  dsimp only [Alg.real]
  rw [h27, Option.bind_some]
  by_cases hv : validM f = true
  · rw [if_neg (notF hv), hv, Bool.true_and]
    have hlen : f.length ≤ 65536 := by
      unfold validM at hv
      simp only [Bool.and_eq_true, decide_eq_true_eq] at hv
      exact hv.1
    by_cases h0 : f.length = 0
    · rw [if_pos (eqlT (by omega))]
      rw [List.length_eq_zero_iff.1 h0]
      rfl
    · rw [if_neg (eqlF (by omega)), if_pos (decT (by omega)), if_pos (decT (by omega)), if_pos (decT (by omega))]
      refine loop2 (fun q (i : Int) u r => ∃ j : Nat, i = j ∧ j ≤ f.length ∧ q = f.length - j ∧ r = (vals w f).getD (f.length - 1) false ∧ u = vals w (f.take j) ++ List.replicate (f.length - j) false) ?_ n f.length _ _ _ ⟨0, rfl, by omega, by omega, rfl, by rw [Int.toNat_natCast]; rfl⟩ hn
      rintro q self i u r ⟨j, rfl, hj, rfl, rfl, rfl⟩ ih
      have hvl : (vals w (f.take j)).length = j := by rw [vals_len, List.length_take]; omega
      by_cases hlt : j < f.length
      · have hN := validM_get hv (List.getElem?_eq_getElem hlt)
        obtain ⟨m, hm⟩ : ∃ m, f.length - j = m + 1 := ⟨f.length - j - 1, by omega⟩
        have hul : (vals w (f.take j) ++ List.replicate (m + 1) false).length = f.length := by rw [List.length_append, List.length_replicate, hvl]; omega
        rw [if_pos (lssT (by omega)), if_pos (decT (by omega)), if_pos (decT (by omega)), getD_get hlt, hm, hul]
        have hnv : ∀ (x : GN), x = f[j] → nval w (vals w (f.take j) ++ List.replicate (m + 1) false) x = nval w (vals w (f.take j)) x := fun x hx => by
          subst hx
          refine nval_congr (fun a ha => ?_) hN.not
          have := hN.1 a ha
          rw [getD_app _ _ _ _ (by omega)]
        have step : ∀ b, b = nval w (vals w (f.take j) ++ List.replicate (m + 1) false) f[j] → self (arith .add .i64 (j : Int) 1) ((vals w (f.take j) ++ List.replicate (m + 1) false).set (Int.toNat (j : Int)) b) = some ((vals w f).getD (f.length - 1) false) := by
          intro b hb
          rw [add64 (by omega)]
          refine ih (f.length - (j + 1)) _ _ (by omega) ⟨j + 1, by omega, by omega, rfl, rfl, ?_⟩
          have e : f.take (j + 1) = f.take j ++ [f[j]] := by rw [List.take_add_one, List.getElem?_eq_getElem hlt]; rfl
          rw [set_mid _ _ _ _ _ (by omega), e, vals_snoc, hb, hnv _ rfl, show f.length - (j + 1) = m by omega]
        have keep : nval w (vals w (f.take j) ++ List.replicate (m + 1) false) f[j] = false → self (arith .add .i64 (j : Int) 1) (vals w (f.take j) ++ List.replicate (m + 1) false) = some ((vals w f).getD (f.length - 1) false) := by
          intro hb
          have := step false hb.symm
          rw [set_mid _ _ _ _ _ (by omega)] at this
          rw [← this]
          congr 1
          rw [List.append_assoc]
          rfl
        have hins : ∀ a ∈ f[j].ins, 0 ≤ a ∧ a < ((vals w (f.take j) ++ List.replicate (m + 1) false).length : Nat) := fun a ha => by
          have := hN.1 a ha
          rw [hul]
          omega
        have hm136 := h136 f[j] (List.getElem_mem hlt) _ hins
        have hm236 := h236 f[j] (List.getElem_mem hlt) _ hins
        generalize vals w (f.take j) ++ List.replicate (m + 1) false = v at *
        generalize f[j] = x at *
        by_cases k1 : x.1 = 1
        · rw [if_pos (eqlT k1), if_pos (decT (by omega)), if_pos (decT (by omega))]
          exact step true (by unfold nval; rw [if_pos k1])
        · rw [if_neg (eqlF k1)]
          by_cases k2 : x.1 = 2
          · rw [if_pos (eqlT k2)]
            have e : nval w v x = (decide (x.2.1 < w.length) && (w.getD x.2.1.toNat 0 == x.2.2.1)) := by unfold nval; rw [if_neg k1, if_pos k2]
            have hb : 0 ≤ x.2.1 := by
              rcases hN.2 with ⟨_, _, h, _⟩ | ⟨h, _⟩
              · exact h
              · exact absurd k2 h
            by_cases h1 : x.2.1 < w.length
            · rw [if_pos (lssT h1), if_pos (decT hb), if_pos (decT h1), if_pos (decT (by omega)), if_pos (decT (by omega))]
              refine step _ ?_
              rw [e, decide_eq_true h1, Bool.true_and]
              rfl
            · rw [if_neg (lssF h1), if_pos (decT (by omega)), if_pos (decT (by omega))]
              refine step _ ?_
              rw [e, decide_eq_false h1]
              rfl
          · rw [if_neg (eqlF k2)]
            by_cases k3 : x.1 = 3
            · have hne := hN.not k3
              have hpos : 0 < x.ins.length := List.length_pos_iff.2 hne
              have hh := hins _ (head_mem hne)
              rw [if_pos (eqlT k3), if_pos (decT (by decide)), if_pos (decT (by show (0 : Int) < ((x.ins.length : Nat) : Int); omega))]
              show (if decide (0 ≤ x.ins.getD 0 0) = true then if decide (x.ins.getD 0 0 < _) = true then _ else none else none) = _
              rw [if_pos (decT hh.1), if_pos (decT (by omega)), if_pos (decT (by omega)), if_pos (decT (by omega))]
              exact step _ (by unfold nval; rw [if_neg k1, if_neg k2, if_pos k3]; rfl)
            · rw [if_neg (eqlF k3)]
              by_cases k4 : x.1 = 4
              · rw [if_pos (eqlT k4)]
                show (c136 cal x.ins v).bind _ = _
                rw [hm136, Option.bind_some, if_pos (decT (by omega)), if_pos (decT (by omega))]
                refine step _ ?_
                unfold nval
                rw [if_neg k1, if_neg k2, if_neg k3, if_pos k4]
                show (!x.ins.any _) = _
                rw [List.not_any_eq_all_not]
                simp
              · rw [if_neg (eqlF k4)]
                by_cases k5 : x.1 = 5
                · rw [if_pos (eqlT k5)]
                  show (c236 cal x.ins v).bind _ = _
                  rw [hm236, Option.bind_some, if_pos (decT (by omega)), if_pos (decT (by omega))]
                  refine step _ ?_
                  unfold nval
                  rw [if_neg k1, if_neg k2, if_neg k3, if_neg k4, if_pos k5]
                · rw [if_neg (eqlF k5)]
                  exact keep (by unfold nval; rw [if_neg k1, if_neg k2, if_neg k3, if_neg k4, if_neg k5])
      · have hj' : j = f.length := by omega
        rw [if_neg (lssF (by omega)), hj', Nat.sub_self, List.take_length, List.replicate_zero, List.append_nil, vals_len, sub64 (by omega), if_pos (decT (by omega)), if_pos (decT (by omega))]
        rw [show ((f.length : Int) - 1).toNat = f.length - 1 by omega]
        rfl
  · rw [if_pos (notT hv), if_tt, Bool.eq_false_iff.2 hv]
    rfl
theorem holds_spec (f : List GN) (w : List Int) (hw : w.length < 4611686018427387904) (h62 : ∀ x ∈ f, x.ins.length < 4611686018427387904) : Ans (fun n => c20 (F n) (f, ()) w) (holdsM f w) := by
  obtain ⟨N, hN⟩ := fuelOf f
  obtain ⟨M, hM⟩ := valid_spec f h62
  refine Ans.step (x' := fun n => R20 .real (F n) n (f, ()) w) ⟨N + M + f.length + 3, fun n hn => ?_⟩ (fun n => by rw [t20])
  obtain ⟨m, rfl⟩ : ∃ m, n = m + 2 := ⟨n - 2, by omega⟩
  refine R20_spec _ _ f w hw (by omega) (hM (m + 2) (by omega)) (fun x hx v hv => ?_) (fun x hx v hv => ?_)
  · exact any_spec m _ v (h62 x hx) (by have := hN x hx; omega) hv
  · exact some_spec m _ v (h62 x hx) (by have := hN x hx; omega) hv
end Go.Sym.T22

namespace Go.Sym.T22
set_option maxRecDepth 100000
theorem R21_spec (cal : Cal) (n : Nat) (f : List GN) (hn : f.length < n) (hni : ∀ x ∈ f, x.ins.length < n) (h62 : ∀ x ∈ f, x.ins.length < 4611686018427387904) (h27 : c27 cal (f, ()) = some (validM f))
    (h39 : ∀ xs : List Int, xs.length < 4611686018427387904 → c39 cal xs = some (isort xs)) (h40 : ∀ xs : List Int, xs.length < 4611686018427387904 → c40 cal xs = some (Lib.compact xs)) : R21 .real cal n (f, ()) = some (suppM f) := by
  unfold R21 suppM
  dsimp only [Alg.real]
  rw [h27, Option.bind_some]
  by_cases hv : validM f = true
  · rw [if_neg (notF hv)]
    have hlen : f.length ≤ 65536 := by
      unfold validM at hv
      simp only [Bool.and_eq_true, decide_eq_true_eq] at hv
      exact hv.1
    by_cases h0 : f.length = 0
    · rw [if_pos (eqlT (by omega)), if_neg (fun h => h.2 h0)]
    · have hrl : (List.replicate (Int.toNat ((f.length : Nat) : Int)) (Ty.zero .bool)).length = f.length := by rw [List.length_replicate, Int.toNat_natCast]
      rw [if_neg (eqlF (by omega)), if_pos (decT (by omega)), if_pos (decT (by omega)), if_pos (decT (by omega)), if_pos (show validM f = true ∧ f.length ≠ 0 from ⟨hv, h0⟩), hrl, sub64 (by omega), if_pos (decT (by omega)), if_pos (decT (by omega))]
      rw [show (((f.length : Nat) : Int) - 1).toNat = f.length - 1 by omega, Int.toNat_natCast]
      refine loop4 (fun q (i : Int) f' u l r => f = f' ∧ ∃ k : Nat, i = (k : Int) - 1 ∧ k ≤ f.length ∧ k = q ∧ u.length = f.length ∧ l.length + k ≤ f.length ∧ r = norm (supFrom f k u l)) ?_ n f.length _ _ _ _ _ ⟨rfl, f.length, by omega, Nat.le_refl _, rfl, by rw [List.length_set, List.length_replicate], by simp, rfl⟩ hn
      rintro q self i f' u l r ⟨rfl, k, rfl, hk, rfl, hu, hl, rfl⟩ ih
      cases k with
      | zero =>
        rw [if_neg (geqF (by omega)), h39 _ (by omega), Option.bind_some, h40 _ (by rw [(isort_perm _).length_eq]; omega), Option.bind_some]
        rfl
      | succ k =>
        have e1 : (((k + 1 : Nat) : Int) - 1) = (k : Int) := by omega
        have hlt : k < f.length := by omega
        have hN := validM_get hv (List.getElem?_eq_getElem hlt)
        have hnat : nat f (k : Int) = f[k] := nat_get (List.getElem?_eq_getElem hlt)
        rw [e1, if_pos (geqT (by omega)), if_pos (decT (by omega)), if_pos (decT (by omega)), Int.toNat_natCast]
        have hself : ∀ u' l', u'.length = f.length → l'.length + k ≤ f.length → norm (supFrom f (k + 1) u l) = norm (supFrom f k u' l') → self (arith .sub .i64 (k : Int) 1) f u' l' = some (norm (supFrom f (k + 1) u l)) := fun u' l' h1 h2 h3 => by
          rw [sub64 (by omega)]
          exact ih k _ _ _ _ (by omega) ⟨rfl, k, rfl, by omega, rfl, h1, h2, h3⟩
        show (if (!u.getD k false) = true then _ else _) = _
        by_cases hu1 : u.getD k false = true
        · rw [if_neg (notF hu1)]
          have hx := h62 _ (List.getElem_mem hlt)
          have hxn := hni _ (List.getElem_mem hlt)
          have hs : ∀ l', l'.length + k ≤ f.length → l' = (if f[k].1 = 2 then l ++ [f[k].2.1] else l) →
              loopR n (fun (x16 : Int → List Nd → List Bool → List Int → Option (List Int)) (x17 : Int) (x18 : List Nd) (x19 : List Bool) (x20 : List Int) => if cmpI .lss x17 ((f[k].2.2.2.1.length : Nat) : Int) = true then if decide (0 ≤ x17) = true then if decide (x17 < ((f[k].2.2.2.1.length : Nat) : Int)) = true then if decide (0 ≤ f[k].2.2.2.1.getD (Int.toNat x17) (Ty.zero (.int .i64))) = true then if decide (f[k].2.2.2.1.getD (Int.toNat x17) (Ty.zero (.int .i64)) < ((x19.length : Nat) : Int)) = true then x16 (arith .add .i64 x17 1) x18 (x19.set (Int.toNat (f[k].2.2.2.1.getD (Int.toNat x17) (Ty.zero (.int .i64)))) true) x20 else none else none else none else none else self (arith .sub .i64 (k : Int) 1) x18 x19 x20) (fun _ _ _ _ => none) 0 f u l' = some (norm (supFrom f (k + 1) u l)) := by
            intro l' hl' hle
            refine loop4 (fun q (i : Int) f' u' l'' r => f = f' ∧ l' = l'' ∧ r = norm (supFrom f (k + 1) u l) ∧ ∃ t : Nat, i = t ∧ t ≤ f[k].ins.length ∧ q = f[k].ins.length - t ∧ u' = mark u (f[k].ins.take t)) ?_ n f[k].ins.length _ _ _ _ _ ⟨rfl, rfl, rfl, 0, rfl, by omega, by omega, rfl⟩ hxn
            rintro q self2 i f' u' l'' r ⟨rfl, rfl, rfl, t, rfl, ht, rfl, rfl⟩ ih2
            by_cases hlt2 : t < f[k].ins.length
            · have hin := hN.1 _ (List.getElem_mem hlt2)
              rw [if_pos (lssT (by show (t : Int) < (f[k].ins.length : Int); omega)), if_pos (decT (by omega)), if_pos (decT (by show (t : Int) < (f[k].ins.length : Int); omega)), show f[k].2.2.2.1.getD (Int.toNat (t : Int)) (Ty.zero (.int .i64)) = f[k].ins[t] from getD_at hlt2 _, if_pos (decT hin.1), if_pos (decT (by rw [mark_len, hu]; omega)), add64 (by omega)]
              refine ih2 (f[k].ins.length - (t + 1)) _ _ _ _ (by omega) ⟨rfl, rfl, rfl, t + 1, by omega, by omega, rfl, ?_⟩
              rw [take_snoc _ _ hlt2, mark_snoc]
            · rw [if_neg (lssF (by show ¬ (t : Int) < (f[k].ins.length : Int); omega)), List.take_of_length_le (by omega)]
              refine hself _ _ (by rw [mark_len, hu]) hl' ?_
              rw [show supFrom f (k + 1) u l = supFrom f k (mark u (nat f (k : Int)).ins) (if (nat f (k : Int)).kind = 2 then l ++ [(nat f (k : Int)).2.1] else l) from by rw [supFrom, if_pos hu1], hnat, hle]
          rw [if_pos (decT (by omega)), if_pos (decT (by omega))]
          have hg : f.getD k (Ty.zero (.pair (.int .i64) (.pair (.int .i64) (.pair (.int .i64) (.pair (.slice (.int .i64)) .unit))))) = f[k] := by rw [List.getD_eq_getElem?_getD, List.getElem?_eq_getElem hlt]; rfl
          rw [hg]
          by_cases hk2 : f[k].1 = 2
          · rw [if_pos (eqlT hk2), if_pos (decT (by omega)), if_pos (decT (by omega))]
            show (if decide ((l.length + 1) * 8 ≤ 140737488355328) = true then (if decide (0 ≤ (k : Int)) = true then if decide ((k : Int) < ((f.length : Nat) : Int)) = true then _ else none else none) else none) = _
            rw [if_pos (decT (by omega)), if_pos (decT (by omega)), if_pos (decT (by omega))]
            exact hs _ (by rw [List.length_append]; show l.length + 1 + k ≤ _; omega) (by rw [if_pos hk2]; rfl)
          · rw [if_neg (eqlF hk2), if_pos (decT (by omega)), if_pos (decT (by omega))]
            exact hs l (by omega) (by rw [if_neg hk2])
        · rw [if_pos (notT hu1)]
          refine hself u l hu (by omega) ?_
          rw [show supFrom f (k + 1) u l = supFrom f k u l from by rw [supFrom, if_neg hu1]]
  · rw [if_pos (notT hv), if_tt, if_neg (fun h => hv h.1)]
theorem supp_spec (f : List GN) (h62 : ∀ x ∈ f, x.ins.length < 4611686018427387904) : Ans (fun n => c21 (F n) (f, ())) (suppM f) := by
  obtain ⟨N, hN⟩ := fuelOf f
  obtain ⟨M, hM⟩ := valid_spec f h62
  refine Ans.step (x' := fun n => R21 .real (F n) n (f, ())) ⟨N + M + f.length + 1, fun n hn => ?_⟩ (fun n => by rw [t21])
  obtain ⟨m, rfl⟩ : ∃ m, n = m + 1 := ⟨n - 1, by omega⟩
  exact R21_spec _ _ f (by omega) (fun x hx => by have := hN x hx; omega) h62 (hM (m + 1) (by omega)) (fun xs h => sort_spec m xs h) (fun xs h => compact_spec m xs h)
end Go.Sym.T22

namespace Go.Sym.T22
set_option maxRecDepth 100000
theorem make_spec (k b a mx : Int) (ins : List Int) (L : List GN) (hL : Gr L) (h3 : k = 3 → ins ≠ []) (h5 : k = 0 ∨ k = 1 ∨ k = 2 ∨ k = 3 ∨ k = 4 ∨ k = 5) (hlen : ins.length ≤ 65536) :
    Ans (fun n => c56 (F n) k b a ins mx L (idx L)) (gres mx (makeM mx L k b a ins)) := by
  refine Ans.step (x' := fun n => R56 .real (F n) n k b a ins mx L (idx L)) ?_ (fun n => by rw [t56])
  unfold R56 makeM
  dsimp only [Alg.real]
  by_cases k0 : k = 0
  · rw [if_pos k0]
    exact Ans.yes (eqlT k0) (Ans.val _)
  · rw [if_neg k0]
    refine Ans.no (eqlF k0) ?_
    by_cases k1 : k = 1
    · rw [if_pos k1]
      exact Ans.yes (eqlT k1) (Ans.val _)
    · rw [if_neg k1]
      refine Ans.no (eqlF k1) ?_
      by_cases k2 : k = 2
      · rw [if_pos k2]
        refine Ans.yes (eqlT k2) (Ans.bind (pick_spec b a mx L hL) ?_)
        exact Ans.val _
      · rw [if_neg k2]
        refine Ans.no (eqlF k2) ?_
        by_cases k3 : k = 3
        · rw [if_pos k3]
          have hpos := List.length_pos_iff.2 (h3 k3)
          refine Ans.yes (eqlT k3) (Ans.yes (decT (by decide)) (Ans.yes (decT (by omega)) (Ans.bind (not_spec (ins.getD 0 0) mx L hL) ?_)))
          exact Ans.val _
        · rw [if_neg k3]
          refine Ans.no (eqlF k3) ?_
          by_cases k4 : k = 4
          · rw [if_pos k4]
            refine Ans.yes (eqlT k4) (Ans.bind (and_spec mx ins L hL hlen) ?_)
            exact Ans.val _
          · rw [if_neg k4]
            refine Ans.no (eqlF k4) (Ans.bind (or_spec mx ins L hL hlen) ?_)
            exact Ans.val _
/-! ### import -/
abbrev ISt : Type := List Int × (Int × List GN)
def impS (mx : Int) (s : ISt) (n : GN) : ISt :=
  let r := makeM mx s.2.2 n.1 n.2.1 n.2.2.1 (n.ins.map fun a => s.1.getD a.toNat 0)
  (s.1 ++ [r.1], r.1, r.2)
def impAt (mx : Int) (L f : List GN) (j : Nat) : ISt := (f.take j).foldl (impS mx) ([], 0, L)
theorem impAt_succ (mx : Int) (L : List GN) {f : List GN} {j : Nat} (h : j < f.length) : impAt mx L f (j + 1) = impS mx (impAt mx L f j) f[j] := by
  unfold impAt
  rw [show f.take (j + 1) = f.take j ++ [f[j]] from by rw [List.take_add_one, List.getElem?_eq_getElem h]; rfl, List.foldl_append]
  rfl
theorem imp_fold {f L : List GN} {mx : Int} (hL : Gr L) (hok : ∀ j n, f[j]? = some n → NOk n j) (hroom : L.length + f.length < 67108864 ∧ (mx > 0 → ((L.length + f.length : Nat) : Int) < mx)) :
    ∀ j, j ≤ f.length → Imp f L (impAt mx L f j).2.2 (impAt mx L f j).1 ∧ (impAt mx L f j).1.length = j ∧ importM mx L f = impFrom mx (impAt mx L f j).1 (impAt mx L f j).2.1 (impAt mx L f j).2.2 (f.drop j)
  | 0, _ => ⟨⟨Grow.refl hL, Nat.zero_le _, by show L.length ≤ L.length + 0; omega, fun i x h => by simp [impAt] at h, fun w i x h => by simp [impAt] at h, fun β i x h => by simp [impAt] at h⟩, rfl, rfl⟩
  | j + 1, hj => by
    obtain ⟨h1, h2, h3⟩ := imp_fold hL hok hroom j (by omega)
    have hlt : j < f.length := by omega
    have hl := h1.len
    obtain ⟨g1, g2⟩ := h1.step (mx := mx) (n := f[j]) (by rw [h2]; exact List.getElem?_eq_getElem hlt) (by rw [h2]; exact hok j _ (List.getElem?_eq_getElem hlt)) ⟨by omega, fun h => by have := hroom.2 h; omega⟩
    rw [impAt_succ mx L hlt]
    refine ⟨g1, ?_, ?_⟩
    · show ((impAt mx L f j).1 ++ [_]).length = _
      rw [List.length_append, h2]
      rfl
    · rw [h3, List.drop_eq_getElem_cons hlt, impFrom]
      exact if_neg (by omega)
theorem impAt_pos {f L : List GN} {mx : Int} (hL : Gr L) (hok : ∀ j n, f[j]? = some n → NOk n j) (hroom : L.length + f.length < 67108864 ∧ (mx > 0 → ((L.length + f.length : Nat) : Int) < mx)) {j : Nat} (hlt : j < f.length) :
    0 ≤ (impAt mx L f (j + 1)).2.1 := by
  obtain ⟨h1, h2, h3⟩ := imp_fold hL hok hroom j (by omega)
  have hl := h1.len
  obtain ⟨g1, g2⟩ := h1.step (mx := mx) (n := f[j]) (by rw [h2]; exact List.getElem?_eq_getElem hlt) (by rw [h2]; exact hok j _ (List.getElem?_eq_getElem hlt)) ⟨by omega, fun h => by have := hroom.2 h; omega⟩
  rw [impAt_succ mx L hlt]
  exact g2
theorem importM_at {f L : List GN} {mx : Int} (hL : Gr L) (hok : ∀ j n, f[j]? = some n → NOk n j) (hroom : L.length + f.length < 67108864 ∧ (mx > 0 → ((L.length + f.length : Nat) : Int) < mx)) :
    importM mx L f = ((impAt mx L f f.length).2.1, (impAt mx L f f.length).2.2) := by
  obtain ⟨_, _, h⟩ := imp_fold hL hok hroom f.length (Nat.le_refl _)
  rw [h, List.drop_length]
  rfl
theorem R47_spec (cal : Cal) (n : Nat) (f : List GN) (mx : Int) (L : List GN) (hL : Gr L) (hok : ∀ j n, f[j]? = some n → NOk n j) (hroom : L.length + f.length < 67108864 ∧ (mx > 0 → ((L.length + f.length : Nat) : Int) < mx)) (hn : f.length < n) (hni : ∀ x ∈ f, x.ins.length < n) (hsm : ∀ x ∈ f, x.ins.length ≤ 65536)
    (hmk : ∀ j (h : j < f.length), c56 cal f[j].1 f[j].2.1 f[j].2.2.1 (f[j].ins.map fun a => (impAt mx L f j).1.getD a.toNat 0) mx (impAt mx L f j).2.2 (idx (impAt mx L f j).2.2) = some (gres mx (makeM mx (impAt mx L f j).2.2 f[j].1 f[j].2.1 f[j].2.2.1 (f[j].ins.map fun a => (impAt mx L f j).1.getD a.toNat 0)))) :
    R47 .real cal n (f, ()) mx L (idx L) = some (gres mx (importM mx L f)) := by
  unfold R47
  dsimp only [Alg.real]
  rw [if_pos (decT (by omega)), if_pos (decT (by omega)), if_pos (decT (by omega)), importM_at hL hok hroom, Int.toNat_natCast]
  refine loop6 (fun q (last : Int) (i : Int) mx' nums L' m' r => mx = mx' ∧ r = gres mx ((impAt mx L f f.length).2.1, (impAt mx L f f.length).2.2) ∧ ∃ j : Nat, i = j ∧ j ≤ f.length ∧ q = f.length - j ∧ last = (impAt mx L f j).2.1 ∧ nums = (impAt mx L f j).1 ++ List.replicate (f.length - j) (0 : Int) ∧ L' = (impAt mx L f j).2.2 ∧ m' = idx (impAt mx L f j).2.2) ?_ n f.length _ _ _ _ _ _ _ ⟨rfl, rfl, 0, rfl, Nat.zero_le _, rfl, rfl, rfl, rfl, rfl⟩ hn
  rintro q self last i mx' nums L' m' r ⟨rfl, rfl, j, rfl, hj, rfl, rfl, rfl, rfl, rfl⟩ ih
  by_cases hlt : j < f.length
  · have hS := impAt_succ mx L hlt
    have hpos := impAt_pos hL hok hroom hlt
    obtain ⟨hI, hIl, _⟩ := imp_fold hL hok hroom j (by omega)
    have hmk := hmk j hlt
    have hxs := hsm _ (List.getElem_mem hlt)
    have hxn := hni _ (List.getElem_mem hlt)
    have hN := hok j _ (List.getElem?_eq_getElem hlt)
    obtain ⟨m, hm⟩ : ∃ m, f.length - j = m + 1 := ⟨f.length - j - 1, by omega⟩
    rw [if_pos (lssT (by omega)), if_pos (decT (by omega)), if_pos (decT (by omega)), getD_get hlt, if_pos (decT (by omega)), if_pos (decT (by omega)), if_pos (decT (by show ((f[j].ins.length : Nat) : Int) * ((8 : Nat) : Int) ≤ _; omega)), hm, Int.toNat_natCast]
    generalize hs : impAt mx L f j = s at *
    obtain ⟨nums, last, L1⟩ := s
    dsimp only at *
    generalize f[j] = x at *
    refine loop10 (fun q (t : Int) mx' nums' k b a l out L' m' r => mx = mx' ∧ nums ++ List.replicate (m + 1) 0 = nums' ∧ x.1 = k ∧ x.2.1 = b ∧ x.2.2.1 = a ∧ L1 = L' ∧ idx L1 = m' ∧ r = gres mx ((impAt mx L f f.length).2.1, (impAt mx L f f.length).2.2) ∧ ∃ u : Nat, t = u ∧ u ≤ x.ins.length ∧ q = x.ins.length - u ∧ out = (x.ins.take u).map (fun a => nums.getD a.toNat 0) ++ List.replicate (x.ins.length - u) 0) ?_ n x.ins.length _ _ _ _ _ _ _ _ _ _ _ ⟨rfl, rfl, rfl, rfl, rfl, rfl, rfl, rfl, 0, rfl, Nat.zero_le _, rfl, rfl⟩ hxn
    rintro q self2 t mx' nums' k b a l out L' m' r ⟨rfl, rfl, rfl, rfl, rfl, rfl, rfl, rfl, u, rfl, hu, rfl, rfl⟩ ih2
    by_cases hlu : u < x.ins.length
    · have hin := hN.1 _ (List.getElem_mem hlu)
      obtain ⟨v, hv⟩ : ∃ v, x.ins.length - u = v + 1 := ⟨x.ins.length - u - 1, by omega⟩
      have hol : ((x.ins.take u).map (fun a => nums.getD a.toNat 0) ++ List.replicate (v + 1) (0 : Int)).length = x.ins.length := by rw [List.length_append, List.length_map, List.length_take, List.length_replicate]; omega
      rw [if_pos (lssT (by show (u : Int) < (x.ins.length : Int); omega)), if_pos (decT (by omega)), if_pos (decT (by show (u : Int) < (x.ins.length : Int); omega)), show x.2.2.2.1.getD (Int.toNat (u : Int)) (Ty.zero (.int .i64)) = x.ins[u] from getD_at hlu _, if_pos (decT hin.1), if_pos (decT (by rw [List.length_append, List.length_replicate, hIl]; omega)), if_pos (decT (by omega)), hv, hol, if_pos (decT (by omega)), add64 (by omega)]
      refine ih2 (x.ins.length - (u + 1)) _ _ _ _ _ _ _ _ _ _ (by omega) ⟨rfl, rfl, rfl, rfl, rfl, rfl, rfl, rfl, u + 1, by omega, by omega, rfl, ?_⟩
      rw [set_mid _ _ _ _ _ (by rw [List.length_map, List.length_take]; omega), take_snoc _ _ hlu, List.map_append, show x.ins.length - (u + 1) = v by omega, getD_app nums _ _ _ (by omega)]
      rfl
    · rw [if_neg (lssF (by show ¬ (u : Int) < (x.ins.length : Int); omega)), List.take_of_length_le (by omega), show x.ins.length - u = 0 by omega, List.replicate_zero, List.append_nil, hmk, Option.bind_some]
      rw [hS] at hpos
      change 0 ≤ (makeM mx L1 x.1 x.2.1 x.2.2.1 (x.ins.map fun a => nums.getD a.toNat 0)).1 at hpos
      change impAt mx L f (j + 1) = (nums ++ [(makeM mx L1 x.1 x.2.1 x.2.2.1 (x.ins.map fun a => nums.getD a.toNat 0)).1], (makeM mx L1 x.1 x.2.1 x.2.2.1 (x.ins.map fun a => nums.getD a.toNat 0)).1, (makeM mx L1 x.1 x.2.1 x.2.2.1 (x.ins.map fun a => nums.getD a.toNat 0)).2) at hS
      generalize makeM mx L1 x.1 x.2.1 x.2.2.1 (x.ins.map fun a => nums.getD a.toNat 0) = y at *
      refine (if_neg (lssF (a := y.1) (b := 0) (by omega))).trans ((if_pos (decT (by omega))).trans ((if_pos (decT (by rw [List.length_append, List.length_replicate, hIl]; omega))).trans ?_))
      show self y.1 (arith .add .i64 (j : Int) 1) mx ((nums ++ List.replicate (m + 1) 0).set (Int.toNat (j : Int)) y.1) y.2 (idx y.2) = _
      rw [add64 (by omega), set_mid _ _ _ _ _ (by omega)]
      refine ih (f.length - (j + 1)) _ _ _ _ _ _ (by omega) ⟨rfl, rfl, j + 1, by omega, by omega, rfl, ?_, ?_, ?_, ?_⟩
      · rw [hS]
      · rw [hS, show f.length - (j + 1) = m by omega]
      · rw [hS]
      · rw [hS]
  · have e : j = f.length := by omega
    rw [if_neg (lssF (by omega)), e]
    rfl
theorem import_spec (f : List GN) (mx : Int) (L : List GN) (hL : Gr L) (hok : ∀ j n, f[j]? = some n → NOk n j) (hroom : L.length + f.length < 67108864 ∧ (mx > 0 → ((L.length + f.length : Nat) : Int) < mx)) (hsm : ∀ x ∈ f, x.ins.length ≤ 65536) :
    Ans (fun n => c47 (F n) (f, ()) mx L (idx L)) (gres mx (importM mx L f)) := by
  obtain ⟨N, hN⟩ := fuelOf f
  have hall : ∀ j ∈ List.range f.length, Ans (fun n => c56 (F n) (nat f (j : Int)).1 (nat f (j : Int)).2.1 (nat f (j : Int)).2.2.1 ((nat f (j : Int)).ins.map fun a => (impAt mx L f j).1.getD a.toNat 0) mx (impAt mx L f j).2.2 (idx (impAt mx L f j).2.2))
      (gres mx (makeM mx (impAt mx L f j).2.2 (nat f (j : Int)).1 (nat f (j : Int)).2.1 (nat f (j : Int)).2.2.1 ((nat f (j : Int)).ins.map fun a => (impAt mx L f j).1.getD a.toNat 0))) := by
    intro j hj
    have hj := List.mem_range.1 hj
    have hg : f[j]? = some (nat f (j : Int)) := by rw [nat_get (List.getElem?_eq_getElem hj), List.getElem?_eq_getElem hj]
    have hNk := hok j _ hg
    obtain ⟨hI, hIl, _⟩ := imp_fold hL hok hroom j (by omega)
    refine make_spec _ _ _ _ _ _ hI.grow.gr (fun hk he => ?_) ?_ (by rw [List.length_map]; exact hsm _ (List.mem_of_getElem? hg))
    · exact hNk.not hk (List.map_eq_nil_iff.1 he)
    · rcases hNk.2 with ⟨h, _⟩ | ⟨_, _, _, ⟨h, _⟩ | ⟨h, _⟩ | h | h⟩
      · exact .inr (.inr (.inl h))
      · rcases h with h | h
        · exact .inl h
        · exact .inr (.inl h)
      · exact .inr (.inr (.inr (.inl h)))
      · exact .inr (.inr (.inr (.inr (.inl h))))
      · exact .inr (.inr (.inr (.inr (.inr h))))
  obtain ⟨M, hM⟩ := Ans.all (x := fun (j : Nat) n => c56 (F n) (nat f (j : Int)).1 (nat f (j : Int)).2.1 (nat f (j : Int)).2.2.1 ((nat f (j : Int)).ins.map fun a => (impAt mx L f j).1.getD a.toNat 0) mx (impAt mx L f j).2.2 (idx (impAt mx L f j).2.2)) (List.range f.length) hall
  refine Ans.step (x' := fun n => R47 .real (F n) n (f, ()) mx L (idx L)) ⟨N + M + f.length + 1, fun n hn => ?_⟩ (fun n => by rw [t47])
  refine R47_spec _ _ f mx L hL hok hroom (by omega) (fun x hx => by have := hN x hx; omega) hsm (fun j hj => ?_)
  have := hM n (by omega) j (List.mem_range.2 hj)
  rw [nat_get (List.getElem?_eq_getElem hj)] at this
  exact this
end Go.Sym.T22

namespace Go.Sym.T22
set_option maxRecDepth 100000
theorem mget_mset {v : Ty} : ∀ (m : List (Int × v.den)) (a : Int) (b : v.den) (c : Int), @mget (.int .i64) v (@mset (.int .i64) v m a b) c = if c = a then some b else @mget (.int .i64) v m c
  | [], a, b, c => by
    show (if keyEq (.int .i64) c a = true then some b else none) = _
    rw [keyEq_int]
    by_cases h : c = a
    · rw [if_pos (decide_eq_true h), if_pos h]
    · rw [if_neg (by simpa using h), if_neg h]
      rfl
  | (d, x) :: m, a, b, c => by
    have key : @mset (.int .i64) v ((d, x) :: m) a b = if d = a then (a, b) :: m else (d, x) :: @mset (.int .i64) v m a b := by
      by_cases h : d = a
      · rw [if_pos h]
        subst h
        exact mset_here (by rw [keyEq_int]; simp)
      · rw [if_neg h]
        exact mset_there (by rw [keyEq_int]; exact decide_eq_false (fun e => h e.symm))
    have get : ∀ (e : Int) (y : v.den) (l : List (Int × v.den)), @mget (.int .i64) v ((e, y) :: l) c = if c = e then some y else @mget (.int .i64) v l c := fun e y l => by
      by_cases h : c = e
      · rw [if_pos h]
        exact mget_here (by rw [keyEq_int]; exact decide_eq_true h)
      · rw [if_neg h]
        exact mget_there (by rw [keyEq_int]; exact decide_eq_false h)
    rw [key, get]
    split
    · rename_i h
      subst h
      rw [get]
      split <;> rfl
    · rename_i h
      rw [get, mget_mset m a b c]
      split
      · rename_i h2
        rw [if_neg (fun e => h (h2.symm.trans e))]
      · rfl
abbrev SM : Type := List (Int × Bool)
structure RInv (L : List GN) (a : Int) (l : List Int) (seen : SM) : Prop where
  nod : l.Nodup
  rch : ∀ x ∈ l, Rch L a x
  root : a ∈ l
  seen : ∀ b, (@mget (.int .i64) .bool seen b).getD false = true ↔ b ∈ l
theorem RInv.len {L : List GN} {a : Int} {l : List Int} {seen : SM} (hL : Gr L) (ha : hasM L a = true) (h : RInv L a l seen) : l.length ≤ L.length := by
  have h1 : (isort l).Pairwise (· < ·) := by
    have hn : (isort l).Nodup := (isort_perm l).nodup_iff.2 h.nod
    exact (isort_sorted l).imp_of_mem (fun {x y} _ _ hxy => hxy) |>.and hn |>.imp (fun {x y} hxy => by
      have h1 := hxy.1
      have h2 : x ≠ y := hxy.2
      omega)
  have := rising_len (isort l) 0 L.length h1 (fun x hx => by
    have := (h.rch x ((isort_perm l).mem_iff.1 hx)).has hL ha
    exact hasM_iff.1 this.1)
  rw [(isort_perm l).length_eq] at this
  omega
theorem RInv.done {L : List GN} {a : Int} {l xs : List Int} {seen : SM} (h : RInv L a l seen) (hc : ∀ (t : Nat) (x : Int), l[t]? = some x → ∀ c ∈ (nat L x).ins, c ∈ l) (hx : Rows L a xs) : isort l = xs := by
  have h1 : (isort l).Pairwise (· < ·) := by
    have hn : (isort l).Nodup := (isort_perm l).nodup_iff.2 h.nod
    exact (isort_sorted l).and hn |>.imp (fun {x y} hxy => by
      have h1 := hxy.1
      have h2 : x ≠ y := hxy.2
      omega)
  refine Rows.uniq (L := L) (a := a) ⟨h1, fun x => ?_⟩ hx
  rw [(isort_perm l).mem_iff]
  refine ⟨h.rch x, fun hr => ?_⟩
  induction hr with
  | self => exact h.root
  | step x y _ hy ih =>
    obtain ⟨t, ht⟩ := List.getElem?_of_mem ih
    exact hc t x ht y hy
theorem R32_spec (cal : Cal) (n : Nat) (a mx : Int) (L : List GN) (m : GM) (hL : Gr L) (ha : hasM L a = true) (xs : List Int) (hx : Rows L a xs) (hn : L.length < n)
    (h39 : ∀ xs : List Int, xs.length < 4611686018427387904 → c39 cal xs = some (isort xs)) : R32 .real cal n a mx L m = some (xs, mx, L, m) := by
  unfold R32
  dsimp only [Alg.real]
  have hlen := hL.len
  refine loop6 (fun q (i : Int) mx' (seen : SM) l L' m' r => mx = mx' ∧ L = L' ∧ m = m' ∧ r = (xs, mx, L, m) ∧ ∃ j : Nat, i = j ∧ j ≤ l.length ∧ q = L.length - j ∧ RInv L a l seen ∧ ∀ (t : Nat) (x : Int), t < j → l[t]? = some x → ∀ c ∈ (nat L x).ins, c ∈ l) ?_ n L.length _ _ _ _ _ _ _ ⟨rfl, rfl, rfl, rfl, 0, rfl, Nat.zero_le _, rfl, ?_, fun t x h => absurd h (Nat.not_lt_zero _)⟩ hn
  · rintro q self i mx' seen l L' m' r ⟨rfl, rfl, rfl, rfl, j, rfl, hj, rfl, hI, hcl⟩ ih
    have hll := hI.len hL ha
    by_cases hlt : j < l.length
    · have hxr := hI.rch _ (List.getElem_mem hlt)
      have hxh := (hxr.has hL ha).1
      obtain ⟨x0, x1⟩ := hasM_iff.1 hxh
      have hil := (hL.at x0 x1).ilen
      rw [if_pos (lssT (by omega)), if_pos (decT (by omega)), if_pos (decT (by omega)), getD_at hlt, if_pos (decT x0), if_pos (decT x1)]
      have hat : l[j]? = some l[j] := List.getElem?_eq_getElem hlt
      generalize l[j] = x at *
      show loopR n (fun x15 (x16 : Int) (x17 : Int) (x18 : SM) (x19 : List Int) (x20 : List GN) (x21 : GM) => if cmpI .lss x16 (((nat L x).ins.length : Nat) : Int) = true then if decide (0 ≤ x16) = true then if decide (x16 < (((nat L x).ins.length : Nat) : Int)) = true then if (!(@mget (.int .i64) .bool x18 ((nat L x).ins.getD (Int.toNat x16) 0)).getD false) = true then if decide ((x19.length + 1) * 8 ≤ 140737488355328) = true then x15 (arith .add .i64 x16 1) x17 (@mset (.int .i64) .bool x18 ((nat L x).ins.getD (Int.toNat x16) 0) true) (x19 ++ [(nat L x).ins.getD (Int.toNat x16) 0]) x20 x21 else none else x15 (arith .add .i64 x16 1) x17 x18 x19 x20 x21 else none else none else self (arith .add .i64 (j : Int) 1) x17 x18 x19 x20 x21) (fun _ _ _ _ _ _ => none) 0 mx seen l L m = _
      refine loop6 (fun q (i : Int) mx' (seen' : SM) l' L' m' r => mx = mx' ∧ L = L' ∧ m = m' ∧ r = (xs, mx, L, m) ∧ ∃ t : Nat, i = t ∧ t ≤ (nat L x).ins.length ∧ q = (nat L x).ins.length - t ∧ RInv L a l' seen' ∧ (∃ e, l' = l ++ e) ∧ ∀ c ∈ (nat L x).ins.take t, c ∈ l') ?_ n (nat L x).ins.length _ _ _ _ _ _ _ ⟨rfl, rfl, rfl, rfl, 0, rfl, Nat.zero_le _, rfl, hI, ⟨[], by simp⟩, fun c hc => by simp at hc⟩ (by omega)
      rintro q self2 i mx' seen' l' L' m' r ⟨rfl, rfl, rfl, rfl, t, rfl, ht, rfl, hI', ⟨e, rfl⟩, htk⟩ ih2
      have hll' := hI'.len hL ha
      by_cases hlu : t < (nat L x).ins.length
      · rw [if_pos (lssT (by omega)), if_pos (decT (by omega)), if_pos (decT (by omega)), getD_at hlu, add64 (by omega)]
        have hbm := List.getElem_mem hlu
        have hsn := take_snoc _ _ hlu
        generalize (nat L x).ins[t] = b at *
        by_cases hs : (@mget (.int .i64) .bool seen' b).getD false = true
        · rw [if_neg (notF hs)]
          refine ih2 ((nat L x).ins.length - (t + 1)) _ _ _ _ _ _ (by omega) ⟨rfl, rfl, rfl, rfl, t + 1, by omega, by omega, rfl, hI', ⟨e, rfl⟩, fun c hc => ?_⟩
          rw [hsn] at hc
          rcases List.mem_append.1 hc with hc | hc
          · exact htk c hc
          · rw [List.mem_singleton.1 hc]
            exact (hI'.seen b).1 hs
        · have hnb : b ∉ l ++ e := fun h => hs ((hI'.seen b).2 h)
          have hI2 : RInv L a (l ++ e ++ [b]) (@mset (.int .i64) .bool seen' b true) := by
            refine ⟨?_, ?_, List.mem_append_left _ hI'.root, ?_⟩
            · rw [List.nodup_append]
              refine ⟨hI'.nod, by simp, ?_⟩
              intro y hy z hz
              rw [List.mem_singleton.1 hz]
              exact fun e => hnb (e ▸ hy)
            · intro y hy
              rcases List.mem_append.1 hy with hy | hy
              · exact hI'.rch y hy
              · rw [List.mem_singleton.1 hy]
                exact .step x b hxr hbm
            · intro c
              rw [mget_mset]
              by_cases hcb : c = b
              · rw [if_pos hcb]
                simp [hcb]
              · rw [if_neg hcb, hI'.seen c]
                simp [hcb]
          have hl2 := hI2.len hL ha
          rw [List.length_append, List.length_singleton] at hl2
          rw [if_pos (notT hs), if_pos (decT (by omega))]
          refine ih2 ((nat L x).ins.length - (t + 1)) _ _ _ _ _ _ (by omega) ⟨rfl, rfl, rfl, rfl, t + 1, by omega, by omega, rfl, hI2, ⟨e ++ [b], by rw [List.append_assoc]⟩, fun c hc => ?_⟩
          rw [hsn] at hc
          rcases List.mem_append.1 hc with hc | hc
          · exact List.mem_append_left _ (htk c hc)
          · exact List.mem_append_right _ hc
      · rw [if_neg (lssF (by omega)), add64 (by omega)]
        rw [List.take_of_length_le (by omega)] at htk
        refine ih (L.length - (j + 1)) _ _ _ _ _ _ (by omega) ⟨rfl, rfl, rfl, rfl, j + 1, by omega, by rw [List.length_append]; omega, rfl, hI', fun u y hu hy c hc => ?_⟩
        rw [List.getElem?_append_left (by omega)] at hy
        rcases Nat.lt_or_ge u j with h1 | h1
        · exact List.mem_append_left _ (hcl u y h1 hy c hc)
        · have : u = j := by omega
          subst this
          rw [hat] at hy
          cases hy
          exact htk c hc
    · rw [if_neg (lssF (by omega)), h39 _ (by omega), Option.bind_some, hI.done (fun t x ht => hcl t x (by have := (List.getElem?_eq_some_iff.1 ht).1; omega) ht) hx]
  · refine ⟨by rw [set_one]; simp, fun x hx => ?_, ?_, fun b => ?_⟩
    · rw [set_one, List.mem_singleton] at hx
      rw [hx]
      exact .self
    · rw [set_one]
      simp
    · rw [set_one, mget_mset]
      by_cases h : b = a
      · rw [if_pos h]
        simp [h]
      · rw [if_neg h]
        simp [h, mget]
/-- The nodes below a. -/
theorem rows_ex {L : List GN} {a : Int} (hL : Gr L) (ha : hasM L a = true) : ∃ xs, Rows L a xs := by
  classical
  refine ⟨((List.range L.length).map fun (i : Nat) => (i : Int)).filter (fun x => decide (Rch L a x)), ?_, fun x => ?_⟩
  · refine List.Pairwise.filter _ ?_
    rw [List.pairwise_map]
    exact List.pairwise_lt_range.imp (fun h => by omega)
  · rw [List.mem_filter, decide_eq_true_iff]
    refine ⟨fun h => h.2, fun h => ⟨?_, h⟩⟩
    have := hasM_iff.1 (h.has hL ha).1
    exact List.mem_map.2 ⟨x.toNat, List.mem_range.2 (by omega), by omega⟩
theorem reach_spec (a mx : Int) (L : List GN) (m : GM) (hL : Gr L) (ha : hasM L a = true) (xs : List Int) (hx : Rows L a xs) : Ans (fun n => c32 (F n) a mx L m) (xs, mx, L, m) := by
  refine Ans.step (x' := fun n => R32 .real (F n) n a mx L m) ⟨L.length + 1, fun n hn => ?_⟩ (fun n => by rw [t32])
  obtain ⟨q, rfl⟩ : ∃ q, n = q + 1 := ⟨n - 1, by omega⟩
  exact R32_spec _ _ a mx L m hL ha xs hx hn (fun ys h => sort_spec q ys h)
end Go.Sym.T22

namespace Go.Sym
theorem loop11 {α S1 S2 S3 S4 S5 S6 S7 S8 S9 S10 S11 : Type} {f : (S1 → S2 → S3 → S4 → S5 → S6 → S7 → S8 → S9 → S10 → S11 → Option α) → S1 → S2 → S3 → S4 → S5 → S6 → S7 → S8 → S9 → S10 → S11 → Option α} {b : S1 → S2 → S3 → S4 → S5 → S6 → S7 → S8 → S9 → S10 → S11 → Option α} (I : Nat → S1 → S2 → S3 → S4 → S5 → S6 → S7 → S8 → S9 → S10 → S11 → α → Prop)
    (hf : ∀ (k : Nat) (self : S1 → S2 → S3 → S4 → S5 → S6 → S7 → S8 → S9 → S10 → S11 → Option α) (x1 : S1) (x2 : S2) (x3 : S3) (x4 : S4) (x5 : S5) (x6 : S6) (x7 : S7) (x8 : S8) (x9 : S9) (x10 : S10) (x11 : S11) (r : α), I k x1 x2 x3 x4 x5 x6 x7 x8 x9 x10 x11 r → (∀ k' y1 y2 y3 y4 y5 y6 y7 y8 y9 y10 y11, k' < k → I k' y1 y2 y3 y4 y5 y6 y7 y8 y9 y10 y11 r → self y1 y2 y3 y4 y5 y6 y7 y8 y9 y10 y11 = some r) → f self x1 x2 x3 x4 x5 x6 x7 x8 x9 x10 x11 = some r) :
    ∀ (m k : Nat) (x1 : S1) (x2 : S2) (x3 : S3) (x4 : S4) (x5 : S5) (x6 : S6) (x7 : S7) (x8 : S8) (x9 : S9) (x10 : S10) (x11 : S11) (r : α), I k x1 x2 x3 x4 x5 x6 x7 x8 x9 x10 x11 r → k < m → loopR m f b x1 x2 x3 x4 x5 x6 x7 x8 x9 x10 x11 = some r
  | 0, k, x1, x2, x3, x4, x5, x6, x7, x8, x9, x10, x11, r, _, h => absurd h (Nat.not_lt_zero _)
  | m + 1, k, x1, x2, x3, x4, x5, x6, x7, x8, x9, x10, x11, r, hI, h => hf k (loopR m f b) x1 x2 x3 x4 x5 x6 x7 x8 x9 x10 x11 r hI (fun k' y1 y2 y3 y4 y5 y6 y7 y8 y9 y10 y11 hk hI' => loop11 I hf m k' y1 y2 y3 y4 y5 y6 y7 y8 y9 y10 y11 r hI' (by omega))
end Go.Sym
namespace Go.Sym.T22
set_option maxRecDepth 100000
theorem at_spec (n : Nat) (a mx : Int) (L : List GN) (m : GM) (h : hasM L a = true) : c30 (F (n + 1)) a mx L m = some (nat L a, mx, L, m) := by
  obtain ⟨h0, h1⟩ := hasM_iff.1 h
  rw [t30]
  unfold R30
  dsimp only [Alg.real]
  rw [if_pos (decT h0), if_pos (decT h1)]
  rfl
def sizeAt (L : List GN) (xs : List Int) : Nat := (xs.map fun b => (nat L b).ins.length).sum
theorem sizeAt_le {L : List GN} (hL : Gr L) : ∀ (xs : List Int), (∀ x ∈ xs, hasM L x = true) → sizeAt L xs ≤ xs.length * 67108864
  | [], _ => Nat.zero_le _
  | x :: xs, h => by
    have h1 := sizeAt_le hL xs (fun y hy => h y (List.mem_cons_of_mem _ hy))
    have hx := h x (List.mem_cons_self ..)
    obtain ⟨x0, x1⟩ := hasM_iff.1 hx
    have := (hL.at x0 x1).ilen
    have := hL.len
    show (nat L x).ins.length + sizeAt L xs ≤ (xs.length + 1) * 67108864
    omega
theorem sizeAt_snoc (L : List GN) (xs : List Int) (x : Int) : sizeAt L (xs ++ [x]) = sizeAt L xs + (nat L x).ins.length := by
  unfold sizeAt
  rw [List.map_append, List.sum_append]
  simp
def exportR (mx : Int) (L : List GN) (m : GM) (xs : List Int) : (List GN × Unit) × (Int × (Int × (List GN × GM))) :=
  if xs.length > 65536 ∨ sizeAt L xs > 33554432 then (([], ()), 4, mx, L, m) else ((exportM L xs, ()), 0, mx, L, m)
theorem R15_spec (cal : Cal) (n : Nat) (a mx : Int) (L : List GN) (m : GM) (hL : Gr L) (ha : hasM L a = true) (xs : List Int) (hx : Rows L a xs) (hn : xs.length < n) (hni : ∀ x ∈ xs, (nat L x).ins.length < n)
    (h29 : c29 cal a mx L m = some (hasM L a, mx, L, m)) (h32 : c32 cal a mx L m = some (xs, mx, L, m)) (h30 : ∀ b, hasM L b = true → c30 cal b mx L m = some (nat L b, mx, L, m))
    (h33 : ∀ c, c33 cal xs c = some (place xs c, xs.contains c)) : R15 .real cal n a mx L m = some (exportR mx L m xs) := by
  unfold R15
  dsimp only [Alg.real]
  rw [h29, Option.bind_some, if_neg (notF ha), h32, Option.bind_some]
  have hall : ∀ x ∈ xs, hasM L x = true := fun x h => (((hx.mem x).1 h).has hL ha).1
  have hxl : xs.length ≤ 67108864 := by
    have := rising_len xs 0 L.length hx.lt (fun x h => hasM_iff.1 (hall x h))
    have := hL.len
    omega
  dsimp only
  refine loop6 (fun q (t : Int) (i : Int) mx' (f : List GN) L' m' r => mx = mx' ∧ [] = f ∧ L = L' ∧ m = m' ∧ r = exportR mx L m xs ∧ ∃ j : Nat, i = j ∧ j ≤ xs.length ∧ q = xs.length - j ∧ t = (sizeAt L (xs.take j) : Nat)) ?_ n xs.length _ _ _ _ _ _ _ ⟨rfl, rfl, rfl, rfl, rfl, 0, rfl, Nat.zero_le _, rfl, rfl⟩ hn
  rintro q self t i mx' f L' m' r ⟨rfl, rfl, rfl, rfl, rfl, j, rfl, hj, rfl, rfl⟩ ih
  have hsz := sizeAt_le hL (xs.take j) (fun x h => hall x (List.mem_of_mem_take h))
  rw [List.length_take] at hsz
  by_cases hlt : j < xs.length
  · have hm := List.getElem_mem hlt
    have hh := hall _ hm
    have hsn := take_snoc _ _ hlt
    rw [if_pos (lssT (by omega)), if_pos (decT (by omega)), if_pos (decT (by omega)), getD_at hlt, h30 _ hh, Option.bind_some]
    obtain ⟨x0, x1⟩ := hasM_iff.1 hh
    have hil := (hL.at x0 x1).ilen
    have hLl := hL.len
    generalize xs[j] = x at *
    show self (arith .add .i64 ((sizeAt L (xs.take j) : Nat) : Int) (((nat L x).ins.length : Nat) : Int)) (arith .add .i64 (j : Int) 1) mx [] L m = _
    rw [add64 (by omega), add64 (by omega)]
    refine ih (xs.length - (j + 1)) _ _ _ _ _ _ (by omega) ⟨rfl, rfl, rfl, rfl, rfl, j + 1, by omega, by omega, rfl, ?_⟩
    rw [hsn, sizeAt_snoc]
    omega
  · have e : xs.take j = xs := List.take_of_length_le (by omega)
    rw [e] at hsz ⊢
    rw [if_neg (lssF (by omega))]
    by_cases c1 : xs.length > 65536
    · rw [if_pos (gtrT (by omega)), if_tt]
      unfold exportR
      rw [if_pos (.inl c1)]
      rfl
    · rw [if_neg (gtrF (by omega))]
      by_cases c2 : sizeAt L xs > 33554432
      · rw [if_pos (gtrT (by omega))]
        unfold exportR
        rw [if_pos (.inr c2)]
        rfl
      · rw [if_neg (gtrF (by omega))]
        have hR : exportR mx L m xs = ((exportM L xs, ()), 0, mx, L, m) := by unfold exportR; rw [if_neg (by omega)]
        rw [hR]
        refine loop6 (fun q (i : Int) mx' (z : List GN) (acc : List GN) L' m' r => mx = mx' ∧ [] = z ∧ L = L' ∧ m = m' ∧ r = ((exportM L xs, ()), 0, mx, L, m) ∧ ∃ j : Nat, i = j ∧ j ≤ xs.length ∧ q = xs.length - j ∧ acc = (xs.take j).map (fun b => relab (place xs) (nat L b))) ?_ n xs.length _ _ _ _ _ _ _ ⟨rfl, rfl, rfl, rfl, rfl, 0, rfl, Nat.zero_le _, rfl, rfl⟩ hn
        clear ih hj hlt e self j hsz
        rintro q self i mx' z acc L' m' r ⟨rfl, rfl, rfl, rfl, rfl, j, rfl, hj, rfl, rfl⟩ ih
        by_cases hlt : j < xs.length
        · have hm := List.getElem_mem hlt
          have hh := hall _ hm
          have hxn := hni _ hm
          have hsn := take_snoc _ _ hlt
          obtain ⟨x0, x1⟩ := hasM_iff.1 hh
          have hil := (hL.at x0 x1).ilen
          have hLl := hL.len
          rw [if_pos (lssT (by omega)), if_pos (decT (by omega)), if_pos (decT (by omega)), getD_at hlt, h30 _ hh, Option.bind_some]
          generalize xs[j] = x at *
          rw [if_pos (decT (by omega)), if_pos (decT (by show (((nat L x).ins.length : Nat) : Int) ≤ (((nat L x).ins.length : Nat) : Int); omega)), if_pos (decT (by show (((nat L x).ins.length : Nat) : Int) * ((8 : Nat) : Int) ≤ _; omega))]
          dsimp only
          refine loop11 (fun q (t : Int) k b p l out mx' z acc L' m' r => (nat L x).1 = k ∧ (nat L x).2.1 = b ∧ (nat L x).2.2.1 = p ∧ (nat L x).2.2.2.1 = l ∧ mx = mx' ∧ [] = z ∧ (xs.take j).map (fun b => relab (place xs) (nat L b)) = acc ∧ L = L' ∧ m = m' ∧ r = ((exportM L xs, ()), 0, mx, L, m) ∧ ∃ u : Nat, t = u ∧ u ≤ (nat L x).ins.length ∧ q = (nat L x).ins.length - u ∧ out = ((nat L x).ins.take u).map (place xs) ++ List.replicate ((nat L x).ins.length - u) 0) ?_ n (nat L x).ins.length _ _ _ _ _ _ _ _ _ _ _ _ ⟨rfl, rfl, rfl, rfl, rfl, rfl, rfl, rfl, rfl, rfl, 0, rfl, Nat.zero_le _, rfl, by rw [Int.toNat_natCast]; rfl⟩ hxn
          rintro q self2 t k b p l out mx' z acc L' m' r ⟨rfl, rfl, rfl, rfl, rfl, rfl, rfl, rfl, rfl, rfl, u, rfl, hu, rfl, rfl⟩ ih2
          by_cases hlu : u < (nat L x).ins.length
          · obtain ⟨v, hv⟩ : ∃ v, (nat L x).ins.length - u = v + 1 := ⟨(nat L x).ins.length - u - 1, by omega⟩
            have hol : (((nat L x).ins.take u).map (place xs) ++ List.replicate (v + 1) (0 : Int)).length = (nat L x).ins.length := by rw [List.length_append, List.length_map, List.length_take, List.length_replicate]; omega
            rw [if_pos (lssT (by show (u : Int) < ((nat L x).ins.length : Int); omega)), if_pos (decT (by omega)), if_pos (decT (by show (u : Int) < ((nat L x).ins.length : Int); omega)), show (nat L x).2.2.2.1.getD (Int.toNat (u : Int)) (Ty.zero (.int .i64)) = (nat L x).ins[u] from getD_at hlu _, h33, Option.bind_some, if_pos (decT (by omega)), hv, hol, if_pos (decT (by omega)), add64 (by omega)]
            refine ih2 ((nat L x).ins.length - (u + 1)) _ _ _ _ _ _ _ _ _ _ _ (by omega) ⟨rfl, rfl, rfl, rfl, rfl, rfl, rfl, rfl, rfl, rfl, u + 1, by omega, by omega, rfl, ?_⟩
            rw [set_mid _ _ _ _ _ (by rw [List.length_map, List.length_take]; omega), take_snoc _ _ hlu, List.map_append, show (nat L x).ins.length - (u + 1) = v by omega]
            rfl
          · rw [if_neg (lssF (by show ¬ (u : Int) < ((nat L x).ins.length : Int); omega)), List.take_of_length_le (show (nat L x).ins.length ≤ u by omega), show (nat L x).ins.length - u = 0 by omega, List.replicate_zero, List.append_nil]
            show (if decide ((((xs.take j).map (fun b => relab (place xs) (nat L b))).length + 1) * 48 ≤ 140737488355328) = true then self (arith .add .i64 (j : Int) 1) mx [] ((xs.take j).map (fun b => relab (place xs) (nat L b)) ++ [relab (place xs) (nat L x)]) L m else none) = _
            rw [if_pos (decT (by rw [List.length_map, List.length_take]; omega)), add64 (by omega)]
            refine ih (xs.length - (j + 1)) _ _ _ _ _ _ (by omega) ⟨rfl, rfl, rfl, rfl, rfl, j + 1, by omega, by omega, rfl, ?_⟩
            rw [hsn, List.map_append]
            rfl
        · rw [if_neg (lssF (by omega)), List.take_of_length_le (by omega)]
          rfl
theorem export_spec (a mx : Int) (L : List GN) (m : GM) (hL : Gr L) (ha : hasM L a = true) (xs : List Int) (hx : Rows L a xs) : Ans (fun n => c15 (F n) a mx L m) (exportR mx L m xs) := by
  obtain ⟨N, hN⟩ := reach_spec a mx L m hL ha xs hx
  have hall : ∀ x ∈ xs, hasM L x = true := fun x h => (((hx.mem x).1 h).has hL ha).1
  have hxl : xs.length ≤ L.length := by
    have := rising_len xs 0 L.length hx.lt (fun x h => hasM_iff.1 (hall x h))
    omega
  refine Ans.step (x' := fun n => R15 .real (F n) n a mx L m) ⟨N + L.length + 1, fun n hn => ?_⟩ (fun n => by rw [t15])
  obtain ⟨q, rfl⟩ : ∃ q, n = q + 1 := ⟨n - 1, by omega⟩
  refine R15_spec _ _ a mx L m hL ha xs hx (by omega) (fun x h => ?_) (has_spec q a mx L m) (hN (q + 1) (by omega)) (fun b hb => at_spec q b mx L m hb) (fun c => search_spec q xs c (by have := hL.len; omega) (hx.lt.imp (fun h => by omega)))
  obtain ⟨x0, x1⟩ := hasM_iff.1 (hall x h)
  have := (hL.at x0 x1).ilen
  omega
end Go.Sym.T22

namespace Go.Sym.T22
set_option maxRecDepth 100000
theorem Ans.join {F α : Type} {J : Nat → F} {K : Nat → F → Option α} {y : α} (h : ∀ J', J' = J → Ans (fun n => K n (J' n)) y) : Ans (fun n => Alg.real.join (J n) (K n)) y := h J rfl
theorem st_import_bad (f : List GN) (mx : Int) (L : List GN) (m : GM) (h62 : ∀ x ∈ f, x.ins.length < 4611686018427387904) (hv : ¬ validM f = true) : Ans (fun n => c34 (F n) (f, ()) mx L m) (0, 1, mx, L, m) := by
  refine Ans.step (x' := fun n => R34 .real (F n) n (f, ()) mx L m) ?_ (fun n => by rw [t34])
  unfold R34
  dsimp only [Alg.real]
  exact Ans.bind (valid_spec f h62) (Ans.yes (notT hv) (Ans.val _))
theorem st_import (f : List GN) (mx : Int) (L : List GN) (hL : Gr L) (hv : validM f = true) (hroom : L.length + f.length < 67108864 ∧ (mx > 0 → ((L.length + f.length : Nat) : Int) < mx)) (hsm : ∀ x ∈ f, x.ins.length ≤ 65536) :
    Ans (fun n => c34 (F n) (f, ()) mx L (idx L)) ((importM mx L f).1, 0, mx, (importM mx L f).2, idx (importM mx L f).2) := by
  refine Ans.step (x' := fun n => R34 .real (F n) n (f, ()) mx L (idx L)) ?_ (fun n => by rw [t34])
  unfold R34
  dsimp only [Alg.real]
  refine Ans.bind (valid_spec f (fun x hx => by have := hsm x hx; omega)) (Ans.no (notF hv) ?_)
  refine Ans.bind (import_spec f mx L hL (fun j n hj => validM_get hv hj) hroom hsm) ?_
  have h := (import_root hL (fun j n hj => validM_get hv hj) hroom).2.1
  have h := (hasM_iff.1 h).1
  exact Ans.no (lssF (by show ¬ (importM mx L f).1 < 0; omega)) (Ans.val _)
theorem norm_bad (f : List GN) (h62 : ∀ x ∈ f, x.ins.length < 4611686018427387904) (hv : ¬ validM f = true) : Ans (fun n => c17 (F n) (f, ())) (([], ()), 1) := by
  refine Ans.step (x' := fun n => R17 .real (F n) n (f, ())) ?_ (fun n => by rw [t17])
  unfold R17
  dsimp only [Alg.real]
  refine Ans.bind st_new (Ans.bind (st_import_bad f mx0 L0 _ h62 hv) ?_)
  exact Ans.yes (by rfl) (Ans.val _)
theorem norm_good (f : List GN) (hv : validM f = true) (hroom : L0.length + f.length < 67108864 ∧ (mx0 > 0 → ((L0.length + f.length : Nat) : Int) < mx0)) (hsm : ∀ x ∈ f, x.ins.length ≤ 65536) (xs : List Int) (hx : Rows (importM mx0 L0 f).2 (importM mx0 L0 f).1 xs)
    (hxl : xs.length ≤ 65536) (hsz : (xs.map fun b => (nat (importM mx0 L0 f).2 b).ins.length).sum ≤ 33554432) : Ans (fun n => c17 (F n) (f, ())) ((exportM (importM mx0 L0 f).2 xs, ()), 0) := by
  refine Ans.step (x' := fun n => R17 .real (F n) n (f, ())) ?_ (fun n => by rw [t17])
  unfold R17
  dsimp only [Alg.real]
  refine Ans.bind st_new (Ans.bind (st_import f mx0 L0 gr0 hv hroom hsm) ?_)
  obtain ⟨g, h, _⟩ := import_root gr0 (fun j n hj => validM_get hv hj) hroom
  refine Ans.no (neqF rfl) (Ans.bind (export_spec _ mx0 _ _ g.gr h xs hx) ?_)
  have e : exportR mx0 (importM mx0 L0 f).2 (idx (importM mx0 L0 f).2) xs = ((exportM (importM mx0 L0 f).2 xs, ()), 0, mx0, (importM mx0 L0 f).2, idx (importM mx0 L0 f).2) := by
    unfold exportR
    refine if_neg (fun h => ?_)
    rcases h with h | h
    · omega
    · have h : (xs.map fun b => (nat (importM mx0 L0 f).2 b).ins.length).sum > 33554432 := h
      omega
  rw [e]
  exact Ans.val _
/-- The last part: values and supports. -/
theorem meaning_last {f g : List GN} {ws : List (List Int)} (hws : ws.length ≤ 20) (hf : ∀ x ∈ f, x.ins.length ≤ 65536) (hg : ∀ x ∈ g, x.ins.length ≤ 65536) (hv : ∀ w, holdsM g w = holdsM f w) (hs : ∀ β, β ∈ suppM g → β ∈ suppM f) (hsl : (suppM f).length < 4611686018427387904) (hsg : (suppM g).length < 4611686018427387904) :
    ∃ N, ∀ n, N ≤ n → (∀ w ∈ ws, w.length ≤ 100 → c20 (F n) (f, ()) w = some (holdsM f w) ∧ c20 (F n) (g, ()) w = some (holdsM g w)) ∧ c21 (F n) (f, ()) = some (suppM f) ∧ c21 (F n) (g, ()) = some (suppM g) ∧ c12 (F n) = some true := by
  have h1 : ∀ h : List GN, (∀ x ∈ h, x.ins.length ≤ 65536) → ∃ N, ∀ n, N ≤ n → ∀ w ∈ ws, w.length ≤ 100 → c20 (F n) (h, ()) w = some (holdsM h w) := by
    intro h hh
    obtain ⟨N, hN⟩ := Ans.all (x := fun w n => c20 (F n) (h, ()) w) (y := fun w => holdsM h w) (ws.filter fun w => decide (w.length ≤ 100)) (fun w hw => holds_spec h w (by
      have := (List.mem_filter.1 hw).2
      have := of_decide_eq_true this
      omega) (fun x hx => by have := hh x hx; omega))
    exact ⟨N, fun n hn w hw hl => hN n hn w (List.mem_filter.2 ⟨hw, decide_eq_true hl⟩)⟩
  obtain ⟨N1, h1f⟩ := h1 f hf
  obtain ⟨N2, h1g⟩ := h1 g hg
  obtain ⟨N3, h3⟩ := supp_spec f (fun x hx => by have := hf x hx; omega)
  obtain ⟨N4, h4⟩ := supp_spec g (fun x hx => by have := hg x hx; omega)
  obtain ⟨N5, h5⟩ := awake_ans
  exact ⟨N1 + N2 + N3 + N4 + N5, fun n hn => ⟨fun w hw hl => ⟨h1f n (by omega) w hw hl, h1g n (by omega) w hw hl⟩, h3 n (by omega), h4 n (by omega), h5 n (by omega)⟩⟩
end Go.Sym.T22
