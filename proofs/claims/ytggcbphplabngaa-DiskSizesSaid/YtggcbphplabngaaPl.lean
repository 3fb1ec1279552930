/- Plain laws. -/
import Derived.Test.YtggcbphplabngaaSymE
import Derived.IntWalk
set_option linter.unusedVariables false
/- Plain laws: loops with fuel, what answers from some fuel on, and integers. -/
namespace Go.Sym
/-- From some fuel on it answers y. -/
def Ans {α : Type} (x : Nat → Option α) (y : α) : Prop := ∃ N, ∀ n, N ≤ n → x n = some y
theorem Ans.of {α : Type} {x : Nat → Option α} {y : α} (h : ∀ n, x n = some y) : Ans x y := ⟨0, fun n _ => h n⟩
theorem Ans.step {α : Type} {x x' : Nat → Option α} {y : α} (h : Ans x' y) (e : ∀ n, x (n + 1) = x' n) : Ans x y := by
  obtain ⟨N, h⟩ := h
  refine ⟨N + 1, fun n hn => ?_⟩
  obtain ⟨m, rfl⟩ : ∃ m, n = m + 1 := ⟨n - 1, by omega⟩
  rw [e]
  exact h m (by omega)
/-- All of a list's, from one fuel on. -/
theorem Ans.all {α β : Type} {x : β → Nat → Option α} {y : β → α} : ∀ (l : List β), (∀ b ∈ l, Ans (x b) (y b)) → ∃ N, ∀ n, N ≤ n → ∀ b ∈ l, x b n = some (y b)
  | [], _ => ⟨0, fun n _ b hb => by cases hb⟩
  | c :: l, h => by
    obtain ⟨N, h1⟩ := h c (List.mem_cons_self ..)
    obtain ⟨M, h2⟩ := Ans.all l (fun b hb => h b (List.mem_cons_of_mem _ hb))
    refine ⟨N + M, fun n hn b hb => ?_⟩
    cases hb with
    | head => exact h1 n (by omega)
    | tail _ hb => exact h2 n (by omega) b hb
theorem loop1 {α S1 : Type} {f : (S1 → Option α) → S1 → Option α} {b : S1 → Option α} (I : Nat → S1 → α → Prop)
    (hf : ∀ (k : Nat) (self : S1 → Option α) (x1 : S1) (r : α), I k x1 r → (∀ k' y1, k' < k → I k' y1 r → self y1 = some r) → f self x1 = some r) :
    ∀ (m k : Nat) (x1 : S1) (r : α), I k x1 r → k < m → loopR m f b x1 = some r
  | 0, k, x1, r, _, h => absurd h (Nat.not_lt_zero _)
  | m + 1, k, x1, r, hI, h => hf k (loopR m f b) x1 r hI (fun k' y1 hk hI' => loop1 I hf m k' y1 r hI' (by omega))
theorem loop2 {α S1 S2 : Type} {f : (S1 → S2 → Option α) → S1 → S2 → Option α} {b : S1 → S2 → Option α} (I : Nat → S1 → S2 → α → Prop)
    (hf : ∀ (k : Nat) (self : S1 → S2 → Option α) (x1 : S1) (x2 : S2) (r : α), I k x1 x2 r → (∀ k' y1 y2, k' < k → I k' y1 y2 r → self y1 y2 = some r) → f self x1 x2 = some r) :
    ∀ (m k : Nat) (x1 : S1) (x2 : S2) (r : α), I k x1 x2 r → k < m → loopR m f b x1 x2 = some r
  | 0, k, x1, x2, r, _, h => absurd h (Nat.not_lt_zero _)
  | m + 1, k, x1, x2, r, hI, h => hf k (loopR m f b) x1 x2 r hI (fun k' y1 y2 hk hI' => loop2 I hf m k' y1 y2 r hI' (by omega))
theorem loop3 {α S1 S2 S3 : Type} {f : (S1 → S2 → S3 → Option α) → S1 → S2 → S3 → Option α} {b : S1 → S2 → S3 → Option α} (I : Nat → S1 → S2 → S3 → α → Prop)
    (hf : ∀ (k : Nat) (self : S1 → S2 → S3 → Option α) (x1 : S1) (x2 : S2) (x3 : S3) (r : α), I k x1 x2 x3 r → (∀ k' y1 y2 y3, k' < k → I k' y1 y2 y3 r → self y1 y2 y3 = some r) → f self x1 x2 x3 = some r) :
    ∀ (m k : Nat) (x1 : S1) (x2 : S2) (x3 : S3) (r : α), I k x1 x2 x3 r → k < m → loopR m f b x1 x2 x3 = some r
  | 0, k, x1, x2, x3, r, _, h => absurd h (Nat.not_lt_zero _)
  | m + 1, k, x1, x2, x3, r, hI, h => hf k (loopR m f b) x1 x2 x3 r hI (fun k' y1 y2 y3 hk hI' => loop3 I hf m k' y1 y2 y3 r hI' (by omega))
theorem loop4 {α S1 S2 S3 S4 : Type} {f : (S1 → S2 → S3 → S4 → Option α) → S1 → S2 → S3 → S4 → Option α} {b : S1 → S2 → S3 → S4 → Option α} (I : Nat → S1 → S2 → S3 → S4 → α → Prop)
    (hf : ∀ (k : Nat) (self : S1 → S2 → S3 → S4 → Option α) (x1 : S1) (x2 : S2) (x3 : S3) (x4 : S4) (r : α), I k x1 x2 x3 x4 r → (∀ k' y1 y2 y3 y4, k' < k → I k' y1 y2 y3 y4 r → self y1 y2 y3 y4 = some r) → f self x1 x2 x3 x4 = some r) :
    ∀ (m k : Nat) (x1 : S1) (x2 : S2) (x3 : S3) (x4 : S4) (r : α), I k x1 x2 x3 x4 r → k < m → loopR m f b x1 x2 x3 x4 = some r
  | 0, k, x1, x2, x3, x4, r, _, h => absurd h (Nat.not_lt_zero _)
  | m + 1, k, x1, x2, x3, x4, r, hI, h => hf k (loopR m f b) x1 x2 x3 x4 r hI (fun k' y1 y2 y3 y4 hk hI' => loop4 I hf m k' y1 y2 y3 y4 r hI' (by omega))
theorem loop5 {α S1 S2 S3 S4 S5 : Type} {f : (S1 → S2 → S3 → S4 → S5 → Option α) → S1 → S2 → S3 → S4 → S5 → Option α} {b : S1 → S2 → S3 → S4 → S5 → Option α} (I : Nat → S1 → S2 → S3 → S4 → S5 → α → Prop)
    (hf : ∀ (k : Nat) (self : S1 → S2 → S3 → S4 → S5 → Option α) (x1 : S1) (x2 : S2) (x3 : S3) (x4 : S4) (x5 : S5) (r : α), I k x1 x2 x3 x4 x5 r → (∀ k' y1 y2 y3 y4 y5, k' < k → I k' y1 y2 y3 y4 y5 r → self y1 y2 y3 y4 y5 = some r) → f self x1 x2 x3 x4 x5 = some r) :
    ∀ (m k : Nat) (x1 : S1) (x2 : S2) (x3 : S3) (x4 : S4) (x5 : S5) (r : α), I k x1 x2 x3 x4 x5 r → k < m → loopR m f b x1 x2 x3 x4 x5 = some r
  | 0, k, x1, x2, x3, x4, x5, r, _, h => absurd h (Nat.not_lt_zero _)
  | m + 1, k, x1, x2, x3, x4, x5, r, hI, h => hf k (loopR m f b) x1 x2 x3 x4 x5 r hI (fun k' y1 y2 y3 y4 y5 hk hI' => loop5 I hf m k' y1 y2 y3 y4 y5 r hI' (by omega))
theorem loop6 {α S1 S2 S3 S4 S5 S6 : Type} {f : (S1 → S2 → S3 → S4 → S5 → S6 → Option α) → S1 → S2 → S3 → S4 → S5 → S6 → Option α} {b : S1 → S2 → S3 → S4 → S5 → S6 → Option α} (I : Nat → S1 → S2 → S3 → S4 → S5 → S6 → α → Prop)
    (hf : ∀ (k : Nat) (self : S1 → S2 → S3 → S4 → S5 → S6 → Option α) (x1 : S1) (x2 : S2) (x3 : S3) (x4 : S4) (x5 : S5) (x6 : S6) (r : α), I k x1 x2 x3 x4 x5 x6 r → (∀ k' y1 y2 y3 y4 y5 y6, k' < k → I k' y1 y2 y3 y4 y5 y6 r → self y1 y2 y3 y4 y5 y6 = some r) → f self x1 x2 x3 x4 x5 x6 = some r) :
    ∀ (m k : Nat) (x1 : S1) (x2 : S2) (x3 : S3) (x4 : S4) (x5 : S5) (x6 : S6) (r : α), I k x1 x2 x3 x4 x5 x6 r → k < m → loopR m f b x1 x2 x3 x4 x5 x6 = some r
  | 0, k, x1, x2, x3, x4, x5, x6, r, _, h => absurd h (Nat.not_lt_zero _)
  | m + 1, k, x1, x2, x3, x4, x5, x6, r, hI, h => hf k (loopR m f b) x1 x2 x3 x4 x5 x6 r hI (fun k' y1 y2 y3 y4 y5 y6 hk hI' => loop6 I hf m k' y1 y2 y3 y4 y5 y6 r hI' (by omega))
theorem loop7 {α S1 S2 S3 S4 S5 S6 S7 : Type} {f : (S1 → S2 → S3 → S4 → S5 → S6 → S7 → Option α) → S1 → S2 → S3 → S4 → S5 → S6 → S7 → Option α} {b : S1 → S2 → S3 → S4 → S5 → S6 → S7 → Option α} (I : Nat → S1 → S2 → S3 → S4 → S5 → S6 → S7 → α → Prop)
    (hf : ∀ (k : Nat) (self : S1 → S2 → S3 → S4 → S5 → S6 → S7 → Option α) (x1 : S1) (x2 : S2) (x3 : S3) (x4 : S4) (x5 : S5) (x6 : S6) (x7 : S7) (r : α), I k x1 x2 x3 x4 x5 x6 x7 r → (∀ k' y1 y2 y3 y4 y5 y6 y7, k' < k → I k' y1 y2 y3 y4 y5 y6 y7 r → self y1 y2 y3 y4 y5 y6 y7 = some r) → f self x1 x2 x3 x4 x5 x6 x7 = some r) :
    ∀ (m k : Nat) (x1 : S1) (x2 : S2) (x3 : S3) (x4 : S4) (x5 : S5) (x6 : S6) (x7 : S7) (r : α), I k x1 x2 x3 x4 x5 x6 x7 r → k < m → loopR m f b x1 x2 x3 x4 x5 x6 x7 = some r
  | 0, k, x1, x2, x3, x4, x5, x6, x7, r, _, h => absurd h (Nat.not_lt_zero _)
  | m + 1, k, x1, x2, x3, x4, x5, x6, x7, r, hI, h => hf k (loopR m f b) x1 x2 x3 x4 x5 x6 x7 r hI (fun k' y1 y2 y3 y4 y5 y6 y7 hk hI' => loop7 I hf m k' y1 y2 y3 y4 y5 y6 y7 r hI' (by omega))
theorem loop8 {α S1 S2 S3 S4 S5 S6 S7 S8 : Type} {f : (S1 → S2 → S3 → S4 → S5 → S6 → S7 → S8 → Option α) → S1 → S2 → S3 → S4 → S5 → S6 → S7 → S8 → Option α} {b : S1 → S2 → S3 → S4 → S5 → S6 → S7 → S8 → Option α} (I : Nat → S1 → S2 → S3 → S4 → S5 → S6 → S7 → S8 → α → Prop)
    (hf : ∀ (k : Nat) (self : S1 → S2 → S3 → S4 → S5 → S6 → S7 → S8 → Option α) (x1 : S1) (x2 : S2) (x3 : S3) (x4 : S4) (x5 : S5) (x6 : S6) (x7 : S7) (x8 : S8) (r : α), I k x1 x2 x3 x4 x5 x6 x7 x8 r → (∀ k' y1 y2 y3 y4 y5 y6 y7 y8, k' < k → I k' y1 y2 y3 y4 y5 y6 y7 y8 r → self y1 y2 y3 y4 y5 y6 y7 y8 = some r) → f self x1 x2 x3 x4 x5 x6 x7 x8 = some r) :
    ∀ (m k : Nat) (x1 : S1) (x2 : S2) (x3 : S3) (x4 : S4) (x5 : S5) (x6 : S6) (x7 : S7) (x8 : S8) (r : α), I k x1 x2 x3 x4 x5 x6 x7 x8 r → k < m → loopR m f b x1 x2 x3 x4 x5 x6 x7 x8 = some r
  | 0, k, x1, x2, x3, x4, x5, x6, x7, x8, r, _, h => absurd h (Nat.not_lt_zero _)
  | m + 1, k, x1, x2, x3, x4, x5, x6, x7, x8, r, hI, h => hf k (loopR m f b) x1 x2 x3 x4 x5 x6 x7 x8 r hI (fun k' y1 y2 y3 y4 y5 y6 y7 y8 hk hI' => loop8 I hf m k' y1 y2 y3 y4 y5 y6 y7 y8 r hI' (by omega))
theorem loop9 {α S1 S2 S3 S4 S5 S6 S7 S8 S9 : Type} {f : (S1 → S2 → S3 → S4 → S5 → S6 → S7 → S8 → S9 → Option α) → S1 → S2 → S3 → S4 → S5 → S6 → S7 → S8 → S9 → Option α} {b : S1 → S2 → S3 → S4 → S5 → S6 → S7 → S8 → S9 → Option α} (I : Nat → S1 → S2 → S3 → S4 → S5 → S6 → S7 → S8 → S9 → α → Prop)
    (hf : ∀ (k : Nat) (self : S1 → S2 → S3 → S4 → S5 → S6 → S7 → S8 → S9 → Option α) (x1 : S1) (x2 : S2) (x3 : S3) (x4 : S4) (x5 : S5) (x6 : S6) (x7 : S7) (x8 : S8) (x9 : S9) (r : α), I k x1 x2 x3 x4 x5 x6 x7 x8 x9 r → (∀ k' y1 y2 y3 y4 y5 y6 y7 y8 y9, k' < k → I k' y1 y2 y3 y4 y5 y6 y7 y8 y9 r → self y1 y2 y3 y4 y5 y6 y7 y8 y9 = some r) → f self x1 x2 x3 x4 x5 x6 x7 x8 x9 = some r) :
    ∀ (m k : Nat) (x1 : S1) (x2 : S2) (x3 : S3) (x4 : S4) (x5 : S5) (x6 : S6) (x7 : S7) (x8 : S8) (x9 : S9) (r : α), I k x1 x2 x3 x4 x5 x6 x7 x8 x9 r → k < m → loopR m f b x1 x2 x3 x4 x5 x6 x7 x8 x9 = some r
  | 0, k, x1, x2, x3, x4, x5, x6, x7, x8, x9, r, _, h => absurd h (Nat.not_lt_zero _)
  | m + 1, k, x1, x2, x3, x4, x5, x6, x7, x8, x9, r, hI, h => hf k (loopR m f b) x1 x2 x3 x4 x5 x6 x7 x8 x9 r hI (fun k' y1 y2 y3 y4 y5 y6 y7 y8 y9 hk hI' => loop9 I hf m k' y1 y2 y3 y4 y5 y6 y7 y8 y9 r hI' (by omega))
theorem loop10 {α S1 S2 S3 S4 S5 S6 S7 S8 S9 S10 : Type} {f : (S1 → S2 → S3 → S4 → S5 → S6 → S7 → S8 → S9 → S10 → Option α) → S1 → S2 → S3 → S4 → S5 → S6 → S7 → S8 → S9 → S10 → Option α} {b : S1 → S2 → S3 → S4 → S5 → S6 → S7 → S8 → S9 → S10 → Option α} (I : Nat → S1 → S2 → S3 → S4 → S5 → S6 → S7 → S8 → S9 → S10 → α → Prop)
    (hf : ∀ (k : Nat) (self : S1 → S2 → S3 → S4 → S5 → S6 → S7 → S8 → S9 → S10 → Option α) (x1 : S1) (x2 : S2) (x3 : S3) (x4 : S4) (x5 : S5) (x6 : S6) (x7 : S7) (x8 : S8) (x9 : S9) (x10 : S10) (r : α), I k x1 x2 x3 x4 x5 x6 x7 x8 x9 x10 r → (∀ k' y1 y2 y3 y4 y5 y6 y7 y8 y9 y10, k' < k → I k' y1 y2 y3 y4 y5 y6 y7 y8 y9 y10 r → self y1 y2 y3 y4 y5 y6 y7 y8 y9 y10 = some r) → f self x1 x2 x3 x4 x5 x6 x7 x8 x9 x10 = some r) :
    ∀ (m k : Nat) (x1 : S1) (x2 : S2) (x3 : S3) (x4 : S4) (x5 : S5) (x6 : S6) (x7 : S7) (x8 : S8) (x9 : S9) (x10 : S10) (r : α), I k x1 x2 x3 x4 x5 x6 x7 x8 x9 x10 r → k < m → loopR m f b x1 x2 x3 x4 x5 x6 x7 x8 x9 x10 = some r
  | 0, k, x1, x2, x3, x4, x5, x6, x7, x8, x9, x10, r, _, h => absurd h (Nat.not_lt_zero _)
  | m + 1, k, x1, x2, x3, x4, x5, x6, x7, x8, x9, x10, r, hI, h => hf k (loopR m f b) x1 x2 x3 x4 x5 x6 x7 x8 x9 x10 r hI (fun k' y1 y2 y3 y4 y5 y6 y7 y8 y9 y10 hk hI' => loop10 I hf m k' y1 y2 y3 y4 y5 y6 y7 y8 y9 y10 r hI' (by omega))
/-! ### integers -/
theorem add64 {a b : Int} (h : -9223372036854775808 ≤ a + b ∧ a + b ≤ 9223372036854775807) : arith .add .i64 a b = a + b := Go.IntWalk.i64_in _ h
theorem sub64 {a b : Int} (h : -9223372036854775808 ≤ a - b ∧ a - b ≤ 9223372036854775807) : arith .sub .i64 a b = a - b := Go.IntWalk.i64_in _ h
theorem lss_eq (a b : Int) : cmpI .lss a b = decide (a < b) := rfl
theorem leq_eq (a b : Int) : cmpI .leq a b = decide (a ≤ b) := rfl
theorem gtr_eq (a b : Int) : cmpI .gtr a b = decide (a > b) := rfl
theorem geq_eq (a b : Int) : cmpI .geq a b = decide (a ≥ b) := rfl
theorem eql_eq (a b : Int) : cmpI .eql a b = (a == b) := rfl
theorem neq_eq (a b : Int) : cmpI .neq a b = (a != b) := rfl
theorem z64 : Ty.zero (.int .i64) = (0 : Int) := rfl
theorem zBool : Ty.zero .bool = false := rfl
theorem set_one {α : Type} (z x : α) : List.set (List.replicate 1 z) 0 x = [x] := rfl
theorem set_one' {α : Type} (z x : α) : List.set [z] 0 x = [x] := rfl
theorem lssT {a b : Int} (h : a < b) : cmpI .lss a b = true := decide_eq_true h
theorem lssF {a b : Int} (h : ¬ a < b) : ¬ cmpI .lss a b = true := fun e => h (of_decide_eq_true e)
theorem leqT {a b : Int} (h : a ≤ b) : cmpI .leq a b = true := decide_eq_true h
theorem leqF {a b : Int} (h : ¬ a ≤ b) : ¬ cmpI .leq a b = true := fun e => h (of_decide_eq_true e)
theorem gtrT {a b : Int} (h : a > b) : cmpI .gtr a b = true := decide_eq_true h
theorem gtrF {a b : Int} (h : ¬ a > b) : ¬ cmpI .gtr a b = true := fun e => h (of_decide_eq_true e)
theorem geqT {a b : Int} (h : a ≥ b) : cmpI .geq a b = true := decide_eq_true h
theorem geqF {a b : Int} (h : ¬ a ≥ b) : ¬ cmpI .geq a b = true := fun e => h (of_decide_eq_true e)
theorem eqlT {a b : Int} (h : a = b) : cmpI .eql a b = true := by subst h; show (a == a) = true; simp
theorem eqlF {a b : Int} (h : ¬ a = b) : ¬ cmpI .eql a b = true := fun e => h (eq_of_beq e)
theorem neqT {a b : Int} (h : ¬ a = b) : cmpI .neq a b = true := by show (a != b) = true; simpa using h
theorem neqF {a b : Int} (h : a = b) : ¬ cmpI .neq a b = true := by subst h; show ¬ (a != a) = true; simp
theorem decT {p : Prop} [Decidable p] (h : p) : decide p = true := decide_eq_true h
theorem decF {p : Prop} [Decidable p] (h : ¬ p) : ¬ decide p = true := fun e => h (of_decide_eq_true e)
theorem boolT {b : Bool} (h : b = true) : b = true := h
theorem notF {b : Bool} (h : b = true) : ¬ Bool.not b = true := by rw [h]; decide
theorem notT {b : Bool} (h : ¬ b = true) : Bool.not b = true := by cases b <;> simp_all
end Go.Sym

/- Plain laws: loops with many variables. -/
namespace Go.Sym
theorem loop11 {α S1 S2 S3 S4 S5 S6 S7 S8 S9 S10 S11 : Type} {f : (S1 → S2 → S3 → S4 → S5 → S6 → S7 → S8 → S9 → S10 → S11 → Option α) → S1 → S2 → S3 → S4 → S5 → S6 → S7 → S8 → S9 → S10 → S11 → Option α} {b : S1 → S2 → S3 → S4 → S5 → S6 → S7 → S8 → S9 → S10 → S11 → Option α} (I : Nat → S1 → S2 → S3 → S4 → S5 → S6 → S7 → S8 → S9 → S10 → S11 → α → Prop)
    (hf : ∀ (k : Nat) (self : S1 → S2 → S3 → S4 → S5 → S6 → S7 → S8 → S9 → S10 → S11 → Option α) (x1 : S1) (x2 : S2) (x3 : S3) (x4 : S4) (x5 : S5) (x6 : S6) (x7 : S7) (x8 : S8) (x9 : S9) (x10 : S10) (x11 : S11) (r : α), I k x1 x2 x3 x4 x5 x6 x7 x8 x9 x10 x11 r → (∀ k' y1 y2 y3 y4 y5 y6 y7 y8 y9 y10 y11, k' < k → I k' y1 y2 y3 y4 y5 y6 y7 y8 y9 y10 y11 r → self y1 y2 y3 y4 y5 y6 y7 y8 y9 y10 y11 = some r) → f self x1 x2 x3 x4 x5 x6 x7 x8 x9 x10 x11 = some r) :
    ∀ (m k : Nat) (x1 : S1) (x2 : S2) (x3 : S3) (x4 : S4) (x5 : S5) (x6 : S6) (x7 : S7) (x8 : S8) (x9 : S9) (x10 : S10) (x11 : S11) (r : α), I k x1 x2 x3 x4 x5 x6 x7 x8 x9 x10 x11 r → k < m → loopR m f b x1 x2 x3 x4 x5 x6 x7 x8 x9 x10 x11 = some r
  | 0, k, x1, x2, x3, x4, x5, x6, x7, x8, x9, x10, x11, r, _, h => absurd h (Nat.not_lt_zero _)
  | m + 1, k, x1, x2, x3, x4, x5, x6, x7, x8, x9, x10, x11, r, hI, h => hf k (loopR m f b) x1 x2 x3 x4 x5 x6 x7 x8 x9 x10 x11 r hI (fun k' y1 y2 y3 y4 y5 y6 y7 y8 y9 y10 y11 hk hI' => loop11 I hf m k' y1 y2 y3 y4 y5 y6 y7 y8 y9 y10 y11 r hI' (by omega))
theorem loop12 {α S1 S2 S3 S4 S5 S6 S7 S8 S9 S10 S11 S12 : Type} {f : (S1 → S2 → S3 → S4 → S5 → S6 → S7 → S8 → S9 → S10 → S11 → S12 → Option α) → S1 → S2 → S3 → S4 → S5 → S6 → S7 → S8 → S9 → S10 → S11 → S12 → Option α} {b : S1 → S2 → S3 → S4 → S5 → S6 → S7 → S8 → S9 → S10 → S11 → S12 → Option α} (I : Nat → S1 → S2 → S3 → S4 → S5 → S6 → S7 → S8 → S9 → S10 → S11 → S12 → α → Prop)
    (hf : ∀ (k : Nat) (self : S1 → S2 → S3 → S4 → S5 → S6 → S7 → S8 → S9 → S10 → S11 → S12 → Option α) (x1 : S1) (x2 : S2) (x3 : S3) (x4 : S4) (x5 : S5) (x6 : S6) (x7 : S7) (x8 : S8) (x9 : S9) (x10 : S10) (x11 : S11) (x12 : S12) (r : α), I k x1 x2 x3 x4 x5 x6 x7 x8 x9 x10 x11 x12 r → (∀ k' y1 y2 y3 y4 y5 y6 y7 y8 y9 y10 y11 y12, k' < k → I k' y1 y2 y3 y4 y5 y6 y7 y8 y9 y10 y11 y12 r → self y1 y2 y3 y4 y5 y6 y7 y8 y9 y10 y11 y12 = some r) → f self x1 x2 x3 x4 x5 x6 x7 x8 x9 x10 x11 x12 = some r) :
    ∀ (m k : Nat) (x1 : S1) (x2 : S2) (x3 : S3) (x4 : S4) (x5 : S5) (x6 : S6) (x7 : S7) (x8 : S8) (x9 : S9) (x10 : S10) (x11 : S11) (x12 : S12) (r : α), I k x1 x2 x3 x4 x5 x6 x7 x8 x9 x10 x11 x12 r → k < m → loopR m f b x1 x2 x3 x4 x5 x6 x7 x8 x9 x10 x11 x12 = some r
  | 0, k, x1, x2, x3, x4, x5, x6, x7, x8, x9, x10, x11, x12, r, _, h => absurd h (Nat.not_lt_zero _)
  | m + 1, k, x1, x2, x3, x4, x5, x6, x7, x8, x9, x10, x11, x12, r, hI, h => hf k (loopR m f b) x1 x2 x3 x4 x5 x6 x7 x8 x9 x10 x11 x12 r hI (fun k' y1 y2 y3 y4 y5 y6 y7 y8 y9 y10 y11 y12 hk hI' => loop12 I hf m k' y1 y2 y3 y4 y5 y6 y7 y8 y9 y10 y11 y12 r hI' (by omega))
theorem loop13 {α S1 S2 S3 S4 S5 S6 S7 S8 S9 S10 S11 S12 S13 : Type} {f : (S1 → S2 → S3 → S4 → S5 → S6 → S7 → S8 → S9 → S10 → S11 → S12 → S13 → Option α) → S1 → S2 → S3 → S4 → S5 → S6 → S7 → S8 → S9 → S10 → S11 → S12 → S13 → Option α} {b : S1 → S2 → S3 → S4 → S5 → S6 → S7 → S8 → S9 → S10 → S11 → S12 → S13 → Option α} (I : Nat → S1 → S2 → S3 → S4 → S5 → S6 → S7 → S8 → S9 → S10 → S11 → S12 → S13 → α → Prop)
    (hf : ∀ (k : Nat) (self : S1 → S2 → S3 → S4 → S5 → S6 → S7 → S8 → S9 → S10 → S11 → S12 → S13 → Option α) (x1 : S1) (x2 : S2) (x3 : S3) (x4 : S4) (x5 : S5) (x6 : S6) (x7 : S7) (x8 : S8) (x9 : S9) (x10 : S10) (x11 : S11) (x12 : S12) (x13 : S13) (r : α), I k x1 x2 x3 x4 x5 x6 x7 x8 x9 x10 x11 x12 x13 r → (∀ k' y1 y2 y3 y4 y5 y6 y7 y8 y9 y10 y11 y12 y13, k' < k → I k' y1 y2 y3 y4 y5 y6 y7 y8 y9 y10 y11 y12 y13 r → self y1 y2 y3 y4 y5 y6 y7 y8 y9 y10 y11 y12 y13 = some r) → f self x1 x2 x3 x4 x5 x6 x7 x8 x9 x10 x11 x12 x13 = some r) :
    ∀ (m k : Nat) (x1 : S1) (x2 : S2) (x3 : S3) (x4 : S4) (x5 : S5) (x6 : S6) (x7 : S7) (x8 : S8) (x9 : S9) (x10 : S10) (x11 : S11) (x12 : S12) (x13 : S13) (r : α), I k x1 x2 x3 x4 x5 x6 x7 x8 x9 x10 x11 x12 x13 r → k < m → loopR m f b x1 x2 x3 x4 x5 x6 x7 x8 x9 x10 x11 x12 x13 = some r
  | 0, k, x1, x2, x3, x4, x5, x6, x7, x8, x9, x10, x11, x12, x13, r, _, h => absurd h (Nat.not_lt_zero _)
  | m + 1, k, x1, x2, x3, x4, x5, x6, x7, x8, x9, x10, x11, x12, x13, r, hI, h => hf k (loopR m f b) x1 x2 x3 x4 x5 x6 x7 x8 x9 x10 x11 x12 x13 r hI (fun k' y1 y2 y3 y4 y5 y6 y7 y8 y9 y10 y11 y12 y13 hk hI' => loop13 I hf m k' y1 y2 y3 y4 y5 y6 y7 y8 y9 y10 y11 y12 y13 r hI' (by omega))
theorem loop14 {α S1 S2 S3 S4 S5 S6 S7 S8 S9 S10 S11 S12 S13 S14 : Type} {f : (S1 → S2 → S3 → S4 → S5 → S6 → S7 → S8 → S9 → S10 → S11 → S12 → S13 → S14 → Option α) → S1 → S2 → S3 → S4 → S5 → S6 → S7 → S8 → S9 → S10 → S11 → S12 → S13 → S14 → Option α} {b : S1 → S2 → S3 → S4 → S5 → S6 → S7 → S8 → S9 → S10 → S11 → S12 → S13 → S14 → Option α} (I : Nat → S1 → S2 → S3 → S4 → S5 → S6 → S7 → S8 → S9 → S10 → S11 → S12 → S13 → S14 → α → Prop)
    (hf : ∀ (k : Nat) (self : S1 → S2 → S3 → S4 → S5 → S6 → S7 → S8 → S9 → S10 → S11 → S12 → S13 → S14 → Option α) (x1 : S1) (x2 : S2) (x3 : S3) (x4 : S4) (x5 : S5) (x6 : S6) (x7 : S7) (x8 : S8) (x9 : S9) (x10 : S10) (x11 : S11) (x12 : S12) (x13 : S13) (x14 : S14) (r : α), I k x1 x2 x3 x4 x5 x6 x7 x8 x9 x10 x11 x12 x13 x14 r → (∀ k' y1 y2 y3 y4 y5 y6 y7 y8 y9 y10 y11 y12 y13 y14, k' < k → I k' y1 y2 y3 y4 y5 y6 y7 y8 y9 y10 y11 y12 y13 y14 r → self y1 y2 y3 y4 y5 y6 y7 y8 y9 y10 y11 y12 y13 y14 = some r) → f self x1 x2 x3 x4 x5 x6 x7 x8 x9 x10 x11 x12 x13 x14 = some r) :
    ∀ (m k : Nat) (x1 : S1) (x2 : S2) (x3 : S3) (x4 : S4) (x5 : S5) (x6 : S6) (x7 : S7) (x8 : S8) (x9 : S9) (x10 : S10) (x11 : S11) (x12 : S12) (x13 : S13) (x14 : S14) (r : α), I k x1 x2 x3 x4 x5 x6 x7 x8 x9 x10 x11 x12 x13 x14 r → k < m → loopR m f b x1 x2 x3 x4 x5 x6 x7 x8 x9 x10 x11 x12 x13 x14 = some r
  | 0, k, x1, x2, x3, x4, x5, x6, x7, x8, x9, x10, x11, x12, x13, x14, r, _, h => absurd h (Nat.not_lt_zero _)
  | m + 1, k, x1, x2, x3, x4, x5, x6, x7, x8, x9, x10, x11, x12, x13, x14, r, hI, h => hf k (loopR m f b) x1 x2 x3 x4 x5 x6 x7 x8 x9 x10 x11 x12 x13 x14 r hI (fun k' y1 y2 y3 y4 y5 y6 y7 y8 y9 y10 y11 y12 y13 y14 hk hI' => loop14 I hf m k' y1 y2 y3 y4 y5 y6 y7 y8 y9 y10 y11 y12 y13 y14 r hI' (by omega))
end Go.Sym

/- Plain laws: a disk: sectors that are durable, and writes that are pending. -/
namespace Go.Sym
abbrev Sc : Type := List Int
abbrev Pw : Type := Int × (List Int × Unit)
abbrev Tl : Type := Bool × (Bool × (Int × (List Sc × List Pw)))
def zSc : Sc := List.replicate 64 (0 : Int)
def pad (b : List Int) : Sc := b.take (min b.length 64) ++ zSc.drop (0 + min b.length 64)
theorem zSc_len : zSc.length = 64 := List.length_replicate
theorem pad_len (b : List Int) : (pad b).length = 64 := by
  unfold pad
  rw [List.length_append, List.length_take, List.length_drop, zSc_len]
  omega
theorem pad_take {b : List Int} (h : b.length ≤ 64) : (pad b).take b.length = b := by
  unfold pad
  rw [Nat.min_eq_left h, List.take_length, List.take_left]
def checkM (on : Bool) (n : Nat) (p : Int) : Int := if on = true then (if p < 0 ∨ p ≥ (n : Int) then 6 else 0) else 10
def failsM (on ar : Bool) (lf : Int) : Bool × (Bool × (Bool × Int)) := if ar = true then (if lf > 0 then (false, on, ar, lf - 1) else (true, false, false, lf)) else (false, on, ar, lf)
/-- All sectors have their size, all writes a sector. -/
structure DOk (ds : List Sc) (ws : List Pw) : Prop where
  len : ds.length ≤ 8192
  sec : ∀ s ∈ ds, s.length = 64
  wr : ∀ x ∈ ws, 0 ≤ x.1 ∧ x.1 < ds.length ∧ x.2.1.length = 64
  wl : ws.length ≤ 1000000
def writeM (p : Int) (b : List Int) (on ar : Bool) (lf : Int) (ds : List Sc) (ws : List Pw) : Int × Tl :=
  if checkM on ds.length p = 0 then
    if b.length ≤ 64 then
      if (failsM on ar lf).1 = true then (10, (failsM on ar lf).2.1, (failsM on ar lf).2.2.1, (failsM on ar lf).2.2.2, ds, ws)
      else (0, (failsM on ar lf).2.1, (failsM on ar lf).2.2.1, (failsM on ar lf).2.2.2, ds, ws ++ [(p, pad b, ())])
    else (4, on, ar, lf, ds, ws)
  else (checkM on ds.length p, on, ar, lf, ds, ws)
/-- What is seen of a sector. -/
def seen (s : Sc) (p : Int) (ws : List Pw) : Sc := ws.foldl (fun s x => if x.1 = p then x.2.1 else s) s
def readM (p : Int) (on ar : Bool) (lf : Int) (ds : List Sc) (ws : List Pw) : Int × (Bool × (Bool × (Int × (List Int × (List Sc × List Pw))))) :=
  if checkM on ds.length p = 0 then (0, on, ar, lf, seen (ds.getD p.toNat zSc) p ws, ds, ws) else (checkM on ds.length p, on, ar, lf, [], ds, ws)
def flushed (ds : List Sc) (ws : List Pw) : List Sc := ws.foldl (fun d x => d.set x.1.toNat x.2.1) ds
def flushM (on ar : Bool) (lf : Int) (ds : List Sc) (ws : List Pw) : Int × Tl :=
  if on = true then
    if (failsM on ar lf).1 = true then (10, (failsM on ar lf).2.1, (failsM on ar lf).2.2.1, (failsM on ar lf).2.2.2, ds, ws)
    else (0, (failsM on ar lf).2.1, (failsM on ar lf).2.2.1, (failsM on ar lf).2.2.2, flushed ds ws, [])
  else (10, on, ar, lf, ds, ws)
/-- Does pending write i survive? -/
def surv (keep : Int) (i : Int) : Bool := cmpI .eql (arith .and .u64 (arith .shr .u64 keep (mm false i 63)) 1) 1
def lastS (keep : Int) : Nat → Nat → Int → Int
  | 0, _, l => l
  | k + 1, i, l => lastS keep k (i + 1) (if surv keep i = true then (i : Int) else l)
def sizeS (last torn i : Int) : Int := if i = last ∧ torn ≥ 0 ∧ torn < 64 then torn else 64
def crashed (keep torn last : Int) : Nat → List Sc → List Pw → List Sc
  | _, ds, [] => ds
  | i, ds, x :: ws => crashed keep torn last (i + 1) (if surv keep i = true then ds.set x.1.toNat (x.2.1.take (sizeS last torn i).toNat ++ (ds.getD x.1.toNat zSc).drop (sizeS last torn i).toNat) else ds) ws
theorem flushed_len : ∀ (ws : List Pw) (ds : List Sc), (flushed ds ws).length = ds.length
  | [], _ => rfl
  | x :: ws, ds => by
    show (flushed (ds.set x.1.toNat x.2.1) ws).length = _
    rw [flushed_len ws, List.length_set]
theorem flushed_snoc (ds : List Sc) (ws : List Pw) (x : Pw) : flushed ds (ws ++ [x]) = (flushed ds ws).set x.1.toNat x.2.1 := by unfold flushed; rw [List.foldl_append]; rfl
theorem seen_snoc (s : Sc) (p : Int) (ws : List Pw) (x : Pw) : seen s p (ws ++ [x]) = if x.1 = p then x.2.1 else seen s p ws := by unfold seen; rw [List.foldl_append]; rfl
theorem seen_len {s : Sc} (hs : s.length = 64) {p : Int} : ∀ (ws : List Pw), (∀ x ∈ ws, x.2.1.length = 64) → (seen s p ws).length = 64
  | [], _ => hs
  | x :: ws, h => by
    show (seen (if x.1 = p then x.2.1 else s) p ws).length = 64
    refine seen_len ?_ ws (fun y hy => h y (List.mem_cons_of_mem _ hy))
    split
    · exact h x (List.mem_cons_self ..)
    · exact hs
theorem getD_mem' {ds : List Sc} {i : Nat} (h : i < ds.length) : ds.getD i zSc ∈ ds := by
  rw [List.getD_eq_getElem?_getD, List.getElem?_eq_getElem h]
  exact List.getElem_mem h
theorem getD_sec {ds : List Sc} (hs : ∀ s ∈ ds, s.length = 64) (i : Nat) : (ds.getD i zSc).length = 64 := by
  rcases Nat.lt_or_ge i ds.length with h | h
  · exact hs _ (getD_mem' h)
  · rw [List.getD_eq_getElem?_getD, List.getElem?_eq_none h]
    exact zSc_len
theorem set_sec {ds : List Sc} (hs : ∀ s ∈ ds, s.length = 64) {i : Nat} {x : Sc} (hx : x.length = 64) : ∀ s ∈ ds.set i x, s.length = 64 := by
  intro s h
  rcases List.mem_or_eq_of_mem_set h with h | h
  · exact hs s h
  · rw [h]
    exact hx
theorem flushed_sec : ∀ (ws : List Pw) (ds : List Sc), (∀ s ∈ ds, s.length = 64) → (∀ x ∈ ws, x.2.1.length = 64) → ∀ s ∈ flushed ds ws, s.length = 64
  | [], _, h, _ => h
  | x :: ws, ds, h, hw => flushed_sec ws (ds.set x.1.toNat x.2.1) (set_sec h (hw x (List.mem_cons_self ..))) (fun y hy => hw y (List.mem_cons_of_mem _ hy))
theorem sizeS_rng (last torn i : Int) : 0 ≤ sizeS last torn i ∧ sizeS last torn i ≤ 64 := by
  unfold sizeS
  split <;> omega
theorem crashed_ok : ∀ (ws : List Pw) (i : Nat) (ds : List Sc) (keep torn last : Int), (∀ s ∈ ds, s.length = 64) → (∀ x ∈ ws, x.2.1.length = 64) → (crashed keep torn last i ds ws).length = ds.length ∧ ∀ s ∈ crashed keep torn last i ds ws, s.length = 64
  | [], _, _, _, _, _, h, _ => ⟨rfl, h⟩
  | x :: ws, i, ds, keep, torn, last, h, hw => by
    have hx := hw x (List.mem_cons_self ..)
    have hr := sizeS_rng last torn i
    have hg := getD_sec h x.1.toNat
    unfold crashed
    obtain ⟨h1, h2⟩ := crashed_ok ws (i + 1) (if surv keep i = true then ds.set x.1.toNat (x.2.1.take (sizeS last torn i).toNat ++ (ds.getD x.1.toNat zSc).drop (sizeS last torn i).toNat) else ds) keep torn last (by
      split
      · exact set_sec h (by rw [List.length_append, List.length_take, List.length_drop]; omega)
      · exact h) (fun y hy => hw y (List.mem_cons_of_mem _ hy))
    refine ⟨?_, h2⟩
    rw [h1]
    split
    · rw [List.length_set]
    · rfl
end Go.Sym

/- Plain laws: what becomes of sectors. -/
namespace Go.Sym
/-- A call of the law's lists. -/
abbrev Oq : Type := Int × (Int × (Int × Pw))
def smallM (x k : Int) : Int := if cmpI .eql (arith .and .i64 x 15) 15 = true then x else arith .rem .i64 (arith .and .i64 x 65535) k
def fitsM (l : List Oq) (most : Int) : Bool := decide ((l.length : Int) ≤ most) && l.all fun x => decide (x.2.2.2.2.1.length ≤ 80)
/-- A write to a disk of n sectors that is online and not armed. -/
def app1 (n : Nat) (ws : List Pw) (p : Int) (b : List Int) : List Pw := if (0 ≤ p ∧ p < (n : Int)) ∧ b.length ≤ 64 then ws ++ [(p, pad b, ())] else ws
def wrs (n : Nat) (l : List Oq) (ws : List Pw) : List Pw := l.foldl (fun ws o => app1 n ws (smallM o.2.1 n) o.2.2.2.2.1) ws
theorem wrs_snoc (n : Nat) (l : List Oq) (o : Oq) (ws : List Pw) : wrs n (l ++ [o]) ws = app1 n (wrs n l ws) (smallM o.2.1 n) o.2.2.2.2.1 := by unfold wrs; rw [List.foldl_append]; rfl
theorem writeM_app {p : Int} {b : List Int} {lf : Int} {ds : List Sc} {ws : List Pw} :
    writeM p b true false lf ds ws = ((writeM p b true false lf ds ws).1, true, false, lf, ds, app1 ds.length ws p b) ∧ ((writeM p b true false lf ds ws).1 = 0 ↔ (0 ≤ p ∧ p < (ds.length : Int)) ∧ b.length ≤ 64) := by
  have hc : checkM true ds.length p = if p < 0 ∨ p ≥ (ds.length : Int) then 6 else 0 := rfl
  unfold writeM app1
  rw [hc]
  by_cases h1 : 0 ≤ p ∧ p < (ds.length : Int)
  · rw [if_neg (show ¬ (p < 0 ∨ p ≥ (ds.length : Int)) by omega), if_pos rfl]
    by_cases h2 : b.length ≤ 64
    · rw [if_pos h2, if_pos (show (0 ≤ p ∧ p < (ds.length : Int)) ∧ b.length ≤ 64 from ⟨h1, h2⟩)]
      exact ⟨rfl, fun _ => ⟨h1, h2⟩, fun _ => rfl⟩
    · rw [if_neg h2, if_neg (fun h => h2 h.2)]
      exact ⟨rfl, fun h => (by cases h), fun h => absurd h.2 h2⟩
  · rw [if_pos (show p < 0 ∨ p ≥ (ds.length : Int) by omega), if_neg (show ¬ (6 : Int) = 0 by decide), if_neg (fun h => h1 h.1)]
    exact ⟨rfl, fun h => (by cases h), fun h => absurd h.1 h1⟩
theorem app1_ok {ds : List Sc} {ws : List Pw} (h : DOk ds ws) {p : Int} {b : List Int} (hl : ws.length < 1000000) : DOk ds (app1 ds.length ws p b) ∧ (app1 ds.length ws p b).length ≤ ws.length + 1 := by
  unfold app1
  split
  · rename_i hc
    refine ⟨⟨h.len, h.sec, fun x hx => ?_, by rw [List.length_append, List.length_singleton]; omega⟩, by rw [List.length_append, List.length_singleton]; omega⟩
    rcases List.mem_append.1 hx with hx | hx
    · exact h.wr x hx
    · rw [List.mem_singleton] at hx
      rw [hx]
      exact ⟨hc.1.1, hc.1.2, pad_len b⟩
  · exact ⟨h, by omega⟩
theorem wrs_ok {ds : List Sc} : ∀ (l : List Oq) (ws : List Pw), DOk ds ws → ws.length + l.length ≤ 1000 → DOk ds (wrs ds.length l ws) ∧ (wrs ds.length l ws).length ≤ ws.length + l.length
  | [], ws, h, _ => ⟨h, by show ws.length ≤ ws.length + 0; omega⟩
  | o :: l, ws, h, hl => by
    rw [List.length_cons] at hl
    obtain ⟨h1, h2⟩ := app1_ok h (p := smallM o.2.1 ds.length) (b := o.2.2.2.2.1) (by omega)
    obtain ⟨h3, h4⟩ := wrs_ok l (app1 ds.length ws (smallM o.2.1 ds.length) o.2.2.2.2.1) h1 (by omega)
    exact ⟨h3, by rw [List.length_cons]; show (wrs ds.length l (app1 ds.length ws (smallM o.2.1 ds.length) o.2.2.2.2.1)).length ≤ _; omega⟩
theorem flushed_get {p : Nat} : ∀ (ws : List Pw) (ds : List Sc), (∀ x ∈ ws, 0 ≤ x.1) → p < ds.length → (flushed ds ws).getD p zSc = seen (ds.getD p zSc) (p : Int) ws
  | [], _, _, _ => rfl
  | x :: ws, ds, h, hp => by
    have h0 := h x (List.mem_cons_self ..)
    show (flushed (ds.set x.1.toNat x.2.1) ws).getD p zSc = seen (if x.1 = (p : Int) then x.2.1 else ds.getD p zSc) (p : Int) ws
    rw [flushed_get ws _ (fun y hy => h y (List.mem_cons_of_mem _ hy)) (by rw [List.length_set]; exact hp)]
    congr 1
    rw [List.getD_eq_getElem?_getD, List.getElem?_set, List.getD_eq_getElem?_getD]
    by_cases e : x.1 = (p : Int)
    · rw [if_pos (by omega), if_pos (by omega), if_pos e]
      rfl
    · rw [if_neg (by omega), if_neg e]
/-- A sector that no pending write names keeps what it holds in a crash. -/
theorem crashed_keep {p : Nat} {keep torn last : Int} : ∀ (ws : List Pw) (i : Nat) (ds : List Sc), (∀ x ∈ ws, 0 ≤ x.1 ∧ x.1 ≠ (p : Int)) → (crashed keep torn last i ds ws).getD p zSc = ds.getD p zSc
  | [], _, _, _ => rfl
  | x :: ws, i, ds, h => by
    obtain ⟨h0, h1⟩ := h x (List.mem_cons_self ..)
    unfold crashed
    rw [crashed_keep ws _ _ (fun y hy => h y (List.mem_cons_of_mem _ hy))]
    split
    · rw [List.getD_eq_getElem?_getD, List.getElem?_set, if_neg (by omega), List.getD_eq_getElem?_getD]
    · rfl
theorem crashed_all {keep last : Int} : ∀ (ws : List Pw) (i : Nat) (ds : List Sc), (∀ x ∈ ws, x.2.1.length = 64) → (∀ s ∈ ds, s.length = 64) → (∀ j, j < i + ws.length → surv keep (j : Int) = true) → crashed keep (-1) last i ds ws = flushed ds ws
  | [], _, _, _, _, _ => rfl
  | x :: ws, i, ds, h, hd, hs => by
    have hx := h x (List.mem_cons_self ..)
    have hg := getD_sec hd x.1.toNat
    have e : sizeS last (-1) (i : Int) = 64 := by
      unfold sizeS
      rw [if_neg (fun h => absurd h.2.1 (by decide))]
    unfold crashed
    rw [hs i (by rw [List.length_cons]; omega), if_pos rfl, e]
    have e2 : x.2.1.take (Int.toNat 64) ++ (ds.getD x.1.toNat zSc).drop (Int.toNat 64) = x.2.1 := by
      show x.2.1.take 64 ++ (ds.getD x.1.toNat zSc).drop 64 = x.2.1
      rw [List.take_of_length_le (by omega), List.drop_of_length_le (by omega), List.append_nil]
    rw [e2]
    exact crashed_all ws (i + 1) _ (fun y hy => h y (List.mem_cons_of_mem _ hy)) (set_sec hd hx) (fun j hj => hs j (by rw [List.length_cons]; omega))
theorem crashed_none {keep torn last : Int} : ∀ (ws : List Pw) (i : Nat) (ds : List Sc), (∀ j : Nat, surv keep (j : Int) = false) → crashed keep torn last i ds ws = ds
  | [], _, _, _ => rfl
  | x :: ws, i, ds, hs => by
    unfold crashed
    rw [hs i, if_neg (by decide)]
    exact crashed_none ws (i + 1) ds hs
theorem surv_zero (i : Nat) : surv 0 (i : Int) = false := by
  have h : arith .shr .u64 0 (mm false (i : Int) 63) = 0 := Int.zero_fdiv ((2 : Int) ^ (min (mm false (i : Int) 63).toNat (IntKind.bits .u64)))
  unfold surv
  rw [h]
  rfl
theorem surv_all : ∀ i : Nat, i < 64 → surv 18446744073709551615 (i : Int) = true := by
  have h : (List.range 64).all (fun i => surv 18446744073709551615 (i : Int)) = true := by decide +kernel
  intro i hi
  exact List.all_eq_true.1 h i (List.mem_range.2 hi)
end Go.Sym
