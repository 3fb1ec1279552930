/- Plain laws. -/
import Derived.Test.YtbhnbgelkemhiaaSymE
import Derived.IntWalk
set_option linter.unusedVariables false
/- Plain laws: loops with fuel, what answers from some fuel on, and integers. -/
namespace Go.Sym
/-- From some fuel on it answers y. -/
def Ans {α : Type} (x : Nat → Option α) (y : α) : Prop := ∃ N, ∀ n, N ≤ n → x n = some y
theorem Ans.of {α : Type} {x : Nat → Option α} {y : α} (h : ∀ n, x n = some y) : Ans x y := ⟨0, fun n _ => h n⟩
theorem Ans.step {α : Type} {x x' : Nat → Option α} {y : α} (h : Ans x' y) (e : ∀ n, x (n + 1) = x' n) : Ans x y := by
  obtain ⟨N, h⟩ := h
  refine ⟨N + 1, fun n hn => ?_⟩
  obtain ⟨m, rfl⟩ : ∃ m, n = m + 1 := ⟨n - 1, by omega⟩
  rw [e]
  exact h m (by omega)
/-- All of a list's, from one fuel on. -/
theorem Ans.all {α β : Type} {x : β → Nat → Option α} {y : β → α} : ∀ (l : List β), (∀ b ∈ l, Ans (x b) (y b)) → ∃ N, ∀ n, N ≤ n → ∀ b ∈ l, x b n = some (y b)
  | [], _ => ⟨0, fun n _ b hb => by cases hb⟩
  | c :: l, h => by
    obtain ⟨N, h1⟩ := h c (List.mem_cons_self ..)
    obtain ⟨M, h2⟩ := Ans.all l (fun b hb => h b (List.mem_cons_of_mem _ hb))
    refine ⟨N + M, fun n hn b hb => ?_⟩
    cases hb with
    | head => exact h1 n (by omega)
    | tail _ hb => exact h2 n (by omega) b hb
theorem loop1 {α S1 : Type} {f : (S1 → Option α) → S1 → Option α} {b : S1 → Option α} (I : Nat → S1 → α → Prop)
    (hf : ∀ (k : Nat) (self : S1 → Option α) (x1 : S1) (r : α), I k x1 r → (∀ k' y1, k' < k → I k' y1 r → self y1 = some r) → f self x1 = some r) :
    ∀ (m k : Nat) (x1 : S1) (r : α), I k x1 r → k < m → loopR m f b x1 = some r
  | 0, k, x1, r, _, h => absurd h (Nat.not_lt_zero _)
  | m + 1, k, x1, r, hI, h => hf k (loopR m f b) x1 r hI (fun k' y1 hk hI' => loop1 I hf m k' y1 r hI' (by omega))
theorem loop2 {α S1 S2 : Type} {f : (S1 → S2 → Option α) → S1 → S2 → Option α} {b : S1 → S2 → Option α} (I : Nat → S1 → S2 → α → Prop)
    (hf : ∀ (k : Nat) (self : S1 → S2 → Option α) (x1 : S1) (x2 : S2) (r : α), I k x1 x2 r → (∀ k' y1 y2, k' < k → I k' y1 y2 r → self y1 y2 = some r) → f self x1 x2 = some r) :
    ∀ (m k : Nat) (x1 : S1) (x2 : S2) (r : α), I k x1 x2 r → k < m → loopR m f b x1 x2 = some r
  | 0, k, x1, x2, r, _, h => absurd h (Nat.not_lt_zero _)
  | m + 1, k, x1, x2, r, hI, h => hf k (loopR m f b) x1 x2 r hI (fun k' y1 y2 hk hI' => loop2 I hf m k' y1 y2 r hI' (by omega))
theorem loop3 {α S1 S2 S3 : Type} {f : (S1 → S2 → S3 → Option α) → S1 → S2 → S3 → Option α} {b : S1 → S2 → S3 → Option α} (I : Nat → S1 → S2 → S3 → α → Prop)
    (hf : ∀ (k : Nat) (self : S1 → S2 → S3 → Option α) (x1 : S1) (x2 : S2) (x3 : S3) (r : α), I k x1 x2 x3 r → (∀ k' y1 y2 y3, k' < k → I k' y1 y2 y3 r → self y1 y2 y3 = some r) → f self x1 x2 x3 = some r) :
    ∀ (m k : Nat) (x1 : S1) (x2 : S2) (x3 : S3) (r : α), I k x1 x2 x3 r → k < m → loopR m f b x1 x2 x3 = some r
  | 0, k, x1, x2, x3, r, _, h => absurd h (Nat.not_lt_zero _)
  | m + 1, k, x1, x2, x3, r, hI, h => hf k (loopR m f b) x1 x2 x3 r hI (fun k' y1 y2 y3 hk hI' => loop3 I hf m k' y1 y2 y3 r hI' (by omega))
theorem loop4 {α S1 S2 S3 S4 : Type} {f : (S1 → S2 → S3 → S4 → Option α) → S1 → S2 → S3 → S4 → Option α} {b : S1 → S2 → S3 → S4 → Option α} (I : Nat → S1 → S2 → S3 → S4 → α → Prop)
    (hf : ∀ (k : Nat) (self : S1 → S2 → S3 → S4 → Option α) (x1 : S1) (x2 : S2) (x3 : S3) (x4 : S4) (r : α), I k x1 x2 x3 x4 r → (∀ k' y1 y2 y3 y4, k' < k → I k' y1 y2 y3 y4 r → self y1 y2 y3 y4 = some r) → f self x1 x2 x3 x4 = some r) :
    ∀ (m k : Nat) (x1 : S1) (x2 : S2) (x3 : S3) (x4 : S4) (r : α), I k x1 x2 x3 x4 r → k < m → loopR m f b x1 x2 x3 x4 = some r
  | 0, k, x1, x2, x3, x4, r, _, h => absurd h (Nat.not_lt_zero _)
  | m + 1, k, x1, x2, x3, x4, r, hI, h => hf k (loopR m f b) x1 x2 x3 x4 r hI (fun k' y1 y2 y3 y4 hk hI' => loop4 I hf m k' y1 y2 y3 y4 r hI' (by omega))
theorem loop5 {α S1 S2 S3 S4 S5 : Type} {f : (S1 → S2 → S3 → S4 → S5 → Option α) → S1 → S2 → S3 → S4 → S5 → Option α} {b : S1 → S2 → S3 → S4 → S5 → Option α} (I : Nat → S1 → S2 → S3 → S4 → S5 → α → Prop)
    (hf : ∀ (k : Nat) (self : S1 → S2 → S3 → S4 → S5 → Option α) (x1 : S1) (x2 : S2) (x3 : S3) (x4 : S4) (x5 : S5) (r : α), I k x1 x2 x3 x4 x5 r → (∀ k' y1 y2 y3 y4 y5, k' < k → I k' y1 y2 y3 y4 y5 r → self y1 y2 y3 y4 y5 = some r) → f self x1 x2 x3 x4 x5 = some r) :
    ∀ (m k : Nat) (x1 : S1) (x2 : S2) (x3 : S3) (x4 : S4) (x5 : S5) (r : α), I k x1 x2 x3 x4 x5 r → k < m → loopR m f b x1 x2 x3 x4 x5 = some r
  | 0, k, x1, x2, x3, x4, x5, r, _, h => absurd h (Nat.not_lt_zero _)
  | m + 1, k, x1, x2, x3, x4, x5, r, hI, h => hf k (loopR m f b) x1 x2 x3 x4 x5 r hI (fun k' y1 y2 y3 y4 y5 hk hI' => loop5 I hf m k' y1 y2 y3 y4 y5 r hI' (by omega))
theorem loop6 {α S1 S2 S3 S4 S5 S6 : Type} {f : (S1 → S2 → S3 → S4 → S5 → S6 → Option α) → S1 → S2 → S3 → S4 → S5 → S6 → Option α} {b : S1 → S2 → S3 → S4 → S5 → S6 → Option α} (I : Nat → S1 → S2 → S3 → S4 → S5 → S6 → α → Prop)
    (hf : ∀ (k : Nat) (self : S1 → S2 → S3 → S4 → S5 → S6 → Option α) (x1 : S1) (x2 : S2) (x3 : S3) (x4 : S4) (x5 : S5) (x6 : S6) (r : α), I k x1 x2 x3 x4 x5 x6 r → (∀ k' y1 y2 y3 y4 y5 y6, k' < k → I k' y1 y2 y3 y4 y5 y6 r → self y1 y2 y3 y4 y5 y6 = some r) → f self x1 x2 x3 x4 x5 x6 = some r) :
    ∀ (m k : Nat) (x1 : S1) (x2 : S2) (x3 : S3) (x4 : S4) (x5 : S5) (x6 : S6) (r : α), I k x1 x2 x3 x4 x5 x6 r → k < m → loopR m f b x1 x2 x3 x4 x5 x6 = some r
  | 0, k, x1, x2, x3, x4, x5, x6, r, _, h => absurd h (Nat.not_lt_zero _)
  | m + 1, k, x1, x2, x3, x4, x5, x6, r, hI, h => hf k (loopR m f b) x1 x2 x3 x4 x5 x6 r hI (fun k' y1 y2 y3 y4 y5 y6 hk hI' => loop6 I hf m k' y1 y2 y3 y4 y5 y6 r hI' (by omega))
theorem loop7 {α S1 S2 S3 S4 S5 S6 S7 : Type} {f : (S1 → S2 → S3 → S4 → S5 → S6 → S7 → Option α) → S1 → S2 → S3 → S4 → S5 → S6 → S7 → Option α} {b : S1 → S2 → S3 → S4 → S5 → S6 → S7 → Option α} (I : Nat → S1 → S2 → S3 → S4 → S5 → S6 → S7 → α → Prop)
    (hf : ∀ (k : Nat) (self : S1 → S2 → S3 → S4 → S5 → S6 → S7 → Option α) (x1 : S1) (x2 : S2) (x3 : S3) (x4 : S4) (x5 : S5) (x6 : S6) (x7 : S7) (r : α), I k x1 x2 x3 x4 x5 x6 x7 r → (∀ k' y1 y2 y3 y4 y5 y6 y7, k' < k → I k' y1 y2 y3 y4 y5 y6 y7 r → self y1 y2 y3 y4 y5 y6 y7 = some r) → f self x1 x2 x3 x4 x5 x6 x7 = some r) :
    ∀ (m k : Nat) (x1 : S1) (x2 : S2) (x3 : S3) (x4 : S4) (x5 : S5) (x6 : S6) (x7 : S7) (r : α), I k x1 x2 x3 x4 x5 x6 x7 r → k < m → loopR m f b x1 x2 x3 x4 x5 x6 x7 = some r
  | 0, k, x1, x2, x3, x4, x5, x6, x7, r, _, h => absurd h (Nat.not_lt_zero _)
  | m + 1, k, x1, x2, x3, x4, x5, x6, x7, r, hI, h => hf k (loopR m f b) x1 x2 x3 x4 x5 x6 x7 r hI (fun k' y1 y2 y3 y4 y5 y6 y7 hk hI' => loop7 I hf m k' y1 y2 y3 y4 y5 y6 y7 r hI' (by omega))
theorem loop8 {α S1 S2 S3 S4 S5 S6 S7 S8 : Type} {f : (S1 → S2 → S3 → S4 → S5 → S6 → S7 → S8 → Option α) → S1 → S2 → S3 → S4 → S5 → S6 → S7 → S8 → Option α} {b : S1 → S2 → S3 → S4 → S5 → S6 → S7 → S8 → Option α} (I : Nat → S1 → S2 → S3 → S4 → S5 → S6 → S7 → S8 → α → Prop)
    (hf : ∀ (k : Nat) (self : S1 → S2 → S3 → S4 → S5 → S6 → S7 → S8 → Option α) (x1 : S1) (x2 : S2) (x3 : S3) (x4 : S4) (x5 : S5) (x6 : S6) (x7 : S7) (x8 : S8) (r : α), I k x1 x2 x3 x4 x5 x6 x7 x8 r → (∀ k' y1 y2 y3 y4 y5 y6 y7 y8, k' < k → I k' y1 y2 y3 y4 y5 y6 y7 y8 r → self y1 y2 y3 y4 y5 y6 y7 y8 = some r) → f self x1 x2 x3 x4 x5 x6 x7 x8 = some r) :
    ∀ (m k : Nat) (x1 : S1) (x2 : S2) (x3 : S3) (x4 : S4) (x5 : S5) (x6 : S6) (x7 : S7) (x8 : S8) (r : α), I k x1 x2 x3 x4 x5 x6 x7 x8 r → k < m → loopR m f b x1 x2 x3 x4 x5 x6 x7 x8 = some r
  | 0, k, x1, x2, x3, x4, x5, x6, x7, x8, r, _, h => absurd h (Nat.not_lt_zero _)
  | m + 1, k, x1, x2, x3, x4, x5, x6, x7, x8, r, hI, h => hf k (loopR m f b) x1 x2 x3 x4 x5 x6 x7 x8 r hI (fun k' y1 y2 y3 y4 y5 y6 y7 y8 hk hI' => loop8 I hf m k' y1 y2 y3 y4 y5 y6 y7 y8 r hI' (by omega))
theorem loop9 {α S1 S2 S3 S4 S5 S6 S7 S8 S9 : Type} {f : (S1 → S2 → S3 → S4 → S5 → S6 → S7 → S8 → S9 → Option α) → S1 → S2 → S3 → S4 → S5 → S6 → S7 → S8 → S9 → Option α} {b : S1 → S2 → S3 → S4 → S5 → S6 → S7 → S8 → S9 → Option α} (I : Nat → S1 → S2 → S3 → S4 → S5 → S6 → S7 → S8 → S9 → α → Prop)
    (hf : ∀ (k : Nat) (self : S1 → S2 → S3 → S4 → S5 → S6 → S7 → S8 → S9 → Option α) (x1 : S1) (x2 : S2) (x3 : S3) (x4 : S4) (x5 : S5) (x6 : S6) (x7 : S7) (x8 : S8) (x9 : S9) (r : α), I k x1 x2 x3 x4 x5 x6 x7 x8 x9 r → (∀ k' y1 y2 y3 y4 y5 y6 y7 y8 y9, k' < k → I k' y1 y2 y3 y4 y5 y6 y7 y8 y9 r → self y1 y2 y3 y4 y5 y6 y7 y8 y9 = some r) → f self x1 x2 x3 x4 x5 x6 x7 x8 x9 = some r) :
    ∀ (m k : Nat) (x1 : S1) (x2 : S2) (x3 : S3) (x4 : S4) (x5 : S5) (x6 : S6) (x7 : S7) (x8 : S8) (x9 : S9) (r : α), I k x1 x2 x3 x4 x5 x6 x7 x8 x9 r → k < m → loopR m f b x1 x2 x3 x4 x5 x6 x7 x8 x9 = some r
  | 0, k, x1, x2, x3, x4, x5, x6, x7, x8, x9, r, _, h => absurd h (Nat.not_lt_zero _)
  | m + 1, k, x1, x2, x3, x4, x5, x6, x7, x8, x9, r, hI, h => hf k (loopR m f b) x1 x2 x3 x4 x5 x6 x7 x8 x9 r hI (fun k' y1 y2 y3 y4 y5 y6 y7 y8 y9 hk hI' => loop9 I hf m k' y1 y2 y3 y4 y5 y6 y7 y8 y9 r hI' (by omega))
theorem loop10 {α S1 S2 S3 S4 S5 S6 S7 S8 S9 S10 : Type} {f : (S1 → S2 → S3 → S4 → S5 → S6 → S7 → S8 → S9 → S10 → Option α) → S1 → S2 → S3 → S4 → S5 → S6 → S7 → S8 → S9 → S10 → Option α} {b : S1 → S2 → S3 → S4 → S5 → S6 → S7 → S8 → S9 → S10 → Option α} (I : Nat → S1 → S2 → S3 → S4 → S5 → S6 → S7 → S8 → S9 → S10 → α → Prop)
    (hf : ∀ (k : Nat) (self : S1 → S2 → S3 → S4 → S5 → S6 → S7 → S8 → S9 → S10 → Option α) (x1 : S1) (x2 : S2) (x3 : S3) (x4 : S4) (x5 : S5) (x6 : S6) (x7 : S7) (x8 : S8) (x9 : S9) (x10 : S10) (r : α), I k x1 x2 x3 x4 x5 x6 x7 x8 x9 x10 r → (∀ k' y1 y2 y3 y4 y5 y6 y7 y8 y9 y10, k' < k → I k' y1 y2 y3 y4 y5 y6 y7 y8 y9 y10 r → self y1 y2 y3 y4 y5 y6 y7 y8 y9 y10 = some r) → f self x1 x2 x3 x4 x5 x6 x7 x8 x9 x10 = some r) :
    ∀ (m k : Nat) (x1 : S1) (x2 : S2) (x3 : S3) (x4 : S4) (x5 : S5) (x6 : S6) (x7 : S7) (x8 : S8) (x9 : S9) (x10 : S10) (r : α), I k x1 x2 x3 x4 x5 x6 x7 x8 x9 x10 r → k < m → loopR m f b x1 x2 x3 x4 x5 x6 x7 x8 x9 x10 = some r
  | 0, k, x1, x2, x3, x4, x5, x6, x7, x8, x9, x10, r, _, h => absurd h (Nat.not_lt_zero _)
  | m + 1, k, x1, x2, x3, x4, x5, x6, x7, x8, x9, x10, r, hI, h => hf k (loopR m f b) x1 x2 x3 x4 x5 x6 x7 x8 x9 x10 r hI (fun k' y1 y2 y3 y4 y5 y6 y7 y8 y9 y10 hk hI' => loop10 I hf m k' y1 y2 y3 y4 y5 y6 y7 y8 y9 y10 r hI' (by omega))
/-! ### integers -/
theorem add64 {a b : Int} (h : -9223372036854775808 ≤ a + b ∧ a + b ≤ 9223372036854775807) : arith .add .i64 a b = a + b := Go.IntWalk.i64_in _ h
theorem sub64 {a b : Int} (h : -9223372036854775808 ≤ a - b ∧ a - b ≤ 9223372036854775807) : arith .sub .i64 a b = a - b := Go.IntWalk.i64_in _ h
theorem lss_eq (a b : Int) : cmpI .lss a b = decide (a < b) := rfl
theorem leq_eq (a b : Int) : cmpI .leq a b = decide (a ≤ b) := rfl
theorem gtr_eq (a b : Int) : cmpI .gtr a b = decide (a > b) := rfl
theorem geq_eq (a b : Int) : cmpI .geq a b = decide (a ≥ b) := rfl
theorem eql_eq (a b : Int) : cmpI .eql a b = (a == b) := rfl
theorem neq_eq (a b : Int) : cmpI .neq a b = (a != b) := rfl
theorem z64 : Ty.zero (.int .i64) = (0 : Int) := rfl
theorem zBool : Ty.zero .bool = false := rfl
theorem set_one {α : Type} (z x : α) : List.set (List.replicate 1 z) 0 x = [x] := rfl
theorem set_one' {α : Type} (z x : α) : List.set [z] 0 x = [x] := rfl
theorem lssT {a b : Int} (h : a < b) : cmpI .lss a b = true := decide_eq_true h
theorem lssF {a b : Int} (h : ¬ a < b) : ¬ cmpI .lss a b = true := fun e => h (of_decide_eq_true e)
theorem leqT {a b : Int} (h : a ≤ b) : cmpI .leq a b = true := decide_eq_true h
theorem leqF {a b : Int} (h : ¬ a ≤ b) : ¬ cmpI .leq a b = true := fun e => h (of_decide_eq_true e)
theorem gtrT {a b : Int} (h : a > b) : cmpI .gtr a b = true := decide_eq_true h
theorem gtrF {a b : Int} (h : ¬ a > b) : ¬ cmpI .gtr a b = true := fun e => h (of_decide_eq_true e)
theorem geqT {a b : Int} (h : a ≥ b) : cmpI .geq a b = true := decide_eq_true h
theorem geqF {a b : Int} (h : ¬ a ≥ b) : ¬ cmpI .geq a b = true := fun e => h (of_decide_eq_true e)
theorem eqlT {a b : Int} (h : a = b) : cmpI .eql a b = true := by subst h; show (a == a) = true; simp
theorem eqlF {a b : Int} (h : ¬ a = b) : ¬ cmpI .eql a b = true := fun e => h (eq_of_beq e)
theorem neqT {a b : Int} (h : ¬ a = b) : cmpI .neq a b = true := by show (a != b) = true; simpa using h
theorem neqF {a b : Int} (h : a = b) : ¬ cmpI .neq a b = true := by subst h; show ¬ (a != a) = true; simp
theorem decT {p : Prop} [Decidable p] (h : p) : decide p = true := decide_eq_true h
theorem decF {p : Prop} [Decidable p] (h : ¬ p) : ¬ decide p = true := fun e => h (of_decide_eq_true e)
theorem boolT {b : Bool} (h : b = true) : b = true := h
theorem notF {b : Bool} (h : b = true) : ¬ Bool.not b = true := by rw [h]; decide
theorem notT {b : Bool} (h : ¬ b = true) : Bool.not b = true := by cases b <;> simp_all
end Go.Sym

/- Plain laws: numbers in groups of seven bits. -/
namespace Go.Sym
/-- A number in groups of seven bits. -/
def uintN (v : Nat) : List Nat := if h : v < 128 then [v] else (v % 128 + 128) :: uintN (v / 128)
termination_by v
decreasing_by omega
theorem uintN_lt {v : Nat} (h : v < 128) : uintN v = [v] := by rw [uintN, dif_pos h]
theorem uintN_ge {v : Nat} (h : ¬ v < 128) : uintN v = (v % 128 + 128) :: uintN (v / 128) := by rw [uintN, dif_neg h]
theorem uintN_byte : ∀ (v : Nat), ∀ x ∈ uintN v, x < 256 := by
  intro v
  induction v using Nat.strongRecOn with
  | _ v ih =>
    intro x hx
    by_cases h : v < 128
    · rw [uintN_lt h] at hx
      simp at hx
      omega
    · rw [uintN_ge h] at hx
      cases hx with
      | head => omega
      | tail _ hx => exact ih (v / 128) (by omega) x hx
theorem uintN_len : ∀ (k v : Nat), v < 128 ^ (k + 1) → (uintN v).length ≤ k + 1
  | 0, v, h => by rw [uintN_lt (by omega)]; simp
  | k + 1, v, h => by
    by_cases h1 : v < 128
    · rw [uintN_lt h1]; simp
    · rw [uintN_ge h1, List.length_cons]
      have := uintN_len k (v / 128) (by rw [Nat.pow_succ] at h; omega)
      omega
/-- What begins with a number tells it. -/
theorem uintN_inj : ∀ (a b : Nat) (r s : List Nat), uintN a ++ r = uintN b ++ s → a = b ∧ r = s := by
  intro a
  induction a using Nat.strongRecOn with
  | _ a ih =>
    intro b r s h
    by_cases ha : a < 128
    · by_cases hb : b < 128
      · rw [uintN_lt ha, uintN_lt hb] at h
        simpa using h
      · rw [uintN_lt ha, uintN_ge hb] at h
        simp at h
        omega
    · by_cases hb : b < 128
      · rw [uintN_ge ha, uintN_lt hb] at h
        simp at h
        omega
      · rw [uintN_ge ha, uintN_ge hb] at h
        simp only [List.cons_append, List.cons.injEq] at h
        obtain ⟨h1, h2⟩ := ih (a / 128) (by omega) (b / 128) r s h.2
        exact ⟨by omega, h2⟩
theorem uintN_ne (a : Nat) : uintN a ≠ [] := by
  by_cases h : a < 128
  · rw [uintN_lt h]; simp
  · rw [uintN_ge h]; simp
theorem uints_inj : ∀ (l r : List Nat), l.flatMap uintN = r.flatMap uintN → l = r
  | [], [], _ => rfl
  | [], b :: r, h => by
    simp only [List.flatMap_nil, List.flatMap_cons] at h
    exact absurd (List.append_eq_nil_iff.1 h.symm).1 (uintN_ne b)
  | a :: l, [], h => by
    simp only [List.flatMap_nil, List.flatMap_cons] at h
    exact absurd (List.append_eq_nil_iff.1 h).1 (uintN_ne a)
  | a :: l, b :: r, h => by
    simp only [List.flatMap_cons] at h
    obtain ⟨h1, h2⟩ := uintN_inj a b _ _ h
    rw [h1, uints_inj l r h2]
/-- Bytes, as a string. -/
def bytesOf (l : List Nat) : ByteArray := ByteArray.mk (l.map UInt8.ofNat).toArray
theorem bytes_inj : ∀ {l r : List Nat}, (∀ x ∈ l, x < 256) → (∀ x ∈ r, x < 256) → l.map UInt8.ofNat = r.map UInt8.ofNat → l = r
  | [], [], _, _, _ => rfl
  | [], _ :: _, _, _, h => by cases h
  | _ :: _, [], _, _, h => by cases h
  | x :: l, y :: r, hl, hr, h => by
    simp only [List.map_cons, List.cons.injEq] at h
    have h1 := congrArg UInt8.toNat h.1
    rw [UInt8.toNat_ofNat', UInt8.toNat_ofNat'] at h1
    have := hl x (List.mem_cons_self ..)
    have := hr y (List.mem_cons_self ..)
    rw [Nat.mod_eq_of_lt (by omega), Nat.mod_eq_of_lt (by omega)] at h1
    rw [h1, bytes_inj (fun x hx => hl x (List.mem_cons_of_mem _ hx)) (fun x hx => hr x (List.mem_cons_of_mem _ hx)) h.2]
theorem bytesOf_inj {l r : List Nat} (hl : ∀ x ∈ l, x < 256) (hr : ∀ x ∈ r, x < 256) (h : bytesOf l = bytesOf r) : l = r := by
  have h : (l.map UInt8.ofNat).toArray = (r.map UInt8.ofNat).toArray := congrArg ByteArray.data h
  exact bytes_inj hl hr (by simpa using h)
theorem bytesOf_ints (l : List Nat) : ByteArray.mk (List.toArray (List.map (fun (x : Int) => UInt8.ofNat (Int.toNat x)) (l.map Int.ofNat))) = bytesOf l := by
  unfold bytesOf
  rw [List.map_map]
  rfl
theorem or128 (v : Int) (h : 0 ≤ v) : arith .or .u8 (IntKind.wrap .u8 v) 128 = v % 128 + 128 := by
  have hw : IntKind.wrap .u8 v = v % 256 := rfl
  have hd : ∀ m : Fin 256, arith .or .u8 (m.val : Int) 128 = (m.val : Int) % 128 + 128 := by decide +kernel
  obtain ⟨k, hk⟩ := Int.eq_ofNat_of_zero_le (show 0 ≤ v % 256 by omega)
  have := hd ⟨k, by omega⟩
  rw [hw, hk]
  simp only at this
  rw [this]
  omega
theorem shr7 (v : Int) (h : 0 ≤ v) : arith .shr .i64 v 7 = v / 128 := by
  show v.fdiv (2 ^ (min 7 64)) = v / 128
  rw [Int.fdiv_eq_ediv_of_nonneg _ (by decide)]
  rfl
theorem u8_small {v : Int} (h : 0 ≤ v ∧ v < 256) : IntKind.wrap .u8 v = v := by
  show v % 256 = v
  omega
end Go.Sym

/- Plain laws: a list of pairwise different nodes, and the index over it. -/
namespace Go.Sym
abbrev GN : Type := Int × (Int × (Int × (List Int × Unit)))
def nd (k b a : Int) (l : List Int) : GN := (k, b, a, l, ())
/-- A node whose numbers are no less than their bounds. -/
structure KeyOk (n : GN) : Prop where
  k0 : 0 ≤ n.1
  k1 : n.1 < 128
  b0 : 0 ≤ n.2.1
  b1 : n.2.1 < 4611686018427387904
  a0 : -1 ≤ n.2.2.1
  a1 : n.2.2.1 < 4611686018427387903
  i0 : ∀ x ∈ n.2.2.2.1, 0 ≤ x ∧ x < 4611686018427387904
def keyN (n : GN) : List Nat := n.1.toNat :: (uintN n.2.1.toNat ++ (uintN (n.2.2.1 + 1).toNat ++ (n.2.2.2.1.map Int.toNat).flatMap uintN))
def keyB (n : GN) : ByteArray := bytesOf (keyN n)
theorem keyN_byte {n : GN} (h : KeyOk n) : ∀ x ∈ keyN n, x < 256 := by
  intro x hx
  unfold keyN at hx
  simp only [List.mem_cons, List.mem_append, List.mem_flatMap] at hx
  rcases hx with hx | hx | hx | ⟨y, _, hx⟩
  · have := h.k1
    omega
  · exact uintN_byte _ x hx
  · exact uintN_byte _ x hx
  · exact uintN_byte _ x hx
theorem toNats_inj : ∀ {l r : List Int}, (∀ x ∈ l, 0 ≤ x) → (∀ x ∈ r, 0 ≤ x) → l.map Int.toNat = r.map Int.toNat → l = r
  | [], [], _, _, _ => rfl
  | [], _ :: _, _, _, h => by cases h
  | _ :: _, [], _, _, h => by cases h
  | x :: l, y :: r, hl, hr, h => by
    simp only [List.map_cons, List.cons.injEq] at h
    have := hl x (List.mem_cons_self ..)
    have := hr y (List.mem_cons_self ..)
    rw [toNats_inj (fun x hx => hl x (List.mem_cons_of_mem _ hx)) (fun x hx => hr x (List.mem_cons_of_mem _ hx)) h.2, show x = y by omega]
theorem keyB_inj {n m : GN} (hn : KeyOk n) (hm : KeyOk m) (h : keyB n = keyB m) : n = m := by
  have h := bytesOf_inj (keyN_byte hn) (keyN_byte hm) h
  unfold keyN at h
  simp only [List.cons.injEq] at h
  obtain ⟨h1, h⟩ := h
  obtain ⟨h2, h⟩ := uintN_inj _ _ _ _ h
  obtain ⟨h3, h⟩ := uintN_inj _ _ _ _ h
  have h4 := toNats_inj (fun x hx => (hn.i0 x hx).1) (fun x hx => (hm.i0 x hx).1) (uints_inj _ _ h)
  obtain ⟨k, b, a, l, u⟩ := n
  obtain ⟨k', b', a', l', u'⟩ := m
  have := hn.k0; have := hm.k0; have := hn.b0; have := hm.b0; have := hn.a0; have := hm.a0
  simp only at *
  rw [show k = k' by omega, show b = b' by omega, show a = a' by omega, h4]
abbrev GM : Type := List (ByteArray × Int)
def idxFrom : Nat → List GN → GM
  | _, [] => []
  | i, n :: L => (keyB n, (i : Int)) :: idxFrom (i + 1) L
abbrev idx (L : List GN) : GM := idxFrom 0 L
def posOf (n : GN) : List GN → Option Nat
  | [] => none
  | m :: L => if m = n then some 0 else (posOf n L).map (· + 1)
theorem posOf_some {n : GN} : ∀ {L : List GN} {i : Nat}, posOf n L = some i → i < L.length ∧ L[i]? = some n
  | [], i, h => by cases h
  | m :: L, i, h => by
    simp only [posOf] at h
    split at h
    · rename_i e
      cases h
      exact ⟨by simp, by simp [e]⟩
    · obtain ⟨j, hj, rfl⟩ := Option.map_eq_some_iff.1 h
      obtain ⟨h1, h2⟩ := posOf_some hj
      exact ⟨by simpa using h1, by simpa using h2⟩
theorem posOf_none {n : GN} : ∀ {L : List GN}, posOf n L = none ↔ n ∉ L
  | [] => by simp [posOf]
  | m :: L => by
    simp only [posOf]
    split
    · rename_i e
      simp [e]
    · rename_i e
      simp only [Option.map_eq_none_iff, posOf_none (L := L), List.mem_cons, not_or]
      exact ⟨fun h => ⟨fun e' => e e'.symm, h⟩, fun h => h.2⟩
theorem posOf_get {n : GN} : ∀ {L : List GN} {i : Nat}, L.Nodup → L[i]? = some n → posOf n L = some i
  | [], i, _, h => by simp at h
  | m :: L, 0, _, h => by
    simp only [List.getElem?_cons_zero, Option.some.injEq] at h
    simp [posOf, h]
  | m :: L, i + 1, hn, h => by
    obtain ⟨h1, h2⟩ := List.nodup_cons.1 hn
    simp only [List.getElem?_cons_succ] at h
    have hne : ¬ m = n := fun e => h1 (e ▸ List.mem_of_getElem? h)
    simp only [posOf, if_neg hne, posOf_get h2 h, Option.map_some]
theorem mget_here {k v : Ty} {m : List (k.den × v.den)} {a b : k.den} {x : v.den} (h : keyEq k b a = true) : mget ((a, x) :: m) b = some x := by rw [mget, if_pos h]
theorem mget_there {k v : Ty} {m : List (k.den × v.den)} {a b : k.den} {x : v.den} (h : keyEq k b a = false) : mget ((a, x) :: m) b = mget m b := by rw [mget, if_neg (by rw [h]; exact Bool.false_ne_true)]
theorem mset_here {k v : Ty} {m : List (k.den × v.den)} {a b : k.den} {x y : v.den} (h : keyEq k b a = true) : mset ((a, x) :: m) b y = (b, y) :: m := by rw [mset, if_pos h]
theorem mset_there {k v : Ty} {m : List (k.den × v.den)} {a b : k.den} {x y : v.den} (h : keyEq k b a = false) : mset ((a, x) :: m) b y = (a, x) :: mset m b y := by rw [mset, if_neg (by rw [h]; exact Bool.false_ne_true)]
theorem keyEq_str (a b : ByteArray) : keyEq .str a b = decide (a = b) := by
  show (a == b) = decide (a = b)
  cases h : a == b with
  | true => rw [bytes_beq h]; simp
  | false =>
    symm
    refine decide_eq_false (fun e => ?_)
    subst e
    obtain ⟨x⟩ := a
    have h : (x == x) = false := h
    simp at h
theorem keyEq_int (k : IntKind) (a b : Int) : keyEq (.int k) a b = decide (a = b) := by
  show (a == b) = decide (a = b)
  rw [Bool.eq_iff_iff]
  simp
theorem mget_idx {n : GN} (hn : KeyOk n) : ∀ (L : List GN) (i : Nat), (∀ m ∈ L, KeyOk m) → @mget .str (.int .i64) (idxFrom i L) (keyB n) = (posOf n L).map fun j => (((i + j : Nat)) : Int)
  | [], i, _ => rfl
  | m :: L, i, h => by
    by_cases e : m = n
    · subst e
      rw [idxFrom, mget_here (by rw [keyEq_str]; simp), posOf, if_pos rfl]
      simp
    · have hne : ¬ keyB n = keyB m := fun h' => e (keyB_inj hn (h m (List.mem_cons_self ..)) h').symm
      rw [idxFrom, mget_there (by rw [keyEq_str]; exact decide_eq_false hne), posOf, if_neg e, mget_idx hn L (i + 1) (fun m hm => h m (List.mem_cons_of_mem _ hm)), Option.map_map]
      congr 1
      funext j
      simp only [Function.comp]
      congr 1
      omega
theorem mset_idx {n : GN} (hn : KeyOk n) : ∀ (L : List GN) (i : Nat), (∀ m ∈ L, KeyOk m) → n ∉ L → @mset .str (.int .i64) (idxFrom i L) (keyB n) ((i + L.length : Nat) : Int) = idxFrom i (L ++ [n])
  | [], i, _, _ => rfl
  | m :: L, i, h, hnot => by
    have e : ¬ m = n := fun e => hnot (e ▸ List.mem_cons_self ..)
    have hne : ¬ keyB n = keyB m := fun h' => e (keyB_inj hn (h m (List.mem_cons_self ..)) h').symm
    have := mset_idx hn L (i + 1) (fun m hm => h m (List.mem_cons_of_mem _ hm)) (fun hm => hnot (List.mem_cons_of_mem _ hm))
    rw [show i + 1 + L.length = i + (m :: L).length by simp; omega] at this
    rw [idxFrom, mset_there (by rw [keyEq_str]; exact decide_eq_false hne), this]
    rfl
/-- A node's number; it is appended if it is new. -/
def addM (mx : Int) (L : List GN) (n : GN) : Int × List GN :=
  match posOf n L with
  | some i => ((i : Int), L)
  | none => if mx > 0 ∧ (L.length : Int) ≥ mx then (-1, L) else ((L.length : Int), L ++ [n])
/-- What Go's functions answer: a number, and the graph. -/
def gres (mx : Int) (p : Int × List GN) : Int × (Int × (List GN × GM)) := (p.1, mx, p.2, idx p.2)
end Go.Sym

/- Plain laws: what the graph's functions answer. -/
namespace Go.Sym
abbrev zN : GN := (0, 0, 0, [], ())
abbrev GN.kind (n : GN) : Int := n.1
abbrev GN.ins (n : GN) : List Int := n.2.2.2.1
def nat (L : List GN) (a : Int) : GN := L.getD a.toNat zN
def hasM (L : List GN) (a : Int) : Bool := decide (0 ≤ a) && decide (a < L.length)
def gather1 (kind neutral : Int) (L : List GN) (a : Int) : List Int := if (nat L a).kind = kind then (nat L a).ins else if a ≠ neutral then [a] else []
def gatherM (kind neutral : Int) (L : List GN) (inputs : List Int) : Option (List Int) :=
  if inputs.all (hasM L) then some (Lib.compact (isort (inputs.flatMap (gather1 kind neutral L)))) else none
def complM (L : List GN) (l : List Int) : Bool := l.any fun a => (nat L a).kind == 3 && l.contains ((nat L a).ins.getD 0 0)
def pick1 (L : List GN) (neg : Bool) (a : Int) : Option (Int × Int) :=
  let n := nat L a
  if neg then (if n.kind = 3 then (let m := nat L (n.ins.getD 0 0); if m.kind = 2 then some (m.2.1, m.2.2.1) else none) else none)
  else if n.kind = 2 then some (n.2.1, n.2.2.1) else none
def conflP (ps : List (Int × Int)) : Bool := ps.any fun p => ps.any fun q => p.1 == q.1 && p.2 != q.2
def conflM (L : List GN) (l : List Int) (neg : Bool) : Bool := conflP (l.filterMap (pick1 L neg))
def finishM (kind neutral mx : Int) (L : List GN) (l : List Int) : Int × List GN :=
  if l.head? = some (1 - neutral) then (1 - neutral, L)
  else if complM L l || conflM L l (kind == 5) then (1 - neutral, L)
  else match l with
    | [] => (neutral, L)
    | [a] => (a, L)
    | l => addM mx L (nd kind 0 0 l)
def joinM (kind neutral mx : Int) (L : List GN) (inputs : List Int) : Int × List GN :=
  match gatherM kind neutral L inputs with
  | none => (-1, L)
  | some l => finishM kind neutral mx L l
def andM (mx : Int) (L : List GN) (inputs : List Int) : Int × List GN := joinM 4 1 mx L inputs
def orM (mx : Int) (L : List GN) (inputs : List Int) : Int × List GN := joinM 5 0 mx L inputs
def pickM (mx : Int) (L : List GN) (b a : Int) : Int × List GN :=
  if b < 0 ∨ b ≥ 4096 ∨ a < -1 ∨ a ≥ 16 then (-1, L) else addM mx L (nd 2 b a [])
def notM (mx : Int) (L : List GN) (a : Int) : Int × List GN :=
  if ¬ hasM L a then (-1, L)
  else if a ≤ 1 then (1 - a, L)
  else if (nat L a).kind = 3 then ((nat L a).ins.getD 0 0, L)
  else addM mx L (nd 3 0 0 [a])
/-- What stands at place i. -/
def Inner (L : List GN) (i : Nat) (k : Int) (l : List Int) : Prop :=
  l.Pairwise (· < ·) ∧ 2 ≤ l.length ∧ (∀ a ∈ l, 2 ≤ a ∧ a < i ∧ (nat L a).kind ≠ k) ∧ complM L l = false ∧ conflM L l (k == 5) = false
def NodeOk (L : List GN) (i : Nat) (n : GN) : Prop :=
  (i = 0 ∧ n = nd 0 0 0 []) ∨ (i = 1 ∧ n = nd 1 0 0 []) ∨ (2 ≤ i ∧ (
    (∃ b a, n = nd 2 b a [] ∧ 0 ≤ b ∧ b < 4096 ∧ -1 ≤ a ∧ a < 16) ∨
    (∃ a, n = nd 3 0 0 [a] ∧ 2 ≤ a ∧ a < i ∧ (nat L a).kind ≠ 3) ∨
    (∃ k l, n = nd k 0 0 l ∧ (k = 4 ∨ k = 5) ∧ Inner L i k l)))
structure Gr (L : List GN) : Prop where
  two : 2 ≤ L.length
  len : L.length ≤ 67108864
  node : ∀ i n, L[i]? = some n → NodeOk L i n
  nodup : L.Nodup
theorem nat_get {L : List GN} {i : Nat} {n : GN} (h : L[i]? = some n) : nat L (i : Int) = n := by
  unfold nat
  rw [List.getD_eq_getElem?_getD, Int.toNat_natCast, h]
  rfl
theorem nat_lt {L : List GN} {a : Int} (h0 : 0 ≤ a) (h1 : a < L.length) : L[a.toNat]? = some (nat L a) := by
  unfold nat
  rw [List.getD_eq_getElem?_getD, List.getElem?_eq_getElem (show a.toNat < L.length by omega)]
  rfl
theorem nat_app {L : List GN} {M : List GN} {a : Int} (h0 : 0 ≤ a) (h1 : a < L.length) : nat (L ++ M) a = nat L a := by
  unfold nat
  rw [List.getD_eq_getElem?_getD, List.getD_eq_getElem?_getD, List.getElem?_append_left (by omega)]
/-- A strictly rising list of small numbers is short. -/
theorem rising_len : ∀ (l : List Int) (lo hi : Int), l.Pairwise (· < ·) → (∀ a ∈ l, lo ≤ a ∧ a < hi) → (l.length : Int) ≤ max 0 (hi - lo)
  | [], lo, hi, _, _ => by simp; omega
  | x :: l, lo, hi, h, hb => by
    obtain ⟨h1, h2⟩ := List.pairwise_cons.1 h
    have hx := hb x (List.mem_cons_self ..)
    have := rising_len l (x + 1) hi h2 (fun a ha => ⟨h1 a ha, (hb a (List.mem_cons_of_mem _ ha)).2⟩)
    rw [List.length_cons]
    omega
theorem keyOk_nd {k b a : Int} {l : List Int} (hk : 0 ≤ k ∧ k < 128) (hb : 0 ≤ b ∧ b < 4611686018427387904) (ha : -1 ≤ a ∧ a < 4611686018427387903) (hl : ∀ x ∈ l, 0 ≤ x ∧ x < 4611686018427387904) : KeyOk (nd k b a l) :=
  ⟨hk.1, hk.2, hb.1, hb.2, ha.1, ha.2, hl⟩
theorem NodeOk.key {L : List GN} {i : Nat} {n : GN} (h : NodeOk L i n) (hi : i ≤ 67108864) : KeyOk n := by
  rcases h with ⟨_, rfl⟩ | ⟨_, rfl⟩ | ⟨_, ⟨b, a, rfl, h1, h2, h3, h4⟩ | ⟨a, rfl, h1, h2, _⟩ | ⟨k, l, rfl, h1, h2, h3, h4, _⟩⟩
  · exact keyOk_nd (by decide) (by decide) (by decide) (fun x hx => by cases hx)
  · exact keyOk_nd (by decide) (by decide) (by decide) (fun x hx => by cases hx)
  · exact keyOk_nd (by decide) (by omega) (by omega) (fun x hx => by cases hx)
  · refine keyOk_nd (by decide) (by decide) (by decide) (fun x hx => ?_)
    simp only [List.mem_singleton] at hx
    omega
  · refine keyOk_nd (by omega) (by decide) (by decide) (fun x hx => ?_)
    have := h4 x hx
    omega
theorem NodeOk.ilen {L : List GN} {i : Nat} {n : GN} (h : NodeOk L i n) : n.ins.length ≤ i := by
  rcases h with ⟨_, rfl⟩ | ⟨_, rfl⟩ | ⟨_, ⟨b, a, rfl, h1, h2, h3, h4⟩ | ⟨a, rfl, h1, h2, _⟩ | ⟨k, l, rfl, h1, h2, h3, h4, _⟩⟩
  · exact Nat.zero_le _
  · exact Nat.zero_le _
  · exact Nat.zero_le _
  · show 1 ≤ i
    omega
  · have := rising_len l 2 i h2 (fun a ha => ⟨(h4 a ha).1, (h4 a ha).2.1⟩)
    show l.length ≤ i
    omega
theorem NodeOk.ibd {L : List GN} {i : Nat} {n : GN} (h : NodeOk L i n) : ∀ a ∈ n.ins, 2 ≤ a ∧ a < i := by
  rcases h with ⟨_, rfl⟩ | ⟨_, rfl⟩ | ⟨_, ⟨b, a, rfl, h1, h2, h3, h4⟩ | ⟨a, rfl, h1, h2, _⟩ | ⟨k, l, rfl, h1, h2, h3, h4, _⟩⟩
  · intro a ha; cases ha
  · intro a ha; cases ha
  · intro a ha; cases ha
  · intro x hx
    have hx : x ∈ [a] := hx
    simp only [List.mem_singleton] at hx
    subst hx
    exact ⟨h1, h2⟩
  · exact fun a ha => ⟨(h4 a ha).1, (h4 a ha).2.1⟩
theorem NodeOk.not {L : List GN} {i : Nat} {n : GN} (h : NodeOk L i n) (hk : n.kind = 3) : ∃ a, n = nd 3 0 0 [a] ∧ 2 ≤ a ∧ a < i ∧ (nat L a).kind ≠ 3 := by
  rcases h with ⟨_, rfl⟩ | ⟨_, rfl⟩ | ⟨_, ⟨b, a, rfl, _⟩ | ⟨a, rfl, h1, h2, h3⟩ | ⟨k, l, rfl, h1, _⟩⟩
  · cases hk
  · cases hk
  · cases hk
  · exact ⟨a, rfl, h1, h2, h3⟩
  · have hk : k = 3 := hk
    omega
theorem Gr.at {L : List GN} (h : Gr L) {a : Int} (h0 : 0 ≤ a) (h1 : a < L.length) : NodeOk L a.toNat (nat L a) := h.node _ _ (nat_lt h0 h1)
theorem Gr.keys {L : List GN} (h : Gr L) : ∀ m ∈ L, KeyOk m := fun m hm => by
  obtain ⟨i, hi, e⟩ := List.getElem_of_mem hm
  have := h.len
  exact (h.node i m (by rw [List.getElem?_eq_getElem hi, e])).key (by omega)
theorem hasM_iff {L : List GN} {a : Int} : hasM L a = true ↔ 0 ≤ a ∧ a < L.length := by simp [hasM]
end Go.Sym

/- Plain laws: sorted lists without repetition. -/
namespace Go.Sym
theorem keeps_iff (d : Array Int) (j : Nat) : Lib.keeps d j = true ↔ (j = 0 ∨ d[j]! ≠ d[j - 1]!) := by
  unfold Lib.keeps
  simp
theorem compact_upTo (d : Array Int) (hs : ∀ i j, i ≤ j → j < d.size → d[i]! ≤ d[j]!) : ∀ m, m ≤ d.size → (Lib.compactUpTo d m).Pairwise (· < ·) ∧ ∀ v, v ∈ Lib.compactUpTo d m ↔ ∃ i, i < m ∧ d[i]! = v
  | 0, _ => ⟨List.Pairwise.nil, fun v => ⟨fun h => (by cases h), fun ⟨i, h, _⟩ => (by omega)⟩⟩
  | m + 1, hm => by
    obtain ⟨h1, h2⟩ := compact_upTo d hs m (by omega)
    have e : Lib.compactUpTo d (m + 1) = Lib.compactUpTo d m ++ (if Lib.keeps d m = true then [d[m]!] else []) := by
      unfold Lib.compactUpTo
      rw [List.range_succ, List.filter_append, List.map_append]
      congr 1
      by_cases hk : Lib.keeps d m = true
      · rw [if_pos hk]; simp [hk]
      · rw [if_neg hk]; simp [hk]
    rw [e]
    by_cases hk : Lib.keeps d m = true
    · rw [if_pos hk]
      refine ⟨List.pairwise_append.2 ⟨h1, List.pairwise_singleton _ _, fun a ha b hb => ?_⟩, fun v => ?_⟩
      · rw [List.mem_singleton.1 hb]
        obtain ⟨i, hi, rfl⟩ := (h2 a).1 ha
        rcases (keeps_iff d m).1 hk with h0 | h0
        · omega
        · have := hs i (m - 1) (by omega) (by omega)
          have := hs (m - 1) m (by omega) (by omega)
          omega
      · rw [List.mem_append, h2, List.mem_singleton]
        constructor
        · rintro (⟨i, hi, rfl⟩ | rfl)
          · exact ⟨i, by omega, rfl⟩
          · exact ⟨m, by omega, rfl⟩
        · rintro ⟨i, hi, rfl⟩
          by_cases h : i = m
          · subst h; exact .inr rfl
          · exact .inl ⟨i, by omega, rfl⟩
    · rw [if_neg hk, List.append_nil]
      refine ⟨h1, fun v => ?_⟩
      rw [h2]
      have hk' : ¬ (m = 0 ∨ d[m]! ≠ d[m - 1]!) := fun h => hk ((keeps_iff d m).2 h)
      constructor
      · rintro ⟨i, hi, rfl⟩; exact ⟨i, by omega, rfl⟩
      · rintro ⟨i, hi, rfl⟩
        by_cases h : i = m
        · subst h
          refine ⟨i - 1, by omega, ?_⟩
          rcases Classical.em (d[i]! = d[i - 1]!) with h' | h'
          · exact h'.symm
          · exact absurd (.inr h') hk'
        · exact ⟨i, by omega, rfl⟩
theorem compact_sorted {zs : List Int} (h : zs.Pairwise (· ≤ ·)) : (Lib.compact zs).Pairwise (· < ·) ∧ ∀ v, v ∈ Lib.compact zs ↔ v ∈ zs := by
  obtain ⟨h1, h2⟩ := compact_upTo zs.toArray (fun i j hij hj => by
    have hj : j < zs.length := by simpa using hj
    rw [List.pairwise_iff_getElem] at h
    by_cases e : i = j
    · subst e; exact Int.le_refl _
    · have := h i j (by omega) hj (by omega)
      simpa [show i < zs.length by omega, hj] using this) zs.length (by simp)
  refine ⟨h1, fun v => (h2 v).trans ?_⟩
  rw [List.mem_iff_getElem]
  constructor
  · rintro ⟨i, hi, rfl⟩
    exact ⟨i, hi, by simp [hi]⟩
  · rintro ⟨i, hi, rfl⟩
    exact ⟨i, hi, by simp [hi]⟩
/-- Sorted, each once. -/
def norm (l : List Int) : List Int := Lib.compact (isort l)
theorem norm_lt (l : List Int) : (norm l).Pairwise (· < ·) := (compact_sorted (isort_sorted l)).1
theorem mem_norm (l : List Int) (v : Int) : v ∈ norm l ↔ v ∈ l := ((compact_sorted (isort_sorted l)).2 v).trans ((isort_perm l).mem_iff)
theorem rising_unique : ∀ {l r : List Int}, l.Pairwise (· < ·) → r.Pairwise (· < ·) → (∀ v, v ∈ l ↔ v ∈ r) → l = r
  | [], [], _, _, _ => rfl
  | [], y :: r, _, _, h => absurd ((h y).2 (List.mem_cons_self ..)) (by simp)
  | x :: l, [], _, _, h => absurd ((h x).1 (List.mem_cons_self ..)) (by simp)
  | x :: l, y :: r, hl, hr, h => by
    obtain ⟨a1, a2⟩ := List.pairwise_cons.1 hl
    obtain ⟨b1, b2⟩ := List.pairwise_cons.1 hr
    have hxy : x = y := by
      rcases List.mem_cons.1 ((h x).1 (List.mem_cons_self ..)) with e | hx
      · exact e
      · rcases List.mem_cons.1 ((h y).2 (List.mem_cons_self ..)) with e | hy
        · exact e.symm
        · have := a1 y hy
          have := b1 x hx
          omega
    subst hxy
    rw [rising_unique a2 b2 (fun v => ?_)]
    have hx1 : x ∉ l := fun hx => by have := a1 x hx; omega
    have hx2 : x ∉ r := fun hx => by have := b1 x hx; omega
    constructor
    · intro hv
      rcases List.mem_cons.1 ((h v).1 (List.mem_cons_of_mem _ hv)) with e | hv'
      · exact absurd (e ▸ hv) hx1
      · exact hv'
    · intro hv
      rcases List.mem_cons.1 ((h v).2 (List.mem_cons_of_mem _ hv)) with e | hv'
      · exact absurd (e ▸ hv) hx2
      · exact hv'
theorem norm_congr {l r : List Int} (h : ∀ v, v ∈ l ↔ v ∈ r) : norm l = norm r := rising_unique (norm_lt l) (norm_lt r) (fun v => by rw [mem_norm, mem_norm]; exact h v)
theorem norm_self {l : List Int} (h : l.Pairwise (· < ·)) : norm l = l := rising_unique (norm_lt l) h (fun v => mem_norm l v)
theorem lt_le {l : List Int} (h : l.Pairwise (· < ·)) : l.Pairwise (· ≤ ·) := h.imp (fun h => by omega)
theorem gatherM_eq (k z : Int) (L : List GN) (inputs : List Int) : gatherM k z L inputs = if inputs.all (hasM L) then some (norm (inputs.flatMap (gather1 k z L))) else none := rfl
end Go.Sym

/- Plain laws: the graph stays well formed. -/
namespace Go.Sym
theorem any_congr {α : Type} {p q : α → Bool} : ∀ {l : List α}, (∀ a ∈ l, p a = q a) → l.any p = l.any q
  | [], _ => rfl
  | x :: l, h => by rw [List.any_cons, List.any_cons, h x (List.mem_cons_self ..), any_congr (fun a ha => h a (List.mem_cons_of_mem _ ha))]
theorem filterMap_congr' {α β : Type} {p q : α → Option β} : ∀ {l : List α}, (∀ a ∈ l, p a = q a) → l.filterMap p = l.filterMap q
  | [], _ => rfl
  | x :: l, h => by rw [List.filterMap_cons, List.filterMap_cons, h x (List.mem_cons_self ..), filterMap_congr' (fun a ha => h a (List.mem_cons_of_mem _ ha))]
section
variable {L M : List GN}
theorem hasM_app {a : Int} (h : hasM L a = true) : hasM (L ++ M) a = true := by
  rw [hasM_iff] at h ⊢
  rw [List.length_append]
  omega
theorem complM_app {l : List Int} (h : ∀ a ∈ l, hasM L a = true) : complM (L ++ M) l = complM L l := by
  unfold complM
  refine any_congr (fun a ha => ?_)
  obtain ⟨h0, h1⟩ := hasM_iff.1 (h a ha)
  rw [nat_app h0 h1]
theorem pick1_app (hL : Gr L) {neg : Bool} {a : Int} (h : hasM L a = true) : pick1 (L ++ M) neg a = pick1 L neg a := by
  obtain ⟨h0, h1⟩ := hasM_iff.1 h
  unfold pick1
  dsimp only
  rw [nat_app h0 h1]
  cases neg with
  | false => rfl
  | true =>
    rw [if_pos rfl, if_pos rfl]
    by_cases hk : (nat L a).kind = 3
    · obtain ⟨c, hc, c0, c1, _⟩ := (hL.at h0 h1).not hk
      have : (nat L a).ins.getD 0 0 = c := by rw [hc]; rfl
      rw [if_pos hk, if_pos hk, this, nat_app (by omega) (by omega)]
    · rw [if_neg hk, if_neg hk]
theorem conflM_app (hL : Gr L) {l : List Int} {neg : Bool} (h : ∀ a ∈ l, hasM L a = true) : conflM (L ++ M) l neg = conflM L l neg := by
  unfold conflM
  rw [filterMap_congr' (fun a ha => pick1_app hL (h a ha))]
theorem Inner.app (hL : Gr L) {i : Nat} {k : Int} {l : List Int} (hi : i ≤ L.length) (h : Inner L i k l) : Inner (L ++ M) i k l := by
  obtain ⟨h1, h2, h3, h4, h5⟩ := h
  have hh : ∀ a ∈ l, hasM L a = true := fun a ha => hasM_iff.2 (by have := h3 a ha; omega)
  refine ⟨h1, h2, fun a ha => ?_, by rw [complM_app hh]; exact h4, by rw [conflM_app hL hh]; exact h5⟩
  obtain ⟨a0, a1, a2⟩ := h3 a ha
  exact ⟨a0, a1, by rw [nat_app (by omega) (by omega)]; exact a2⟩
theorem NodeOk.app (hL : Gr L) {i : Nat} {n : GN} (hi : i ≤ L.length) (h : NodeOk L i n) : NodeOk (L ++ M) i n := by
  rcases h with h | h | ⟨h0, h | ⟨a, h1, h2, h3, h4⟩ | ⟨k, l, h1, h2, h3⟩⟩
  · exact .inl h
  · exact .inr (.inl h)
  · exact .inr (.inr ⟨h0, .inl h⟩)
  · exact .inr (.inr ⟨h0, .inr (.inl ⟨a, h1, h2, h3, by rw [nat_app (by omega) (by omega)]; exact h4⟩)⟩)
  · exact .inr (.inr ⟨h0, .inr (.inr ⟨k, l, h1, h2, h3.app hL hi⟩)⟩)
/-- One graph goes on from another. -/
structure Grow (L L' : List GN) : Prop where
  pre : ∃ M, L' = L ++ M
  gr : Gr L'
theorem Grow.refl (h : Gr L) : Grow L L := ⟨⟨[], (List.append_nil L).symm⟩, h⟩
theorem Grow.trans {L L' L'' : List GN} (h : Grow L L') (k : Grow L' L'') : Grow L L'' := by
  obtain ⟨⟨M, rfl⟩, _⟩ := h
  obtain ⟨⟨N, rfl⟩, g⟩ := k
  exact ⟨⟨M ++ N, by rw [List.append_assoc]⟩, g⟩
theorem Grow.len {L L' : List GN} (h : Grow L L') : L.length ≤ L'.length := by
  obtain ⟨⟨M, rfl⟩, _⟩ := h
  simp
theorem Grow.nat {L L' : List GN} (h : Grow L L') {a : Int} (ha : hasM L a = true) : nat L' a = nat L a := by
  obtain ⟨⟨M, rfl⟩, _⟩ := h
  obtain ⟨h0, h1⟩ := hasM_iff.1 ha
  exact nat_app h0 h1
theorem Grow.has {L L' : List GN} (h : Grow L L') {a : Int} (ha : hasM L a = true) : hasM L' a = true := by
  obtain ⟨⟨M, rfl⟩, _⟩ := h
  exact hasM_app ha
theorem Gr.snoc (hL : Gr L) {n : GN} (hn : NodeOk L L.length n) (hnew : n ∉ L) (hlen : L.length < 67108864) : Gr (L ++ [n]) := by
  refine ⟨by have := hL.two; simp; omega, by simp; omega, fun i m hm => ?_, ?_⟩
  · rcases Nat.lt_or_ge i L.length with hi | hi
    · rw [List.getElem?_append_left hi] at hm
      exact (hL.node i m hm).app hL (by omega)
    · rw [List.getElem?_append_right hi] at hm
      have hi0 : i - L.length = 0 := by
        rcases Nat.eq_zero_or_pos (i - L.length) with h | h
        · exact h
        · rw [List.getElem?_eq_none (by simp; omega)] at hm
          cases hm
      rw [hi0] at hm
      cases hm
      have : i = L.length := by omega
      subst this
      exact hn.app hL (Nat.le_refl _)
  · exact List.nodup_append.2 ⟨hL.nodup, by simp, fun a ha b hb => by
      rw [List.mem_singleton.1 hb]
      exact fun e => hnew (e ▸ ha)⟩
/-- There is room for one more. -/
def Room (mx : Int) (L : List GN) : Prop := L.length < 67108864 ∧ (mx > 0 → (L.length : Int) < mx)
/-- The list does not outgrow what the texts allow. -/
def Fit (mx : Int) (L : List GN) : Prop := 0 < mx ∧ mx ≤ 67108864 ∨ L.length < 67108864
theorem addM_full {mx : Int} {n : GN} (h : (addM mx L n).1 = -1) : addM mx L n = (-1, L) := by
  unfold addM at h ⊢
  split
  · rename_i i hi
    rw [hi] at h
    simp only at h
    omega
  · rename_i hi
    rw [hi] at h
    simp only at h
    split at h
    · rename_i hc
      rw [if_pos hc]
    · simp only at h
      omega
theorem addM_ex (hL : Gr L) {mx : Int} {n : GN} (hn : NodeOk L L.length n) (hf : Fit mx L) : Grow L (addM mx L n).2 ∧ ((addM mx L n).1 = -1 ∨ (hasM (addM mx L n).2 (addM mx L n).1 = true ∧ nat (addM mx L n).2 (addM mx L n).1 = n)) := by
  unfold addM
  split
  · rename_i i hi
    obtain ⟨h1, h2⟩ := posOf_some hi
    exact ⟨Grow.refl hL, .inr ⟨hasM_iff.2 ⟨by show (0 : Int) ≤ (i : Nat); omega, by show ((i : Nat) : Int) < (L.length : Nat); omega⟩, nat_get h2⟩⟩
  · rename_i hi
    split
    · exact ⟨Grow.refl hL, .inl rfl⟩
    · rename_i hc
      have hlt : L.length < 67108864 := by
        rcases hf with hf | hf
        · omega
        · exact hf
      refine ⟨⟨⟨[n], rfl⟩, hL.snoc hn (posOf_none.1 hi) hlt⟩, .inr ⟨hasM_iff.2 ⟨?_, ?_⟩, ?_⟩⟩
      · show (0 : Int) ≤ (L.length : Nat); omega
      · show ((L.length : Nat) : Int) < ((L ++ [n]).length : Nat); rw [List.length_append]; simp only [List.length_cons, List.length_nil]; omega
      · exact nat_get (by simp)
/-- With room the node is there, and told by its number. -/
theorem addM_room (hL : Gr L) {mx : Int} {n : GN} (hr : Room mx L) : (addM mx L n).1 ≠ -1 ∧ (addM mx L n).2.length ≤ L.length + 1 := by
  unfold addM
  split
  · refine ⟨?_, by simp⟩
    show ((_ : Nat) : Int) ≠ -1
    omega
  · rw [if_neg (fun h => by have := hr.2 h.1; omega)]
    refine ⟨?_, by simp⟩
    show ((L.length : Nat) : Int) ≠ -1
    omega
theorem addM_old (hL : Gr L) {mx : Int} {n : GN} {i : Nat} (h : L[i]? = some n) : addM mx L n = ((i : Int), L) := by
  unfold addM
  rw [posOf_get hL.nodup h]
theorem nat_inj (hL : Gr L) {a b : Int} (ha : hasM L a = true) (hb : hasM L b = true) (h : nat L a = nat L b) : a = b := by
  obtain ⟨a0, a1⟩ := hasM_iff.1 ha
  obtain ⟨b0, b1⟩ := hasM_iff.1 hb
  have h1 := nat_lt a0 a1
  have h2 := nat_lt b0 b1
  rw [h] at h1
  have := posOf_get hL.nodup h1
  rw [posOf_get hL.nodup h2] at this
  have := Option.some.inj this
  omega
end
end Go.Sym

/- Plain laws: conjunctions and disjunctions keep the graph well formed. -/
namespace Go.Sym
section
variable {L : List GN} {k z mx : Int} {l : List Int}
/-- A gathered list. -/
structure Gath (L : List GN) (k z : Int) (l : List Int) : Prop where
  lt : l.Pairwise (· < ·)
  has : ∀ a ∈ l, hasM L a = true
  kind : ∀ a ∈ l, (nat L a).kind ≠ k
  ne : ∀ a ∈ l, a = 1 - z ∨ 2 ≤ a
theorem inner_kind (hL : Gr L) {a : Int} (ha : hasM L a = true) (hk : (nat L a).kind = k) (h45 : k = 4 ∨ k = 5) : Inner L a.toNat k (nat L a).ins := by
  obtain ⟨h0, h1⟩ := hasM_iff.1 ha
  have hn := hL.at h0 h1
  rcases hn with ⟨_, e⟩ | ⟨_, e⟩ | ⟨_, ⟨b, c, e, _⟩ | ⟨c, e, _⟩ | ⟨k', l, e, _, h⟩⟩
  · rw [e] at hk; simp only [nd, GN.kind] at hk; omega
  · rw [e] at hk; simp only [nd, GN.kind] at hk; omega
  · rw [e] at hk; simp only [nd, GN.kind] at hk; omega
  · rw [e] at hk; simp only [nd, GN.kind] at hk; omega
  · rw [e] at hk ⊢
    have hk : k' = k := hk
    subst hk
    exact h
theorem gather1_mem (hL : Gr L) {a : Int} (ha : hasM L a = true) (h45 : k = 4 ∨ k = 5) (hz : z = 0 ∨ z = 1) {b : Int} (hb : b ∈ gather1 k z L a) : hasM L b = true ∧ (nat L b).kind ≠ k ∧ (b = 1 - z ∨ 2 ≤ b) := by
  obtain ⟨h0, h1⟩ := hasM_iff.1 ha
  unfold gather1 at hb
  split at hb
  · rename_i hk
    obtain ⟨_, _, h3, _⟩ := inner_kind hL ha hk h45
    obtain ⟨b0, b1, b2⟩ := h3 b hb
    exact ⟨hasM_iff.2 (by omega), b2, .inr b0⟩
  · rename_i hk
    split at hb
    · rename_i hne
      rw [List.mem_singleton.1 hb]
      exact ⟨ha, hk, by omega⟩
    · cases hb
theorem gatherM_some (hL : Gr L) {inputs : List Int} (h45 : k = 4 ∨ k = 5) (hz : z = 0 ∨ z = 1) (h : gatherM k z L inputs = some l) : Gath L k z l ∧ (∀ a ∈ inputs, hasM L a = true) ∧ l = norm (inputs.flatMap (gather1 k z L)) := by
  rw [gatherM_eq] at h
  split at h
  · rename_i hall
    cases h
    rw [List.all_eq_true] at hall
    have hm : ∀ b ∈ norm (inputs.flatMap (gather1 k z L)), hasM L b = true ∧ (nat L b).kind ≠ k ∧ (b = 1 - z ∨ 2 ≤ b) := fun b hb => by
      rw [mem_norm, List.mem_flatMap] at hb
      obtain ⟨a, ha, hb⟩ := hb
      exact gather1_mem hL (hall a ha) h45 hz hb
    exact ⟨⟨norm_lt _, fun a ha => (hm a ha).1, fun a ha => (hm a ha).2.1, fun a ha => (hm a ha).2.2⟩, hall, rfl⟩
  · cases h
theorem Gath.len (h : Gath L k z l) : l.length ≤ L.length := by
  have := rising_len l 0 L.length h.lt (fun a ha => hasM_iff.1 (h.has a ha))
  omega
theorem Gath.node (h : Gath L k z l) (h45 : k = 4 ∨ k = 5) (hz : z = 0 ∨ z = 1) (hh : l.head? ≠ some (1 - z)) (hc : complM L l = false) (hf : conflM L l (k == 5) = false) (h2 : 2 ≤ l.length) (hL : Gr L) : NodeOk L L.length (nd k 0 0 l) := by
  refine .inr (.inr ⟨hL.two, .inr (.inr ⟨k, l, rfl, h45, h.lt, h2, fun a ha => ⟨?_, (hasM_iff.1 (h.has a ha)).2, h.kind a ha⟩, hc, hf⟩)⟩)
  cases l with
  | nil => cases ha
  | cons x l =>
    have hx : x ≠ 1 - z := fun e => hh (by simp [e])
    have hx2 : 2 ≤ x := (h.ne x (List.mem_cons_self ..)).resolve_left hx
    rcases List.mem_cons.1 ha with e | ha
    · omega
    · have := (List.pairwise_cons.1 h.lt).1 a ha
      omega
theorem keyOk_gath (h : Gath L k z l) (h45 : k = 4 ∨ k = 5) (hL : Gr L) : KeyOk (nd k 0 0 l) := keyOk_nd (by omega) (by decide) (by decide) (fun x hx => by
  have := hasM_iff.1 (h.has x hx)
  have := hL.len
  omega)
/-- What a gathered list comes to. -/
theorem finishM_cases (h : Gath L k z l) :
    (l.head? = some (1 - z) ∧ finishM k z mx L l = (1 - z, L)) ∨
    (l.head? ≠ some (1 - z) ∧ (complM L l = true ∨ conflM L l (k == 5) = true) ∧ finishM k z mx L l = (1 - z, L)) ∨
    (l.head? ≠ some (1 - z) ∧ complM L l = false ∧ conflM L l (k == 5) = false ∧ ((l = [] ∧ finishM k z mx L l = (z, L)) ∨ (∃ a, l = [a] ∧ finishM k z mx L l = (a, L)) ∨ (2 ≤ l.length ∧ finishM k z mx L l = addM mx L (nd k 0 0 l)))) := by
  by_cases h1 : l.head? = some (1 - z)
  · exact .inl ⟨h1, by unfold finishM; rw [if_pos h1]⟩
  · by_cases h2 : (complM L l || conflM L l (k == 5)) = true
    · exact .inr (.inl ⟨h1, by simpa using h2, by unfold finishM; rw [if_neg h1, if_pos h2]⟩)
    · have h2' : complM L l = false ∧ conflM L l (k == 5) = false := by simpa using h2
      refine .inr (.inr ⟨h1, h2'.1, h2'.2, ?_⟩)
      match l, h1, h2 with
      | [], h1, h2 => exact .inl ⟨rfl, by unfold finishM; rw [if_neg h1, if_neg h2]⟩
      | [a], h1, h2 => exact .inr (.inl ⟨a, rfl, by unfold finishM; rw [if_neg h1, if_neg h2]⟩)
      | a :: b :: l, h1, h2 => exact .inr (.inr ⟨by simp, by unfold finishM; rw [if_neg h1, if_neg h2]⟩)
theorem has01 (hL : Gr L) (hz : z = 0 ∨ z = 1) : hasM L z = true ∧ hasM L (1 - z) = true := by
  have := hL.two
  exact ⟨hasM_iff.2 (by omega), hasM_iff.2 (by omega)⟩
theorem finishM_grow (h : Gath L k z l) (h45 : k = 4 ∨ k = 5) (hz : z = 0 ∨ z = 1) (hL : Gr L) (hf : Fit mx L) : Grow L (finishM k z mx L l).2 ∧ ((finishM k z mx L l).1 = -1 ∨ hasM (finishM k z mx L l).2 (finishM k z mx L l).1 = true) := by
  rcases finishM_cases (mx := mx) h with ⟨_, e⟩ | ⟨_, _, e⟩ | ⟨h1, h2, h3, ⟨_, e⟩ | ⟨a, rfl, e⟩ | ⟨h4, e⟩⟩
  · rw [e]; exact ⟨Grow.refl hL, .inr (has01 hL hz).2⟩
  · rw [e]; exact ⟨Grow.refl hL, .inr (has01 hL hz).2⟩
  · rw [e]; exact ⟨Grow.refl hL, .inr (has01 hL hz).1⟩
  · rw [e]; exact ⟨Grow.refl hL, .inr (h.has a (List.mem_cons_self ..))⟩
  · rw [e]
    obtain ⟨g1, g2⟩ := addM_ex hL (h.node h45 hz h1 h2 h3 h4 hL) hf
    exact ⟨g1, g2.imp id (fun g => g.1)⟩
theorem joinM_grow {inputs : List Int} (h45 : k = 4 ∨ k = 5) (hz : z = 0 ∨ z = 1) (hL : Gr L) (hf : Fit mx L) : Grow L (joinM k z mx L inputs).2 ∧ ((joinM k z mx L inputs).1 = -1 ∨ hasM (joinM k z mx L inputs).2 (joinM k z mx L inputs).1 = true) := by
  unfold joinM
  split
  · exact ⟨Grow.refl hL, .inl rfl⟩
  · rename_i l hl
    exact finishM_grow (gatherM_some hL h45 hz hl).1 h45 hz hL hf
theorem pickM_grow {b a : Int} (hL : Gr L) (hf : Fit mx L) : Grow L (pickM mx L b a).2 ∧ ((pickM mx L b a).1 = -1 ∨ hasM (pickM mx L b a).2 (pickM mx L b a).1 = true) := by
  unfold pickM
  split
  · exact ⟨Grow.refl hL, .inl rfl⟩
  · rename_i h
    obtain ⟨g1, g2⟩ := addM_ex hL (n := nd 2 b a []) (.inr (.inr ⟨hL.two, .inl ⟨b, a, rfl, by omega, by omega, by omega, by omega⟩⟩)) hf
    exact ⟨g1, g2.imp id (fun g => g.1)⟩
theorem notM_node (hL : Gr L) {a : Int} (h1 : hasM L a = true) (h2 : ¬ a ≤ 1) (h3 : ¬ (nat L a).kind = 3) : NodeOk L L.length (nd 3 0 0 [a]) :=
  .inr (.inr ⟨hL.two, .inr (.inl ⟨a, rfl, by omega, (hasM_iff.1 h1).2, h3⟩)⟩)
theorem notM_grow {a : Int} (hL : Gr L) (hf : Fit mx L) : Grow L (notM mx L a).2 ∧ ((notM mx L a).1 = -1 ∨ hasM (notM mx L a).2 (notM mx L a).1 = true) := by
  unfold notM
  split
  · exact ⟨Grow.refl hL, .inl rfl⟩
  · rename_i h1
    have h1 : hasM L a = true := by simpa using h1
    obtain ⟨a0, a1⟩ := hasM_iff.1 h1
    have := hL.two
    split
    · exact ⟨Grow.refl hL, .inr (hasM_iff.2 (by simp only; omega))⟩
    · rename_i h2
      split
      · rename_i h3
        obtain ⟨c, hc, c0, c1, _⟩ := (hL.at a0 a1).not h3
        refine ⟨Grow.refl hL, .inr ?_⟩
        rw [hc]
        exact hasM_iff.2 (by show 0 ≤ c ∧ c < _; simp only; omega)
      · rename_i h3
        obtain ⟨g1, g2⟩ := addM_ex hL (notM_node hL h1 h2 h3) hf
        exact ⟨g1, g2.imp id (fun g => g.1)⟩
end
end Go.Sym

/- Plain laws: picks and their negations. -/
namespace Go.Sym
section
variable {L : List GN} {k z mx : Int} {l : List Int}
theorem nat0 (hL : Gr L) : nat L 0 = nd 0 0 0 [] := by
  rcases hL.at (a := 0) (by omega) (by have := hL.two; omega) with ⟨_, h⟩ | ⟨h, _⟩ | ⟨h, _⟩
  · exact h
  · simp at h
  · simp at h
theorem nat1 (hL : Gr L) : nat L 1 = nd 1 0 0 [] := by
  rcases hL.at (a := 1) (by omega) (by have := hL.two; omega) with ⟨h, _⟩ | ⟨_, h⟩ | ⟨h, _⟩
  · simp at h
  · exact h
  · simp at h
theorem big_of_kind (hL : Gr L) {a : Int} (ha : hasM L a = true) (hk : 2 ≤ (nat L a).kind) : 2 ≤ a := by
  obtain ⟨h0, h1⟩ := hasM_iff.1 ha
  by_cases e0 : a = 0
  · rw [e0, nat0 hL] at hk
    exact absurd hk (by decide)
  · by_cases e1 : a = 1
    · rw [e1, nat1 hL] at hk
      exact absurd hk (by decide)
    · omega
theorem finishM_len (h : Gath L k z l) : (finishM k z mx L l).2.length ≤ L.length + 1 := by
  rcases finishM_cases (mx := mx) h with ⟨_, e⟩ | ⟨_, _, e⟩ | ⟨h1, h2, h3, ⟨_, e⟩ | ⟨a, rfl, e⟩ | ⟨h4, e⟩⟩
  · rw [e]; simp
  · rw [e]; simp
  · rw [e]; simp
  · rw [e]; simp
  · rw [e]
    unfold addM
    split
    · simp
    · split <;> simp
theorem joinM_len {inputs : List Int} (h45 : k = 4 ∨ k = 5) (hz : z = 0 ∨ z = 1) (hL : Gr L) : (joinM k z mx L inputs).2.length ≤ L.length + 1 := by
  unfold joinM
  split
  · simp
  · rename_i l hl
    exact finishM_len (gatherM_some hL h45 hz hl).1
theorem addM_len {n : GN} : (addM mx L n).2.length ≤ L.length + 1 := by
  unfold addM
  split
  · simp
  · split <;> simp
theorem notM_len {a : Int} : (notM mx L a).2.length ≤ L.length + 1 := by
  unfold notM
  split
  · simp
  · split
    · simp
    · split
      · simp
      · exact addM_len
/-- Inputs that are all nodes. -/
theorem gatherM_of (hall : ∀ a ∈ l, hasM L a = true) : gatherM k z L l = some (norm (l.flatMap (gather1 k z L))) := by
  rw [gatherM_eq, if_pos (List.all_eq_true.2 hall)]
theorem gathered (hall : ∀ a ∈ l, hasM L a = true) (hk : ∀ a ∈ l, (nat L a).kind ≠ k ∧ a ≠ z) : gatherM k z L l = some (norm l) := by
  rw [gatherM_of hall]
  congr 2
  induction l with
  | nil => rfl
  | cons a l ih =>
    rw [List.flatMap_cons, ih (fun x hx => hall x (List.mem_cons_of_mem _ hx)) (fun x hx => hk x (List.mem_cons_of_mem _ hx))]
    obtain ⟨h1, h2⟩ := hk a (List.mem_cons_self ..)
    unfold gather1
    rw [if_neg h1, if_pos h2]
    rfl
/-- The result is new, or was there: it is no constant. -/
theorem addM_big (hL : Gr L) (hr : Room mx L) {n : GN} (hn : NodeOk L L.length n) (hk : 2 ≤ n.kind) : 2 ≤ (addM mx L n).1 ∧ hasM (addM mx L n).2 (addM mx L n).1 = true ∧ nat (addM mx L n).2 (addM mx L n).1 = n := by
  obtain ⟨g1, g2⟩ := addM_ex hL hn (.inr hr.1)
  obtain ⟨r1, _⟩ := addM_room (n := n) hL hr
  obtain ⟨h1, h2⟩ := g2.resolve_left r1
  exact ⟨big_of_kind g1.gr h1 (by rw [h2]; exact hk), h1, h2⟩
theorem joinM_new (hL : Gr L) (hr : Room mx L) {inputs : List Int} (h45 : k = 4 ∨ k = 5) (hz : z = 0 ∨ z = 1) (hg : gatherM k z L inputs = some l) (h2 : 2 ≤ l.length) (hh : l.head? ≠ some (1 - z)) (hc : complM L l = false) (hf : conflM L l (k == 5) = false) : 2 ≤ (joinM k z mx L inputs).1 := by
  have hG := (gatherM_some hL h45 hz hg).1
  unfold joinM
  rw [hg]
  dsimp only
  rcases finishM_cases (mx := mx) hG with ⟨h, _⟩ | ⟨_, h, _⟩ | ⟨_, _, _, ⟨h, _⟩ | ⟨a, h, _⟩ | ⟨_, e⟩⟩
  · exact absurd h hh
  · rcases h with h | h
    · rw [hc] at h; cases h
    · rw [hf] at h; cases h
  · rw [h] at h2; simp at h2
  · rw [h] at h2; simp at h2
  · rw [e]
    exact (addM_big hL hr (hG.node h45 hz hh hc hf h2 hL) (by show 2 ≤ k; omega)).1
theorem joinM_conf (hL : Gr L) {inputs : List Int} (h45 : k = 4 ∨ k = 5) (hz : z = 0 ∨ z = 1) (hg : gatherM k z L inputs = some l) (hf : conflM L l (k == 5) = true) : joinM k z mx L inputs = (1 - z, L) := by
  have hG := (gatherM_some hL h45 hz hg).1
  unfold joinM
  rw [hg]
  dsimp only
  rcases finishM_cases (mx := mx) hG with ⟨_, e⟩ | ⟨_, _, e⟩ | ⟨_, _, h, _⟩
  · exact e
  · exact e
  · rw [hf] at h; cases h
theorem joinM_one (hL : Gr L) {inputs : List Int} (h45 : k = 4 ∨ k = 5) (hz : z = 0 ∨ z = 1) {a : Int} (hg : gatherM k z L inputs = some [a]) (ha : a ≠ 1 - z) (hc : complM L [a] = false) (hf : conflM L [a] (k == 5) = false) : joinM k z mx L inputs = (a, L) := by
  have hG := (gatherM_some hL h45 hz hg).1
  unfold joinM
  rw [hg]
  dsimp only
  rcases finishM_cases (mx := mx) hG with ⟨h, _⟩ | ⟨_, h, _⟩ | ⟨_, _, _, ⟨h, _⟩ | ⟨b, h, e⟩ | ⟨h, _⟩⟩
  · exact absurd (Option.some.inj h) ha
  · rcases h with h | h
    · rw [hc] at h; cases h
    · rw [hf] at h; cases h
  · cases h
  · rw [e]; cases h; rfl
  · simp at h
theorem norm_two {a b : Int} (h : a ≠ b) : 2 ≤ (norm [a, b]).length := by
  have h1 : a ∈ norm [a, b] := (mem_norm _ _).2 (by simp)
  have h2 : b ∈ norm [a, b] := (mem_norm _ _).2 (by simp)
  match hn : norm [a, b] with
  | [] => rw [hn] at h1; cases h1
  | [x] =>
    rw [hn] at h1 h2
    simp only [List.mem_singleton] at h1 h2
    exact absurd (h1.trans h2.symm) h
  | _ :: _ :: _ => simp
theorem norm_same (a : Int) : norm [a, a] = [a] := rising_unique (norm_lt _) (List.pairwise_singleton _ _) (fun v => by rw [mem_norm]; simp)
theorem head_ne {inputs : List Int} {c : Int} (h : ∀ a ∈ inputs, a ≠ c) : (norm inputs).head? ≠ some c := fun e => by
  have := List.mem_of_head? e
  exact h c ((mem_norm _ _).1 this) rfl
theorem complM_false {l : List Int} (h : ∀ a ∈ l, (nat L a).kind = 3 → (nat L a).ins.getD 0 0 ∉ l) : complM L l = false := by
  unfold complM
  rw [List.any_eq_false]
  intro a ha h1
  simp only [Bool.and_eq_true, beq_iff_eq, List.contains_iff_mem] at h1
  exact h a ha h1.1 h1.2
theorem conflM_false {l : List Int} {neg : Bool} (h : ∀ a ∈ l, ∀ b ∈ l, ∀ p q, pick1 L neg a = some p → pick1 L neg b = some q → p.1 = q.1 → p.2 = q.2) : conflM L l neg = false := by
  unfold conflM conflP
  rw [List.any_eq_false]
  intro p hp h1
  rw [List.any_eq_true] at h1
  obtain ⟨q, hq, h2⟩ := h1
  simp only [Bool.and_eq_true, beq_iff_eq, bne_iff_ne] at h2
  obtain ⟨a, ha, ea⟩ := List.mem_filterMap.1 hp
  obtain ⟨b, hb, eb⟩ := List.mem_filterMap.1 hq
  exact h2.2 (h a ha b hb p q ea eb h2.1)
theorem conflM_true {l : List Int} {neg : Bool} {a b β p q : Int} (ha : a ∈ l) (hb : b ∈ l) (ea : pick1 L neg a = some (β, p)) (eb : pick1 L neg b = some (β, q)) (h : p ≠ q) : conflM L l neg = true := by
  unfold conflM conflP
  rw [List.any_eq_true]
  refine ⟨_, List.mem_filterMap.2 ⟨a, ha, ea⟩, ?_⟩
  rw [List.any_eq_true]
  exact ⟨_, List.mem_filterMap.2 ⟨b, hb, eb⟩, by simpa using h⟩
/-! ### picks -/
/-- a is the pick of a block's alternative. -/
structure IsPick (L : List GN) (a β p : Int) : Prop where
  has : hasM L a = true
  eq : nat L a = nd 2 β p []
structure IsNot (L : List GN) (c a : Int) : Prop where
  has : hasM L c = true
  eq : nat L c = nd 3 0 0 [a]
theorem IsPick.big {a β p : Int} (hL : Gr L) (h : IsPick L a β p) : 2 ≤ a := big_of_kind hL h.has (by rw [h.eq]; show (2 : Int) ≤ 2; omega)
theorem IsPick.grow {L' : List GN} {a β p : Int} (h : IsPick L a β p) (g : Grow L L') : IsPick L' a β p := ⟨g.has h.has, by rw [g.nat h.has]; exact h.eq⟩
theorem IsNot.grow {L' : List GN} {c a : Int} (h : IsNot L c a) (g : Grow L L') : IsNot L' c a := ⟨g.has h.has, by rw [g.nat h.has]; exact h.eq⟩
theorem IsPick.pos {a β p : Int} (h : IsPick L a β p) : pick1 L false a = some (β, p) := by
  unfold pick1
  rw [if_neg (by decide), h.eq]
  rfl
theorem IsPick.neg {a β p : Int} (h : IsPick L a β p) : pick1 L true a = none := by
  unfold pick1
  rw [if_pos rfl, h.eq]
  rfl
theorem IsNot.pick {c a β p : Int} (h : IsNot L c a) (ha : IsPick L a β p) : pick1 L true c = some (β, p) := by
  unfold pick1
  dsimp only
  rw [if_pos rfl, if_pos (by rw [h.eq]; rfl), show (nat L c).ins.getD 0 0 = a by rw [h.eq]; rfl, if_pos (by rw [ha.eq]; rfl), ha.eq]
  rfl
theorem IsPick.unique {a b β p : Int} (hL : Gr L) (ha : IsPick L a β p) (hb : IsPick L b β p) : a = b := nat_inj hL ha.has hb.has (ha.eq.trans hb.eq.symm)
theorem IsPick.same {a β p β' p' : Int} (ha : IsPick L a β p) (hb : IsPick L a β' p') : β = β' ∧ p = p' := by
  have h := ha.eq.symm.trans hb.eq
  unfold nd at h
  simp only [Prod.mk.injEq] at h
  exact ⟨h.2.1, h.2.2.1⟩
theorem pickM_is (hL : Gr L) (hr : Room mx L) {β p : Int} (h : 0 ≤ β ∧ β < 4096 ∧ -1 ≤ p ∧ p < 16) : Grow L (pickM mx L β p).2 ∧ IsPick (pickM mx L β p).2 (pickM mx L β p).1 β p ∧ (pickM mx L β p).2.length ≤ L.length + 1 := by
  have e : pickM mx L β p = addM mx L (nd 2 β p []) := by unfold pickM; rw [if_neg (by omega)]
  have hn : NodeOk L L.length (nd 2 β p []) := .inr (.inr ⟨hL.two, .inl ⟨β, p, rfl, h.1, h.2.1, h.2.2.1, h.2.2.2⟩⟩)
  rw [e]
  obtain ⟨_, h1, h2⟩ := addM_big hL hr hn (by show (2 : Int) ≤ 2; omega)
  exact ⟨(addM_ex hL hn (.inr hr.1)).1, ⟨h1, h2⟩, addM_len⟩
theorem notM_is (hL : Gr L) (hr : Room mx L) {a β p : Int} (h : IsPick L a β p) : Grow L (notM mx L a).2 ∧ IsNot (notM mx L a).2 (notM mx L a).1 a ∧ (notM mx L a).2.length ≤ L.length + 1 := by
  have hb := h.big hL
  have hk : ¬ (nat L a).kind = 3 := by rw [h.eq]; show ¬ (2 : Int) = 3; omega
  have e : notM mx L a = addM mx L (nd 3 0 0 [a]) := by unfold notM; rw [if_neg (fun hn => hn h.has), if_neg (by omega), if_neg hk]
  have hn := notM_node hL h.has (by omega) hk
  rw [e]
  obtain ⟨_, h1, h2⟩ := addM_big hL hr hn (by show (2 : Int) ≤ 3; omega)
  exact ⟨(addM_ex hL hn (.inr hr.1)).1, ⟨h1, h2⟩, addM_len⟩
theorem IsNot.big {c a : Int} (hL : Gr L) (h : IsNot L c a) : 2 ≤ c ∧ a < c := by
  have hb := big_of_kind hL h.has (by rw [h.eq]; show (2 : Int) ≤ 3; omega)
  obtain ⟨h0, h1⟩ := hasM_iff.1 h.has
  obtain ⟨a', e, _, h2, _⟩ := (hL.at h0 h1).not (by rw [h.eq]; rfl)
  rw [h.eq] at e
  unfold nd at e
  simp only [Prod.mk.injEq, List.cons.injEq] at e
  obtain ⟨_, _, _, ⟨e, _⟩, _⟩ := e
  omega
theorem pick_kind {a β p : Int} (h : IsPick L a β p) : (nat L a).kind = 2 := by rw [h.eq]; rfl
theorem not_kind {c a : Int} (h : IsNot L c a) : (nat L c).kind = 3 := by rw [h.eq]; rfl
theorem not_in {c a : Int} (h : IsNot L c a) : (nat L c).ins.getD 0 0 = a := by rw [h.eq]; rfl
/-! ### what the statement asks -/
theorem gather_picks (hL : Gr L) (h45 : k = 4 ∨ k = 5) (hz : z = 0 ∨ z = 1) (h : ∀ a ∈ l, ∃ β p, IsPick L a β p) : gatherM k z L l = some (norm l) :=
  gathered (fun a ha => by obtain ⟨β, p, h⟩ := h a ha; exact h.has) (fun a ha => by
    obtain ⟨β, p, h⟩ := h a ha
    have := h.big hL
    exact ⟨by rw [pick_kind h]; omega, by omega⟩)
theorem gather_nots (hL : Gr L) (h45 : k = 4 ∨ k = 5) (hz : z = 0 ∨ z = 1) (h : ∀ a ∈ l, ∃ b, IsNot L a b) : gatherM k z L l = some (norm l) :=
  gathered (fun a ha => by obtain ⟨b, h⟩ := h a ha; exact h.has) (fun a ha => by
    obtain ⟨b, h⟩ := h a ha
    have := h.big hL
    exact ⟨by rw [not_kind h]; omega, by omega⟩)
theorem and_apart (hL : Gr L) {a b β p q : Int} (ha : IsPick L a β p) (hb : IsPick L b β q) (hpq : p ≠ q) (hl : ∀ c ∈ l, ∃ γ r, IsPick L c γ r) (h1 : a ∈ l) (h2 : b ∈ l) : andM mx L l = (0, L) :=
  joinM_conf hL (.inl rfl) (.inr rfl) (gather_picks hL (.inl rfl) (.inr rfl) hl) (conflM_true ((mem_norm _ _).2 h1) ((mem_norm _ _).2 h2) ha.pos hb.pos hpq)
theorem or_apart (hL : Gr L) {a b c d β p q : Int} (ha : IsPick L a β p) (hb : IsPick L b β q) (hpq : p ≠ q) (hc : IsNot L c a) (hd : IsNot L d b) : orM mx L [c, d] = (1, L) :=
  joinM_conf hL (.inr rfl) (.inl rfl) (gather_nots hL (.inr rfl) (.inl rfl) (fun x hx => by
    simp only [List.mem_cons, List.not_mem_nil, or_false] at hx
    rcases hx with rfl | rfl
    · exact ⟨_, hc⟩
    · exact ⟨_, hd⟩)) (conflM_true ((mem_norm _ _).2 (by simp)) ((mem_norm _ _).2 (by simp)) (hc.pick ha) (hd.pick hb) hpq)
theorem and_same (hL : Gr L) {a β p : Int} (ha : IsPick L a β p) : andM mx L [a, a] = (a, L) := by
  have hb := ha.big hL
  have hg := gather_picks (l := [a, a]) hL (k := 4) (z := 1) (.inl rfl) (.inr rfl) (fun x hx => by
    simp only [List.mem_cons, List.not_mem_nil, or_false, or_self] at hx
    subst hx
    exact ⟨_, _, ha⟩)
  rw [norm_same] at hg
  refine joinM_one hL (.inl rfl) (.inr rfl) hg (by omega) (complM_false fun x hx hk => ?_) (conflM_false fun x hx y hy p q e1 e2 _ => ?_)
  · rw [List.mem_singleton.1 hx, pick_kind ha] at hk
    omega
  · rw [List.mem_singleton.1 hx] at e1
    rw [List.mem_singleton.1 hy, e1] at e2
    cases e2
    rfl
theorem or_same (hL : Gr L) {a c β p : Int} (ha : IsPick L a β p) (hc : IsNot L c a) : orM mx L [c, c] = (c, L) := by
  have hb := hc.big hL
  have hg := gather_nots (l := [c, c]) hL (k := 5) (z := 0) (.inr rfl) (.inl rfl) (fun x hx => by
    simp only [List.mem_cons, List.not_mem_nil, or_false, or_self] at hx
    subst hx
    exact ⟨_, hc⟩)
  rw [norm_same] at hg
  refine joinM_one hL (.inr rfl) (.inl rfl) hg (by omega) (complM_false fun x hx hk => ?_) (conflM_false fun x hx y hy p q e1 e2 _ => ?_)
  · rw [List.mem_singleton.1 hx, not_in hc, List.mem_singleton]
    omega
  · rw [List.mem_singleton.1 hx] at e1
    rw [List.mem_singleton.1 hy, e1] at e2
    cases e2
    rfl
theorem and_new (hL : Gr L) (hr : Room mx L) {a c β γ p q : Int} (ha : IsPick L a β p) (hc : IsPick L c γ q) (h : β ≠ γ) : 2 ≤ (andM mx L [a, c]).1 := by
  have hac : a ≠ c := fun e => by subst e; exact h (ha.same hc).1
  have hA := ha.big hL
  have hC := hc.big hL
  have hm : ∀ x ∈ [a, c], ∃ β p, IsPick L x β p := fun x hx => by
    simp only [List.mem_cons, List.not_mem_nil, or_false] at hx
    rcases hx with rfl | rfl
    · exact ⟨_, _, ha⟩
    · exact ⟨_, _, hc⟩
  refine joinM_new hL hr (.inl rfl) (.inr rfl) (gather_picks hL (.inl rfl) (.inr rfl) hm) (norm_two hac) (head_ne fun x hx => ?_) (complM_false fun x hx hk => ?_) (conflM_false fun x hx y hy p' q' e1 e2 e3 => ?_)
  · simp only [List.mem_cons, List.not_mem_nil, or_false] at hx
    omega
  · obtain ⟨_, _, hp⟩ := hm x ((mem_norm _ _).1 hx)
    rw [pick_kind hp] at hk
    omega
  · rw [mem_norm] at hx hy
    simp only [List.mem_cons, List.not_mem_nil, or_false] at hx hy
    rcases hx with rfl | rfl <;> rcases hy with rfl | rfl
    · rw [e1] at e2; cases e2; rfl
    · have e1 := (ha.pos).symm.trans e1; have e2 := (hc.pos).symm.trans e2
      cases e1; cases e2
      exact absurd e3 h
    · have e1 := (hc.pos).symm.trans e1; have e2 := (ha.pos).symm.trans e2
      cases e1; cases e2
      exact absurd e3.symm h
    · rw [e1] at e2; cases e2; rfl
theorem or_new_not (hL : Gr L) (hr : Room mx L) {a c na nc β γ p q : Int} (ha : IsPick L a β p) (hc : IsPick L c γ q) (h : β ≠ γ) (hna : IsNot L na a) (hnc : IsNot L nc c) : 2 ≤ (orM mx L [na, nc]).1 := by
  have hac : na ≠ nc := fun e => by
    subst e
    have := hna.eq.symm.trans hnc.eq
    unfold nd at this
    simp only [Prod.mk.injEq, List.cons.injEq] at this
    have e : a = c := this.2.2.2.1.1
    subst e
    exact h (ha.same hc).1
  have hA := hna.big hL
  have hC := hnc.big hL
  have hA2 := ha.big hL
  have hC2 := hc.big hL
  have hm : ∀ x ∈ [na, nc], ∃ b, IsNot L x b := fun x hx => by
    simp only [List.mem_cons, List.not_mem_nil, or_false] at hx
    rcases hx with rfl | rfl
    · exact ⟨_, hna⟩
    · exact ⟨_, hnc⟩
  refine joinM_new hL hr (.inr rfl) (.inl rfl) (gather_nots hL (.inr rfl) (.inl rfl) hm) (norm_two hac) (head_ne fun x hx => ?_) (complM_false fun x hx hk => ?_) (conflM_false fun x hx y hy p' q' e1 e2 e3 => ?_)
  · simp only [List.mem_cons, List.not_mem_nil, or_false] at hx
    omega
  · rw [mem_norm] at hx ⊢
    intro hm2
    have key : ∀ b b' β p, IsNot L b b' → IsPick L b' β p → ∀ y ∈ [na, nc], y ≠ b' := fun b b' β p _ hb y hy e => by
      obtain ⟨_, hn⟩ := hm y hy
      have k1 := not_kind hn
      rw [e, pick_kind hb] at k1
      omega
    have hx' := hx
    simp only [List.mem_cons, List.not_mem_nil, or_false] at hx'
    rcases hx' with e | e <;> rw [e] at hm2
    · rw [not_in hna] at hm2
      exact key _ _ _ _ hna ha _ hm2 rfl
    · rw [not_in hnc] at hm2
      exact key _ _ _ _ hnc hc _ hm2 rfl
  · rw [mem_norm] at hx hy
    simp only [List.mem_cons, List.not_mem_nil, or_false] at hx hy
    rcases hx with rfl | rfl <;> rcases hy with rfl | rfl
    · rw [e1] at e2; cases e2; rfl
    · have e1 := ((hna.pick ha)).symm.trans e1; have e2 := ((hnc.pick hc)).symm.trans e2
      cases e1; cases e2
      exact absurd e3 h
    · have e1 := ((hnc.pick hc)).symm.trans e1; have e2 := ((hna.pick ha)).symm.trans e2
      cases e1; cases e2
      exact absurd e3.symm h
    · rw [e1] at e2; cases e2; rfl
theorem or_picks (hL : Gr L) (hr : Room mx L) {a b β p γ q : Int} (ha : IsPick L a β p) (hb : IsPick L b γ q) : 2 ≤ (orM mx L [a, b]).1 := by
  have hA := ha.big hL
  have hB := hb.big hL
  have hm : ∀ x ∈ [a, b], ∃ β p, IsPick L x β p := fun x hx => by
    simp only [List.mem_cons, List.not_mem_nil, or_false] at hx
    rcases hx with rfl | rfl
    · exact ⟨_, _, ha⟩
    · exact ⟨_, _, hb⟩
  have hg := gather_picks (k := 5) (z := 0) hL (.inr rfl) (.inl rfl) hm
  have hcm : complM L (norm [a, b]) = false := complM_false fun x hx hk => by
    obtain ⟨_, _, hp⟩ := hm x ((mem_norm _ _).1 hx)
    rw [pick_kind hp] at hk
    omega
  have hcf : conflM L (norm [a, b]) true = false := conflM_false fun x hx y hy p' q' e1 e2 e3 => by
    obtain ⟨_, _, hp⟩ := hm x ((mem_norm _ _).1 hx)
    rw [hp.neg] at e1
    cases e1
  by_cases hab : a = b
  · subst hab
    rw [norm_same] at hg hcm hcf
    unfold orM
    rw [joinM_one hL (.inr rfl) (.inl rfl) hg (by omega) hcm hcf]
    exact hA
  · refine joinM_new hL hr (.inr rfl) (.inl rfl) hg (norm_two hab) (head_ne fun x hx => ?_) hcm hcf
    simp only [List.mem_cons, List.not_mem_nil, or_false] at hx
    omega
end
end Go.Sym
