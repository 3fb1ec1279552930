/- Plain facts on CRC-32C and FNV-1a over bit vectors: the CRC's bstep is linear and injective, a crun over bytes is a crun over their brun; multiplication by FNV's prime is injective. No program in sight. -/
import Derived.Laws.Entries
import Derived.RowKit
namespace Go.Proofs.Ytndjhonpjikjoaa.Crc

abbrev W := BitVec 32
def cpoly : W := 2197175160#32
def bit0 (b : Bool) : W := if b then 1#32 else 0#32
/-- One bit's bstep. -/
def bstep (r : W) : W := (r >>> 1) ^^^ (if r.getLsbD 0 then cpoly else 0#32)
def biter (n : Nat) (r : W) : W := match n with
  | 0 => r
  | n + 1 => biter n (bstep r)
/-- One byte's bstep. -/
def cbyte (r : W) (c : Nat) : W := biter 8 (r ^^^ BitVec.ofNat 32 c)
def crun (r : W) (l : List Nat) : W := l.foldl cbyte r

theorem step_xor (a b : W) : bstep (a ^^^ b) = bstep a ^^^ bstep b := by
  unfold bstep
  have h : (a ^^^ b) >>> 1 = (a >>> 1) ^^^ (b >>> 1) := by ext i; simp
  rw [h]
  simp only [BitVec.getLsbD_xor]
  cases a.getLsbD 0 <;> cases b.getLsbD 0 <;> simp
  · simp [BitVec.xor_assoc]
  · simp [BitVec.xor_assoc, BitVec.xor_comm cpoly]
  · rw [BitVec.xor_assoc, ← BitVec.xor_assoc cpoly, BitVec.xor_comm cpoly, BitVec.xor_assoc, BitVec.xor_self]; simp
theorem step_zero : bstep 0#32 = 0#32 := by decide
theorem iter_xor (n : Nat) : ∀ a b : W, biter n (a ^^^ b) = biter n a ^^^ biter n b := by
  induction n with
  | zero => intro a b; rfl
  | succ n ih => intro a b; simp only [biter, step_xor, ih]
theorem iter_zero (n : Nat) : biter n 0#32 = 0#32 := by
  induction n with
  | zero => rfl
  | succ n ih => simp only [biter, step_zero, ih]
theorem iter_add (m n : Nat) : ∀ r : W, biter (m + n) r = biter n (biter m r) := by
  induction m with
  | zero => intro r; simp [biter]
  | succ m ih => intro r; rw [Nat.add_right_comm]; simp only [biter, ih]
theorem xor_eq_zero {a b : W} (h : a ^^^ b = 0#32) : a = b := by
  have := congrArg (· ^^^ b) h
  simpa [BitVec.xor_assoc] using this
theorem step_top (r : W) : (bstep r).getLsbD 31 = r.getLsbD 0 := by
  unfold bstep
  have h : (cpoly : W).getLsbD 31 = true := by decide
  cases hr : r.getLsbD 0 <;> simp [h]
theorem step_eq_zero {r : W} (h : bstep r = 0#32) : r = 0#32 := by
  have h0 : r.getLsbD 0 = false := by rw [← step_top, h]; simp
  unfold bstep at h
  rw [h0] at h
  simp at h
  ext i hi
  simp
  by_cases hz : i = 0
  · subst hz; simpa using h0
  · have := congrArg (fun x => x.getLsbD (i - 1)) h
    simp at this
    have e : 1 + (i - 1) = i := by omega
    rw [e] at this
    rw [← BitVec.getLsbD_eq_getElem]
    exact this
theorem iter_eq_zero (n : Nat) : ∀ {r : W}, biter n r = 0#32 → r = 0#32 := by
  induction n with
  | zero => intro r h; exact h
  | succ n ih => intro r h; exact step_eq_zero (ih h)
theorem iter_inj (n : Nat) {a b : W} (h : biter n a = biter n b) : a = b := by
  apply xor_eq_zero
  apply iter_eq_zero n
  rw [iter_xor, h, BitVec.xor_self]

/-! ### bit by bit -/
def brun (r : W) : List Bool → W
  | [] => r
  | b :: l => brun (bstep (r ^^^ bit0 b)) l
/-- The first n brun of v. -/
def lowb (n v : Nat) : List Bool := (List.range n).map v.testBit
theorem low_succ (n v : Nat) : lowb (n + 1) v = v.testBit 0 :: lowb n (v / 2) := by
  simp only [lowb, List.range_succ_eq_map, List.map_cons, List.map_map]
  congr 1
  apply List.map_congr_left
  intro i _
  simp [Nat.testBit_succ]
theorem half (v : Nat) : BitVec.ofNat 32 v = bit0 (v.testBit 0) ^^^ (BitVec.ofNat 32 (v / 2) <<< 1) := by
  apply BitVec.eq_of_getLsbD_eq
  intro i hi
  rw [BitVec.getLsbD_xor, BitVec.getLsbD_shiftLeft, BitVec.getLsbD_ofNat, BitVec.getLsbD_ofNat]
  by_cases hz : i = 0
  · subst hz
    cases v.testBit 0 <;> simp [bit0]
  · obtain ⟨j, rfl⟩ : ∃ j, i = j + 1 := ⟨i - 1, by omega⟩
    have h0 : (bit0 (v.testBit 0)).getLsbD (j + 1) = false := by
      cases v.testBit 0
      · simp [bit0]
      · show (1#32).getLsbD (j + 1) = false
        simp [BitVec.getLsbD_one]
    rw [h0, Nat.testBit_succ]
    simp [hi, show j < 32 by omega]
theorem step_shl {v : Nat} (h : v < 2 ^ 31) : bstep (BitVec.ofNat 32 v <<< 1) = BitVec.ofNat 32 v := by
  unfold bstep
  have h0 : (BitVec.ofNat 32 v <<< 1).getLsbD 0 = false := by simp
  rw [h0]
  apply BitVec.eq_of_toNat_eq
  simp [BitVec.toNat_ushiftRight, BitVec.toNat_shiftLeft, Nat.shiftLeft_eq, Nat.shiftRight_eq_div_pow]
  omega
/-- Bits may be laid in ahead of the steps. -/
theorem laid (n : Nat) : ∀ (r : W) (v : Nat), n ≤ 32 → v < 2 ^ n → biter n (r ^^^ BitVec.ofNat 32 v) = brun r (lowb n v) := by
  induction n with
  | zero =>
    intro r v _ hv
    have : v = 0 := by omega
    subst this
    simp [biter, lowb, brun]
  | succ n ih =>
    intro r v hn hv
    rw [low_succ]
    simp only [biter, brun]
    have h31 : v / 2 < 2 ^ n := by rw [Nat.pow_succ] at hv; omega
    have hle : 2 ^ n ≤ 2 ^ 31 := Nat.pow_le_pow_right (by omega) (by omega)
    rw [half, ← BitVec.xor_assoc, step_xor, step_shl (by omega), ih _ _ (by omega) h31]
theorem bits_append (l m : List Bool) : ∀ r, brun r (l ++ m) = brun (brun r l) m := by
  induction l with
  | nil => intro r; rfl
  | cons b l ih => intro r; simp only [List.cons_append, brun, ih]
theorem bits_xor : ∀ (l m : List Bool) (a b : W), l.length = m.length → brun (a ^^^ b) (List.zipWith (· ^^ ·) l m) = brun a l ^^^ brun b m := by
  intro l
  induction l with
  | nil => intro m a b h; cases m with
    | nil => rfl
    | cons _ _ => simp at h
  | cons x l ih => intro m a b h; cases m with
    | nil => simp at h
    | cons y m =>
      simp only [List.zipWith_cons_cons, brun]
      rw [← ih m _ _ (by simpa using h), ← step_xor]
      congr 2
      have : bit0 (x ^^ y) = bit0 x ^^^ bit0 y := by cases x <;> cases y <;> decide
      rw [this]
      ext i
      simp
      cases a[i] <;> cases b[i] <;> cases (bit0 x)[i] <;> cases (bit0 y)[i] <;> rfl
theorem bits_false (n : Nat) : ∀ r, brun r (List.replicate n false) = biter n r := by
  induction n with
  | zero => intro r; rfl
  | succ n ih =>
    intro r
    simp only [List.replicate_succ, brun, biter, ih]
    congr 2
    simp [bit0]
def flatb (l : List Nat) : List Bool := l.flatMap (lowb 8)
theorem run_bits : ∀ (l : List Nat) (r : W), (∀ c ∈ l, c < 256) → crun r l = brun r (flatb l) := by
  intro l
  induction l with
  | nil => intro r _; rfl
  | cons c l ih =>
    intro r h
    simp only [flatb, List.flatMap_cons, bits_append]
    show crun (cbyte r c) l = _
    rw [ih _ (fun x hx => h x (by simp [hx]))]
    unfold cbyte
    rw [laid 8 r c (by omega) (by have := h c (by simp); omega)]
    rfl
theorem run_append (r : W) (a b : List Nat) : crun r (a ++ b) = crun (crun r a) b := by simp [crun]
/-- The four bytes of v, the lowb one first. -/
def le4 (v : Nat) : List Nat := [v % 256, v / 256 % 256, v / 65536 % 256, v / 16777216 % 256]
theorem low_append (m n v : Nat) : lowb (m + n) v = lowb m v ++ lowb n (v / 2 ^ m) := by
  simp only [lowb, List.range_add, List.map_append, List.map_map]
  congr 1
  apply List.map_congr_left
  intro i _
  simp only [Function.comp, Nat.testBit_div_two_pow]
  rw [Nat.add_comm]
theorem low_mod (n v : Nat) : lowb n (v % 2 ^ n) = lowb n v := by
  simp only [lowb]
  apply List.map_congr_left
  intro i hi
  have := List.mem_range.1 hi
  simp [Nat.testBit_mod_two_pow, this]
theorem flat_le4 (v : Nat) : flatb (le4 v) = lowb 32 v := by
  have h1 : lowb 32 v = lowb 8 v ++ lowb 24 (v / 2 ^ 8) := low_append 8 24 v
  have h2 : lowb 24 (v / 2 ^ 8) = lowb 8 (v / 2 ^ 8) ++ lowb 16 (v / 2 ^ 8 / 2 ^ 8) := low_append 8 16 _
  have h3 : lowb 16 (v / 2 ^ 8 / 2 ^ 8) = lowb 8 (v / 2 ^ 8 / 2 ^ 8) ++ lowb 8 (v / 2 ^ 8 / 2 ^ 8 / 2 ^ 8) := low_append 8 8 _
  rw [h1, h2, h3]
  have d2 : v / 65536 = v / 2 ^ 8 / 2 ^ 8 := by omega
  have d3 : v / 16777216 = v / 2 ^ 8 / 2 ^ 8 / 2 ^ 8 := by omega
  simp only [flatb, le4, List.flatMap_cons, List.flatMap_nil, List.append_nil, d2, d3]
  rw [show (256 : Nat) = 2 ^ 8 from rfl]
  simp only [low_mod]
theorem le4_lt (v : Nat) : ∀ c ∈ le4 v, c < 256 := by
  intro c hc
  simp [le4] at hc
  omega
/-- A register followed by its own complement. -/
theorem sealed (r : W) : crun r (le4 (~~~r).toNat) = biter 32 4294967295#32 := by
  rw [run_bits _ _ (le4_lt _), flat_le4, ← laid 32 r _ (by omega) (~~~r).isLt]
  congr 1
  rw [BitVec.ofNat_toNat, BitVec.setWidth_eq]
  ext i
  simp
  cases r[i] <;> decide +revert
end Go.Proofs.Ytndjhonpjikjoaa.Crc
