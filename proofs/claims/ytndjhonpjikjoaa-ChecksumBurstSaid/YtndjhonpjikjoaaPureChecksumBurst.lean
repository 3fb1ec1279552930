/- The law ChecksumBurst holds: a change within 32 consecutive bits changes the CRC. No condition. -/
import Derived.Test.YtndjhonpjikjoaaPChecksumBurstx1
import Derived.Test.YtndjhonpjikjoaaCrc
namespace Go.Proofs.Ytndjhonpjikjoaa.Pure
open Go.RowKit Go.Proofs.Ytndjhonpjikjoaa.PChecksumBurst Go.Proofs.YtndjhonpjikjoaaW.PrintWords Go.Proofs.YtndjhonpjikjoaaW.PrintLast Go.Proofs.Ytndjhonpjikjoaa.Crc
/-! ### what the printed functions compute -/
theorem wrap_small {i : Int} (h0 : 0 ≤ i) (h : i < 1000000000000) : wrap64 (i + 1) = i + 1 := by unfold wrap64; omega
theorem rd_at (xs : List Int) (i : Nat) (h : i < xs.length) : rd xs (i : Int) = xs[i] := by simp [rd, h]
theorem wrapU32 (n : Int) : IntKind.u32.wrap n = n % 4294967296 := by
  simp [IntKind.wrap, IntKind.bits, IntKind.signed]
theorem wrapU8 (n : Int) : IntKind.u8.wrap n = n % 256 := by
  simp [IntKind.wrap, IntKind.bits, IntKind.signed]
theorem xor32 (a b : W) : Go.bits .xor .u32 (a.toNat : Int) (b.toNat : Int) = ((a ^^^ b).toNat : Int) := by
  simp only [Go.bits]
  show IntKind.u32.wrap ((BitVec.ofInt 32 a.toNat ^^^ BitVec.ofInt 32 b.toNat).toNat : Int) = _
  rw [BitVec.ofInt_natCast, BitVec.ofInt_natCast, BitVec.ofNat_toNat, BitVec.ofNat_toNat, BitVec.setWidth_eq, BitVec.setWidth_eq]
  have := (a ^^^ b).isLt
  rw [wrapU32]
  omega
theorem not32 (a : W) : Go.bits .xor .u32 4294967295 (a.toNat : Int) = ((~~~a).toNat : Int) := by
  have h := xor32 4294967295#32 a
  rw [show ((4294967295#32 : W).toNat : Int) = 4294967295 from rfl] at h
  rw [h]
  congr 2
theorem not32_0 : Go.bits .xor .u32 4294967295 0 = ((~~~(0#32 : W)).toNat : Int) := not32 0#32
theorem and1 (a : W) : (Go.bits .and .u32 (a.toNat : Int) 1 = 1) = (a.getLsbD 0 = true) := by
  simp only [Go.bits]
  show (IntKind.u32.wrap ((BitVec.ofInt 32 a.toNat &&& BitVec.ofInt 32 1).toNat : Int) = 1) = _
  rw [BitVec.ofInt_natCast, BitVec.ofNat_toNat, BitVec.setWidth_eq, show BitVec.ofInt 32 1 = 1#32 from rfl]
  have e : (a &&& 1#32).toNat = a.toNat % 2 := by
    rw [BitVec.toNat_and]
    show a.toNat &&& 1 = _
    exact Nat.and_one_is_mod _
  rw [e, BitVec.getLsbD, Nat.testBit_zero]
  rw [wrapU32, decide_eq_true_eq, eq_iff_iff]
  omega
theorem half32 (a : W) : (a.toNat : Int) / (2 : Int) = ((a >>> 1).toNat : Int) := by
  rw [BitVec.toNat_ushiftRight, Nat.shiftRight_eq_div_pow]
  simp
theorem byteOf {x : Int} (h : (Lit.int .u8 x).wf = true) : 0 ≤ x ∧ x < 256 := by
  simp [Lit.wf, IntKind.min, IntKind.max, IntKind.signed, IntKind.bits] at h
  omega
theorem mod32 {x : Int} (h : (Lit.int .u8 x).wf = true) : x % 4294967296 = ((BitVec.ofNat 32 x.toNat : W).toNat : Int) := by
  have := byteOf h
  simp
  omega
/-- A row of bytes as numbers. -/
abbrev nat (xs : List Int) : List Nat := xs.map Int.toNat
theorem step_one (r : W) (h : r.getLsbD 0 = true) : bstep r = (r >>> 1) ^^^ cpoly := by unfold bstep; rw [h]; rfl
theorem step_nil (r : W) (h : ¬ r.getLsbD 0 = true) : bstep r = r >>> 1 := by unfold bstep; rw [if_neg h]; simp
theorem ext_bit (xs : List Int) (n : Int) (i : Int) (k : Nat) : ∀ (m : Nat) (j : Int) (r : W), 0 ≤ j → j + m = 8 →
    checksum_ExtendCRC.l1 (k + m + 1) (r.toNat : Int) xs n i j = checksum_ExtendCRC.l0 k ((biter m r).toNat : Int) xs n (wrap64 (i + 1)) := by
  intro m
  induction m with
  | zero =>
    intro j r h0 hj
    rw [checksum_ExtendCRC.l1]
    rw [if_neg (by omega)]
    rfl
  | succ m ih =>
    intro j r h0 hj
    have e : k + (m + 1) + 1 = (k + m + 1) + 1 := by omega
    rw [e]
    rw [checksum_ExtendCRC.l1]
    rw [if_pos (by omega), wrap_small h0 (by omega), half32]
    have hp : (2197175160 : Int) = ((cpoly : W).toNat : Int) := rfl
    by_cases hb : r.getLsbD 0 = true
    · rw [if_pos ((and1 r).mpr hb), hp, xor32, ← step_one r hb]
      exact ih (j + 1) (bstep r) (by omega) (by omega)
    · rw [if_neg (fun h => hb ((and1 r).mp h)), ← step_nil r hb]
      exact ih (j + 1) (bstep r) (by omega) (by omega)
theorem ext_row (xs : List Int) (hn : xs.length ≤ 1000000) (hw : ∀ x ∈ xs, (Lit.int .u8 x).wf = true) (k : Nat) : ∀ (m : Nat) (i : Nat) (r : W), i + m = xs.length →
    checksum_ExtendCRC.l0 (k + 10 * m + 1) (r.toNat : Int) xs (xs.length : Int) (i : Int) = some ((~~~ (crun r (nat (xs.drop i)))).toNat : Int) := by
  intro m
  induction m with
  | zero =>
    intro i r hi
    rw [checksum_ExtendCRC.l0]
    rw [if_neg (by omega), not32, List.drop_eq_nil_of_le (by omega)]
    rfl
  | succ m ih =>
    intro i r hi
    have hlt : i < xs.length := by omega
    have e : k + 10 * (m + 1) + 1 = ((k + 10 * m + 1) + 8 + 1) + 1 := by omega
    rw [e]
    rw [checksum_ExtendCRC.l0]
    rw [if_pos (by omega), if_pos (by omega), if_pos (by omega), rd_at xs i hlt, mod32 (hw _ (List.getElem_mem hlt)), xor32]
    rw [ext_bit xs (xs.length : Int) i (k + 10 * m + 1) 8 0 _ (by omega) (by omega), wrap_small (by omega) (by omega)]
    have h2 : ((i : Int) + 1) = ((i + 1 : Nat) : Int) := by omega
    rw [h2, ih (i + 1) _ (by omega), List.drop_eq_getElem_cons hlt]
    rfl
theorem ext_f (xs : List Int) (hn : xs.length ≤ 1000000) (hw : ∀ x ∈ xs, (Lit.int .u8 x).wf = true) (a : W) (k : Nat) (hk : 10 * xs.length + 1 ≤ k) :
    checksum_ExtendCRC.f k (a.toNat : Int) xs = some ((~~~ (crun (~~~a) (nat xs))).toNat : Int) := by
  obtain ⟨d, rfl⟩ : ∃ d, k = d + 10 * xs.length + 1 := ⟨k - (10 * xs.length + 1), by omega⟩
  unfold checksum_ExtendCRC.f
  rw [not32]
  exact ext_row xs hn hw d xs.length 0 (~~~a) (by omega)
/-- The CRC of a row. -/
theorem ext_crc (xs : List Int) (hn : xs.length ≤ 1000000) (hw : ∀ x ∈ xs, (Lit.int .u8 x).wf = true) (k : Nat) (hk : 10 * xs.length + 1 ≤ k) :
    checksum_CRC.f k xs = some ((~~~ (crun (~~~0#32) (nat xs))).toNat : Int) := by
  unfold checksum_CRC.f
  have := ext_f xs hn hw 0#32 k hk
  simp only [BitVec.toNat_ofNat, Nat.zero_mod, Int.cast_ofNat_Int] at this
  rw [this]
  rfl
theorem wrapU64 (n : Nat) : IntKind.u64.wrap (n : Int) = ((n % 18446744073709551616 : Nat) : Int) := by
  simp [IntKind.wrap, IntKind.bits, IntKind.signed]
/-- One bstep of FNV-1a. -/
def fnv (h : BitVec 64) (c : Nat) : BitVec 64 := (h ^^^ BitVec.ofNat 64 c) * 1099511628211#64
theorem fnv_int (h : BitVec 64) {x : Int} (hx : (Lit.int .u8 x).wf = true) :
    IntKind.u64.wrap ((Go.bits .xor .u64 (h.toNat : Int) (IntKind.u64.wrap x)) * 1099511628211) = ((fnv h x.toNat).toNat : Int) := by
  have hb := byteOf hx
  obtain ⟨n, rfl⟩ : ∃ n : Nat, x = n := ⟨x.toNat, by omega⟩
  rw [wrapU64, show n % 18446744073709551616 = (BitVec.ofNat 64 n).toNat by simp]
  have e : Go.bits .xor .u64 (h.toNat : Int) ((BitVec.ofNat 64 n).toNat : Int) = ((h ^^^ BitVec.ofNat 64 n).toNat : Int) := by
    simp only [Go.bits]
    show IntKind.u64.wrap ((BitVec.ofInt 64 h.toNat ^^^ BitVec.ofInt 64 (BitVec.ofNat 64 n).toNat).toNat : Int) = _
    rw [BitVec.ofInt_natCast, BitVec.ofInt_natCast, BitVec.ofNat_toNat, BitVec.ofNat_toNat, BitVec.setWidth_eq, BitVec.setWidth_eq, wrapU64, Nat.mod_eq_of_lt (h ^^^ BitVec.ofNat 64 n).isLt]
  rw [e]
  have e2 : ((h ^^^ BitVec.ofNat 64 n).toNat : Int) * 1099511628211 = (((h ^^^ BitVec.ofNat 64 n).toNat * 1099511628211 : Nat) : Int) := by simp
  rw [e2, wrapU64]
  unfold fnv
  rw [BitVec.toNat_mul]
  simp
theorem hash_row (xs : List Int) (hn : xs.length ≤ 1000000) (hw : ∀ x ∈ xs, (Lit.int .u8 x).wf = true) (k : Nat) : ∀ (m : Nat) (i : Nat) (r : BitVec 64), i + m = xs.length →
    checksum_Hash.l0 (k + m + 1) (r.toNat : Int) xs (xs.length : Int) (i : Int) = some (((nat (xs.drop i)).foldl fnv r).toNat : Int) := by
  intro m
  induction m with
  | zero =>
    intro i r hi
    rw [checksum_Hash.l0]
    rw [if_neg (by omega), List.drop_eq_nil_of_le (by omega)]
    rfl
  | succ m ih =>
    intro i r hi
    have hlt : i < xs.length := by omega
    have e : k + (m + 1) + 1 = (k + m + 1) + 1 := by omega
    rw [e]
    rw [checksum_Hash.l0]
    rw [if_pos (by omega), if_pos (by omega), if_pos (by omega), rd_at xs i hlt, fnv_int r (hw _ (List.getElem_mem hlt)), wrap_small (by omega) (by omega)]
    have h2 : ((i : Int) + 1) = ((i + 1 : Nat) : Int) := by omega
    rw [h2, ih (i + 1) _ (by omega), List.drop_eq_getElem_cons hlt]
    rfl
theorem hash_f (xs : List Int) (hn : xs.length ≤ 1000000) (hw : ∀ x ∈ xs, (Lit.int .u8 x).wf = true) (k : Nat) (hk : xs.length + 1 ≤ k) :
    checksum_Hash.f k xs = some (((nat xs).foldl fnv 14695981039346656037#64).toNat : Int) := by
  obtain ⟨d, rfl⟩ : ∃ d, k = d + xs.length + 1 := ⟨k - (xs.length + 1), by omega⟩
  unfold checksum_Hash.f
  exact hash_row xs hn hw d xs.length 0 14695981039346656037#64 (by omega)
/-- The check values. -/
theorem known_true (k : Nat) (hk : 100 ≤ k) : credencelaw5_known.f k = some true := by
  unfold credencelaw5_known.f
  rw [ext_crc _ (by decide) (by decide) k (by simp; omega)]
  rw [show (((~~~ (crun (~~~0#32) (nat [49, 50, 51, 52, 53, 54, 55, 56, 57]))).toNat : Int)) = 3808858755 by decide +kernel]
  simp only [Option.bind_some, if_true]
  rw [hash_f [97] (by decide) (by decide) k (by simp; omega)]
  rw [show (((nat [97]).foldl fnv 14695981039346656037#64).toNat : Int) = 12638187200555641996 by decide +kernel]
  simp only [Option.bind_some, if_true]
  rw [hash_f [] (by decide) (by decide) k (by simp; omega)]
  rfl
/-- Bit k of a row of bytes, the low bit of a byte first. -/
def bitAt (l : List Nat) (k : Nat) : Bool := (l.getD (k / 8) 0).testBit (k % 8)
theorem flatb_length (l : List Nat) : (flatb l).length = 8 * l.length := by
  induction l with
  | nil => rfl
  | cons c l ih =>
    have : flatb (c :: l) = lowb 8 c ++ flatb l := by simp [flatb]
    rw [this, List.length_append, ih]
    simp [lowb]
    omega
theorem flatb_at : ∀ (l : List Nat) (k : Nat), k < 8 * l.length → (flatb l)[k]? = some (bitAt l k)
  | [], k, h => by simp at h
  | c :: l, k, h => by
    have e : flatb (c :: l) = lowb 8 c ++ flatb l := by simp [flatb]
    have hl : (lowb 8 c).length = 8 := by simp [lowb]
    rw [e]
    by_cases hk : k < 8
    · rw [List.getElem?_append_left (by omega)]
      have : k / 8 = 0 := by omega
      simp [bitAt, this, lowb, hk, Nat.mod_eq_of_lt hk]
    · rw [List.getElem?_append_right (by omega), hl, flatb_at l (k - 8) (by simp at h; omega)]
      have h1 : k / 8 = (k - 8) / 8 + 1 := by omega
      have h2 : k % 8 = (k - 8) % 8 := by omega
      simp [bitAt, h1, h2]
/-- The stream of a difference: v's 32 bits from 'at' on. -/
def burst (n a v : Nat) : List Bool := List.replicate a false ++ (lowb 32 v ++ List.replicate (n - (a + 32)) false)
theorem brun_burst (n a : Nat) (v : Nat) (h0 : v ≠ 0) (h1 : v < 4294967296) : brun 0#32 (burst n a v) ≠ 0#32 := by
  intro h
  unfold burst at h
  rw [bits_append, bits_append, bits_false, bits_false, iter_zero, ← laid 32 0#32 v (by omega) (by omega)] at h
  have h2 := iter_eq_zero _ (iter_eq_zero _ h)
  rw [BitVec.zero_xor] at h2
  have := congrArg BitVec.toNat h2
  simp at this
  omega
theorem burst_at (n a v k : Nat) (h : a + 32 ≤ n) (hk : k < n) : (burst n a v)[k]? = some (decide (a ≤ k) && decide (k < a + 32) && v.testBit (k - a)) := by
  unfold burst
  by_cases h1 : k < a
  · rw [List.getElem?_append_left (by simpa using h1)]
    simp [h1, show ¬ a ≤ k by omega]
  · rw [List.getElem?_append_right (by simp; omega), List.length_replicate]
    by_cases h2 : k < a + 32
    · rw [List.getElem?_append_left (by simp [lowb]; omega)]
      simp [lowb, h2, show a ≤ k by omega, show k - a < 32 by omega]
    · have hl : (lowb 32 v).length = 32 := by simp [lowb]
      rw [List.getElem?_append_right (by omega), hl, List.getElem?_replicate, if_pos (by omega)]
      simp [h2]
/-- Two rows that differ in a burst alone have different CRCs. -/
theorem crun_ne (l m : List Nat) (hl : ∀ c ∈ l, c < 256) (hm : ∀ c ∈ m, c < 256) (he : l.length = m.length) (a v : Nat) (ha : a + 32 ≤ 8 * l.length) (hv0 : v ≠ 0) (hv : v < 4294967296)
    (hb : ∀ k, k < 8 * l.length → bitAt m k = (bitAt l k ^^ (decide (a ≤ k) && decide (k < a + 32) && v.testBit (k - a)))) (r : W) : crun r l ≠ crun r m := by
  intro h
  rw [run_bits l r hl, run_bits m r hm] at h
  have e : flatb m = List.zipWith (· ^^ ·) (flatb l) (burst (8 * l.length) a v) := by
    apply List.ext_getElem?
    intro k
    rw [List.getElem?_zipWith]
    by_cases hk : k < 8 * l.length
    · rw [flatb_at l k hk, flatb_at m k (by omega), burst_at _ a v k ha hk, hb k hk]
    · rw [List.getElem?_eq_none (by rw [flatb_length]; omega), List.getElem?_eq_none (l := flatb l) (by rw [flatb_length]; omega)]
  have hlen : (flatb l).length = (burst (8 * l.length) a v).length := by
    rw [flatb_length]
    simp [burst, lowb]
    omega
  have hx := bits_xor (flatb l) (burst (8 * l.length) a v) r 0#32 hlen
  rw [BitVec.xor_zero, ← e, ← h] at hx
  have h2 : brun r (flatb l) ^^^ brun r (flatb l) = brun r (flatb l) ^^^ (brun r (flatb l) ^^^ brun 0#32 (burst (8 * l.length) a v)) := by rw [← hx]
  rw [BitVec.xor_self, ← BitVec.xor_assoc, BitVec.xor_self, BitVec.zero_xor] at h2
  exact brun_burst _ a v hv0 hv h2.symm
/-- What the program's loop does to a row: each set bit of v turns a bit. -/
def turned (v a : Nat) : Nat → List Nat → List Nat
  | 0, l => l
  | i + 1, l => if v.testBit i then (turned v a i l).set ((a + i) / 8) ((turned v a i l).getD ((a + i) / 8) 0 ^^^ 2 ^ ((a + i) % 8)) else turned v a i l
theorem turned_length (v a : Nat) (l : List Nat) : ∀ i, (turned v a i l).length = l.length
  | 0 => rfl
  | i + 1 => by
    unfold turned
    split
    · rw [List.length_set, turned_length v a l i]
    · exact turned_length v a l i
theorem turned_lt (v a : Nat) (l : List Nat) (hl : ∀ c ∈ l, c < 256) : ∀ i, ∀ c ∈ turned v a i l, c < 256
  | 0 => hl
  | i + 1 => by
    intro c hc
    unfold turned at hc
    split at hc
    · rcases List.mem_or_eq_of_mem_set hc with hc | rfl
      · exact turned_lt v a l hl i c hc
      · have h1 : (turned v a i l).getD ((a + i) / 8) 0 < 256 := by
          rw [List.getD_eq_getElem?_getD]
          cases h : (turned v a i l)[(a + i) / 8]? with
          | none => simp
          | some x => exact turned_lt v a l hl i x (List.mem_of_getElem? h)
        exact Nat.xor_lt_two_pow (n := 8) h1 (Nat.pow_lt_pow_right (by omega) (by omega))
    · exact turned_lt v a l hl i c hc
theorem turned_bit (v a : Nat) (l : List Nat) : ∀ i, a + i ≤ 8 * l.length → ∀ k, k < 8 * l.length →
    bitAt (turned v a i l) k = (bitAt l k ^^ (decide (a ≤ k) && decide (k < a + i) && v.testBit (k - a)))
  | 0 => fun _ k _ => by
    have : (decide (a ≤ k) && decide (k < a + 0)) = false := by simp
    rw [this]
    simp [turned]
  | i + 1 => fun hi k hk => by
    have ih := turned_bit v a l i (by omega)
    unfold turned
    by_cases hv : v.testBit i
    · rw [if_pos hv]
      have hlt : (a + i) / 8 < (turned v a i l).length := by rw [turned_length]; omega
      by_cases hb : k / 8 = (a + i) / 8
      · have e : bitAt ((turned v a i l).set ((a + i) / 8) ((turned v a i l).getD ((a + i) / 8) 0 ^^^ 2 ^ ((a + i) % 8))) k = (bitAt (turned v a i l) k ^^ decide ((a + i) % 8 = k % 8)) := by
          unfold bitAt
          rw [hb, List.getD_eq_getElem?_getD, List.getElem?_set_self hlt]
          simp only [Option.getD_some, Nat.testBit_xor, Nat.testBit_two_pow]
        rw [e, ih k hk]
        by_cases hm : k = a + i
        · subst hm
          have h1 : a ≤ a + i := by omega
          simp [h1, hv]
        · have h1 : ¬ (a + i) % 8 = k % 8 := by omega
          have h2 : (decide (k < a + (i + 1))) = decide (k < a + i) := by
            apply decide_eq_decide.mpr
            omega
          simp [h1, h2]
      · have e : bitAt ((turned v a i l).set ((a + i) / 8) ((turned v a i l).getD ((a + i) / 8) 0 ^^^ 2 ^ ((a + i) % 8))) k = bitAt (turned v a i l) k := by
          unfold bitAt
          rw [List.getD_eq_getElem?_getD, List.getElem?_set_ne (fun h => hb h.symm), ← List.getD_eq_getElem?_getD]
        have h2 : (decide (k < a + (i + 1))) = decide (k < a + i) := by
          apply decide_eq_decide.mpr
          omega
        rw [e, ih k hk, h2]
    · rw [if_neg hv, ih k hk]
      by_cases hm : k = a + i
      · subst hm
        simp [hv]
      · have h2 : (decide (k < a + (i + 1))) = decide (k < a + i) := by
          apply decide_eq_decide.mpr
          omega
        rw [h2]
theorem u8_nat (l : List Int) (h : ∀ x ∈ l, (Lit.int .u8 x).wf = true) : (nat l).map (fun c : Nat => (c : Int)) = l ∧ ∀ c ∈ nat l, c < 256 := by
  constructor
  · rw [List.map_map]
    conv => rhs; rw [← List.map_id l]
    apply List.map_congr_left
    intro x hx
    have := byteOf (h x hx)
    simp
    omega
  · intro c hc
    obtain ⟨x, hx, rfl⟩ := List.mem_map.1 hc
    have := byteOf (h x hx)
    omega
theorem shr_test (v i : Nat) (hv : v < 4294967296) (hi : i < 32) : (Go.bits .and .u32 (shr .u32 (v : Int) (i : Int)) 1 = 1) = (v.testBit i = true) := by
  have hle : v / 2 ^ i < 4294967296 := Nat.lt_of_le_of_lt (Nat.div_le_self _ _) hv
  have e : shr .u32 (v : Int) (i : Int) = ((BitVec.ofNat 32 (v / 2 ^ i) : W).toNat : Int) := by
    unfold shr
    rw [show min (i : Int).toNat IntKind.u32.bits = i by simp [IntKind.bits]; omega, BitVec.toNat_ofNat, Nat.mod_eq_of_lt (by omega)]
    simp
  rw [e, and1, BitVec.getLsbD_ofNat, Nat.testBit_div_two_pow]
  simp
theorem shl_one (j : Nat) (h : j < 8) : shl .u8 1 (j : Int) = ((2 ^ j : Nat) : Int) := by
  have : 2 ^ j < 256 := Nat.pow_lt_pow_right (a := 2) (n := 8) (by omega) h
  unfold shl
  rw [show min (j : Int).toNat IntKind.u8.bits = j by simp [IntKind.bits]; omega, wrapU8]
  have e : (1 : Int) * 2 ^ j = ((2 ^ j : Nat) : Int) := by simp
  rw [e]
  generalize 2 ^ j = q at this
  omega
theorem xor8n (a b : Nat) (ha : a < 256) (hb : b < 256) : Go.bits .xor .u8 (a : Int) (b : Int) = ((a ^^^ b : Nat) : Int) := by
  have hlt : a ^^^ b < 256 := Nat.xor_lt_two_pow (n := 8) (by omega) (by omega)
  simp only [Go.bits]
  show IntKind.u8.wrap ((BitVec.ofInt 8 a ^^^ BitVec.ofInt 8 b).toNat : Int) = _
  rw [BitVec.ofInt_natCast, BitVec.ofInt_natCast, BitVec.toNat_xor, BitVec.toNat_ofNat, BitVec.toNat_ofNat, Nat.mod_eq_of_lt (by omega), Nat.mod_eq_of_lt (by omega), wrapU8]
  omega
/-- Numbers as a row. -/
abbrev ints (l : List Nat) : List Int := l.map (fun c : Nat => (c : Int))
theorem rd_ints (l : List Nat) (i : Nat) (h : i < l.length) : rd (ints l) (i : Int) = ((l.getD i 0 : Nat) : Int) := by simp [rd, h]
theorem nat_ints (l : List Nat) : nat (ints l) = l := by
  simp only [nat, ints, List.map_map]
  conv => rhs; rw [← List.map_id l]
  apply List.map_congr_left
  intro x _
  simp
theorem ints_u8 (l : List Nat) (h : ∀ c ∈ l, c < 256) : ∀ x ∈ ints l, (Lit.int .u8 x).wf = true := by
  intro x hx
  obtain ⟨c, hc, rfl⟩ := List.mem_map.1 hx
  have := h c hc
  simp [Lit.wf, IntKind.min, IntKind.max, IntKind.signed, IntKind.bits]
  omega
/-- The loop over the 32 bits. -/
theorem turn (b : List Int) (l : List Nat) (hl : ∀ c ∈ l, c < 256) (hn : l.length ≤ 300) (v a : Nat) (hv : v < 4294967296) (ha : a + 32 ≤ 8 * l.length) (k : Nat) :
    ∀ (m i : Nat), i + m = 32 → credencelaw5_ChecksumBurst.l0 (k + m + 1) b v (ints (turned v a i l)) a i = credencelaw5_ChecksumBurst.l0 (k + 1) b v (ints (turned v a 32 l)) a 32 := by
  intro m
  induction m with
  | zero =>
    intro i hi
    obtain rfl : i = 32 := by omega
    rfl
  | succ m ih =>
    intro i hi
    rw [← ih (i + 1) (by omega)]
    have e : k + (m + 1) + 1 = (k + m + 1) + 1 := by omega
    rw [e]
    conv => lhs; rw [credencelaw5_ChecksumBurst.l0]
    have hu : IntKind.u64.wrap (i : Int) = (i : Int) := by rw [wrapU64]; omega
    have h5 : ((i : Int) + 1) = ((i + 1 : Nat) : Int) := by omega
    rw [if_pos (by omega), hu, if_pos (by omega), wrap_small (by omega) (by omega), h5]
    have hs := shr_test v i hv (by omega)
    have hlen := turned_length v a l i
    by_cases hb : v.testBit i
    · have hw : wrap64 ((a : Int) + i) = ((a + i : Nat) : Int) := by unfold wrap64; omega
      have hd : wrap64 (Int.tdiv ((a + i : Nat) : Int) 8) = (((a + i) / 8 : Nat) : Int) := by
        have : Int.tdiv ((a + i : Nat) : Int) 8 = (((a + i) / 8 : Nat) : Int) := rfl
        rw [this]
        unfold wrap64
        omega
      have hm : IntKind.u64.wrap (Int.tmod ((a + i : Nat) : Int) 8) = (((a + i) % 8 : Nat) : Int) := by
        have : Int.tmod ((a + i : Nat) : Int) 8 = (((a + i) % 8 : Nat) : Int) := rfl
        rw [this, wrapU64]
        omega
      rw [if_pos (hs.mpr hb), hw, hd, hm, if_pos (by omega), if_pos (by simp only [List.length_map]; omega), if_pos (by omega), shl_one _ (by omega), rd_ints _ _ (by omega), Int.toNat_natCast]
      have hlt : (turned v a i l).getD ((a + i) / 8) 0 < 256 := by
        rw [List.getD_eq_getElem?_getD]
        cases h : (turned v a i l)[(a + i) / 8]? with
        | none => simp
        | some x => exact turned_lt v a l hl i x (List.mem_of_getElem? h)
      rw [xor8n _ _ hlt (Nat.pow_lt_pow_right (a := 2) (n := 8) (by omega) (by omega))]
      have e2 : ints (turned v a (i + 1) l) = (ints (turned v a i l)).set ((a + i) / 8) (((turned v a i l).getD ((a + i) / 8) 0 ^^^ 2 ^ ((a + i) % 8) : Nat) : Int) := by
        show ints (if v.testBit i then _ else _) = _
        rw [if_pos hb, ints, List.map_set]
      rw [e2]
    · have e2 : ints (turned v a (i + 1) l) = ints (turned v a i l) := by
        show ints (if v.testBit i then _ else _) = _
        rw [if_neg hb]
      rw [if_neg (fun h => hb (hs.mp h)), e2]
theorem ChecksumBurst : credencelaw5_ChecksumBurst.Pure := by
  intro l a b _ _ wl wa wb
  refine ⟨4000, ?_⟩
  have none_ : ∀ k, credencelaw5_ChecksumBurst.j0 (k + 1) l a b true = some true := fun k => by rw [credencelaw5_ChecksumBurst.j0, if_pos rfl]
  unfold credencelaw5_ChecksumBurst.f
  by_cases h1 : (l.length : Int) < 5
  · rw [if_pos h1]; exact none_ 3999
  rw [if_neg h1]
  by_cases h2 : (l.length : Int) > 300
  · rw [if_pos h2]; exact none_ 3999
  rw [if_neg h2]
  by_cases h3 : b = 0
  · rw [show (b == 0) = true from beq_iff_eq.mpr h3]; exact none_ 3999
  rw [show (b == 0) = false from beq_eq_false_iff_ne.mpr h3]
  obtain ⟨hl1, hl2⟩ := u8_nat l wl
  generalize hnl : nat l = ns at hl1 hl2
  have hlen : ns.length = l.length := by rw [← hnl]; simp
  obtain ⟨v, rfl, hv⟩ : ∃ v : Nat, b = v ∧ v < 4294967296 := by
    simp [Lit.wf, IntKind.min, IntKind.max, IntKind.signed, IntKind.bits] at wb
    exact ⟨b.toNat, by omega, by omega⟩
  obtain ⟨u, hu⟩ : ∃ u : Nat, IntKind.u64.wrap a = (u : Int) := ⟨(IntKind.u64.wrap a).toNat, by
    have : 0 ≤ IntKind.u64.wrap a := by simp only [IntKind.wrap, IntKind.bits, IntKind.signed]; simp; omega
    omega⟩
  have hz : IntKind.u64.wrap (wrap64 ((wrap64 (8 * (l.length : Int))) - 32)) = ((8 * l.length - 32 : Nat) : Int) := by
    have e1 : wrap64 (8 * (l.length : Int)) = 8 * (l.length : Int) := by unfold wrap64; omega
    have e2 : wrap64 (8 * (l.length : Int) - 32) = ((8 * l.length - 32 : Nat) : Int) := by unfold wrap64; omega
    rw [e1, e2, wrapU64]
    omega
  have hm : wrap64 (Int.tmod (u : Int) ((8 * l.length - 32 : Nat) : Int)) = ((u % (8 * l.length - 32) : Nat) : Int) := by
    have : Int.tmod (u : Int) ((8 * l.length - 32 : Nat) : Int) = ((u % (8 * l.length - 32) : Nat) : Int) := rfl
    rw [this]
    have := Nat.mod_lt u (show 0 < 8 * l.length - 32 by omega)
    unfold wrap64
    omega
  have hlt := Nat.mod_lt u (show 0 < 8 * l.length - 32 by omega)
  rw [credencelaw5_ChecksumBurst.j0, if_neg (by decide)]
  simp only [Option.bind_some, List.nil_append, List.length_nil, Nat.zero_add]
  rw [if_pos (by omega), hz, if_neg (by omega), hu, hm]
  generalize u % (8 * l.length - 32) = p at hlt
  have ht := turn l ns hl2 (by omega) v p hv (by omega) 3966 32 0 (by omega)
  have e0 : ints (turned v p 0 ns) = l := hl1
  rw [e0] at ht
  have ht2 : credencelaw5_ChecksumBurst.l0 3999 l v l p 0 = credencelaw5_ChecksumBurst.l0 3967 l v (ints (turned v p 32 ns)) p 32 := ht
  rw [ht2, credencelaw5_ChecksumBurst.l0, if_neg (by omega), ext_crc l (by omega) wl _ (by omega)]
  simp only [Option.bind_some]
  have tl := turned_length v p ns 32
  have tu := turned_lt v p ns hl2 32
  rw [ext_crc _ (by simp only [List.length_map]; omega) (ints_u8 _ tu) _ (by simp only [List.length_map]; omega)]
  simp only [Option.bind_some]
  rw [if_neg, known_true _ (by omega)]
  · rfl
  · intro h
    rw [nat_ints, hnl] at h
    have h6 := BitVec.eq_of_toNat_eq (Int.ofNat.inj h)
    have h7 := congrArg (fun x => ~~~x) h6
    simp only [BitVec.not_not] at h7
    have hb := turned_bit v p ns 32 (by omega)
    exact crun_ne ns (turned v p 32 ns) hl2 tu (by omega) p v (by omega) (by omega) hv hb _ h7

end Go.Proofs.Ytndjhonpjikjoaa.Pure
