/- The law ChecksumValues holds: for every row of bytes and every CRC the program's CRC, ExtendCRC and Hash equal the reference's. No condition. -/
import Derived.Test.YtndjhonpjikjoaaPChecksumValuesx1
import Derived.Test.YtndjhonpjikjoaaCrc
namespace Go.Proofs.Ytndjhonpjikjoaa.Pure
open Go.RowKit Go.Proofs.Ytndjhonpjikjoaa.PChecksumValues Go.Proofs.YtndjhonpjikjoaaW.PrintWords Go.Proofs.YtndjhonpjikjoaaW.PrintLast Go.Proofs.Ytndjhonpjikjoaa.Crc
/-! ### what the printed functions compute -/
theorem wrap_small {i : Int} (h0 : 0 ≤ i) (h : i < 1000000000000) : wrap64 (i + 1) = i + 1 := by unfold wrap64; omega
theorem rd_at (xs : List Int) (i : Nat) (h : i < xs.length) : rd xs (i : Int) = xs[i] := by simp [rd, h]
theorem wrapU32 (n : Int) : IntKind.u32.wrap n = n % 4294967296 := by
  simp [IntKind.wrap, IntKind.bits, IntKind.signed]
theorem wrapU8 (n : Int) : IntKind.u8.wrap n = n % 256 := by
  simp [IntKind.wrap, IntKind.bits, IntKind.signed]
theorem xor32 (a b : W) : Go.bits .xor .u32 (a.toNat : Int) (b.toNat : Int) = ((a ^^^ b).toNat : Int) := by
  simp only [Go.bits]
  show IntKind.u32.wrap ((BitVec.ofInt 32 a.toNat ^^^ BitVec.ofInt 32 b.toNat).toNat : Int) = _
  rw [BitVec.ofInt_natCast, BitVec.ofInt_natCast, BitVec.ofNat_toNat, BitVec.ofNat_toNat, BitVec.setWidth_eq, BitVec.setWidth_eq]
  have := (a ^^^ b).isLt
  rw [wrapU32]
  omega
theorem not32 (a : W) : Go.bits .xor .u32 4294967295 (a.toNat : Int) = ((~~~a).toNat : Int) := by
  have h := xor32 4294967295#32 a
  rw [show ((4294967295#32 : W).toNat : Int) = 4294967295 from rfl] at h
  rw [h]
  congr 2
theorem not32_0 : Go.bits .xor .u32 4294967295 0 = ((~~~(0#32 : W)).toNat : Int) := not32 0#32
theorem and1 (a : W) : (Go.bits .and .u32 (a.toNat : Int) 1 = 1) = (a.getLsbD 0 = true) := by
  simp only [Go.bits]
  show (IntKind.u32.wrap ((BitVec.ofInt 32 a.toNat &&& BitVec.ofInt 32 1).toNat : Int) = 1) = _
  rw [BitVec.ofInt_natCast, BitVec.ofNat_toNat, BitVec.setWidth_eq, show BitVec.ofInt 32 1 = 1#32 from rfl]
  have e : (a &&& 1#32).toNat = a.toNat % 2 := by
    rw [BitVec.toNat_and]
    show a.toNat &&& 1 = _
    exact Nat.and_one_is_mod _
  rw [e, BitVec.getLsbD, Nat.testBit_zero]
  rw [wrapU32, decide_eq_true_eq, eq_iff_iff]
  omega
theorem half32 (a : W) : (a.toNat : Int) / (2 : Int) = ((a >>> 1).toNat : Int) := by
  rw [BitVec.toNat_ushiftRight, Nat.shiftRight_eq_div_pow]
  simp
theorem byteOf {x : Int} (h : (Lit.int .u8 x).wf = true) : 0 ≤ x ∧ x < 256 := by
  simp [Lit.wf, IntKind.min, IntKind.max, IntKind.signed, IntKind.bits] at h
  omega
theorem mod32 {x : Int} (h : (Lit.int .u8 x).wf = true) : x % 4294967296 = ((BitVec.ofNat 32 x.toNat : W).toNat : Int) := by
  have := byteOf h
  simp
  omega
/-- A row of bytes as numbers. -/
abbrev nat (xs : List Int) : List Nat := xs.map Int.toNat
theorem step_one (r : W) (h : r.getLsbD 0 = true) : bstep r = (r >>> 1) ^^^ cpoly := by unfold bstep; rw [h]; rfl
theorem step_nil (r : W) (h : ¬ r.getLsbD 0 = true) : bstep r = r >>> 1 := by unfold bstep; rw [if_neg h]; simp
theorem ext_bit (xs : List Int) (n : Int) (i : Int) (k : Nat) : ∀ (m : Nat) (j : Int) (r : W), 0 ≤ j → j + m = 8 →
    checksum_ExtendCRC.l1 (k + m + 1) (r.toNat : Int) xs n i j = checksum_ExtendCRC.l0 k ((biter m r).toNat : Int) xs n (wrap64 (i + 1)) := by
  intro m
  induction m with
  | zero =>
    intro j r h0 hj
    rw [checksum_ExtendCRC.l1]
    rw [if_neg (by omega)]
    rfl
  | succ m ih =>
    intro j r h0 hj
    have e : k + (m + 1) + 1 = (k + m + 1) + 1 := by omega
    rw [e]
    rw [checksum_ExtendCRC.l1]
    rw [if_pos (by omega), wrap_small h0 (by omega), half32]
    have hp : (2197175160 : Int) = ((cpoly : W).toNat : Int) := rfl
    by_cases hb : r.getLsbD 0 = true
    · rw [if_pos ((and1 r).mpr hb), hp, xor32, ← step_one r hb]
      exact ih (j + 1) (bstep r) (by omega) (by omega)
    · rw [if_neg (fun h => hb ((and1 r).mp h)), ← step_nil r hb]
      exact ih (j + 1) (bstep r) (by omega) (by omega)
theorem ext_row (xs : List Int) (hn : xs.length ≤ 1000000) (hw : ∀ x ∈ xs, (Lit.int .u8 x).wf = true) (k : Nat) : ∀ (m : Nat) (i : Nat) (r : W), i + m = xs.length →
    checksum_ExtendCRC.l0 (k + 10 * m + 1) (r.toNat : Int) xs (xs.length : Int) (i : Int) = some ((~~~ (crun r (nat (xs.drop i)))).toNat : Int) := by
  intro m
  induction m with
  | zero =>
    intro i r hi
    rw [checksum_ExtendCRC.l0]
    rw [if_neg (by omega), not32, List.drop_eq_nil_of_le (by omega)]
    rfl
  | succ m ih =>
    intro i r hi
    have hlt : i < xs.length := by omega
    have e : k + 10 * (m + 1) + 1 = ((k + 10 * m + 1) + 8 + 1) + 1 := by omega
    rw [e]
    rw [checksum_ExtendCRC.l0]
    rw [if_pos (by omega), if_pos (by omega), if_pos (by omega), rd_at xs i hlt, mod32 (hw _ (List.getElem_mem hlt)), xor32]
    rw [ext_bit xs (xs.length : Int) i (k + 10 * m + 1) 8 0 _ (by omega) (by omega), wrap_small (by omega) (by omega)]
    have h2 : ((i : Int) + 1) = ((i + 1 : Nat) : Int) := by omega
    rw [h2, ih (i + 1) _ (by omega), List.drop_eq_getElem_cons hlt]
    rfl
theorem ext_f (xs : List Int) (hn : xs.length ≤ 1000000) (hw : ∀ x ∈ xs, (Lit.int .u8 x).wf = true) (a : W) (k : Nat) (hk : 10 * xs.length + 1 ≤ k) :
    checksum_ExtendCRC.f k (a.toNat : Int) xs = some ((~~~ (crun (~~~a) (nat xs))).toNat : Int) := by
  obtain ⟨d, rfl⟩ : ∃ d, k = d + 10 * xs.length + 1 := ⟨k - (10 * xs.length + 1), by omega⟩
  unfold checksum_ExtendCRC.f
  rw [not32]
  exact ext_row xs hn hw d xs.length 0 (~~~a) (by omega)
/-- The CRC of a row. -/
theorem ext_crc (xs : List Int) (hn : xs.length ≤ 1000000) (hw : ∀ x ∈ xs, (Lit.int .u8 x).wf = true) (k : Nat) (hk : 10 * xs.length + 1 ≤ k) :
    checksum_CRC.f k xs = some ((~~~ (crun (~~~0#32) (nat xs))).toNat : Int) := by
  unfold checksum_CRC.f
  have := ext_f xs hn hw 0#32 k hk
  simp only [BitVec.toNat_ofNat, Nat.zero_mod, Int.cast_ofNat_Int] at this
  rw [this]
  rfl
theorem wrapU64 (n : Nat) : IntKind.u64.wrap (n : Int) = ((n % 18446744073709551616 : Nat) : Int) := by
  simp [IntKind.wrap, IntKind.bits, IntKind.signed]
/-- One bstep of FNV-1a. -/
def fnv (h : BitVec 64) (c : Nat) : BitVec 64 := (h ^^^ BitVec.ofNat 64 c) * 1099511628211#64
theorem fnv_int (h : BitVec 64) {x : Int} (hx : (Lit.int .u8 x).wf = true) :
    IntKind.u64.wrap ((Go.bits .xor .u64 (h.toNat : Int) (IntKind.u64.wrap x)) * 1099511628211) = ((fnv h x.toNat).toNat : Int) := by
  have hb := byteOf hx
  obtain ⟨n, rfl⟩ : ∃ n : Nat, x = n := ⟨x.toNat, by omega⟩
  rw [wrapU64, show n % 18446744073709551616 = (BitVec.ofNat 64 n).toNat by simp]
  have e : Go.bits .xor .u64 (h.toNat : Int) ((BitVec.ofNat 64 n).toNat : Int) = ((h ^^^ BitVec.ofNat 64 n).toNat : Int) := by
    simp only [Go.bits]
    show IntKind.u64.wrap ((BitVec.ofInt 64 h.toNat ^^^ BitVec.ofInt 64 (BitVec.ofNat 64 n).toNat).toNat : Int) = _
    rw [BitVec.ofInt_natCast, BitVec.ofInt_natCast, BitVec.ofNat_toNat, BitVec.ofNat_toNat, BitVec.setWidth_eq, BitVec.setWidth_eq, wrapU64, Nat.mod_eq_of_lt (h ^^^ BitVec.ofNat 64 n).isLt]
  rw [e]
  have e2 : ((h ^^^ BitVec.ofNat 64 n).toNat : Int) * 1099511628211 = (((h ^^^ BitVec.ofNat 64 n).toNat * 1099511628211 : Nat) : Int) := by simp
  rw [e2, wrapU64]
  unfold fnv
  rw [BitVec.toNat_mul]
  simp
theorem hash_row (xs : List Int) (hn : xs.length ≤ 1000000) (hw : ∀ x ∈ xs, (Lit.int .u8 x).wf = true) (k : Nat) : ∀ (m : Nat) (i : Nat) (r : BitVec 64), i + m = xs.length →
    checksum_Hash.l0 (k + m + 1) (r.toNat : Int) xs (xs.length : Int) (i : Int) = some (((nat (xs.drop i)).foldl fnv r).toNat : Int) := by
  intro m
  induction m with
  | zero =>
    intro i r hi
    rw [checksum_Hash.l0]
    rw [if_neg (by omega), List.drop_eq_nil_of_le (by omega)]
    rfl
  | succ m ih =>
    intro i r hi
    have hlt : i < xs.length := by omega
    have e : k + (m + 1) + 1 = (k + m + 1) + 1 := by omega
    rw [e]
    rw [checksum_Hash.l0]
    rw [if_pos (by omega), if_pos (by omega), if_pos (by omega), rd_at xs i hlt, fnv_int r (hw _ (List.getElem_mem hlt)), wrap_small (by omega) (by omega)]
    have h2 : ((i : Int) + 1) = ((i + 1 : Nat) : Int) := by omega
    rw [h2, ih (i + 1) _ (by omega), List.drop_eq_getElem_cons hlt]
    rfl
theorem hash_f (xs : List Int) (hn : xs.length ≤ 1000000) (hw : ∀ x ∈ xs, (Lit.int .u8 x).wf = true) (k : Nat) (hk : xs.length + 1 ≤ k) :
    checksum_Hash.f k xs = some (((nat xs).foldl fnv 14695981039346656037#64).toNat : Int) := by
  obtain ⟨d, rfl⟩ : ∃ d, k = d + xs.length + 1 := ⟨k - (xs.length + 1), by omega⟩
  unfold checksum_Hash.f
  exact hash_row xs hn hw d xs.length 0 14695981039346656037#64 (by omega)
theorem ref_bit (xs : List Int)  (i : Int) (k : Nat) : ∀ (m : Nat) (j : Int) (r : W), 0 ≤ j → j + m = 8 →
    credenceref4_Extend.l1 (k + m + 1) xs (r.toNat : Int) i j = credenceref4_Extend.l0 k xs ((biter m r).toNat : Int) (wrap64 (i + 1)) := by
  intro m
  induction m with
  | zero =>
    intro j r h0 hj
    rw [credenceref4_Extend.l1]
    rw [if_neg (by omega)]
    rfl
  | succ m ih =>
    intro j r h0 hj
    have e : k + (m + 1) + 1 = (k + m + 1) + 1 := by omega
    rw [e]
    rw [credenceref4_Extend.l1]
    rw [if_pos (by omega), wrap_small h0 (by omega), half32]
    have hp : (2197175160 : Int) = ((cpoly : W).toNat : Int) := rfl
    by_cases hb : r.getLsbD 0 = true
    · rw [if_pos ((and1 r).mpr hb), hp, xor32, ← step_one r hb]
      exact ih (j + 1) (bstep r) (by omega) (by omega)
    · rw [if_neg (fun h => hb ((and1 r).mp h)), ← step_nil r hb]
      exact ih (j + 1) (bstep r) (by omega) (by omega)
theorem ref_row (xs : List Int) (hn : xs.length ≤ 1000000) (hw : ∀ x ∈ xs, (Lit.int .u8 x).wf = true) (k : Nat) : ∀ (m : Nat) (i : Nat) (r : W), i + m = xs.length →
    credenceref4_Extend.l0 (k + 10 * m + 1) xs (r.toNat : Int) (i : Int) = some ((~~~ (crun r (nat (xs.drop i)))).toNat : Int) := by
  intro m
  induction m with
  | zero =>
    intro i r hi
    rw [credenceref4_Extend.l0]
    rw [if_neg (by omega), not32, List.drop_eq_nil_of_le (by omega)]
    rfl
  | succ m ih =>
    intro i r hi
    have hlt : i < xs.length := by omega
    have e : k + 10 * (m + 1) + 1 = ((k + 10 * m + 1) + 8 + 1) + 1 := by omega
    rw [e]
    rw [credenceref4_Extend.l0]
    rw [if_pos (by omega), if_pos (by omega), rd_at xs i hlt, mod32 (hw _ (List.getElem_mem hlt)), xor32]
    rw [ref_bit xs  i (k + 10 * m + 1) 8 0 _ (by omega) (by omega), wrap_small (by omega) (by omega)]
    have h2 : ((i : Int) + 1) = ((i + 1 : Nat) : Int) := by omega
    rw [h2, ih (i + 1) _ (by omega), List.drop_eq_getElem_cons hlt]
    rfl
theorem ref_f (xs : List Int) (hn : xs.length ≤ 1000000) (hw : ∀ x ∈ xs, (Lit.int .u8 x).wf = true) (a : W) (k : Nat) (hk : 10 * xs.length + 1 ≤ k) :
    credenceref4_Extend.f k (a.toNat : Int) xs = some ((~~~ (crun (~~~a) (nat xs))).toNat : Int) := by
  obtain ⟨d, rfl⟩ : ∃ d, k = d + 10 * xs.length + 1 := ⟨k - (10 * xs.length + 1), by omega⟩
  unfold credenceref4_Extend.f
  rw [not32]
  exact ref_row xs hn hw d xs.length 0 (~~~a) (by omega)
/-- The CRC of a row. -/
theorem ref_crc (xs : List Int) (hn : xs.length ≤ 1000000) (hw : ∀ x ∈ xs, (Lit.int .u8 x).wf = true) (k : Nat) (hk : 10 * xs.length + 1 ≤ k) :
    credenceref4_CRC.f k xs = some ((~~~ (crun (~~~0#32) (nat xs))).toNat : Int) := by
  unfold credenceref4_CRC.f
  have := ref_f xs hn hw 0#32 k hk
  simp only [BitVec.toNat_ofNat, Nat.zero_mod, Int.cast_ofNat_Int] at this
  rw [this]
  rfl
theorem rhash_row (xs : List Int) (hn : xs.length ≤ 1000000) (hw : ∀ x ∈ xs, (Lit.int .u8 x).wf = true) (k : Nat) : ∀ (m : Nat) (i : Nat) (r : BitVec 64), i + m = xs.length →
    credenceref4_Hash.l0 (k + m + 1) xs (r.toNat : Int) (i : Int) = some (((nat (xs.drop i)).foldl fnv r).toNat : Int) := by
  intro m
  induction m with
  | zero =>
    intro i r hi
    rw [credenceref4_Hash.l0]
    rw [if_neg (by omega), List.drop_eq_nil_of_le (by omega)]
    rfl
  | succ m ih =>
    intro i r hi
    have hlt : i < xs.length := by omega
    have e : k + (m + 1) + 1 = (k + m + 1) + 1 := by omega
    rw [e]
    rw [credenceref4_Hash.l0]
    rw [if_pos (by omega), if_pos (by omega), rd_at xs i hlt, fnv_int r (hw _ (List.getElem_mem hlt)), wrap_small (by omega) (by omega)]
    have h2 : ((i : Int) + 1) = ((i + 1 : Nat) : Int) := by omega
    rw [h2, ih (i + 1) _ (by omega), List.drop_eq_getElem_cons hlt]
    rfl
theorem rhash_f (xs : List Int) (hn : xs.length ≤ 1000000) (hw : ∀ x ∈ xs, (Lit.int .u8 x).wf = true) (k : Nat) (hk : xs.length + 1 ≤ k) :
    credenceref4_Hash.f k xs = some (((nat xs).foldl fnv 14695981039346656037#64).toNat : Int) := by
  obtain ⟨d, rfl⟩ : ∃ d, k = d + xs.length + 1 := ⟨k - (xs.length + 1), by omega⟩
  unfold credenceref4_Hash.f
  exact rhash_row xs hn hw d xs.length 0 14695981039346656037#64 (by omega)
/-- The check values. -/
theorem known_true (k : Nat) (hk : 100 ≤ k) : credencelaw5_known.f k = some true := by
  unfold credencelaw5_known.f
  rw [ext_crc _ (by decide) (by decide) k (by simp; omega)]
  rw [show (((~~~ (crun (~~~0#32) (nat [49, 50, 51, 52, 53, 54, 55, 56, 57]))).toNat : Int)) = 3808858755 by decide +kernel]
  simp only [Option.bind_some, if_true]
  rw [hash_f [97] (by decide) (by decide) k (by simp; omega)]
  rw [show (((nat [97]).foldl fnv 14695981039346656037#64).toNat : Int) = 12638187200555641996 by decide +kernel]
  simp only [Option.bind_some, if_true]
  rw [hash_f [] (by decide) (by decide) k (by simp; omega)]
  rfl
theorem nat_u32 {a : Int} (h : (Lit.int .u32 a).wf = true) : ∃ r : W, a = (r.toNat : Int) := by
  simp [Lit.wf, IntKind.min, IntKind.max, IntKind.signed, IntKind.bits] at h
  refine ⟨BitVec.ofNat 32 a.toNat, ?_⟩
  simp
  omega
theorem ChecksumValues : credencelaw5_ChecksumValues.Pure := by
  intro l a hl hz hw ha
  by_cases h3 : (l.length : Int) > 300
  · exact ⟨0, by unfold credencelaw5_ChecksumValues.f; rw [if_pos h3]⟩
  obtain ⟨r, rfl⟩ := nat_u32 ha
  refine ⟨4000, ?_⟩
  have hn : l.length ≤ 1000000 := by omega
  unfold credencelaw5_ChecksumValues.f
  rw [if_neg h3, ext_crc l hn hw _ (by omega), ref_crc l hn hw _ (by omega), ext_f l hn hw r _ (by omega), ref_f l hn hw r _ (by omega), hash_f l hn hw _ (by omega), rhash_f l hn hw _ (by omega), known_true _ (by omega)]
  simp

end Go.Proofs.Ytndjhonpjikjoaa.Pure
