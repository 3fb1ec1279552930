/- The law ChecksumAffine holds: for three rows of one length the CRC of their XOR is the XOR of their CRCs. No condition. -/
import Derived.Test.YtndjhonpjikjoaaPChecksumAffinex2
import Derived.Test.YtndjhonpjikjoaaCrc
namespace Go.Proofs.Ytndjhonpjikjoaa.Pure
open Go.RowKit Go.Proofs.Ytndjhonpjikjoaa.PChecksumAffine Go.Proofs.YtndjhonpjikjoaaW.PrintWords Go.Proofs.YtndjhonpjikjoaaW.PrintLast Go.Proofs.Ytndjhonpjikjoaa.Crc
/-! ### what the printed functions compute -/
theorem wrap_small {i : Int} (h0 : 0 ≤ i) (h : i < 1000000000000) : wrap64 (i + 1) = i + 1 := by unfold wrap64; omega
theorem rd_at (xs : List Int) (i : Nat) (h : i < xs.length) : rd xs (i : Int) = xs[i] := by simp [rd, h]
theorem wrapU32 (n : Int) : IntKind.u32.wrap n = n % 4294967296 := by
  simp [IntKind.wrap, IntKind.bits, IntKind.signed]
theorem wrapU8 (n : Int) : IntKind.u8.wrap n = n % 256 := by
  simp [IntKind.wrap, IntKind.bits, IntKind.signed]
theorem xor32 (a b : W) : Go.bits .xor .u32 (a.toNat : Int) (b.toNat : Int) = ((a ^^^ b).toNat : Int) := by
  simp only [Go.bits]
  show IntKind.u32.wrap ((BitVec.ofInt 32 a.toNat ^^^ BitVec.ofInt 32 b.toNat).toNat : Int) = _
  rw [BitVec.ofInt_natCast, BitVec.ofInt_natCast, BitVec.ofNat_toNat, BitVec.ofNat_toNat, BitVec.setWidth_eq, BitVec.setWidth_eq]
  have := (a ^^^ b).isLt
  rw [wrapU32]
  omega
theorem not32 (a : W) : Go.bits .xor .u32 4294967295 (a.toNat : Int) = ((~~~a).toNat : Int) := by
  have h := xor32 4294967295#32 a
  rw [show ((4294967295#32 : W).toNat : Int) = 4294967295 from rfl] at h
  rw [h]
  congr 2
theorem not32_0 : Go.bits .xor .u32 4294967295 0 = ((~~~(0#32 : W)).toNat : Int) := not32 0#32
theorem and1 (a : W) : (Go.bits .and .u32 (a.toNat : Int) 1 = 1) = (a.getLsbD 0 = true) := by
  simp only [Go.bits]
  show (IntKind.u32.wrap ((BitVec.ofInt 32 a.toNat &&& BitVec.ofInt 32 1).toNat : Int) = 1) = _
  rw [BitVec.ofInt_natCast, BitVec.ofNat_toNat, BitVec.setWidth_eq, show BitVec.ofInt 32 1 = 1#32 from rfl]
  have e : (a &&& 1#32).toNat = a.toNat % 2 := by
    rw [BitVec.toNat_and]
    show a.toNat &&& 1 = _
    exact Nat.and_one_is_mod _
  rw [e, BitVec.getLsbD, Nat.testBit_zero]
  rw [wrapU32, decide_eq_true_eq, eq_iff_iff]
  omega
theorem half32 (a : W) : (a.toNat : Int) / (2 : Int) = ((a >>> 1).toNat : Int) := by
  rw [BitVec.toNat_ushiftRight, Nat.shiftRight_eq_div_pow]
  simp
theorem byteOf {x : Int} (h : (Lit.int .u8 x).wf = true) : 0 ≤ x ∧ x < 256 := by
  simp [Lit.wf, IntKind.min, IntKind.max, IntKind.signed, IntKind.bits] at h
  omega
theorem mod32 {x : Int} (h : (Lit.int .u8 x).wf = true) : x % 4294967296 = ((BitVec.ofNat 32 x.toNat : W).toNat : Int) := by
  have := byteOf h
  simp
  omega
/-- A row of bytes as numbers. -/
abbrev nat (xs : List Int) : List Nat := xs.map Int.toNat
theorem step_one (r : W) (h : r.getLsbD 0 = true) : bstep r = (r >>> 1) ^^^ cpoly := by unfold bstep; rw [h]; rfl
theorem step_nil (r : W) (h : ¬ r.getLsbD 0 = true) : bstep r = r >>> 1 := by unfold bstep; rw [if_neg h]; simp
theorem ext_bit (xs : List Int) (n : Int) (i : Int) (k : Nat) : ∀ (m : Nat) (j : Int) (r : W), 0 ≤ j → j + m = 8 →
    checksum_ExtendCRC.l1 (k + m + 1) (r.toNat : Int) xs n i j = checksum_ExtendCRC.l0 k ((biter m r).toNat : Int) xs n (wrap64 (i + 1)) := by
  intro m
  induction m with
  | zero =>
    intro j r h0 hj
    rw [checksum_ExtendCRC.l1]
    rw [if_neg (by omega)]
    rfl
  | succ m ih =>
    intro j r h0 hj
    have e : k + (m + 1) + 1 = (k + m + 1) + 1 := by omega
    rw [e]
    rw [checksum_ExtendCRC.l1]
    rw [if_pos (by omega), wrap_small h0 (by omega), half32]
    have hp : (2197175160 : Int) = ((cpoly : W).toNat : Int) := rfl
    by_cases hb : r.getLsbD 0 = true
    · rw [if_pos ((and1 r).mpr hb), hp, xor32, ← step_one r hb]
      exact ih (j + 1) (bstep r) (by omega) (by omega)
    · rw [if_neg (fun h => hb ((and1 r).mp h)), ← step_nil r hb]
      exact ih (j + 1) (bstep r) (by omega) (by omega)
theorem ext_row (xs : List Int) (hn : xs.length ≤ 1000000) (hw : ∀ x ∈ xs, (Lit.int .u8 x).wf = true) (k : Nat) : ∀ (m : Nat) (i : Nat) (r : W), i + m = xs.length →
    checksum_ExtendCRC.l0 (k + 10 * m + 1) (r.toNat : Int) xs (xs.length : Int) (i : Int) = some ((~~~ (crun r (nat (xs.drop i)))).toNat : Int) := by
  intro m
  induction m with
  | zero =>
    intro i r hi
    rw [checksum_ExtendCRC.l0]
    rw [if_neg (by omega), not32, List.drop_eq_nil_of_le (by omega)]
    rfl
  | succ m ih =>
    intro i r hi
    have hlt : i < xs.length := by omega
    have e : k + 10 * (m + 1) + 1 = ((k + 10 * m + 1) + 8 + 1) + 1 := by omega
    rw [e]
    rw [checksum_ExtendCRC.l0]
    rw [if_pos (by omega), if_pos (by omega), if_pos (by omega), rd_at xs i hlt, mod32 (hw _ (List.getElem_mem hlt)), xor32]
    rw [ext_bit xs (xs.length : Int) i (k + 10 * m + 1) 8 0 _ (by omega) (by omega), wrap_small (by omega) (by omega)]
    have h2 : ((i : Int) + 1) = ((i + 1 : Nat) : Int) := by omega
    rw [h2, ih (i + 1) _ (by omega), List.drop_eq_getElem_cons hlt]
    rfl
theorem ext_f (xs : List Int) (hn : xs.length ≤ 1000000) (hw : ∀ x ∈ xs, (Lit.int .u8 x).wf = true) (a : W) (k : Nat) (hk : 10 * xs.length + 1 ≤ k) :
    checksum_ExtendCRC.f k (a.toNat : Int) xs = some ((~~~ (crun (~~~a) (nat xs))).toNat : Int) := by
  obtain ⟨d, rfl⟩ : ∃ d, k = d + 10 * xs.length + 1 := ⟨k - (10 * xs.length + 1), by omega⟩
  unfold checksum_ExtendCRC.f
  rw [not32]
  exact ext_row xs hn hw d xs.length 0 (~~~a) (by omega)
/-- The CRC of a row. -/
theorem ext_crc (xs : List Int) (hn : xs.length ≤ 1000000) (hw : ∀ x ∈ xs, (Lit.int .u8 x).wf = true) (k : Nat) (hk : 10 * xs.length + 1 ≤ k) :
    checksum_CRC.f k xs = some ((~~~ (crun (~~~0#32) (nat xs))).toNat : Int) := by
  unfold checksum_CRC.f
  have := ext_f xs hn hw 0#32 k hk
  simp only [BitVec.toNat_ofNat, Nat.zero_mod, Int.cast_ofNat_Int] at this
  rw [this]
  rfl
theorem wrapU64 (n : Nat) : IntKind.u64.wrap (n : Int) = ((n % 18446744073709551616 : Nat) : Int) := by
  simp [IntKind.wrap, IntKind.bits, IntKind.signed]
/-- One bstep of FNV-1a. -/
def fnv (h : BitVec 64) (c : Nat) : BitVec 64 := (h ^^^ BitVec.ofNat 64 c) * 1099511628211#64
theorem fnv_int (h : BitVec 64) {x : Int} (hx : (Lit.int .u8 x).wf = true) :
    IntKind.u64.wrap ((Go.bits .xor .u64 (h.toNat : Int) (IntKind.u64.wrap x)) * 1099511628211) = ((fnv h x.toNat).toNat : Int) := by
  have hb := byteOf hx
  obtain ⟨n, rfl⟩ : ∃ n : Nat, x = n := ⟨x.toNat, by omega⟩
  rw [wrapU64, show n % 18446744073709551616 = (BitVec.ofNat 64 n).toNat by simp]
  have e : Go.bits .xor .u64 (h.toNat : Int) ((BitVec.ofNat 64 n).toNat : Int) = ((h ^^^ BitVec.ofNat 64 n).toNat : Int) := by
    simp only [Go.bits]
    show IntKind.u64.wrap ((BitVec.ofInt 64 h.toNat ^^^ BitVec.ofInt 64 (BitVec.ofNat 64 n).toNat).toNat : Int) = _
    rw [BitVec.ofInt_natCast, BitVec.ofInt_natCast, BitVec.ofNat_toNat, BitVec.ofNat_toNat, BitVec.setWidth_eq, BitVec.setWidth_eq, wrapU64, Nat.mod_eq_of_lt (h ^^^ BitVec.ofNat 64 n).isLt]
  rw [e]
  have e2 : ((h ^^^ BitVec.ofNat 64 n).toNat : Int) * 1099511628211 = (((h ^^^ BitVec.ofNat 64 n).toNat * 1099511628211 : Nat) : Int) := by simp
  rw [e2, wrapU64]
  unfold fnv
  rw [BitVec.toNat_mul]
  simp
theorem hash_row (xs : List Int) (hn : xs.length ≤ 1000000) (hw : ∀ x ∈ xs, (Lit.int .u8 x).wf = true) (k : Nat) : ∀ (m : Nat) (i : Nat) (r : BitVec 64), i + m = xs.length →
    checksum_Hash.l0 (k + m + 1) (r.toNat : Int) xs (xs.length : Int) (i : Int) = some (((nat (xs.drop i)).foldl fnv r).toNat : Int) := by
  intro m
  induction m with
  | zero =>
    intro i r hi
    rw [checksum_Hash.l0]
    rw [if_neg (by omega), List.drop_eq_nil_of_le (by omega)]
    rfl
  | succ m ih =>
    intro i r hi
    have hlt : i < xs.length := by omega
    have e : k + (m + 1) + 1 = (k + m + 1) + 1 := by omega
    rw [e]
    rw [checksum_Hash.l0]
    rw [if_pos (by omega), if_pos (by omega), if_pos (by omega), rd_at xs i hlt, fnv_int r (hw _ (List.getElem_mem hlt)), wrap_small (by omega) (by omega)]
    have h2 : ((i : Int) + 1) = ((i + 1 : Nat) : Int) := by omega
    rw [h2, ih (i + 1) _ (by omega), List.drop_eq_getElem_cons hlt]
    rfl
theorem hash_f (xs : List Int) (hn : xs.length ≤ 1000000) (hw : ∀ x ∈ xs, (Lit.int .u8 x).wf = true) (k : Nat) (hk : xs.length + 1 ≤ k) :
    checksum_Hash.f k xs = some (((nat xs).foldl fnv 14695981039346656037#64).toNat : Int) := by
  obtain ⟨d, rfl⟩ : ∃ d, k = d + xs.length + 1 := ⟨k - (xs.length + 1), by omega⟩
  unfold checksum_Hash.f
  exact hash_row xs hn hw d xs.length 0 14695981039346656037#64 (by omega)
/-- The check values. -/
theorem known_true (k : Nat) (hk : 100 ≤ k) : credencelaw5_known.f k = some true := by
  unfold credencelaw5_known.f
  rw [ext_crc _ (by decide) (by decide) k (by simp; omega)]
  rw [show (((~~~ (crun (~~~0#32) (nat [49, 50, 51, 52, 53, 54, 55, 56, 57]))).toNat : Int)) = 3808858755 by decide +kernel]
  simp only [Option.bind_some, if_true]
  rw [hash_f [97] (by decide) (by decide) k (by simp; omega)]
  rw [show (((nat [97]).foldl fnv 14695981039346656037#64).toNat : Int) = 12638187200555641996 by decide +kernel]
  simp only [Option.bind_some, if_true]
  rw [hash_f [] (by decide) (by decide) k (by simp; omega)]
  rfl
theorem xor8 {x y : Int} (hx : 0 ≤ x ∧ x < 256) (hy : 0 ≤ y ∧ y < 256) : ∃ z : Nat, Go.bits .xor .u8 x y = z ∧ z < 256 ∧ z = x.toNat ^^^ y.toNat := by
  obtain ⟨a, rfl⟩ : ∃ a : Nat, x = a := ⟨x.toNat, by omega⟩
  obtain ⟨b, rfl⟩ : ∃ b : Nat, y = b := ⟨y.toNat, by omega⟩
  have hlt : a ^^^ b < 256 := Nat.xor_lt_two_pow (n := 8) (by omega) (by omega)
  refine ⟨a ^^^ b, ?_, hlt, rfl⟩
  simp only [Go.bits]
  show IntKind.u8.wrap ((BitVec.ofInt 8 a ^^^ BitVec.ofInt 8 b).toNat : Int) = _
  rw [BitVec.ofInt_natCast, BitVec.ofInt_natCast, BitVec.toNat_xor, BitVec.toNat_ofNat, BitVec.toNat_ofNat, Nat.mod_eq_of_lt (by omega), Nat.mod_eq_of_lt (by omega), wrapU8]
  omega
/-- The XOR of three rows. -/
def xor3 : List Int → List Int → List Int → List Int
  | x :: a, y :: b, z :: c => Go.bits .xor .u8 (Go.bits .xor .u8 x y) z :: xor3 a b c
  | _, _, _ => []
theorem xor3_snoc : ∀ (a b c : List Int) (x y z : Int), a.length = b.length → a.length = c.length →
    xor3 (a ++ [x]) (b ++ [y]) (c ++ [z]) = xor3 a b c ++ [Go.bits .xor .u8 (Go.bits .xor .u8 x y) z]
  | [], [], [], _, _, _, _, _ => rfl
  | _ :: a, _ :: b, _ :: c, x, y, z, h1, h2 => by
    simp only [List.cons_append, xor3]
    rw [xor3_snoc a b c x y z (by simpa using h1) (by simpa using h2)]
theorem xor3_length : ∀ (a b c : List Int), a.length = b.length → a.length = c.length → (xor3 a b c).length = a.length
  | [], [], [], _, _ => rfl
  | _ :: a, _ :: b, _ :: c, h1, h2 => by simp [xor3, xor3_length a b c (by simpa using h1) (by simpa using h2)]
def u8 (l : List Int) : Prop := ∀ x ∈ l, (Lit.int .u8 x).wf = true
theorem u8_of (z : Nat) (h : z < 256) : (Lit.int .u8 (z : Int)).wf = true := by
  simp [Lit.wf, IntKind.min, IntKind.max, IntKind.signed, IntKind.bits]
  omega
theorem xor3_u8 : ∀ (a b c : List Int), u8 a → u8 b → u8 c → u8 (xor3 a b c)
  | x :: a, y :: b, z :: c, ha, hb, hc => by
    intro v hv
    simp only [xor3, List.mem_cons] at hv
    rcases hv with rfl | hv
    · obtain ⟨p, h1, h2, _⟩ := xor8 (byteOf (ha x (by simp))) (byteOf (hb y (by simp)))
      rw [h1]
      obtain ⟨q, h4, h5, _⟩ := xor8 (x := (p : Int)) (by omega) (byteOf (hc z (by simp)))
      rw [h4]
      exact u8_of q h5
    · exact xor3_u8 a b c (fun x h => ha x (by simp [h])) (fun x h => hb x (by simp [h])) (fun x h => hc x (by simp [h])) v hv
  | [], _, _, _, _, _ => by intro v hv; simp [xor3] at hv
  | _ :: _, [], _, _, _, _ => by intro v hv; simp [xor3] at hv
  | _ :: _, _ :: _, [], _, _, _ => by intro v hv; simp [xor3] at hv
theorem ofNat_xor (a b : Nat) : BitVec.ofNat 32 (a ^^^ b) = BitVec.ofNat 32 a ^^^ BitVec.ofNat 32 b := by
  apply BitVec.eq_of_toNat_eq
  simp
theorem xor_six (a b c d e f : W) : ((a ^^^ b) ^^^ c) ^^^ ((d ^^^ e) ^^^ f) = ((a ^^^ d) ^^^ (b ^^^ e)) ^^^ (c ^^^ f) := by
  ext i
  simp
  cases a[i] <;> cases b[i] <;> cases c[i] <;> cases d[i] <;> cases e[i] <;> cases f[i] <;> rfl
theorem crun_xor3 : ∀ (a b c : List Int) (p q r : W), a.length = b.length → a.length = c.length → u8 a → u8 b → u8 c →
    crun ((p ^^^ q) ^^^ r) (nat (xor3 a b c)) = (crun p (nat a) ^^^ crun q (nat b)) ^^^ crun r (nat c)
  | [], [], [], p, q, r, _, _, _, _, _ => rfl
  | x :: a, y :: b, z :: c, p, q, r, h1, h2, ha, hb, hc => by
    obtain ⟨u, e1, e2, e3⟩ := xor8 (byteOf (ha x (by simp))) (byteOf (hb y (by simp)))
    obtain ⟨v, e4, e5, e6⟩ := xor8 (x := (u : Int)) (by omega) (byteOf (hc z (by simp)))
    simp only [xor3, e1, e4]
    show crun (cbyte ((p ^^^ q) ^^^ r) v) (nat (xor3 a b c)) = (crun (cbyte p x.toNat) (nat a) ^^^ crun (cbyte q y.toNat) (nat b)) ^^^ crun (cbyte r z.toNat) (nat c)
    have : cbyte ((p ^^^ q) ^^^ r) v = (cbyte p x.toNat ^^^ cbyte q y.toNat) ^^^ cbyte r z.toNat := by
      unfold cbyte
      rw [← iter_xor, ← iter_xor, e6, Int.toNat_natCast, e3, ofNat_xor, ofNat_xor, xor_six]
    rw [this]
    exact crun_xor3 a b c _ _ _ (by simpa using h1) (by simpa using h2) (fun x h => ha x (by simp [h])) (fun x h => hb x (by simp [h])) (fun x h => hc x (by simp [h]))
theorem take_next (l : List Int) (i : Nat) (h : i < l.length) : l.take (i + 1) = l.take i ++ [l[i]] := by rw [List.take_succ_eq_append_getElem h]
theorem fill (a b c : List Int) (n : Nat) (hn : n ≤ 200) (h1 : n ≤ a.length) (h2 : n ≤ b.length) (h3 : n ≤ c.length) (k : Nat) :
    ∀ (m i : Nat), i + m = n →
    credencelaw5_ChecksumAffine.l0 (k + m + 1) a b c n (xor3 (a.take i) (b.take i) (c.take i) ++ List.replicate m 0) i =
      credencelaw5_ChecksumAffine.l0 (k + 1) a b c n (xor3 (a.take n) (b.take n) (c.take n)) n := by
  intro m
  induction m with
  | zero =>
    intro i hi
    obtain rfl : i = n := by omega
    simp
  | succ m ih =>
    intro i hi
    rw [← ih (i + 1) (by omega)]
    have e : k + (m + 1) + 1 = (k + m + 1) + 1 := by omega
    have hl : (xor3 (a.take i) (b.take i) (c.take i)).length = i := by rw [xor3_length _ _ _ (by simp only [List.length_take]; omega) (by simp only [List.length_take]; omega), List.length_take]; omega
    rw [e]
    conv => lhs; rw [credencelaw5_ChecksumAffine.l0]
    rw [if_pos (by omega), if_pos (by omega), if_pos (by omega), if_pos (by omega), if_pos (by omega), if_pos (by simp only [List.length_append, hl, List.length_replicate]; omega), wrap_small (by omega) (by omega), rd_at a i (by omega), rd_at b i (by omega), rd_at c i (by omega)]
    rw [take_next a i (by omega), take_next b i (by omega), take_next c i (by omega), xor3_snoc _ _ _ _ _ _ (by simp only [List.length_take]; omega) (by simp only [List.length_take]; omega)]
    have h5 : ((i : Int) + 1) = ((i + 1 : Nat) : Int) := by omega
    rw [h5, Int.toNat_natCast, List.set_append_right _ _ (by omega), hl, Nat.sub_self, List.replicate_succ, List.set_cons_zero, List.append_assoc]
    rfl
theorem u8_take {l : List Int} (h : ∀ x ∈ l, (Lit.int .u8 x).wf = true) (n : Nat) : u8 (l.take n) := fun x hx => h x (List.mem_of_mem_take hx)
theorem ChecksumAffine : credencelaw5_ChecksumAffine.Pure := by
  intro a b c _ _ wa _ _ wb _ _ wc
  refine ⟨4000, ?_⟩
  obtain ⟨n, hn, h0, h1, h2, h3⟩ : ∃ n : Nat, mn (mn (mn (a.length : Int) (b.length : Int)) (c.length : Int)) 200 = n ∧ n ≤ 200 ∧ n ≤ a.length ∧ n ≤ b.length ∧ n ≤ c.length := by
    refine ⟨(mn (mn (mn (a.length : Int) (b.length : Int)) (c.length : Int)) 200).toNat, ?_⟩
    unfold mn
    omega
  unfold credencelaw5_ChecksumAffine.f
  rw [hn, if_pos (by omega), if_pos (by omega), Int.toNat_natCast]
  have hf := fill a b c n h0 h1 h2 h3 (3999 - n) n 0 (by omega)
  simp only [List.take_zero, xor3, List.nil_append] at hf
  rw [show 3999 - n + n + 1 = 4000 by omega] at hf
  have hf0 : credencelaw5_ChecksumAffine.l0 4000 a b c n (List.replicate n 0) 0 = credencelaw5_ChecksumAffine.l0 (3999 - n + 1) a b c n (xor3 (a.take n) (b.take n) (c.take n)) n := hf
  rw [hf0]
  clear hf hf0
  generalize hk : 3999 - n = k
  have la : (a.take n).length = n := by rw [List.length_take]; omega
  have lb : (b.take n).length = n := by rw [List.length_take]; omega
  have lc : (c.take n).length = n := by rw [List.length_take]; omega
  have hx := xor3_length (a.take n) (b.take n) (c.take n) (by omega) (by omega)
  rw [credencelaw5_ChecksumAffine.l0, if_neg (by omega), ext_crc _ (by omega) (xor3_u8 _ _ _ (u8_take wa n) (u8_take wb n) (u8_take wc n)) _ (by omega)]
  simp only [Option.bind_some, Int.toNat_natCast]
  rw [if_pos (by omega), if_pos (by omega), ext_crc _ (by omega) (u8_take wa n) _ (by omega)]
  simp only [Option.bind_some]
  rw [if_pos (by omega), ext_crc _ (by omega) (u8_take wb n) _ (by omega)]
  simp only [Option.bind_some]
  rw [if_pos (by omega), ext_crc _ (by omega) (u8_take wc n) _ (by omega)]
  simp only [Option.bind_some]
  have key := crun_xor3 (a.take n) (b.take n) (c.take n) (~~~0#32) (~~~0#32) (~~~0#32) (by omega) (by omega) (u8_take wa n) (u8_take wb n) (u8_take wc n)
  have hff : ((~~~0#32 ^^^ ~~~0#32) ^^^ ~~~0#32 : W) = ~~~0#32 := by decide
  rw [hff] at key
  rw [xor32, xor32, key]
  rw [if_pos]
  · rw [known_true _ (by omega)]
    rfl
  · congr 2
    ext i
    simp

end Go.Proofs.Ytndjhonpjikjoaa.Pure
