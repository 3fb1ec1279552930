-- Out of the translation, by a turned copy of the kit's printer (wip/pr/patch_print.py of this session)
import Derived.Lib.SlBytesConst
import Derived.Test.YtndjhonpjikjoaaPChecksumAffinex0
namespace Go.Proofs.Ytndjhonpjikjoaa.PChecksumAffine
open Go.RowKit Go.Proofs.YtndjhonpjikjoaaW.PrintWords Go.Proofs.YtndjhonpjikjoaaW.PrintLast Go.Proofs.YtndjhonpjikjoaaW.PrintMore
attribute [local go_sem] max2_int min2_int max_two min_two max_three min_three max_four min_four   -- for this text's walks alone
set_option linter.unusedVariables false
set_option linter.unusedSimpArgs false

/-! ### checksum_ExtendCRC: function 11 -/
mutual
def checksum_ExtendCRC.l0 : Nat → Int → List Int → Int → Int → Option (Int)
  | 0, _, _, _, _ => none
  | k + 1, x5, x11, x12, x13 => if x13 < x12 then (if 0 ≤ x13 then (if x13 < (x11.length : Int) then (checksum_ExtendCRC.l1 k (Go.bits .xor .u32 x5 ((rd x11 x13) % 4294967296)) x11 x12 x13 0) else (none)) else (none)) else (some (Go.bits .xor .u32 4294967295 x5))
def checksum_ExtendCRC.l1 : Nat → Int → List Int → Int → Int → Int → Option (Int)
  | 0, _, _, _, _, _ => none
  | k + 1, x5, x11, x12, x13, x21 => if x21 < 8 then (if (Go.bits .and .u32 x5 1) = 1 then (checksum_ExtendCRC.l1 k (Go.bits .xor .u32 (x5 / 2) 2197175160) x11 x12 x13 (wrap64 (x21 + 1))) else (checksum_ExtendCRC.l1 k (x5 / 2) x11 x12 x13 (wrap64 (x21 + 1)))) else (checksum_ExtendCRC.l0 k x5 x11 x12 (wrap64 (x13 + 1)))
end
def checksum_ExtendCRC.f (k : Nat) (a0 : Int) (l1 : List Int) : Option (Int) := checksum_ExtendCRC.l0 k (Go.bits .xor .u32 4294967295 a0) l1 (l1.length : Int) 0
theorem checksum_ExtendCRC.mono_l : ∀ k, (∀ y0 y1 y2 y3, LeO (checksum_ExtendCRC.l0 k y0 y1 y2 y3) (checksum_ExtendCRC.l0 (k + 1) y0 y1 y2 y3)) ∧ (∀ y0 y1 y2 y3 y4, LeO (checksum_ExtendCRC.l1 k y0 y1 y2 y3 y4) (checksum_ExtendCRC.l1 (k + 1) y0 y1 y2 y3 y4))
  | 0 => ⟨fun _ _ _ _ r h => by simp [checksum_ExtendCRC.l0] at h, fun _ _ _ _ _ r h => by simp [checksum_ExtendCRC.l1] at h⟩
  | k + 1 => by
    obtain ⟨ih0, ih1⟩ := checksum_ExtendCRC.mono_l k
    refine ⟨?_, ?_⟩
    · intro y0 y1 y2 y3
      unfold checksum_ExtendCRC.l0
      repeat' first
      | (with_reducible exact ih0 _ _ _ _)
      | (with_reducible exact ih1 _ _ _ _ _)
      | (with_reducible exact LeO.refl _)
      | (with_reducible exact LeO.none _)
      | (with_reducible refine LeO.ite ?_ ?_)
      | (with_reducible refine LeO.bind ?_ (fun _ => ?_))
      | exact ih0 _ _ _ _
      | exact ih1 _ _ _ _ _
      | exact LeO.none _
      | refine LeO.ite ?_ ?_
      | refine LeO.bind ?_ (fun _ => ?_)
    · intro y0 y1 y2 y3 y4
      unfold checksum_ExtendCRC.l1
      repeat' first
      | (with_reducible exact ih0 _ _ _ _)
      | (with_reducible exact ih1 _ _ _ _ _)
      | (with_reducible exact LeO.refl _)
      | (with_reducible exact LeO.none _)
      | (with_reducible refine LeO.ite ?_ ?_)
      | (with_reducible refine LeO.bind ?_ (fun _ => ?_))
      | exact ih0 _ _ _ _
      | exact ih1 _ _ _ _ _
      | exact LeO.none _
      | refine LeO.ite ?_ ?_
      | refine LeO.bind ?_ (fun _ => ?_)
theorem checksum_ExtendCRC.mono : ∀ a0 a1 k, LeO (checksum_ExtendCRC.f k a0 a1) (checksum_ExtendCRC.f (k + 1) a0 a1) := by
  intro a0 a1 k
  obtain ⟨ih0, ih1⟩ := checksum_ExtendCRC.mono_l k
  unfold checksum_ExtendCRC.f
  repeat' first
      | (with_reducible exact ih0 _ _ _ _)
      | (with_reducible exact ih1 _ _ _ _ _)
      | (with_reducible exact LeO.refl _)
      | (with_reducible exact LeO.none _)
      | (with_reducible refine LeO.ite ?_ ?_)
      | (with_reducible refine LeO.bind ?_ (fun _ => ?_))
      | exact ih0 _ _ _ _
      | exact ih1 _ _ _ _ _
      | exact LeO.none _
      | refine LeO.ite ?_ ?_
      | refine LeO.bind ?_ (fun _ => ?_)
set_option maxHeartbeats 8000000 in
set_option maxRecDepth 100000 in
theorem checksum_ExtendCRC.calls (k : Nat) (a0 : Int) (A1 : Option Addr) (c1 : Nat) (l1 : List Int) (r : Int) (w : World) (hr1 : Kd.C (Kd.int .u8) w A1 l1.length l1) (hc1 : l1.length ≤ c1) (h : checksum_ExtendCRC.f k a0 l1 = some r) :
    Calls Try.prog 11 #[.int .u32 a0, .slice A1 l1.length c1] w fun e w' => e = .returned (.int .u32 r) ∧ Drawn0 w w' := by
  have HR1 := Aside0.mk hr1
  have HC1 := Aside0.mk hc1
  clear hr1 hc1
  have H : (checksum_ExtendCRC.l0 k (Go.bits .xor .u32 4294967295 a0) l1 (l1.length : Int) 0) = some r := h
  clear h
  have H' := Aside0.mk H
  clear H
  go_enter Try.func11, Try.ntmps11
  go_wp2
  go_loopg [5, 13] k (fun kq v5 v13 w' => ∃ (x5_1 : Int) (x13_1 : Int), v5 = .int .u32 x5_1 ∧ v13 = .int .i64 x13_1 ∧ Aside0 (checksum_ExtendCRC.l0 kq x5_1 l1 (l1.length : Int) x13_1 = some r) ∧ Aside0 (kq ≤ k) ∧ Drawn0 w w')
  case atStart => exact ⟨(Go.bits .xor .u32 4294967295 a0), (0), (by first | rfl | (simp; done) | (simp [*]; done)), (by first | rfl | (simp; done) | (simp [*]; done)), H', ⟨Nat.le_refl _⟩, by repeat (first | exact Drawn0.refl _ | apply Drawn0.step)⟩
  case round =>
    clear H'
    try clear c1
    try clear p2
    obtain ⟨x5_1, x13_1, rfl, rfl, HA, HK1, ⟨m1, rfl⟩⟩ := hrel
    cases gk with
    | zero => exact absurd HA.out (by simp [checksum_ExtendCRC.l0])
    | succ k1 =>
      have H := HA.out
      clear HA
      simp only [checksum_ExtendCRC.l0] at H
      by_cases c3 : x13_1 < (l1.length : Int)
      · rw [if_pos c3] at H
        have c3b0 : decide (x13_1 < (l1.length : Int)) = true := decide_eq_true c3
        clear c3
        by_cases c4 : 0 ≤ x13_1
        · rw [if_pos c4] at H
          have c4b0 : decide (0 ≤ x13_1) = true := decide_eq_true c4
          clear c4
          by_cases c5 : x13_1 < (l1.length : Int)
          · rw [if_pos c5] at H
            have c5b0 : decide (x13_1 < (l1.length : Int)) = true := decide_eq_true c5
            clear c5
            have H' := Aside0.mk H
            clear H
            have p101 : 0 ≤ (x13_1 : Int) := of_decide_eq_true (by first | (with_reducible assumption) | assumption)
            have q101 : x13_1 < (l1.length : Int) := of_decide_eq_true (by first | (with_reducible assumption) | assumption)
            obtain ⟨ad101, e101, hx101_0⟩ := Kd.at_int HR1.out x13_1 p101 q101
            cases e101
            replace p101 := eq_true p101
            replace q101 := eq_true q101
            go_wp2
            go_loopg [5, 21] k1 (fun kq v5 v21 w' => ∃ (x5_2 : Int) (x21_2 : Int), v5 = .int .u32 x5_2 ∧ v21 = .int .i64 x21_2 ∧ Aside0 (checksum_ExtendCRC.l1 kq x5_2 l1 (l1.length : Int) x13_1 x21_2 = some r) ∧ Aside0 (kq ≤ k1) ∧ Drawn0 w w')
            case atStart => exact ⟨(Go.bits .xor .u32 x5_1 ((rd l1 x13_1) % 4294967296)), (0), (by first | rfl | (simp; done) | (simp [*]; done)), (by first | rfl | (simp; done) | (simp [*]; done)), H', ⟨Nat.le_refl _⟩, by repeat (first | exact Drawn0.refl _ | apply Drawn0.step)⟩
            case round =>
              clear H'
              try clear c1
              try clear p1
              try clear q1
              try clear hx1
              try clear p2
              try clear c3
              try clear c3b0
              try clear c4
              try clear c4b0
              try clear c5
              try clear c5b0
              try clear hx101_0
              try clear p101
              try clear p2
              try clear q101
              obtain ⟨x5_2, x21_2, rfl, rfl, HA, HK2, ⟨m2, rfl⟩⟩ := hrel
              cases gk with
              | zero => exact absurd HA.out (by simp [checksum_ExtendCRC.l1])
              | succ k2 =>
                have H := HA.out
                clear HA
                simp only [checksum_ExtendCRC.l1] at H
                by_cases c6 : x21_2 < 8
                · rw [if_pos c6] at H
                  have c6b0 : decide (x21_2 < 8) = true := decide_eq_true c6
                  clear c6
                  by_cases c7 : (Go.bits .and .u32 x5_2 1) = 1
                  · rw [if_pos c7] at H
                    have c7b0 : ((Go.bits .and .u32 x5_2 1) == 1) = true := beq_iff_eq.mpr c7
                    have c7b1 : ((Go.bits .and .u32 x5_2 1) != 1) = false := bne_eq_false_iff_eq.mpr c7
                    clear c7
                    have H' := Aside0.mk H
                    clear H
                    go_wp2
                    go_roundg k2
                    case measure => have := HK1.out; have := HK2.out; omega
                    case rel => exact ⟨(Go.bits .xor .u32 (x5_2 / 2) 2197175160), (wrap64 (x21_2 + 1)), (by first | rfl | (simp; done) | (simp [*]; done)), (by first | rfl | (simp; done) | (simp [*]; done)), H', ⟨by have := HK1.out; have := HK2.out; omega⟩, by repeat (first | exact Drawn0.refl _ | apply Drawn0.step)⟩
                  · rw [if_neg c7] at H
                    have c7b0 : ((Go.bits .and .u32 x5_2 1) == 1) = false := beq_eq_false_iff_ne.mpr c7
                    have c7b1 : ((Go.bits .and .u32 x5_2 1) != 1) = true := bne_iff_ne.mpr c7
                    have H' := Aside0.mk H
                    clear H
                    go_wp2
                    go_roundg k2
                    case measure => have := HK1.out; have := HK2.out; omega
                    case rel => exact ⟨(x5_2 / 2), (wrap64 (x21_2 + 1)), (by first | rfl | (simp; done) | (simp [*]; done)), (by first | rfl | (simp; done) | (simp [*]; done)), H', ⟨by have := HK1.out; have := HK2.out; omega⟩, by repeat (first | exact Drawn0.refl _ | apply Drawn0.step)⟩
                · rw [if_neg c6] at H
                  have c6b0 : decide (x21_2 < 8) = false := decide_eq_false c6
                  clear c6
                  have H' := Aside0.mk H
                  clear H
                  go_wp2
                  go_roundg k2
                  case measure => have := HK1.out; have := HK2.out; omega
                  case rel => exact ⟨(x5_2), (wrap64 (x13_1 + 1)), (by first | rfl | (simp; done) | (simp [*]; done)), (by first | rfl | (simp; done) | (simp [*]; done)), H', ⟨by have := HK1.out; have := HK2.out; omega⟩, by repeat (first | exact Drawn0.refl _ | apply Drawn0.step)⟩
          · rw [if_neg c5] at H
            exact absurd H (by simp)
        · rw [if_neg c4] at H
          exact absurd H (by simp)
      · rw [if_neg c3] at H
        have c3b0 : decide (x13_1 < (l1.length : Int)) = false := decide_eq_false c3
        clear c3
        obtain rfl := Option.some.inj H
        go_wp2
        go_ret
        exact ⟨by first | rfl | (simp; done) | (simp [*]; done), by repeat (first | exact Drawn0.refl _ | apply Drawn0.step)⟩

/-! ### checksum_CRC: function 9 -/
def checksum_CRC.f (k : Nat) (l0 : List Int) : Option (Int) := (checksum_ExtendCRC.f k 0 l0).bind fun t102 => (some t102)
theorem checksum_CRC.mono : ∀ a0 k, LeO (checksum_CRC.f k a0) (checksum_CRC.f (k + 1) a0) := by
  intro a0 k
  unfold checksum_CRC.f
  repeat' first
      | (with_reducible exact checksum_ExtendCRC.mono _ _ _)
      | (with_reducible exact LeO.refl _)
      | (with_reducible exact LeO.none _)
      | (with_reducible refine LeO.ite ?_ ?_)
      | (with_reducible refine LeO.bind ?_ (fun _ => ?_))
      | exact checksum_ExtendCRC.mono _ _ _
      | exact LeO.none _
      | refine LeO.ite ?_ ?_
      | refine LeO.bind ?_ (fun _ => ?_)
set_option maxHeartbeats 8000000 in
set_option maxRecDepth 100000 in
theorem checksum_CRC.calls (k : Nat) (A0 : Option Addr) (c0 : Nat) (l0 : List Int) (r : Int) (w : World) (hr0 : Kd.C (Kd.int .u8) w A0 l0.length l0) (hc0 : l0.length ≤ c0) (h : checksum_CRC.f k l0 = some r) :
    Calls Try.prog 9 #[.slice A0 l0.length c0] w fun e w' => e = .returned (.int .u32 r) ∧ Drawn0 w w' := by
  have HR0 := Aside0.mk hr0
  have HC0 := Aside0.mk hc0
  clear hr0 hc0
  have H : ((checksum_ExtendCRC.f k 0 l0).bind fun t102 => (some t102)) = some r := h
  clear h
  replace H := Option.bind_eq_some_iff.mp H
  obtain ⟨t102, A20, H⟩ := H
  replace H : (some t102) = some r := H
  have A2 := Aside0.mk A20
  clear A20
  obtain rfl := Option.some.inj H
  go_enter Try.func9, Try.ntmps9
  go_wp2_with (first | ((with_reducible refine gate_callee (f := 11) rfl ?_); refine goesL_ (some 4) rfl rfl Try.func11 (by kernel_rfl) rfl #[.int .u32 0, .slice A0 l0.length c0] rfl (by (try simp only [List.map_toArray, List.map_cons, List.map_nil]); first | done | rfl | (simp only [List.length_drop, List.length_take]; rfl)) ?_; (with_reducible refine (checksum_ExtendCRC.calls k 0 _ _ l0 t102 _ ?side1 ?side2 A2.out).mono ?_); (case side1 => repeat (first | exact HR0.out | (with_reducible refine Kd.C_alloc ?_ _) | (with_reducible refine Kd.C_drewN ?_ _) | (with_reducible refine Kd.C_drew ?_))); (case side2 => exact HC0.out); rintro e w' ⟨rfl, ⟨nd, rfl⟩⟩; refine ⟨_, rfl, ?_⟩))
  go_ret
  exact ⟨by first | rfl | (simp; done) | (simp [*]; done), by repeat (first | exact Drawn0.refl _ | apply Drawn0.step)⟩

/-! ### checksum_Hash: function 13 -/
def checksum_Hash.l0 : Nat → Int → List Int → Int → Int → Option (Int)
  | 0, _, _, _, _ => none
  | k + 1, x3, x6, x7, x8 => if x8 < x7 then (if 0 ≤ x8 then (if x8 < (x6.length : Int) then (checksum_Hash.l0 k (IntKind.u64.wrap ((Go.bits .xor .u64 x3 (IntKind.u64.wrap (rd x6 x8))) * 1099511628211)) x6 x7 (wrap64 (x8 + 1))) else (none)) else (none)) else (some x3)
def checksum_Hash.f (k : Nat) (l0 : List Int) : Option (Int) := checksum_Hash.l0 k 14695981039346656037 l0 (l0.length : Int) 0
theorem checksum_Hash.mono_l : ∀ k, (∀ y0 y1 y2 y3, LeO (checksum_Hash.l0 k y0 y1 y2 y3) (checksum_Hash.l0 (k + 1) y0 y1 y2 y3))
  | 0 => fun _ _ _ _ r h => by simp [checksum_Hash.l0] at h
  | k + 1 => by
    have ih0 := checksum_Hash.mono_l k
    · intro y0 y1 y2 y3
      unfold checksum_Hash.l0
      repeat' first
      | (with_reducible exact ih0 _ _ _ _)
      | (with_reducible exact LeO.refl _)
      | (with_reducible exact LeO.none _)
      | (with_reducible refine LeO.ite ?_ ?_)
      | (with_reducible refine LeO.bind ?_ (fun _ => ?_))
      | exact ih0 _ _ _ _
      | exact LeO.none _
      | refine LeO.ite ?_ ?_
      | refine LeO.bind ?_ (fun _ => ?_)
theorem checksum_Hash.mono : ∀ a0 k, LeO (checksum_Hash.f k a0) (checksum_Hash.f (k + 1) a0) := by
  intro a0 k
  have ih0 := checksum_Hash.mono_l k
  unfold checksum_Hash.f
  repeat' first
      | (with_reducible exact ih0 _ _ _ _)
      | (with_reducible exact LeO.refl _)
      | (with_reducible exact LeO.none _)
      | (with_reducible refine LeO.ite ?_ ?_)
      | (with_reducible refine LeO.bind ?_ (fun _ => ?_))
      | exact ih0 _ _ _ _
      | exact LeO.none _
      | refine LeO.ite ?_ ?_
      | refine LeO.bind ?_ (fun _ => ?_)
set_option maxHeartbeats 8000000 in
set_option maxRecDepth 100000 in
theorem checksum_Hash.calls (k : Nat) (A0 : Option Addr) (c0 : Nat) (l0 : List Int) (r : Int) (w : World) (hr0 : Kd.C (Kd.int .u8) w A0 l0.length l0) (hc0 : l0.length ≤ c0) (h : checksum_Hash.f k l0 = some r) :
    Calls Try.prog 13 #[.slice A0 l0.length c0] w fun e w' => e = .returned (.int .u64 r) ∧ Drawn0 w w' := by
  have HR0 := Aside0.mk hr0
  have HC0 := Aside0.mk hc0
  clear hr0 hc0
  have H : (checksum_Hash.l0 k 14695981039346656037 l0 (l0.length : Int) 0) = some r := h
  clear h
  have H' := Aside0.mk H
  clear H
  go_enter Try.func13, Try.ntmps13
  go_wp2
  go_loopg [3, 8] k (fun kq v3 v8 w' => ∃ (x3_1 : Int) (x8_1 : Int), v3 = .int .u64 x3_1 ∧ v8 = .int .i64 x8_1 ∧ Aside0 (checksum_Hash.l0 kq x3_1 l0 (l0.length : Int) x8_1 = some r) ∧ Aside0 (kq ≤ k) ∧ Drawn0 w w')
  case atStart => exact ⟨(14695981039346656037), (0), (by first | rfl | (simp; done) | (simp [*]; done)), (by first | rfl | (simp; done) | (simp [*]; done)), H', ⟨Nat.le_refl _⟩, by repeat (first | exact Drawn0.refl _ | apply Drawn0.step)⟩
  case round =>
    clear H'
    try clear c1
    obtain ⟨x3_1, x8_1, rfl, rfl, HA, HK1, ⟨m1, rfl⟩⟩ := hrel
    cases gk with
    | zero => exact absurd HA.out (by simp [checksum_Hash.l0])
    | succ k1 =>
      have H := HA.out
      clear HA
      simp only [checksum_Hash.l0] at H
      by_cases c2 : x8_1 < (l0.length : Int)
      · rw [if_pos c2] at H
        have c2b0 : decide (x8_1 < (l0.length : Int)) = true := decide_eq_true c2
        clear c2
        by_cases c3 : 0 ≤ x8_1
        · rw [if_pos c3] at H
          have c3b0 : decide (0 ≤ x8_1) = true := decide_eq_true c3
          clear c3
          by_cases c4 : x8_1 < (l0.length : Int)
          · rw [if_pos c4] at H
            have c4b0 : decide (x8_1 < (l0.length : Int)) = true := decide_eq_true c4
            clear c4
            have H' := Aside0.mk H
            clear H
            have p103 : 0 ≤ (x8_1 : Int) := of_decide_eq_true (by first | (with_reducible assumption) | assumption)
            have q103 : x8_1 < (l0.length : Int) := of_decide_eq_true (by first | (with_reducible assumption) | assumption)
            obtain ⟨ad103, e103, hx103_0⟩ := Kd.at_int HR0.out x8_1 p103 q103
            cases e103
            replace p103 := eq_true p103
            replace q103 := eq_true q103
            go_wp2
            go_roundg k1
            case measure => have := HK1.out; omega
            case rel => exact ⟨(IntKind.u64.wrap ((Go.bits .xor .u64 x3_1 (IntKind.u64.wrap (rd l0 x8_1))) * 1099511628211)), (wrap64 (x8_1 + 1)), (by first | rfl | (simp; done) | (simp [*]; done)), (by first | rfl | (simp; done) | (simp [*]; done)), H', ⟨by have := HK1.out; omega⟩, by repeat (first | exact Drawn0.refl _ | apply Drawn0.step)⟩
          · rw [if_neg c4] at H
            exact absurd H (by simp)
        · rw [if_neg c3] at H
          exact absurd H (by simp)
      · rw [if_neg c2] at H
        have c2b0 : decide (x8_1 < (l0.length : Int)) = false := decide_eq_false c2
        clear c2
        obtain rfl := Option.some.inj H
        go_wp2
        go_ret
        exact ⟨by first | rfl | (simp; done) | (simp [*]; done), by repeat (first | exact Drawn0.refl _ | apply Drawn0.step)⟩

/-! ### credencelaw5_known: function 15 -/
def credencelaw5_known.f (k : Nat)  : Option (Bool) := (checksum_CRC.f k (([49, 50, 51, 52, 53, 54, 55, 56, 57] : List Int))).bind fun t107 => (if t107 = 3808858755 then ((checksum_Hash.f k (([97] : List Int))).bind fun t111 => (if t111 = 12638187200555641996 then ((checksum_Hash.f k ([] : List Int)).bind fun t112 => (some (t112 == 14695981039346656037))) else (some false))) else (some false))
theorem credencelaw5_known.mono : ∀ k, LeO (credencelaw5_known.f k ) (credencelaw5_known.f (k + 1) ) := by
  intro  k
  unfold credencelaw5_known.f
  repeat' first
      | (with_reducible exact checksum_CRC.mono _ _)
      | (with_reducible exact checksum_Hash.mono _ _)
      | (with_reducible exact LeO.refl _)
      | (with_reducible exact LeO.none _)
      | (with_reducible refine LeO.ite ?_ ?_)
      | (with_reducible refine LeO.bind ?_ (fun _ => ?_))
      | exact checksum_CRC.mono _ _
      | exact checksum_Hash.mono _ _
      | exact LeO.none _
      | refine LeO.ite ?_ ?_
      | refine LeO.bind ?_ (fun _ => ?_)
/-- A literal's row of bytes, with whatever mark behind it, reads as its numbers. -/
theorem lit_reads (w : World) (xs : List Int) (b : Nat) (m : Nat × Nat) (e : Nat) (h : w.heap[b]? = some (.cells (xs.map (Value.int .u8)).toArray e m)) (hn : xs.length ≤ 9223372036854775807) :
    Kd.C (Kd.int .u8) w (some ⟨b, 0, none⟩) xs.length xs := by
  refine ⟨rfl, hn, fun _ => ⟨_, rfl, fun j p hj => ⟨[.int .u8 p], rfl, rfl, fun i u hu => ?_⟩⟩⟩
  have hi : i = 0 := by
    cases i with
    | zero => rfl
    | succ n => simp at hu
  subst hi
  simp at hu
  subst hu
  obtain ⟨hjl, hje⟩ := List.getElem?_eq_some_iff.1 hj
  show World.cell? w (Addr.add ⟨b, 0, none⟩ (j * 1 + 0)) = _
  have : Addr.add ⟨b, 0, none⟩ (j * 1 + 0) = ⟨b, j, none⟩ := by
    cases j <;> simp [Addr.add]
  rw [this]
  simp [World.cell?, h, hj]
set_option maxHeartbeats 8000000 in
set_option maxRecDepth 100000 in
theorem credencelaw5_known.calls (k : Nat)  (r : Bool) (w : World) (h : credencelaw5_known.f k  = some r) :
    Calls Try.prog 15 #[] w fun e w' => e = .returned (.bool r) ∧ Below w.heap.size w w' := by
  have H : ((checksum_CRC.f k (([49, 50, 51, 52, 53, 54, 55, 56, 57] : List Int))).bind fun t107 => (if t107 = 3808858755 then ((checksum_Hash.f k (([97] : List Int))).bind fun t111 => (if t111 = 12638187200555641996 then ((checksum_Hash.f k ([] : List Int)).bind fun t112 => (some (t112 == 14695981039346656037))) else (some false))) else (some false))) = some r := h
  clear h
  obtain ⟨t107, A10, H⟩ := Option.bind_eq_some_iff.mp H
  have A1 := Aside0.mk A10
  clear A10
  replace H := Aside0.mk H
  have kc := fun (w : World) (C : Array Value) (n c : Nat) => Lib.run_convert_bytes_const (P := Try.prog) w 22 5 C n c Try.underlying22 Try.underlying5
  go_enter Try.func15, Try.ntmps15
  go_wp2_with fail
  refine (checksum_CRC.calls k _ _ [49, 50, 51, 52, 53, 54, 55, 56, 57] t107 _ (lit_reads _ _ _ (9, 10) 5 (by simp [World.alloc, -World.alloc_eq]) (by simp)) (by simp) A1.out).mono ?_
  rintro e w1 ⟨rfl, hd1⟩
  have hb1 : Below w.heap.size w w1 := ((Below.refl _ _).alloc (Nat.le_refl _) _).trans (hd1.below.mono (by simp))
  replace hb1 := Aside0.mk hb1
  clear hd1
  have H2 := H.out
  clear H
  by_cases c2 : t107 = 3808858755
  · rw [if_pos c2] at H2
    obtain ⟨t111, A30, H2⟩ := Option.bind_eq_some_iff.mp H2
    have A3 := Aside0.mk A30
    clear A30
    replace H2 := Aside0.mk H2
    have c2b : (t107 == 3808858755) = true := beq_iff_eq.mpr c2
    clear c2
    go_wp2_with fail
    refine (checksum_Hash.calls k _ _ [97] t111 _ (lit_reads _ _ _ (1, 2) 5 (by simp [World.alloc, -World.alloc_eq]) (by simp)) (by simp) A3.out).mono ?_
    rintro e w2 ⟨rfl, hd2⟩
    have hb2 : Below w.heap.size w w2 := (hb1.out.alloc hb1.out.size _).trans (hd2.below.mono (by have := hb1.out.size; simp; omega))
    clear hd2 hb1
    replace hb2 := Aside0.mk hb2
    have H3 := H2.out
    clear H2
    by_cases c4 : t111 = 12638187200555641996
    · rw [if_pos c4] at H3
      obtain ⟨t112, A50, H3⟩ := Option.bind_eq_some_iff.mp H3
      have A5 := Aside0.mk A50
      clear A50
      obtain rfl := Option.some.inj H3
      have c4b : (t111 == 12638187200555641996) = true := beq_iff_eq.mpr c4
      clear c4 H3
      go_wp2_with fail
      refine (checksum_Hash.calls k _ _ ([] : List Int) t112 _ (Kd.C_nil _ _) (Nat.le_refl _) A5.out).mono ?_
      rintro e w3 ⟨rfl, hd3⟩
      have hb3 := hb2.out.trans (hd3.below.mono hb2.out.size)
      clear hd3 hb2
      go_wp2_with fail
      go_ret
      exact ⟨rfl, hb3⟩
    · rw [if_neg c4] at H3
      obtain rfl := Option.some.inj H3
      have c4b : (t111 == 12638187200555641996) = false := beq_eq_false_iff_ne.mpr c4
      clear c4
      go_wp2_with fail
      go_ret
      exact ⟨rfl, hb2.out⟩
  · rw [if_neg c2] at H2
    obtain rfl := Option.some.inj H2
    have c2b : (t107 == 3808858755) = false := beq_eq_false_iff_ne.mpr c2
    clear c2
    go_wp2_with fail
    go_ret
    exact ⟨rfl, hb1.out⟩

end Go.Proofs.Ytndjhonpjikjoaa.PChecksumAffine
