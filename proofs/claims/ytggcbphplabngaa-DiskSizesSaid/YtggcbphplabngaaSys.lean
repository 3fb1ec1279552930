/- The functions of this seat together. -/
import Derived.Test.YtggcbphplabngaaCfg
import Derived.Test.YtggcbphplabngaaProg
import Derived.KernelRfl
import Derived.Test.YtggcbphplabngaaSymE
import Derived.Test.YtggcbphplabngaaRes
set_option linter.unusedVariables false
namespace Go.Sym.T6
open Go.Proofs
theorem cfg_chk : cfg.chk Try.prog = true := by kernel_rfl
theorem mixed : Try.prog.follows .mixedOrders = true := by kernel_rfl
end Go.Sym.T6

namespace Go.Sym.T6
open Go.Proofs
set_option maxRecDepth 100000
def ext (g : Nat) : Option (FnT cfg g) := none
noncomputable abbrev F (n : Nat) : Cal := sysF Try.prog cfg ext n
theorem s3 (n : Nat) : F (n + 1) 3 = R3 .real (F n) n := (sysF_eq (fn := Try.f3) (by kernel_rfl) (by kernel_rfl) (by kernel_rfl)).trans (r3 _ _ _)
theorem s4 (n : Nat) : F (n + 1) 4 = R4 .real (F n) n := (sysF_eq (fn := Try.f4) (by kernel_rfl) (by kernel_rfl) (by kernel_rfl)).trans (r4 _ _ _)
theorem s5 (n : Nat) : F (n + 1) 5 = R5 .real (F n) n := (sysF_eq (fn := Try.f5) (by kernel_rfl) (by kernel_rfl) (by kernel_rfl)).trans (r5 _ _ _)
theorem s6 (n : Nat) : F (n + 1) 6 = R6 .real (F n) n := (sysF_eq (fn := Try.f6) (by kernel_rfl) (by kernel_rfl) (by kernel_rfl)).trans (r6 _ _ _)
theorem s7 (n : Nat) : F (n + 1) 7 = R7 .real (F n) n := (sysF_eq (fn := Try.f7) (by kernel_rfl) (by kernel_rfl) (by kernel_rfl)).trans (r7 _ _ _)
theorem s8 (n : Nat) : F (n + 1) 8 = R8 .real (F n) n := (sysF_eq (fn := Try.f8) (by kernel_rfl) (by kernel_rfl) (by kernel_rfl)).trans (r8 _ _ _)
theorem s9 (n : Nat) : F (n + 1) 9 = R9 .real (F n) n := (sysF_eq (fn := Try.f9) (by kernel_rfl) (by kernel_rfl) (by kernel_rfl)).trans (r9 _ _ _)
theorem s10 (n : Nat) : F (n + 1) 10 = R10 .real (F n) n := (sysF_eq (fn := Try.f10) (by kernel_rfl) (by kernel_rfl) (by kernel_rfl)).trans (r10 _ _ _)
theorem s11 (n : Nat) : F (n + 1) 11 = R11 .real (F n) n := (sysF_eq (fn := Try.f11) (by kernel_rfl) (by kernel_rfl) (by kernel_rfl)).trans (r11 _ _ _)
theorem s12 (n : Nat) : F (n + 1) 12 = R12 .real (F n) n := (sysF_eq (fn := Try.f12) (by kernel_rfl) (by kernel_rfl) (by kernel_rfl)).trans (r12 _ _ _)
theorem s13 (n : Nat) : F (n + 1) 13 = R13 .real (F n) n := (sysF_eq (fn := Try.f13) (by kernel_rfl) (by kernel_rfl) (by kernel_rfl)).trans (r13 _ _ _)
theorem s14 (n : Nat) : F (n + 1) 14 = R14 .real (F n) n := (sysF_eq (fn := Try.f14) (by kernel_rfl) (by kernel_rfl) (by kernel_rfl)).trans (r14 _ _ _)
theorem s15 (n : Nat) : F (n + 1) 15 = R15 .real (F n) n := (sysF_eq (fn := Try.f15) (by kernel_rfl) (by kernel_rfl) (by kernel_rfl)).trans (r15 _ _ _)
theorem s16 (n : Nat) : F (n + 1) 16 = R16 .real (F n) n := (sysF_eq (fn := Try.f16) (by kernel_rfl) (by kernel_rfl) (by kernel_rfl)).trans (r16 _ _ _)
theorem s17 (n : Nat) : F (n + 1) 17 = R17 .real (F n) n := (sysF_eq (fn := Try.f17) (by kernel_rfl) (by kernel_rfl) (by kernel_rfl)).trans (r17 _ _ _)
theorem s18 (n : Nat) : F (n + 1) 18 = R18 .real (F n) n := (sysF_eq (fn := Try.f18) (by kernel_rfl) (by kernel_rfl) (by kernel_rfl)).trans (r18 _ _ _)
theorem s19 (n : Nat) : F (n + 1) 19 = R19 .real (F n) n := (sysF_eq (fn := Try.f19) (by kernel_rfl) (by kernel_rfl) (by kernel_rfl)).trans (r19 _ _ _)
theorem s20 (n : Nat) : F (n + 1) 20 = R20 .real (F n) n := (sysF_eq (fn := Try.f20) (by kernel_rfl) (by kernel_rfl) (by kernel_rfl)).trans (r20 _ _ _)
theorem s21 (n : Nat) : F (n + 1) 21 = R21 .real (F n) n := (sysF_eq (fn := Try.f21) (by kernel_rfl) (by kernel_rfl) (by kernel_rfl)).trans (r21 _ _ _)
theorem s22 (n : Nat) : F (n + 1) 22 = R22 .real (F n) n := (sysF_eq (fn := Try.f22) (by kernel_rfl) (by kernel_rfl) (by kernel_rfl)).trans (r22 _ _ _)
theorem s23 (n : Nat) : F (n + 1) 23 = R23 .real (F n) n := (sysF_eq (fn := Try.f23) (by kernel_rfl) (by kernel_rfl) (by kernel_rfl)).trans (r23 _ _ _)
theorem s24 (n : Nat) : F (n + 1) 24 = R24 .real (F n) n := (sysF_eq (fn := Try.f24) (by kernel_rfl) (by kernel_rfl) (by kernel_rfl)).trans (r24 _ _ _)
theorem s25 (n : Nat) : F (n + 1) 25 = R25 .real (F n) n := (sysF_eq (fn := Try.f25) (by kernel_rfl) (by kernel_rfl) (by kernel_rfl)).trans (r25 _ _ _)
theorem s26 (n : Nat) : F (n + 1) 26 = R26 .real (F n) n := (sysF_eq (fn := Try.f26) (by kernel_rfl) (by kernel_rfl) (by kernel_rfl)).trans (r26 _ _ _)
theorem s27 (n : Nat) : F (n + 1) 27 = R27 .real (F n) n := (sysF_eq (fn := Try.f27) (by kernel_rfl) (by kernel_rfl) (by kernel_rfl)).trans (r27 _ _ _)
theorem s28 (n : Nat) : F (n + 1) 28 = R28 .real (F n) n := (sysF_eq (fn := Try.f28) (by kernel_rfl) (by kernel_rfl) (by kernel_rfl)).trans (r28 _ _ _)
theorem s29 (n : Nat) : F (n + 1) 29 = R29 .real (F n) n := (sysF_eq (fn := Try.f29) (by kernel_rfl) (by kernel_rfl) (by kernel_rfl)).trans (r29 _ _ _)
theorem s30 (n : Nat) : F (n + 1) 30 = R30 .real (F n) n := (sysF_eq (fn := Try.f30) (by kernel_rfl) (by kernel_rfl) (by kernel_rfl)).trans (r30 _ _ _)
theorem s31 (n : Nat) : F (n + 1) 31 = R31 .real (F n) n := (sysF_eq (fn := Try.f31) (by kernel_rfl) (by kernel_rfl) (by kernel_rfl)).trans (r31 _ _ _)
theorem s32 (n : Nat) : F (n + 1) 32 = R32 .real (F n) n := (sysF_eq (fn := Try.f32) (by kernel_rfl) (by kernel_rfl) (by kernel_rfl)).trans (r32 _ _ _)
theorem s33 (n : Nat) : F (n + 1) 33 = R33 .real (F n) n := (sysF_eq (fn := Try.f33) (by kernel_rfl) (by kernel_rfl) (by kernel_rfl)).trans (r33 _ _ _)
theorem s34 (n : Nat) : F (n + 1) 34 = R34 .real (F n) n := (sysF_eq (fn := Try.f34) (by kernel_rfl) (by kernel_rfl) (by kernel_rfl)).trans (r34 _ _ _)
theorem s35 (n : Nat) : F (n + 1) 35 = R35 .real (F n) n := (sysF_eq (fn := Try.f35) (by kernel_rfl) (by kernel_rfl) (by kernel_rfl)).trans (r35 _ _ _)
theorem s36 (n : Nat) : F (n + 1) 36 = R36 .real (F n) n := (sysF_eq (fn := Try.f36) (by kernel_rfl) (by kernel_rfl) (by kernel_rfl)).trans (r36 _ _ _)
theorem s111 (n : Nat) : F (n + 1) 111 = R111 .real (F n) n := (sysF_eq (fn := Try.f11) (by kernel_rfl) (by kernel_rfl) (by kernel_rfl)).trans (r111 _ _ _)
theorem s110 (n : Nat) : F (n + 1) 110 = R110 .real (F n) n := (sysF_eq (fn := Try.f10) (by kernel_rfl) (by kernel_rfl) (by kernel_rfl)).trans (r110 _ _ _)
theorem c3_eq (cal : Cal) : c3 cal = cal 3 := rfl
theorem t3 (n : Nat) : c3 (F (n + 1)) = R3 .real (F n) n := (c3_eq _).trans (s3 n)
theorem c4_eq (cal : Cal) : c4 cal = cal 4 := rfl
theorem t4 (n : Nat) : c4 (F (n + 1)) = R4 .real (F n) n := (c4_eq _).trans (s4 n)
theorem c5_eq (cal : Cal) : c5 cal = cal 5 := rfl
theorem t5 (n : Nat) : c5 (F (n + 1)) = R5 .real (F n) n := (c5_eq _).trans (s5 n)
theorem c6_eq (cal : Cal) : c6 cal = cal 6 := rfl
theorem t6 (n : Nat) : c6 (F (n + 1)) = R6 .real (F n) n := (c6_eq _).trans (s6 n)
theorem c7_eq (cal : Cal) : c7 cal = cal 7 := rfl
theorem t7 (n : Nat) : c7 (F (n + 1)) = R7 .real (F n) n := (c7_eq _).trans (s7 n)
theorem c8_eq (cal : Cal) : c8 cal = cal 8 := rfl
theorem t8 (n : Nat) : c8 (F (n + 1)) = R8 .real (F n) n := (c8_eq _).trans (s8 n)
theorem c9_eq (cal : Cal) : c9 cal = cal 9 := rfl
theorem t9 (n : Nat) : c9 (F (n + 1)) = R9 .real (F n) n := (c9_eq _).trans (s9 n)
theorem c10_eq (cal : Cal) : c10 cal = cal 10 := rfl
theorem t10 (n : Nat) : c10 (F (n + 1)) = R10 .real (F n) n := (c10_eq _).trans (s10 n)
theorem c11_eq (cal : Cal) : c11 cal = cal 11 := rfl
theorem t11 (n : Nat) : c11 (F (n + 1)) = R11 .real (F n) n := (c11_eq _).trans (s11 n)
theorem c12_eq (cal : Cal) : c12 cal = cal 12 := rfl
theorem t12 (n : Nat) : c12 (F (n + 1)) = R12 .real (F n) n := (c12_eq _).trans (s12 n)
theorem c13_eq (cal : Cal) : c13 cal = cal 13 := rfl
theorem t13 (n : Nat) : c13 (F (n + 1)) = R13 .real (F n) n := (c13_eq _).trans (s13 n)
theorem c14_eq (cal : Cal) : c14 cal = cal 14 := rfl
theorem t14 (n : Nat) : c14 (F (n + 1)) = R14 .real (F n) n := (c14_eq _).trans (s14 n)
theorem c15_eq (cal : Cal) : c15 cal = cal 15 := rfl
theorem t15 (n : Nat) : c15 (F (n + 1)) = R15 .real (F n) n := (c15_eq _).trans (s15 n)
theorem c16_eq (cal : Cal) : c16 cal = cal 16 := rfl
theorem t16 (n : Nat) : c16 (F (n + 1)) = R16 .real (F n) n := (c16_eq _).trans (s16 n)
theorem c17_eq (cal : Cal) : c17 cal = cal 17 := rfl
theorem t17 (n : Nat) : c17 (F (n + 1)) = R17 .real (F n) n := (c17_eq _).trans (s17 n)
theorem c18_eq (cal : Cal) : c18 cal = cal 18 := rfl
theorem t18 (n : Nat) : c18 (F (n + 1)) = R18 .real (F n) n := (c18_eq _).trans (s18 n)
theorem c19_eq (cal : Cal) : c19 cal = cal 19 := rfl
theorem t19 (n : Nat) : c19 (F (n + 1)) = R19 .real (F n) n := (c19_eq _).trans (s19 n)
theorem c20_eq (cal : Cal) : c20 cal = cal 20 := rfl
theorem t20 (n : Nat) : c20 (F (n + 1)) = R20 .real (F n) n := (c20_eq _).trans (s20 n)
theorem c21_eq (cal : Cal) : c21 cal = cal 21 := rfl
theorem t21 (n : Nat) : c21 (F (n + 1)) = R21 .real (F n) n := (c21_eq _).trans (s21 n)
theorem c22_eq (cal : Cal) : c22 cal = cal 22 := rfl
theorem t22 (n : Nat) : c22 (F (n + 1)) = R22 .real (F n) n := (c22_eq _).trans (s22 n)
theorem c23_eq (cal : Cal) : c23 cal = cal 23 := rfl
theorem t23 (n : Nat) : c23 (F (n + 1)) = R23 .real (F n) n := (c23_eq _).trans (s23 n)
theorem c24_eq (cal : Cal) : c24 cal = cal 24 := rfl
theorem t24 (n : Nat) : c24 (F (n + 1)) = R24 .real (F n) n := (c24_eq _).trans (s24 n)
theorem c25_eq (cal : Cal) : c25 cal = cal 25 := rfl
theorem t25 (n : Nat) : c25 (F (n + 1)) = R25 .real (F n) n := (c25_eq _).trans (s25 n)
theorem c26_eq (cal : Cal) : c26 cal = cal 26 := rfl
theorem t26 (n : Nat) : c26 (F (n + 1)) = R26 .real (F n) n := (c26_eq _).trans (s26 n)
theorem c27_eq (cal : Cal) : c27 cal = cal 27 := rfl
theorem t27 (n : Nat) : c27 (F (n + 1)) = R27 .real (F n) n := (c27_eq _).trans (s27 n)
theorem c28_eq (cal : Cal) : c28 cal = cal 28 := rfl
theorem t28 (n : Nat) : c28 (F (n + 1)) = R28 .real (F n) n := (c28_eq _).trans (s28 n)
theorem c29_eq (cal : Cal) : c29 cal = cal 29 := rfl
theorem t29 (n : Nat) : c29 (F (n + 1)) = R29 .real (F n) n := (c29_eq _).trans (s29 n)
theorem c30_eq (cal : Cal) : c30 cal = cal 30 := rfl
theorem t30 (n : Nat) : c30 (F (n + 1)) = R30 .real (F n) n := (c30_eq _).trans (s30 n)
theorem c31_eq (cal : Cal) : c31 cal = cal 31 := rfl
theorem t31 (n : Nat) : c31 (F (n + 1)) = R31 .real (F n) n := (c31_eq _).trans (s31 n)
theorem c32_eq (cal : Cal) : c32 cal = cal 32 := rfl
theorem t32 (n : Nat) : c32 (F (n + 1)) = R32 .real (F n) n := (c32_eq _).trans (s32 n)
theorem c33_eq (cal : Cal) : c33 cal = cal 33 := rfl
theorem t33 (n : Nat) : c33 (F (n + 1)) = R33 .real (F n) n := (c33_eq _).trans (s33 n)
theorem c34_eq (cal : Cal) : c34 cal = cal 34 := rfl
theorem t34 (n : Nat) : c34 (F (n + 1)) = R34 .real (F n) n := (c34_eq _).trans (s34 n)
theorem c35_eq (cal : Cal) : c35 cal = cal 35 := rfl
theorem t35 (n : Nat) : c35 (F (n + 1)) = R35 .real (F n) n := (c35_eq _).trans (s35 n)
theorem c36_eq (cal : Cal) : c36 cal = cal 36 := rfl
theorem t36 (n : Nat) : c36 (F (n + 1)) = R36 .real (F n) n := (c36_eq _).trans (s36 n)
theorem c111_eq (cal : Cal) : c111 cal = cal 111 := rfl
theorem t111 (n : Nat) : c111 (F (n + 1)) = R111 .real (F n) n := (c111_eq _).trans (s111 n)
theorem c110_eq (cal : Cal) : c110 cal = cal 110 := rfl
theorem t110 (n : Nat) : c110 (F (n + 1)) = R110 .real (F n) n := (c110_eq _).trans (s110 n)
def tab : List ((g : Nat) × Form cfg g) := [⟨3, fun cal n => R3 .real cal n⟩, ⟨4, fun cal n => R4 .real cal n⟩, ⟨5, fun cal n => R5 .real cal n⟩, ⟨6, fun cal n => R6 .real cal n⟩, ⟨7, fun cal n => R7 .real cal n⟩, ⟨8, fun cal n => R8 .real cal n⟩, ⟨9, fun cal n => R9 .real cal n⟩, ⟨10, fun cal n => R10 .real cal n⟩, ⟨11, fun cal n => R11 .real cal n⟩, ⟨12, fun cal n => R12 .real cal n⟩, ⟨13, fun cal n => R13 .real cal n⟩, ⟨14, fun cal n => R14 .real cal n⟩, ⟨15, fun cal n => R15 .real cal n⟩, ⟨16, fun cal n => R16 .real cal n⟩, ⟨17, fun cal n => R17 .real cal n⟩, ⟨18, fun cal n => R18 .real cal n⟩, ⟨19, fun cal n => R19 .real cal n⟩, ⟨20, fun cal n => R20 .real cal n⟩, ⟨21, fun cal n => R21 .real cal n⟩, ⟨22, fun cal n => R22 .real cal n⟩, ⟨23, fun cal n => R23 .real cal n⟩, ⟨24, fun cal n => R24 .real cal n⟩, ⟨25, fun cal n => R25 .real cal n⟩, ⟨26, fun cal n => R26 .real cal n⟩, ⟨27, fun cal n => R27 .real cal n⟩, ⟨28, fun cal n => R28 .real cal n⟩, ⟨29, fun cal n => R29 .real cal n⟩, ⟨30, fun cal n => R30 .real cal n⟩, ⟨31, fun cal n => R31 .real cal n⟩, ⟨32, fun cal n => R32 .real cal n⟩, ⟨33, fun cal n => R33 .real cal n⟩, ⟨34, fun cal n => R34 .real cal n⟩, ⟨35, fun cal n => R35 .real cal n⟩, ⟨36, fun cal n => R36 .real cal n⟩, ⟨111, fun cal n => R111 .real cal n⟩, ⟨110, fun cal n => R110 .real cal n⟩]
theorem tab_ok : ∀ p ∈ tab, ∀ n, sysF Try.prog cfg ext (n + 1) p.1 = p.2 (sysF Try.prog cfg ext n) n := by
  intro p hp n
  simp only [tab, List.mem_cons, List.not_mem_nil, or_false] at hp
  rcases hp with rfl | rfl | rfl | rfl | rfl | rfl | rfl | rfl | rfl | rfl | rfl | rfl | rfl | rfl | rfl | rfl | rfl | rfl | rfl | rfl | rfl | rfl | rfl | rfl | rfl | rfl | rfl | rfl | rfl | rfl | rfl | rfl | rfl | rfl | rfl | rfl
  · exact s3 n
  · exact s4 n
  · exact s5 n
  · exact s6 n
  · exact s7 n
  · exact s8 n
  · exact s9 n
  · exact s10 n
  · exact s11 n
  · exact s12 n
  · exact s13 n
  · exact s14 n
  · exact s15 n
  · exact s16 n
  · exact s17 n
  · exact s18 n
  · exact s19 n
  · exact s20 n
  · exact s21 n
  · exact s22 n
  · exact s23 n
  · exact s24 n
  · exact s25 n
  · exact s26 n
  · exact s27 n
  · exact s28 n
  · exact s29 n
  · exact s30 n
  · exact s31 n
  · exact s32 n
  · exact s33 n
  · exact s34 n
  · exact s35 n
  · exact s36 n
  · exact s111 n
  · exact s110 n
noncomputable abbrev T (n : Nat) : Cal := tabF Try.prog cfg ext tab n
theorem T_eq (n : Nat) : T n = F n := tabF_eq tab_ok n
theorem ext_ok {T : List (Nat × List Value)} (g : Nat) (F : FnT cfg g) (h : ext g = some F) : FnOk Try.prog T cfg g F := by cases h
theorem F_ok {T : List (Nat × List Value)} (n g : Nat) : FnOk Try.prog T cfg g (F n g) := sys_ok (.of cfg_chk) mixed ext_ok n g
end Go.Sym.T6
