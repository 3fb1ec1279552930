/- The functions of this seat together. -/
import Derived.Test.YtbhnbgelkemhiaaSymE
import Derived.Test.YtbhnbgelkemhiaaRes
import Derived.Test.YtbhnbgelkemhiaaShelf
import Derived.KernelRfl
import Derived.Test.YtbhnbgelkemhiaaCfg
import Derived.Test.YtbhnbgelkemhiaaProg
set_option linter.unusedVariables false
namespace Go.Sym.T22
open Go.Proofs
set_option maxRecDepth 100000
def fClone : FnT cfg 31 := fun (xs : List Int) => if xs.length * 8 ≤ 140737488355328 then some xs else none
def fSearch : FnT cfg 33 := fun (xs : List Int) (x : Int) => if xs.length < 4611686018427387904 ∧ xs.Pairwise (· ≤ ·) then some (((xs.countP (· < x) : Nat) : Int), xs.contains x) else none
def fSort : FnT cfg 39 := fun (xs : List Int) => if xs.length < 4611686018427387904 then some (isort xs) else none
def fCompact : FnT cfg 40 := fun (xs : List Int) => if xs.length < 4611686018427387904 then some (Lib.compact xs) else none
def ext (g : Nat) : Option (FnT cfg g) := pick g [⟨31, fClone⟩, ⟨33, fSearch⟩, ⟨39, fSort⟩, ⟨40, fCompact⟩]
theorem c31_eq (cal : Cal) : c31 cal = cal 31 := rfl
theorem c33_eq (cal : Cal) : c33 cal = cal 33 := rfl
theorem c39_eq (cal : Cal) : c39 cal = cal 39 := rfl
theorem c40_eq (cal : Cal) : c40 cal = cal 40 := rfl
noncomputable abbrev F (n : Nat) : Cal := sysF Try.prog cfg ext n
theorem s3 (n : Nat) : F (n + 1) 3 = R3 .real (F n) n := (sysF_eq (fn := Try.f3) (by kernel_rfl) (by kernel_rfl) (by kernel_rfl)).trans (r3 _ _ _)
theorem s4 (n : Nat) : F (n + 1) 4 = R4 .real (F n) n := (sysF_eq (fn := Try.f4) (by kernel_rfl) (by kernel_rfl) (by kernel_rfl)).trans (r4 _ _ _)
theorem s5 (n : Nat) : F (n + 1) 5 = R5 .real (F n) n := (sysF_eq (fn := Try.f5) (by kernel_rfl) (by kernel_rfl) (by kernel_rfl)).trans (r5 _ _ _)
theorem s6 (n : Nat) : F (n + 1) 6 = R6 .real (F n) n := (sysF_eq (fn := Try.f6) (by kernel_rfl) (by kernel_rfl) (by kernel_rfl)).trans (r6 _ _ _)
theorem s7 (n : Nat) : F (n + 1) 7 = R7 .real (F n) n := (sysF_eq (fn := Try.f7) (by kernel_rfl) (by kernel_rfl) (by kernel_rfl)).trans (r7 _ _ _)
theorem s8 (n : Nat) : F (n + 1) 8 = R8 .real (F n) n := (sysF_eq (fn := Try.f8) (by kernel_rfl) (by kernel_rfl) (by kernel_rfl)).trans (r8 _ _ _)
theorem s9 (n : Nat) : F (n + 1) 9 = R9 .real (F n) n := (sysF_eq (fn := Try.f9) (by kernel_rfl) (by kernel_rfl) (by kernel_rfl)).trans (r9 _ _ _)
theorem s10 (n : Nat) : F (n + 1) 10 = R10 .real (F n) n := (sysF_eq (fn := Try.f10) (by kernel_rfl) (by kernel_rfl) (by kernel_rfl)).trans (r10 _ _ _)
theorem s11 (n : Nat) : F (n + 1) 11 = R11 .real (F n) n := (sysF_eq (fn := Try.f11) (by kernel_rfl) (by kernel_rfl) (by kernel_rfl)).trans (r11 _ _ _)
theorem s12 (n : Nat) : F (n + 1) 12 = R12 .real (F n) n := (sysF_eq (fn := Try.f12) (by kernel_rfl) (by kernel_rfl) (by kernel_rfl)).trans (r12 _ _ _)
theorem s13 (n : Nat) : F (n + 1) 13 = R13 .real (F n) n := (sysF_eq (fn := Try.f13) (by kernel_rfl) (by kernel_rfl) (by kernel_rfl)).trans (r13 _ _ _)
theorem s14 (n : Nat) : F (n + 1) 14 = R14 .real (F n) n := (sysF_eq (fn := Try.f14) (by kernel_rfl) (by kernel_rfl) (by kernel_rfl)).trans (r14 _ _ _)
theorem s15 (n : Nat) : F (n + 1) 15 = R15 .real (F n) n := (sysF_eq (fn := Try.f15) (by kernel_rfl) (by kernel_rfl) (by kernel_rfl)).trans (r15 _ _ _)
theorem s16 (n : Nat) : F (n + 1) 16 = R16 .real (F n) n := (sysF_eq (fn := Try.f16) (by kernel_rfl) (by kernel_rfl) (by kernel_rfl)).trans (r16 _ _ _)
theorem s17 (n : Nat) : F (n + 1) 17 = R17 .real (F n) n := (sysF_eq (fn := Try.f17) (by kernel_rfl) (by kernel_rfl) (by kernel_rfl)).trans (r17 _ _ _)
theorem s18 (n : Nat) : F (n + 1) 18 = R18 .real (F n) n := (sysF_eq (fn := Try.f18) (by kernel_rfl) (by kernel_rfl) (by kernel_rfl)).trans (r18 _ _ _)
theorem s19 (n : Nat) : F (n + 1) 19 = R19 .real (F n) n := (sysF_eq (fn := Try.f19) (by kernel_rfl) (by kernel_rfl) (by kernel_rfl)).trans (r19 _ _ _)
theorem s20 (n : Nat) : F (n + 1) 20 = R20 .real (F n) n := (sysF_eq (fn := Try.f20) (by kernel_rfl) (by kernel_rfl) (by kernel_rfl)).trans (r20 _ _ _)
theorem s21 (n : Nat) : F (n + 1) 21 = R21 .real (F n) n := (sysF_eq (fn := Try.f21) (by kernel_rfl) (by kernel_rfl) (by kernel_rfl)).trans (r21 _ _ _)
theorem s22 (n : Nat) : F (n + 1) 22 = R22 .real (F n) n := (sysF_eq (fn := Try.f22) (by kernel_rfl) (by kernel_rfl) (by kernel_rfl)).trans (r22 _ _ _)
theorem s23 (n : Nat) : F (n + 1) 23 = R23 .real (F n) n := (sysF_eq (fn := Try.f23) (by kernel_rfl) (by kernel_rfl) (by kernel_rfl)).trans (r23 _ _ _)
theorem s24 (n : Nat) : F (n + 1) 24 = R24 .real (F n) n := (sysF_eq (fn := Try.f24) (by kernel_rfl) (by kernel_rfl) (by kernel_rfl)).trans (r24 _ _ _)
theorem s25 (n : Nat) : F (n + 1) 25 = R25 .real (F n) n := (sysF_eq (fn := Try.f25) (by kernel_rfl) (by kernel_rfl) (by kernel_rfl)).trans (r25 _ _ _)
theorem s26 (n : Nat) : F (n + 1) 26 = R26 .real (F n) n := (sysF_eq (fn := Try.f26) (by kernel_rfl) (by kernel_rfl) (by kernel_rfl)).trans (r26 _ _ _)
theorem s27 (n : Nat) : F (n + 1) 27 = R27 .real (F n) n := (sysF_eq (fn := Try.f27) (by kernel_rfl) (by kernel_rfl) (by kernel_rfl)).trans (r27 _ _ _)
theorem s28 (n : Nat) : F (n + 1) 28 = R28 .real (F n) n := (sysF_eq (fn := Try.f28) (by kernel_rfl) (by kernel_rfl) (by kernel_rfl)).trans (r28 _ _ _)
theorem s29 (n : Nat) : F (n + 1) 29 = R29 .real (F n) n := (sysF_eq (fn := Try.f29) (by kernel_rfl) (by kernel_rfl) (by kernel_rfl)).trans (r29 _ _ _)
theorem s30 (n : Nat) : F (n + 1) 30 = R30 .real (F n) n := (sysF_eq (fn := Try.f30) (by kernel_rfl) (by kernel_rfl) (by kernel_rfl)).trans (r30 _ _ _)
theorem s32 (n : Nat) : F (n + 1) 32 = R32 .real (F n) n := (sysF_eq (fn := Try.f32) (by kernel_rfl) (by kernel_rfl) (by kernel_rfl)).trans (r32 _ _ _)
theorem s34 (n : Nat) : F (n + 1) 34 = R34 .real (F n) n := (sysF_eq (fn := Try.f34) (by kernel_rfl) (by kernel_rfl) (by kernel_rfl)).trans (r34 _ _ _)
theorem s35 (n : Nat) : F (n + 1) 35 = R35 .real (F n) n := (sysF_eq (fn := Try.f35) (by kernel_rfl) (by kernel_rfl) (by kernel_rfl)).trans (r35 _ _ _)
theorem s37 (n : Nat) : F (n + 1) 37 = R37 .real (F n) n := (sysF_eq (fn := Try.f37) (by kernel_rfl) (by kernel_rfl) (by kernel_rfl)).trans (r37 _ _ _)
theorem s38 (n : Nat) : F (n + 1) 38 = R38 .real (F n) n := (sysF_eq (fn := Try.f38) (by kernel_rfl) (by kernel_rfl) (by kernel_rfl)).trans (r38 _ _ _)
theorem s41 (n : Nat) : F (n + 1) 41 = R41 .real (F n) n := (sysF_eq (fn := Try.f41) (by kernel_rfl) (by kernel_rfl) (by kernel_rfl)).trans (r41 _ _ _)
theorem s42 (n : Nat) : F (n + 1) 42 = R42 .real (F n) n := (sysF_eq (fn := Try.f42) (by kernel_rfl) (by kernel_rfl) (by kernel_rfl)).trans (r42 _ _ _)
theorem s43 (n : Nat) : F (n + 1) 43 = R43 .real (F n) n := (sysF_eq (fn := Try.f43) (by kernel_rfl) (by kernel_rfl) (by kernel_rfl)).trans (r43 _ _ _)
theorem s44 (n : Nat) : F (n + 1) 44 = R44 .real (F n) n := (sysF_eq (fn := Try.f44) (by kernel_rfl) (by kernel_rfl) (by kernel_rfl)).trans (r44 _ _ _)
theorem s47 (n : Nat) : F (n + 1) 47 = R47 .real (F n) n := (sysF_eq (fn := Try.f47) (by kernel_rfl) (by kernel_rfl) (by kernel_rfl)).trans (r47 _ _ _)
theorem s48 (n : Nat) : F (n + 1) 48 = R48 .real (F n) n := (sysF_eq (fn := Try.f48) (by kernel_rfl) (by kernel_rfl) (by kernel_rfl)).trans (r48 _ _ _)
theorem s52 (n : Nat) : F (n + 1) 52 = R52 .real (F n) n := (sysF_eq (fn := Try.f52) (by kernel_rfl) (by kernel_rfl) (by kernel_rfl)).trans (r52 _ _ _)
theorem s53 (n : Nat) : F (n + 1) 53 = R53 .real (F n) n := (sysF_eq (fn := Try.f53) (by kernel_rfl) (by kernel_rfl) (by kernel_rfl)).trans (r53 _ _ _)
theorem s54 (n : Nat) : F (n + 1) 54 = R54 .real (F n) n := (sysF_eq (fn := Try.f54) (by kernel_rfl) (by kernel_rfl) (by kernel_rfl)).trans (r54 _ _ _)
theorem s56 (n : Nat) : F (n + 1) 56 = R56 .real (F n) n := (sysF_eq (fn := Try.f56) (by kernel_rfl) (by kernel_rfl) (by kernel_rfl)).trans (r56 _ _ _)
theorem s67 (n : Nat) : F (n + 1) 67 = R67 .real (F n) n := (sysF_eq (fn := Try.f67) (by kernel_rfl) (by kernel_rfl) (by kernel_rfl)).trans (r67 _ _ _)
theorem s136 (n : Nat) : F (n + 1) 136 = R136 .real (F n) n := (sysF_eq (fn := Try.f36) (by kernel_rfl) (by kernel_rfl) (by kernel_rfl)).trans (r136 _ _ _)
theorem s236 (n : Nat) : F (n + 1) 236 = R236 .real (F n) n := (sysF_eq (fn := Try.f36) (by kernel_rfl) (by kernel_rfl) (by kernel_rfl)).trans (r236 _ _ _)
theorem s149 (n : Nat) : F (n + 1) 149 = R149 .real (F n) n := (sysF_eq (fn := Try.f49) (by kernel_rfl) (by kernel_rfl) (by kernel_rfl)).trans (r149 _ _ _)
theorem s249 (n : Nat) : F (n + 1) 249 = R249 .real (F n) n := (sysF_eq (fn := Try.f49) (by kernel_rfl) (by kernel_rfl) (by kernel_rfl)).trans (r249 _ _ _)
theorem c3_eq (cal : Cal) : c3 cal = cal 3 := rfl
theorem t3 (n : Nat) : c3 (F (n + 1)) = R3 .real (F n) n := (c3_eq _).trans (s3 n)
theorem c4_eq (cal : Cal) : c4 cal = cal 4 := rfl
theorem t4 (n : Nat) : c4 (F (n + 1)) = R4 .real (F n) n := (c4_eq _).trans (s4 n)
theorem c5_eq (cal : Cal) : c5 cal = cal 5 := rfl
theorem t5 (n : Nat) : c5 (F (n + 1)) = R5 .real (F n) n := (c5_eq _).trans (s5 n)
theorem c6_eq (cal : Cal) : c6 cal = cal 6 := rfl
theorem t6 (n : Nat) : c6 (F (n + 1)) = R6 .real (F n) n := (c6_eq _).trans (s6 n)
theorem c7_eq (cal : Cal) : c7 cal = cal 7 := rfl
theorem t7 (n : Nat) : c7 (F (n + 1)) = R7 .real (F n) n := (c7_eq _).trans (s7 n)
theorem c8_eq (cal : Cal) : c8 cal = cal 8 := rfl
theorem t8 (n : Nat) : c8 (F (n + 1)) = R8 .real (F n) n := (c8_eq _).trans (s8 n)
theorem c9_eq (cal : Cal) : c9 cal = cal 9 := rfl
theorem t9 (n : Nat) : c9 (F (n + 1)) = R9 .real (F n) n := (c9_eq _).trans (s9 n)
theorem c10_eq (cal : Cal) : c10 cal = cal 10 := rfl
theorem t10 (n : Nat) : c10 (F (n + 1)) = R10 .real (F n) n := (c10_eq _).trans (s10 n)
theorem c11_eq (cal : Cal) : c11 cal = cal 11 := rfl
theorem t11 (n : Nat) : c11 (F (n + 1)) = R11 .real (F n) n := (c11_eq _).trans (s11 n)
theorem c12_eq (cal : Cal) : c12 cal = cal 12 := rfl
theorem t12 (n : Nat) : c12 (F (n + 1)) = R12 .real (F n) n := (c12_eq _).trans (s12 n)
theorem c13_eq (cal : Cal) : c13 cal = cal 13 := rfl
theorem t13 (n : Nat) : c13 (F (n + 1)) = R13 .real (F n) n := (c13_eq _).trans (s13 n)
theorem c14_eq (cal : Cal) : c14 cal = cal 14 := rfl
theorem t14 (n : Nat) : c14 (F (n + 1)) = R14 .real (F n) n := (c14_eq _).trans (s14 n)
theorem c15_eq (cal : Cal) : c15 cal = cal 15 := rfl
theorem t15 (n : Nat) : c15 (F (n + 1)) = R15 .real (F n) n := (c15_eq _).trans (s15 n)
theorem c16_eq (cal : Cal) : c16 cal = cal 16 := rfl
theorem t16 (n : Nat) : c16 (F (n + 1)) = R16 .real (F n) n := (c16_eq _).trans (s16 n)
theorem c17_eq (cal : Cal) : c17 cal = cal 17 := rfl
theorem t17 (n : Nat) : c17 (F (n + 1)) = R17 .real (F n) n := (c17_eq _).trans (s17 n)
theorem c18_eq (cal : Cal) : c18 cal = cal 18 := rfl
theorem t18 (n : Nat) : c18 (F (n + 1)) = R18 .real (F n) n := (c18_eq _).trans (s18 n)
theorem c19_eq (cal : Cal) : c19 cal = cal 19 := rfl
theorem t19 (n : Nat) : c19 (F (n + 1)) = R19 .real (F n) n := (c19_eq _).trans (s19 n)
theorem c20_eq (cal : Cal) : c20 cal = cal 20 := rfl
theorem t20 (n : Nat) : c20 (F (n + 1)) = R20 .real (F n) n := (c20_eq _).trans (s20 n)
theorem c21_eq (cal : Cal) : c21 cal = cal 21 := rfl
theorem t21 (n : Nat) : c21 (F (n + 1)) = R21 .real (F n) n := (c21_eq _).trans (s21 n)
theorem c22_eq (cal : Cal) : c22 cal = cal 22 := rfl
theorem t22 (n : Nat) : c22 (F (n + 1)) = R22 .real (F n) n := (c22_eq _).trans (s22 n)
theorem c23_eq (cal : Cal) : c23 cal = cal 23 := rfl
theorem t23 (n : Nat) : c23 (F (n + 1)) = R23 .real (F n) n := (c23_eq _).trans (s23 n)
theorem c24_eq (cal : Cal) : c24 cal = cal 24 := rfl
theorem t24 (n : Nat) : c24 (F (n + 1)) = R24 .real (F n) n := (c24_eq _).trans (s24 n)
theorem c25_eq (cal : Cal) : c25 cal = cal 25 := rfl
theorem t25 (n : Nat) : c25 (F (n + 1)) = R25 .real (F n) n := (c25_eq _).trans (s25 n)
theorem c26_eq (cal : Cal) : c26 cal = cal 26 := rfl
theorem t26 (n : Nat) : c26 (F (n + 1)) = R26 .real (F n) n := (c26_eq _).trans (s26 n)
theorem c27_eq (cal : Cal) : c27 cal = cal 27 := rfl
theorem t27 (n : Nat) : c27 (F (n + 1)) = R27 .real (F n) n := (c27_eq _).trans (s27 n)
theorem c28_eq (cal : Cal) : c28 cal = cal 28 := rfl
theorem t28 (n : Nat) : c28 (F (n + 1)) = R28 .real (F n) n := (c28_eq _).trans (s28 n)
theorem c29_eq (cal : Cal) : c29 cal = cal 29 := rfl
theorem t29 (n : Nat) : c29 (F (n + 1)) = R29 .real (F n) n := (c29_eq _).trans (s29 n)
theorem c30_eq (cal : Cal) : c30 cal = cal 30 := rfl
theorem t30 (n : Nat) : c30 (F (n + 1)) = R30 .real (F n) n := (c30_eq _).trans (s30 n)
theorem c32_eq (cal : Cal) : c32 cal = cal 32 := rfl
theorem t32 (n : Nat) : c32 (F (n + 1)) = R32 .real (F n) n := (c32_eq _).trans (s32 n)
theorem c34_eq (cal : Cal) : c34 cal = cal 34 := rfl
theorem t34 (n : Nat) : c34 (F (n + 1)) = R34 .real (F n) n := (c34_eq _).trans (s34 n)
theorem c35_eq (cal : Cal) : c35 cal = cal 35 := rfl
theorem t35 (n : Nat) : c35 (F (n + 1)) = R35 .real (F n) n := (c35_eq _).trans (s35 n)
theorem c37_eq (cal : Cal) : c37 cal = cal 37 := rfl
theorem t37 (n : Nat) : c37 (F (n + 1)) = R37 .real (F n) n := (c37_eq _).trans (s37 n)
theorem c38_eq (cal : Cal) : c38 cal = cal 38 := rfl
theorem t38 (n : Nat) : c38 (F (n + 1)) = R38 .real (F n) n := (c38_eq _).trans (s38 n)
theorem c41_eq (cal : Cal) : c41 cal = cal 41 := rfl
theorem t41 (n : Nat) : c41 (F (n + 1)) = R41 .real (F n) n := (c41_eq _).trans (s41 n)
theorem c42_eq (cal : Cal) : c42 cal = cal 42 := rfl
theorem t42 (n : Nat) : c42 (F (n + 1)) = R42 .real (F n) n := (c42_eq _).trans (s42 n)
theorem c43_eq (cal : Cal) : c43 cal = cal 43 := rfl
theorem t43 (n : Nat) : c43 (F (n + 1)) = R43 .real (F n) n := (c43_eq _).trans (s43 n)
theorem c44_eq (cal : Cal) : c44 cal = cal 44 := rfl
theorem t44 (n : Nat) : c44 (F (n + 1)) = R44 .real (F n) n := (c44_eq _).trans (s44 n)
theorem c47_eq (cal : Cal) : c47 cal = cal 47 := rfl
theorem t47 (n : Nat) : c47 (F (n + 1)) = R47 .real (F n) n := (c47_eq _).trans (s47 n)
theorem c48_eq (cal : Cal) : c48 cal = cal 48 := rfl
theorem t48 (n : Nat) : c48 (F (n + 1)) = R48 .real (F n) n := (c48_eq _).trans (s48 n)
theorem c52_eq (cal : Cal) : c52 cal = cal 52 := rfl
theorem t52 (n : Nat) : c52 (F (n + 1)) = R52 .real (F n) n := (c52_eq _).trans (s52 n)
theorem c53_eq (cal : Cal) : c53 cal = cal 53 := rfl
theorem t53 (n : Nat) : c53 (F (n + 1)) = R53 .real (F n) n := (c53_eq _).trans (s53 n)
theorem c54_eq (cal : Cal) : c54 cal = cal 54 := rfl
theorem t54 (n : Nat) : c54 (F (n + 1)) = R54 .real (F n) n := (c54_eq _).trans (s54 n)
theorem c56_eq (cal : Cal) : c56 cal = cal 56 := rfl
theorem t56 (n : Nat) : c56 (F (n + 1)) = R56 .real (F n) n := (c56_eq _).trans (s56 n)
theorem c67_eq (cal : Cal) : c67 cal = cal 67 := rfl
theorem t67 (n : Nat) : c67 (F (n + 1)) = R67 .real (F n) n := (c67_eq _).trans (s67 n)
theorem c136_eq (cal : Cal) : c136 cal = cal 136 := rfl
theorem t136 (n : Nat) : c136 (F (n + 1)) = R136 .real (F n) n := (c136_eq _).trans (s136 n)
theorem c236_eq (cal : Cal) : c236 cal = cal 236 := rfl
theorem t236 (n : Nat) : c236 (F (n + 1)) = R236 .real (F n) n := (c236_eq _).trans (s236 n)
theorem c149_eq (cal : Cal) : c149 cal = cal 149 := rfl
theorem t149 (n : Nat) : c149 (F (n + 1)) = R149 .real (F n) n := (c149_eq _).trans (s149 n)
theorem c249_eq (cal : Cal) : c249 cal = cal 249 := rfl
theorem t249 (n : Nat) : c249 (F (n + 1)) = R249 .real (F n) n := (c249_eq _).trans (s249 n)
def tab : List ((g : Nat) × Form cfg g) := [⟨3, fun cal n => R3 .real cal n⟩, ⟨4, fun cal n => R4 .real cal n⟩, ⟨5, fun cal n => R5 .real cal n⟩, ⟨6, fun cal n => R6 .real cal n⟩, ⟨7, fun cal n => R7 .real cal n⟩, ⟨8, fun cal n => R8 .real cal n⟩, ⟨9, fun cal n => R9 .real cal n⟩, ⟨10, fun cal n => R10 .real cal n⟩, ⟨11, fun cal n => R11 .real cal n⟩, ⟨12, fun cal n => R12 .real cal n⟩, ⟨13, fun cal n => R13 .real cal n⟩, ⟨14, fun cal n => R14 .real cal n⟩, ⟨15, fun cal n => R15 .real cal n⟩, ⟨16, fun cal n => R16 .real cal n⟩, ⟨17, fun cal n => R17 .real cal n⟩, ⟨18, fun cal n => R18 .real cal n⟩, ⟨19, fun cal n => R19 .real cal n⟩, ⟨20, fun cal n => R20 .real cal n⟩, ⟨21, fun cal n => R21 .real cal n⟩, ⟨22, fun cal n => R22 .real cal n⟩, ⟨23, fun cal n => R23 .real cal n⟩, ⟨24, fun cal n => R24 .real cal n⟩, ⟨25, fun cal n => R25 .real cal n⟩, ⟨26, fun cal n => R26 .real cal n⟩, ⟨27, fun cal n => R27 .real cal n⟩, ⟨28, fun cal n => R28 .real cal n⟩, ⟨29, fun cal n => R29 .real cal n⟩, ⟨30, fun cal n => R30 .real cal n⟩, ⟨32, fun cal n => R32 .real cal n⟩, ⟨34, fun cal n => R34 .real cal n⟩, ⟨35, fun cal n => R35 .real cal n⟩, ⟨37, fun cal n => R37 .real cal n⟩, ⟨38, fun cal n => R38 .real cal n⟩, ⟨41, fun cal n => R41 .real cal n⟩, ⟨42, fun cal n => R42 .real cal n⟩, ⟨43, fun cal n => R43 .real cal n⟩, ⟨44, fun cal n => R44 .real cal n⟩, ⟨47, fun cal n => R47 .real cal n⟩, ⟨48, fun cal n => R48 .real cal n⟩, ⟨52, fun cal n => R52 .real cal n⟩, ⟨53, fun cal n => R53 .real cal n⟩, ⟨54, fun cal n => R54 .real cal n⟩, ⟨56, fun cal n => R56 .real cal n⟩, ⟨67, fun cal n => R67 .real cal n⟩, ⟨136, fun cal n => R136 .real cal n⟩, ⟨236, fun cal n => R236 .real cal n⟩, ⟨149, fun cal n => R149 .real cal n⟩, ⟨249, fun cal n => R249 .real cal n⟩]
theorem tab_ok : ∀ p ∈ tab, ∀ n, sysF Try.prog cfg ext (n + 1) p.1 = p.2 (sysF Try.prog cfg ext n) n := by
  intro p hp n
  simp only [tab, List.mem_cons, List.not_mem_nil, or_false] at hp
  rcases hp with rfl | rfl | rfl | rfl | rfl | rfl | rfl | rfl | rfl | rfl | rfl | rfl | rfl | rfl | rfl | rfl | rfl | rfl | rfl | rfl | rfl | rfl | rfl | rfl | rfl | rfl | rfl | rfl | rfl | rfl | rfl | rfl | rfl | rfl | rfl | rfl | rfl | rfl | rfl | rfl | rfl | rfl | rfl | rfl | rfl | rfl | rfl | rfl
  · exact s3 n
  · exact s4 n
  · exact s5 n
  · exact s6 n
  · exact s7 n
  · exact s8 n
  · exact s9 n
  · exact s10 n
  · exact s11 n
  · exact s12 n
  · exact s13 n
  · exact s14 n
  · exact s15 n
  · exact s16 n
  · exact s17 n
  · exact s18 n
  · exact s19 n
  · exact s20 n
  · exact s21 n
  · exact s22 n
  · exact s23 n
  · exact s24 n
  · exact s25 n
  · exact s26 n
  · exact s27 n
  · exact s28 n
  · exact s29 n
  · exact s30 n
  · exact s32 n
  · exact s34 n
  · exact s35 n
  · exact s37 n
  · exact s38 n
  · exact s41 n
  · exact s42 n
  · exact s43 n
  · exact s44 n
  · exact s47 n
  · exact s48 n
  · exact s52 n
  · exact s53 n
  · exact s54 n
  · exact s56 n
  · exact s67 n
  · exact s136 n
  · exact s236 n
  · exact s149 n
  · exact s249 n
noncomputable abbrev T (n : Nat) : Cal := tabF Try.prog cfg ext tab n
theorem c31_F (n : Nat) : c31 (F (n + 1)) = fClone := (c31_eq _).trans (sysF_ext rfl)
theorem c33_F (n : Nat) : c33 (F (n + 1)) = fSearch := (c33_eq _).trans (sysF_ext rfl)
theorem c39_F (n : Nat) : c39 (F (n + 1)) = fSort := (c39_eq _).trans (sysF_ext rfl)
theorem c40_F (n : Nat) : c40 (F (n + 1)) = fCompact := (c40_eq _).trans (sysF_ext rfl)
theorem T_eq (n : Nat) : T n = F n := tabF_eq tab_ok n
end Go.Sym.T22

namespace Go.Sym.T22
open Go.Proofs
theorem cfg_chk : cfg.chk Try.prog = true := by kernel_rfl
theorem mixed : Try.prog.follows .mixedOrders = true := by kernel_rfl
end Go.Sym.T22

namespace Go.Sym.T22
open Go.Proofs
set_option maxRecDepth 100000
theorem enters31 : Enters Try.prog 31 := enters_of (fn := Try.f31) (by kernel_rfl) (by kernel_rfl) (by kernel_rfl)
theorem enters33 : Enters Try.prog 33 := enters_of (fn := Try.f33) (by kernel_rfl) (by kernel_rfl) (by kernel_rfl)
theorem enters39 : Enters Try.prog 39 := enters_of (fn := Try.f39) (by kernel_rfl) (by kernel_rfl) (by kernel_rfl)
theorem enters40 : Enters Try.prog 40 := enters_of (fn := Try.f40) (by kernel_rfl) (by kernel_rfl) (by kernel_rfl)
theorem fSort_ok : FnOk Try.prog cfg 39 fSort := by
  refine ext_sort isort rfl rfl rfl (fun ds y h => ?_) (fun xs => (isort_perm xs).length_eq) enters39 (fun b off cap xs w h1 h2 h3 => ?_) (fun w => Try.slices_Sort_int_none none 0 w)
  · obtain ⟨xs, rfl, hx⟩ := appl1 (t := .slice IT) (R := List Int) h
    obtain ⟨hl, hy⟩ := ite_some (α := List Int) hx
    subst hy
    exact ⟨xs, rfl, hl, rfl⟩
  · refine Calls.mono (Try.slices_Sort_int b off cap xs w h1 h2 h3) fun e w' he => ?_
    rw [isort_eq] at he
    exact he
theorem fCompact_ok : FnOk Try.prog cfg 40 fCompact := by
  refine ext_compact rfl rfl rfl (fun ds y h => ?_) enters40 (fun b off cap xs w h1 h2 h3 => Try.slices_Compact_int b off cap xs w h1 h2 h3) (fun a cap w => Try.slices_Compact_int_empty a cap w)
  obtain ⟨xs, rfl, hx⟩ := appl1 (t := .slice IT) (R := List Int) h
  obtain ⟨hl, hy⟩ := ite_some (α := List Int) hx
  subst hy
  exact ⟨xs, rfl, hl, rfl⟩
theorem fSearch_ok : FnOk Try.prog cfg 33 fSearch := by
  refine ext_search rfl rfl rfl (fun ds y h => ?_) enters33 (fun b off n cap xs x w h1 h2 h3 h4 => Try.slices_BinarySearch_int b off n cap xs x w h1 h2 h3 h4) (fun a cap x w => Try.slices_BinarySearch_int_empty a cap x w)
  obtain ⟨xs, x, rfl, hx⟩ := appl2 (t := .slice IT) (u := IT) (R := Int × Bool) h
  obtain ⟨hl, hy⟩ := ite_some (α := Int × Bool) hx
  subst hy
  exact ⟨xs, x, rfl, hl.1, hl.2, rfl⟩
theorem fClone_ok : FnOk Try.prog cfg 31 fClone := by
  refine ext_clone (et := 3) rfl rfl rfl (fun ds y h => ?_) enters31 (fun b off n cap xs w h1 h2 h3 => Try.slices_Clone_int b off n cap xs w h1 h2 h3) (fun a cap w => ?_)
  · obtain ⟨xs, rfl, hx⟩ := appl1 (t := .slice IT) (R := List Int) h
    obtain ⟨hl, hy⟩ := ite_some (α := List Int) hx
    subst hy
    exact ⟨xs, rfl, hl, rfl⟩
  · cases a with
    | none =>
      refine Calls.mono (Try.slices_Clone_int_nil 0 cap w) fun e w' he => ?_
      obtain ⟨rfl, rfl⟩ := he
      exact ⟨none, 0, rfl, Fr.refl _ _⟩
    | some a =>
      refine Calls.mono (Try.slices_Clone_int_zero a cap w) fun e w' he => ?_
      obtain ⟨v', rfl, h1, h2, h3⟩ := he
      obtain ⟨A, c, rfl⟩ := clone_zero h1
      exact ⟨A, c, rfl, h3.os, h3.tape, h3.output, h3.size, fun k hk _ => h3.block k hk⟩
theorem ext_ok (g : Nat) (F : FnT cfg g) (h : ext g = some F) : FnOk Try.prog cfg g F := by
  have := pick_mem h
  simp only [List.mem_cons, List.not_mem_nil, or_false] at this
  rcases this with h | h | h | h <;> cases h
  · exact fClone_ok
  · exact fSearch_ok
  · exact fSort_ok
  · exact fCompact_ok
theorem F_ok (n g : Nat) : FnOk Try.prog cfg g (F n g) := sys_ok (.of cfg_chk) mixed ext_ok n g
end Go.Sym.T22
