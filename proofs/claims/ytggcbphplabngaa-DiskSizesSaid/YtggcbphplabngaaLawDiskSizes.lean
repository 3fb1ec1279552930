/- Which sizes are allowed, and that a new disk is empty and online. No conditions. -/
import Derived.Test.YtggcbphplabngaaSpSz
import Derived.Test.YtggcbphplabngaaRows
import Derived.WalkKit
import Derived.ProofKit
import Derived.OpenShut
import Derived.Below
import Derived.SizedLaws
set_option linter.unusedVariables false
namespace Go.Proofs.Ytggcbphplabngaa.diskSizes
open Go.ChangeShapes Go.WideShapes Go.ChangeAt Go.RowKit
open Go.Sym
set_option linter.unusedVariables false
set_option maxRecDepth 100000
theorem own : ownKnob Try.prog.godebug = none := by kernel_rfl
theorem laidOut : laidOutB Try.prog = true := by kernel_rfl
theorem over_data (xs : List DV) (hxt : xs.map DV.t = [.int .i64]) : ∃ (n : Nat) (y : (T6.cfg.sig 6).res.den), appl (T6.cfg.sig 6).ins (T6.F n 6) xs = some y ∧ untup (T6.cfg.sig 6).rs.tys y = [⟨.bool, true⟩] := by
  match xs, hxt with
  | [⟨.int .i64, a0⟩], _ =>
    obtain ⟨N, h⟩ := T6.sizes_ans a0
    have h : T6.c6 (T6.F N) a0 = some true := h N (Nat.le_refl _)
    rw [T6.c6_eq] at h
    exact ⟨N, true, T6.appl_one (t1 := .int .i64) h, rfl⟩
theorem lifted (os : Os) (started : os.Started) (H : Type) (enc : TypeId × Value → H) :
    ReturnsInHanded {} Try.checked os 6 .any (Rows.diskSizesSpec.pre6 enc Try.prog Try.f6 Rows.diskSizesRow.domain false) (Rows.diskSizesSpec.post enc Try.prog Try.f6 false true false false) := by
  refine returnsInHanded_of_change_sized (C := Try.checked) own started (by kernel_rfl) Try.func6
    (ChangeSpec.witness6 (enc := enc) (C := Try.checked) false ⟨#[], #[.int .i64 0], []⟩ 8 (by kernel_rfl) (by kernel_rfl) (by kernel_rfl) (by kernel_rfl)) ?_
  intro W base args ds gs before hval0 hW hcnd hsz0 _
  have hval : ∀ (j : Nat) t v, Try.f6.params[j]? = some t → args[j]? = some v → Value.okWide Try.prog W .any base t v := hval0
  have hW' := hW
  obtain ⟨p, q, hA0, hV, rfl, hfz, hnd⟩ := hW
  have hA : DataW.TrodAll enc Try.prog W 0 (fun _ => true) true Try.f6.params.toList args.toList ds p := hA0
  obtain ⟨rfl, rfl⟩ := trodVars_none hV
  obtain ⟨xs, hxt, hxr, hxw⟩ := read_args [.int .i64] Try.f6.params.toList args.toList ds p (by kernel_rfl) hA (fun j t v h1 h2 => hval j t v (by rw [← Array.getElem?_toList]; exact h1) (by rw [← Array.getElem?_toList]; exact h2))
  obtain ⟨n, y, hy, hy2⟩ := over_data xs hxt
  have hcall := law_calls (T := []) (T6.F_ok n 6) (ts := [.int .i64]) rfl rfl rfl hxt hy hy2 hxr (fun p hp => by cases hp)
  have hlen : ds.length = 1 := (trod_len _ _ _ _ hA).trans (by kernel_rfl)
  refine Calls.mono hcall fun e W' ⟨he, hf⟩ => ?_
  subst he
  have bel := below_of hf
  match ds, hlen with
  | [d0], _ =>
    exact ⟨_, rfl, _, _, _, [], _, [], hW', trodAll_mk1 (shut_bool Try.underlying4 _), args_stay laidOut bel _ _ _ _ (by kernel_rfl) hA, rfl, bel.frame _, fun h => by cases h⟩
theorem over : Rows.diskSizesRow.holds Try.pinned (OpenSpec.ofChange Rows.diskSizesSpec) :=
  OpenClaim.holds_of_wide 6 Try.f6 rfl rfl rfl rfl rfl rfl rfl ⟨rfl, rfl, rfl, rfl, rfl⟩ rfl rfl rfl rfl rfl (by kernel_rfl) Try.func6 (by kernel_rfl)
    (of_decide_eq_true (by kernel_rfl)) (by unfold Func.isWrapper; first | (rw [if_pos (by decide +kernel)]; kernel_rfl) | (rw [if_neg (by decide +kernel)]; exact ⟨rfl, rfl⟩))
    (fun os started H enc _ => lifted os started H enc)
theorem proved : Rows.DiskSizesSaid := over
#print axioms proved
end Go.Proofs.Ytggcbphplabngaa.diskSizes
namespace Go.Proofs.Ytggcbphplabngaa
/-- The row, under a short name, for the claim. -/
theorem diskSizes_holds : Rows.DiskSizesSaid := diskSizes.proved
end Go.Proofs.Ytggcbphplabngaa
