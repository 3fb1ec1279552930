/- Which arguments of Pick, Not, And, Or, Node and Export are rejected, and that rejected calls append nothing. No conditions. -/
import Derived.Test.YtbhnbgelkemhiaaSpRg
import Derived.Test.YtbhnbgelkemhiaaRows
import Derived.WalkKit
import Derived.ProofKit
import Derived.OpenShut
import Derived.Below
import Derived.SizedLaws
set_option linter.unusedVariables false
namespace Go.Proofs.Ytbhnbgelkemhiaa.formulaRanges
open Go.ChangeShapes Go.WideShapes Go.ChangeAt Go.RowKit
open Go.Sym
set_option linter.unusedVariables false
set_option maxRecDepth 100000
theorem own : ownKnob Try.prog.godebug = none := by kernel_rfl
theorem laidOut : laidOutB Try.prog = true := by kernel_rfl
theorem over_data (xs : List DV) (hxt : xs.map DV.t = [.int .i64, .int .i64, .int .i64]) : ∃ (n : Nat) (y : (T22.cfg.sig 4).res.den), appl (T22.cfg.sig 4).ins (T22.F n 4) xs = some y ∧ untup (T22.cfg.sig 4).rs.tys y = [⟨.bool, true⟩] := by
  match xs, hxt with
  | [⟨.int .i64, a⟩, ⟨.int .i64, b⟩, ⟨.int .i64, c⟩], _ =>
    obtain ⟨N, h⟩ := T22.ranges_ans a b c
    have h : T22.c4 (T22.F N) a b c = some true := h N (Nat.le_refl _)
    rw [T22.c4_eq] at h
    exact ⟨N, true, appl_three (t1 := .int .i64) (t2 := .int .i64) (t3 := .int .i64) h, rfl⟩
theorem lifted (os : Os) (started : os.Started) (H : Type) (enc : TypeId × Value → H) :
    ReturnsInHanded {} Try.checked os 4 .any (Rows.formulaRangesSpec.pre6 enc Try.prog Try.f4 Rows.formulaRangesRow.domain false) (Rows.formulaRangesSpec.post enc Try.prog Try.f4 false true false false) := by
  refine returnsInHanded_of_change_sized (C := Try.checked) own started (by kernel_rfl) Try.func4
    (ChangeSpec.witness6 (enc := enc) (C := Try.checked) false ⟨#[], #[.int .i64 0, .int .i64 0, .int .i64 0], []⟩ 8 (by kernel_rfl) (by kernel_rfl) (by kernel_rfl) (by kernel_rfl)) ?_
  intro W base args ds gs before hval0 hW hcnd hsz0 _
  have hval : ∀ (j : Nat) t v, Try.f4.params[j]? = some t → args[j]? = some v → Value.okWide Try.prog W .any base t v := hval0
  have hW' := hW
  obtain ⟨p, q, hA0, hV, rfl, hfz, hnd⟩ := hW
  have hA : DataW.TrodAll enc Try.prog W 0 (fun _ => true) true Try.f4.params.toList args.toList ds p := hA0
  obtain ⟨rfl, rfl⟩ := trodVars_none hV
  obtain ⟨xs, hxt, hxr, hxw⟩ := read_args [.int .i64, .int .i64, .int .i64] Try.f4.params.toList args.toList ds p (by kernel_rfl) hA (fun j t v h1 h2 => hval j t v (by rw [← Array.getElem?_toList]; exact h1) (by rw [← Array.getElem?_toList]; exact h2))
  obtain ⟨n, y, hy, hy2⟩ := over_data xs hxt
  have hcall := law_calls (T22.F_ok n 4) (ts := [.int .i64, .int .i64, .int .i64]) rfl rfl rfl hxt hy hy2 hxr
  have hlen : ds.length = 3 := (trod_len _ _ _ _ hA).trans (by kernel_rfl)
  refine Calls.mono hcall fun e W' ⟨he, hf⟩ => ?_
  subst he
  have bel := below_of hf
  match ds, hlen with
  | [d0, d1, d2], _ =>
    exact ⟨_, rfl, _, _, _, [], _, [], hW', trodAll_mk1 (shut_bool Try.underlying4 _), args_stay laidOut bel _ _ _ _ (by kernel_rfl) hA, rfl, bel.frame _, fun h => by cases h⟩
theorem over : Rows.formulaRangesRow.holds Try.pinned (OpenSpec.ofChange Rows.formulaRangesSpec) :=
  OpenClaim.holds_of_wide 4 Try.f4 rfl rfl rfl rfl rfl rfl rfl ⟨rfl, rfl, rfl, rfl, rfl⟩ rfl rfl rfl rfl rfl (by kernel_rfl) Try.func4 (by kernel_rfl)
    (of_decide_eq_true (by kernel_rfl)) (by unfold Func.isWrapper; first | (rw [if_pos (by decide +kernel)]; kernel_rfl) | (rw [if_neg (by decide +kernel)]; exact ⟨rfl, rfl⟩))
    (fun os started H enc _ => lifted os started H enc)
theorem proved : Rows.FormulaRangesSaid := over
#print axioms proved
end Go.Proofs.Ytbhnbgelkemhiaa.formulaRanges
namespace Go.Proofs.Ytbhnbgelkemhiaa
/-- The row, under a short name, for the claim. -/
theorem formulaRanges_holds : Rows.FormulaRangesSaid := formulaRanges.proved
end Go.Proofs.Ytbhnbgelkemhiaa
