/- Normalize preserves the value in every world, is idempotent, and never adds blocks to the support. No conditions. -/
import Derived.Test.YtbhnbgelkemhiaaSpMe
import Derived.Test.YtbhnbgelkemhiaaRows
import Derived.WalkKit
import Derived.ProofKit
import Derived.OpenShut
import Derived.Below
import Derived.SizedLaws
set_option linter.unusedVariables false
namespace Go.Proofs.Ytbhnbgelkemhiaa.formulaMeaning
open Go.ChangeShapes Go.WideShapes Go.ChangeAt Go.RowKit
open Go.Sym
set_option linter.unusedVariables false
set_option maxRecDepth 100000
theorem own : ownKnob Try.prog.godebug = none := by kernel_rfl
theorem laidOut : laidOutB Try.prog = true := by kernel_rfl
theorem over_data (xs : List DV) (hxt : xs.map DV.t = [.pair (.slice T22.S2) .unit, .slice (.slice (.int .i64))]) : ∃ (n : Nat) (y : (T22.cfg.sig 5).res.den), appl (T22.cfg.sig 5).ins (T22.F n 5) xs = some y ∧ untup (T22.cfg.sig 5).rs.tys y = [⟨.bool, true⟩] := by
  match xs, hxt with
  | [⟨.pair (.slice (.pair (.int .i64) (.pair (.int .i64) (.pair (.int .i64) (.pair (.slice (.int .i64)) .unit))))) .unit, a⟩, ⟨.slice (.slice (.int .i64)), b⟩], _ =>
    obtain ⟨N, h⟩ := T22.meaning_ans a.1 b
    have h : T22.c5 (T22.F N) a b = some true := h N (Nat.le_refl _)
    rw [T22.c5_eq] at h
    exact ⟨N, true, appl_two (t1 := .pair (.slice T22.S2) .unit) (t2 := .slice (.slice (.int .i64))) h, rfl⟩
theorem lifted (os : Os) (started : os.Started) (H : Type) (enc : TypeId × Value → H) :
    ReturnsInHanded {} Try.checked os 5 .any (Rows.formulaMeaningSpec.pre6 enc Try.prog Try.f5 Rows.formulaMeaningRow.domain false) (Rows.formulaMeaningSpec.post enc Try.prog Try.f5 false true false false) := by
  refine returnsInHanded_of_change_sized (C := Try.checked) own started (by kernel_rfl) Try.func5
    (ChangeSpec.witness6 (enc := enc) (C := Try.checked) false ⟨#[], #[.agg #[.slice none 0 0], .slice none 0 0], []⟩ 8 (by kernel_rfl) (by kernel_rfl) (by kernel_rfl) (by kernel_rfl)) ?_
  intro W base args ds gs before hval0 hW hcnd hsz0 _
  have hval : ∀ (j : Nat) t v, Try.f5.params[j]? = some t → args[j]? = some v → Value.okWide Try.prog W .any base t v := hval0
  have hW' := hW
  obtain ⟨p, q, hA0, hV, rfl, hfz, hnd⟩ := hW
  have hA : DataW.TrodAll enc Try.prog W 0 (fun _ => true) true Try.f5.params.toList args.toList ds p := hA0
  obtain ⟨rfl, rfl⟩ := trodVars_none hV
  obtain ⟨xs, hxt, hxr, hxw⟩ := read_args [.pair (.slice T22.S2) .unit, .slice (.slice (.int .i64))] Try.f5.params.toList args.toList ds p (by kernel_rfl) hA (fun j t v h1 h2 => hval j t v (by rw [← Array.getElem?_toList]; exact h1) (by rw [← Array.getElem?_toList]; exact h2))
  obtain ⟨n, y, hy, hy2⟩ := over_data xs hxt
  have hcall := law_calls (T22.F_ok n 5) (ts := [.pair (.slice T22.S2) .unit, .slice (.slice (.int .i64))]) rfl rfl rfl hxt hy hy2 hxr
  have hlen : ds.length = 2 := (trod_len _ _ _ _ hA).trans (by kernel_rfl)
  refine Calls.mono hcall fun e W' ⟨he, hf⟩ => ?_
  subst he
  have bel := below_of hf
  match ds, hlen with
  | [d0, d1], _ =>
    exact ⟨_, rfl, _, _, _, [], _, [], hW', trodAll_mk1 (shut_bool Try.underlying4 _), args_stay laidOut bel _ _ _ _ (by kernel_rfl) hA, rfl, bel.frame _, fun h => by cases h⟩
theorem over : Rows.formulaMeaningRow.holds Try.pinned (OpenSpec.ofChange Rows.formulaMeaningSpec) :=
  OpenClaim.holds_of_wide 5 Try.f5 rfl rfl rfl rfl rfl rfl rfl ⟨rfl, rfl, rfl, rfl, rfl⟩ rfl rfl rfl rfl rfl (by kernel_rfl) Try.func5 (by kernel_rfl)
    (of_decide_eq_true (by kernel_rfl)) (by unfold Func.isWrapper; first | (rw [if_pos (by decide +kernel)]; kernel_rfl) | (rw [if_neg (by decide +kernel)]; exact ⟨rfl, rfl⟩))
    (fun os started H enc _ => lifted os started H enc)
theorem proved : Rows.FormulaMeaningSaid := over
#print axioms proved
end Go.Proofs.Ytbhnbgelkemhiaa.formulaMeaning
namespace Go.Proofs.Ytbhnbgelkemhiaa
/-- The row, under a short name, for the claim. -/
theorem formulaMeaning_holds : Rows.FormulaMeaningSaid := formulaMeaning.proved
end Go.Proofs.Ytbhnbgelkemhiaa
