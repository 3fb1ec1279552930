/-
  No cell of these rows narrows 'for every input' (looked for: loops, veiled, ifaces, maps, wideKeys, modest, calm, conditions, laid).
  DERIVED. THE GIVEN ROWS OF THIS SEAT. 3 by the template 'for every input the law returns true; each argument reads behind the call as it read before'; 0 by the template 'total and deterministic' (their statements: YtbhnbgelkemhiaaTotals.lean).
  GIVEN WITH THE SEED: the statements are not yours to turn. If you find one false, say at which input.
  Laid BY PROGRAM, IN A SANDBOX (cutbox-rows.mjs): the forced cells as the released guide's own fill.sh prints them over the translation 672cdf207c2b7800… (all of the seat's roots in one cut). By AI agents, Wed Nov 11 2026. No macro, syntax, notation, axiom, sorry.
-/
import Derived.Test.YtbhnbgelkemhiaaChecked
import GoSem.Claim
import GoSem.ClaimJoined
import GoSem.ClaimMapViews
import Derived.JoinedTies
import Derived.KernelRfl
namespace Go.Proofs.Ytbhnbgelkemhiaa
/- THE CELL 'sum', in the pinned program and in every row, IS THE sha256 OF THE DUMP (.gsa) THAT YtbhnbgelkemhiaaProg.lean LOADS. Nothing in Lean hashes anything: it is a label: what it is worth is what the hold of that sum in a sandbox is worth. -/
noncomputable def Try.pinned : Pinned := { name := "ytbhnbgelkemhiaa", sum := "672cdf207c2b7800b29f274e8fa85dba0748a7752c10a43876f2b31bed99f107", checked := Try.checked }
namespace Rows
def none {H : Type} : Left H := { results := [], args := [] }

/-- 'credencelaw22.FormulaExclusive': WHATEVER THE INPUT: true; the input reads as it did. -/
def formulaExclusiveSpec : ChangeSpec := { name := "formulaExclusive", fn := fun _ => fun
  | [d1, d2, d3, d4] => { results := [.lit (.bool true)], args := [d1, d2, d3, d4] }
  | _ => none }
def formulaExclusiveRow : OpenClaim := { program := "ytbhnbgelkemhiaa", sum := "672cdf207c2b7800b29f274e8fa85dba0748a7752c10a43876f2b31bed99f107", func := "credence/credencelaw22.FormulaExclusive", spec := "formulaExclusive", unfollowed := true, recurses := true, apart := false }
def FormulaExclusiveSaid : Prop := formulaExclusiveRow.holds Try.pinned (OpenSpec.ofChange formulaExclusiveSpec)

/-- ITS FALSE NEIGHBOUR: 'it returns false'. Refute it at one input. -/
def formulaExclusiveWrong : ChangeSpec := { name := "formulaExclusive", fn := fun _ => fun
  | [d1, d2, d3, d4] => { results := [.lit (.bool false)], args := [d1, d2, d3, d4] }
  | _ => none }
def FormulaExclusiveWrongFalsely : Prop := formulaExclusiveRow.holds Try.pinned (OpenSpec.ofChange formulaExclusiveWrong)

/-- 'credencelaw22.FormulaRanges': WHATEVER THE INPUT: true; the input reads as it did. -/
def formulaRangesSpec : ChangeSpec := { name := "formulaRanges", fn := fun _ => fun
  | [d1, d2, d3] => { results := [.lit (.bool true)], args := [d1, d2, d3] }
  | _ => none }
def formulaRangesRow : OpenClaim := { program := "ytbhnbgelkemhiaa", sum := "672cdf207c2b7800b29f274e8fa85dba0748a7752c10a43876f2b31bed99f107", func := "credence/credencelaw22.FormulaRanges", spec := "formulaRanges", unfollowed := true, recurses := true, apart := false }
def FormulaRangesSaid : Prop := formulaRangesRow.holds Try.pinned (OpenSpec.ofChange formulaRangesSpec)

/-- ITS FALSE NEIGHBOUR: 'it returns false'. Refute it at one input. -/
def formulaRangesWrong : ChangeSpec := { name := "formulaRanges", fn := fun _ => fun
  | [d1, d2, d3] => { results := [.lit (.bool false)], args := [d1, d2, d3] }
  | _ => none }
def FormulaRangesWrongFalsely : Prop := formulaRangesRow.holds Try.pinned (OpenSpec.ofChange formulaRangesWrong)

/-- 'credencelaw22.FormulaMeaning': WHATEVER THE INPUT: true; the input reads as it did. -/
def formulaMeaningSpec : ChangeSpec := { name := "formulaMeaning", fn := fun _ => fun
  | [d1, d2] => { results := [.lit (.bool true)], args := [d1, d2] }
  | _ => none }
def formulaMeaningRow : OpenClaim := { program := "ytbhnbgelkemhiaa", sum := "672cdf207c2b7800b29f274e8fa85dba0748a7752c10a43876f2b31bed99f107", func := "credence/credencelaw22.FormulaMeaning", spec := "formulaMeaning", unfollowed := true, recurses := true, apart := false }
def FormulaMeaningSaid : Prop := formulaMeaningRow.holds Try.pinned (OpenSpec.ofChange formulaMeaningSpec)

/-- ITS FALSE NEIGHBOUR: 'it returns false'. Refute it at one input. -/
def formulaMeaningWrong : ChangeSpec := { name := "formulaMeaning", fn := fun _ => fun
  | [d1, d2] => { results := [.lit (.bool false)], args := [d1, d2] }
  | _ => none }
def FormulaMeaningWrongFalsely : Prop := formulaMeaningRow.holds Try.pinned (OpenSpec.ofChange formulaMeaningWrong)

/- THE SECOND FORM. 'bulk': how many values and letters a reading holds, each counted each time it is reached (what is shared counts as often as it is met; a slice's spare places count too). A statement '..UptoSaid' is the law's where the arguments, and the package variables that the reading takes, are together of bulk at most 1048576: NARROWER than '..Said'. Prove '..Said' where nothing that the law and all that it calls make is longer than what came in: it says more and counts as full. Else prove '..UptoSaid'. A law counts once. -/
mutual
def uptoBulk {H : Type} : DataW H → Nat
  | .lit (.string bytes) => bytes.length + 1
  | .lit _ => 1
  | .nil => 1
  | .ptr d => uptoBulk d + 1
  | .slice elems spare => uptoBulkAll elems + uptoBulkAll spare + 1
  | .agg parts => uptoBulkAll parts + 1
  | .iface _ d => uptoBulk d + 1
  | .map entries => uptoBulkEntries entries + 1
  | .held _ => 1
def uptoBulkAll {H : Type} : List (DataW H) → Nat
  | [] => 0
  | d :: r => uptoBulk d + uptoBulkAll r
def uptoBulkEntries {H : Type} : List (Lit × DataW H) → Nat
  | [] => 0
  | x :: r => uptoBulkEntry x + uptoBulkEntries r
def uptoBulkEntry {H : Type} : Lit × DataW H → Nat
  | (.string bytes, d) => bytes.length + uptoBulk d + 1
  | (_, d) => uptoBulk d + 1
 end
def uptoSmall : (H : Type) → List (DataW H) → Bool := fun _ ds => decide (uptoBulkAll ds ≤ 1048576)
def OpenSpec.upto (s : _root_.Go.ChangeSpec) : _root_.Go.OpenSpec := { _root_.Go.OpenSpec.ofChange s with cond := some uptoSmall }

/-- 'credencelaw22.FormulaExclusive', WHERE WHAT IT READS IS OF BULK AT MOST 1048576: true; the input reads as it did. -/
def formulaExclusiveUptoRow : OpenClaim := { program := "ytbhnbgelkemhiaa", sum := "672cdf207c2b7800b29f274e8fa85dba0748a7752c10a43876f2b31bed99f107", func := "credence/credencelaw22.FormulaExclusive", spec := "formulaExclusive", unfollowed := true, recurses := true, apart := false, narrowed := true }
def FormulaExclusiveUptoSaid : Prop := formulaExclusiveUptoRow.holds Try.pinned (OpenSpec.upto formulaExclusiveSpec)

/-- 'credencelaw22.FormulaRanges', WHERE WHAT IT READS IS OF BULK AT MOST 1048576: true; the input reads as it did. -/
def formulaRangesUptoRow : OpenClaim := { program := "ytbhnbgelkemhiaa", sum := "672cdf207c2b7800b29f274e8fa85dba0748a7752c10a43876f2b31bed99f107", func := "credence/credencelaw22.FormulaRanges", spec := "formulaRanges", unfollowed := true, recurses := true, apart := false, narrowed := true }
def FormulaRangesUptoSaid : Prop := formulaRangesUptoRow.holds Try.pinned (OpenSpec.upto formulaRangesSpec)

/-- 'credencelaw22.FormulaMeaning', WHERE WHAT IT READS IS OF BULK AT MOST 1048576: true; the input reads as it did. -/
def formulaMeaningUptoRow : OpenClaim := { program := "ytbhnbgelkemhiaa", sum := "672cdf207c2b7800b29f274e8fa85dba0748a7752c10a43876f2b31bed99f107", func := "credence/credencelaw22.FormulaMeaning", spec := "formulaMeaning", unfollowed := true, recurses := true, apart := false, narrowed := true }
def FormulaMeaningUptoSaid : Prop := formulaMeaningUptoRow.holds Try.pinned (OpenSpec.upto formulaMeaningSpec)

end Rows
end Go.Proofs.Ytbhnbgelkemhiaa
