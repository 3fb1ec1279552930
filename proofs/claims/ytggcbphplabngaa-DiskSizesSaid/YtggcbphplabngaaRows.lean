/-
  No cell of these rows narrows 'for every input' (looked for: loops, veiled, ifaces, maps, wideKeys, modest, calm, conditions, laid).
  DERIVED. THE GIVEN ROWS OF THIS SEAT. 6 by the template 'for every input the law returns true; each argument reads behind the call as it read before'; 0 by the template 'total and deterministic' (their statements: YtggcbphplabngaaTotals.lean).
  GIVEN WITH THE SEED: the statements are not yours to turn. If you find one false, say at which input.
  Laid BY PROGRAM, IN A SANDBOX (cutbox-rows.mjs): the forced cells as the released guide's own fill.sh prints them over the translation 3590a898ccda62e5… (all of the seat's roots in one cut). By AI agents, Wed Nov 11 2026. No macro, syntax, notation, axiom, sorry.
-/
import Derived.Test.YtggcbphplabngaaChecked
import GoSem.Claim
import GoSem.ClaimJoined
import GoSem.ClaimMapViews
import Derived.JoinedTies
import Derived.KernelRfl
namespace Go.Proofs.Ytggcbphplabngaa
/- THE CELL 'sum', in the pinned program and in every row, IS THE sha256 OF THE DUMP (.gsa) THAT YtggcbphplabngaaProg.lean LOADS. Nothing in Lean hashes anything: it is a label: what it is worth is what the hold of that sum in a sandbox is worth. -/
noncomputable def Try.pinned : Pinned := { name := "ytggcbphplabngaa", sum := "3590a898ccda62e54a610b566532aef4d93914610671e31b966b45cd0c312491", checked := Try.checked }
namespace Rows
def none {H : Type} : Left H := { results := [], args := [] }

/-- 'credencelaw6.DiskDurable': WHATEVER THE INPUT: true; the input reads as it did. -/
def diskDurableSpec : ChangeSpec := { name := "diskDurable", fn := fun _ => fun
  | [d1, d2, d3, d4] => { results := [.lit (.bool true)], args := [d1, d2, d3, d4] }
  | _ => none }
def diskDurableRow : OpenClaim := { program := "ytggcbphplabngaa", sum := "3590a898ccda62e54a610b566532aef4d93914610671e31b966b45cd0c312491", func := "credence/credencelaw6.DiskDurable", spec := "diskDurable", unfollowed := true, recurses := true, apart := false }
def DiskDurableSaid : Prop := diskDurableRow.holds Try.pinned (OpenSpec.ofChange diskDurableSpec)

/-- ITS FALSE NEIGHBOUR: 'it returns false'. Refute it at one input. -/
def diskDurableWrong : ChangeSpec := { name := "diskDurable", fn := fun _ => fun
  | [d1, d2, d3, d4] => { results := [.lit (.bool false)], args := [d1, d2, d3, d4] }
  | _ => none }
def DiskDurableWrongFalsely : Prop := diskDurableRow.holds Try.pinned (OpenSpec.ofChange diskDurableWrong)

/-- 'credencelaw6.DiskKeeps': WHATEVER THE INPUT: true; the input reads as it did. -/
def diskKeepsSpec : ChangeSpec := { name := "diskKeeps", fn := fun _ => fun
  | [d1, d2] => { results := [.lit (.bool true)], args := [d1, d2] }
  | _ => none }
def diskKeepsRow : OpenClaim := { program := "ytggcbphplabngaa", sum := "3590a898ccda62e54a610b566532aef4d93914610671e31b966b45cd0c312491", func := "credence/credencelaw6.DiskKeeps", spec := "diskKeeps", unfollowed := true, recurses := true, apart := false }
def DiskKeepsSaid : Prop := diskKeepsRow.holds Try.pinned (OpenSpec.ofChange diskKeepsSpec)

/-- ITS FALSE NEIGHBOUR: 'it returns false'. Refute it at one input. -/
def diskKeepsWrong : ChangeSpec := { name := "diskKeeps", fn := fun _ => fun
  | [d1, d2] => { results := [.lit (.bool false)], args := [d1, d2] }
  | _ => none }
def DiskKeepsWrongFalsely : Prop := diskKeepsRow.holds Try.pinned (OpenSpec.ofChange diskKeepsWrong)

/-- 'credencelaw6.DiskFresh': WHATEVER THE INPUT: true; the input reads as it did. -/
def diskFreshSpec : ChangeSpec := { name := "diskFresh", fn := fun _ => fun
  | [d1, d2] => { results := [.lit (.bool true)], args := [d1, d2] }
  | _ => none }
def diskFreshRow : OpenClaim := { program := "ytggcbphplabngaa", sum := "3590a898ccda62e54a610b566532aef4d93914610671e31b966b45cd0c312491", func := "credence/credencelaw6.DiskFresh", spec := "diskFresh", unfollowed := true, recurses := true, apart := false }
def DiskFreshSaid : Prop := diskFreshRow.holds Try.pinned (OpenSpec.ofChange diskFreshSpec)

/-- ITS FALSE NEIGHBOUR: 'it returns false'. Refute it at one input. -/
def diskFreshWrong : ChangeSpec := { name := "diskFresh", fn := fun _ => fun
  | [d1, d2] => { results := [.lit (.bool false)], args := [d1, d2] }
  | _ => none }
def DiskFreshWrongFalsely : Prop := diskFreshRow.holds Try.pinned (OpenSpec.ofChange diskFreshWrong)

/-- 'credencelaw6.DiskSizes': WHATEVER THE INPUT: true; the input reads as it did. -/
def diskSizesSpec : ChangeSpec := { name := "diskSizes", fn := fun _ => fun
  | [d] => { results := [.lit (.bool true)], args := [d] }
  | _ => none }
def diskSizesRow : OpenClaim := { program := "ytggcbphplabngaa", sum := "3590a898ccda62e54a610b566532aef4d93914610671e31b966b45cd0c312491", func := "credence/credencelaw6.DiskSizes", spec := "diskSizes", unfollowed := true, recurses := true, apart := false }
def DiskSizesSaid : Prop := diskSizesRow.holds Try.pinned (OpenSpec.ofChange diskSizesSpec)

/-- ITS FALSE NEIGHBOUR: 'it returns false'. Refute it at one input. -/
def diskSizesWrong : ChangeSpec := { name := "diskSizes", fn := fun _ => fun
  | [d] => { results := [.lit (.bool false)], args := [d] }
  | _ => none }
def DiskSizesWrongFalsely : Prop := diskSizesRow.holds Try.pinned (OpenSpec.ofChange diskSizesWrong)

/-- 'credencelaw6.DiskFails': WHATEVER THE INPUT: true; the input reads as it did. -/
def diskFailsSpec : ChangeSpec := { name := "diskFails", fn := fun _ => fun
  | [d1, d2] => { results := [.lit (.bool true)], args := [d1, d2] }
  | _ => none }
def diskFailsRow : OpenClaim := { program := "ytggcbphplabngaa", sum := "3590a898ccda62e54a610b566532aef4d93914610671e31b966b45cd0c312491", func := "credence/credencelaw6.DiskFails", spec := "diskFails", unfollowed := true, recurses := true, apart := false }
def DiskFailsSaid : Prop := diskFailsRow.holds Try.pinned (OpenSpec.ofChange diskFailsSpec)

/-- ITS FALSE NEIGHBOUR: 'it returns false'. Refute it at one input. -/
def diskFailsWrong : ChangeSpec := { name := "diskFails", fn := fun _ => fun
  | [d1, d2] => { results := [.lit (.bool false)], args := [d1, d2] }
  | _ => none }
def DiskFailsWrongFalsely : Prop := diskFailsRow.holds Try.pinned (OpenSpec.ofChange diskFailsWrong)

/-- 'credencelaw6.DiskPlays': WHATEVER THE INPUT: true; the input reads as it did. -/
def diskPlaysSpec : ChangeSpec := { name := "diskPlays", fn := fun _ => fun
  | [d] => { results := [.lit (.bool true)], args := [d] }
  | _ => none }
def diskPlaysRow : OpenClaim := { program := "ytggcbphplabngaa", sum := "3590a898ccda62e54a610b566532aef4d93914610671e31b966b45cd0c312491", func := "credence/credencelaw6.DiskPlays", spec := "diskPlays", unfollowed := true, recurses := true, apart := false }
def DiskPlaysSaid : Prop := diskPlaysRow.holds Try.pinned (OpenSpec.ofChange diskPlaysSpec)

/-- ITS FALSE NEIGHBOUR: 'it returns false'. Refute it at one input. -/
def diskPlaysWrong : ChangeSpec := { name := "diskPlays", fn := fun _ => fun
  | [d] => { results := [.lit (.bool false)], args := [d] }
  | _ => none }
def DiskPlaysWrongFalsely : Prop := diskPlaysRow.holds Try.pinned (OpenSpec.ofChange diskPlaysWrong)

/- THE SECOND FORM. 'bulk': how many values and letters a reading holds, each counted each time it is reached (what is shared counts as often as it is met; a slice's spare places count too). A statement '..UptoSaid' is the law's where the arguments, and the package variables that the reading takes, are together of bulk at most 1048576: NARROWER than '..Said'. Prove '..Said' where nothing that the law and all that it calls make is longer than what came in: it says more and counts as full. Else prove '..UptoSaid'. A law counts once. -/
mutual
def uptoBulk {H : Type} : DataW H → Nat
  | .lit (.string bytes) => bytes.length + 1
  | .lit _ => 1
  | .nil => 1
  | .ptr d => uptoBulk d + 1
  | .slice elems spare => uptoBulkAll elems + uptoBulkAll spare + 1
  | .agg parts => uptoBulkAll parts + 1
  | .iface _ d => uptoBulk d + 1
  | .map entries => uptoBulkEntries entries + 1
  | .held _ => 1
def uptoBulkAll {H : Type} : List (DataW H) → Nat
  | [] => 0
  | d :: r => uptoBulk d + uptoBulkAll r
def uptoBulkEntries {H : Type} : List (Lit × DataW H) → Nat
  | [] => 0
  | x :: r => uptoBulkEntry x + uptoBulkEntries r
def uptoBulkEntry {H : Type} : Lit × DataW H → Nat
  | (.string bytes, d) => bytes.length + uptoBulk d + 1
  | (_, d) => uptoBulk d + 1
 end
def uptoSmall : (H : Type) → List (DataW H) → Bool := fun _ ds => decide (uptoBulkAll ds ≤ 1048576)
def OpenSpec.upto (s : _root_.Go.ChangeSpec) : _root_.Go.OpenSpec := { _root_.Go.OpenSpec.ofChange s with cond := some uptoSmall }

/-- 'credencelaw6.DiskDurable', WHERE WHAT IT READS IS OF BULK AT MOST 1048576: true; the input reads as it did. -/
def diskDurableUptoRow : OpenClaim := { program := "ytggcbphplabngaa", sum := "3590a898ccda62e54a610b566532aef4d93914610671e31b966b45cd0c312491", func := "credence/credencelaw6.DiskDurable", spec := "diskDurable", unfollowed := true, recurses := true, apart := false, narrowed := true }
def DiskDurableUptoSaid : Prop := diskDurableUptoRow.holds Try.pinned (OpenSpec.upto diskDurableSpec)

/-- 'credencelaw6.DiskKeeps', WHERE WHAT IT READS IS OF BULK AT MOST 1048576: true; the input reads as it did. -/
def diskKeepsUptoRow : OpenClaim := { program := "ytggcbphplabngaa", sum := "3590a898ccda62e54a610b566532aef4d93914610671e31b966b45cd0c312491", func := "credence/credencelaw6.DiskKeeps", spec := "diskKeeps", unfollowed := true, recurses := true, apart := false, narrowed := true }
def DiskKeepsUptoSaid : Prop := diskKeepsUptoRow.holds Try.pinned (OpenSpec.upto diskKeepsSpec)

/-- 'credencelaw6.DiskFresh', WHERE WHAT IT READS IS OF BULK AT MOST 1048576: true; the input reads as it did. -/
def diskFreshUptoRow : OpenClaim := { program := "ytggcbphplabngaa", sum := "3590a898ccda62e54a610b566532aef4d93914610671e31b966b45cd0c312491", func := "credence/credencelaw6.DiskFresh", spec := "diskFresh", unfollowed := true, recurses := true, apart := false, narrowed := true }
def DiskFreshUptoSaid : Prop := diskFreshUptoRow.holds Try.pinned (OpenSpec.upto diskFreshSpec)

/-- 'credencelaw6.DiskSizes', WHERE WHAT IT READS IS OF BULK AT MOST 1048576: true; the input reads as it did. -/
def diskSizesUptoRow : OpenClaim := { program := "ytggcbphplabngaa", sum := "3590a898ccda62e54a610b566532aef4d93914610671e31b966b45cd0c312491", func := "credence/credencelaw6.DiskSizes", spec := "diskSizes", unfollowed := true, recurses := true, apart := false, narrowed := true }
def DiskSizesUptoSaid : Prop := diskSizesUptoRow.holds Try.pinned (OpenSpec.upto diskSizesSpec)

/-- 'credencelaw6.DiskFails', WHERE WHAT IT READS IS OF BULK AT MOST 1048576: true; the input reads as it did. -/
def diskFailsUptoRow : OpenClaim := { program := "ytggcbphplabngaa", sum := "3590a898ccda62e54a610b566532aef4d93914610671e31b966b45cd0c312491", func := "credence/credencelaw6.DiskFails", spec := "diskFails", unfollowed := true, recurses := true, apart := false, narrowed := true }
def DiskFailsUptoSaid : Prop := diskFailsUptoRow.holds Try.pinned (OpenSpec.upto diskFailsSpec)

/-- 'credencelaw6.DiskPlays', WHERE WHAT IT READS IS OF BULK AT MOST 1048576: true; the input reads as it did. -/
def diskPlaysUptoRow : OpenClaim := { program := "ytggcbphplabngaa", sum := "3590a898ccda62e54a610b566532aef4d93914610671e31b966b45cd0c312491", func := "credence/credencelaw6.DiskPlays", spec := "diskPlays", unfollowed := true, recurses := true, apart := false, narrowed := true }
def DiskPlaysUptoSaid : Prop := diskPlaysUptoRow.holds Try.pinned (OpenSpec.upto diskPlaysSpec)

end Rows
end Go.Proofs.Ytggcbphplabngaa
