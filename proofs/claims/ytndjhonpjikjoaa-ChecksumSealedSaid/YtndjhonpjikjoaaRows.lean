/-
  No cell of these rows narrows 'for every input' (looked for: loops, veiled, ifaces, maps, wideKeys, modest, calm, conditions, laid).
  DERIVED. THE GIVEN ROWS OF THIS SEAT. 6 by the template 'for every input the law returns true; each argument reads behind the call as it read before'; 0 by the template 'total and deterministic' (their statements: YtndjhonpjikjoaaTotals.lean).
  GIVEN WITH THE SEED: the statements are not yours to turn. If you find one false, say at which input.
  Laid BY PROGRAM, IN A SANDBOX (cutbox-rows.mjs): the forced cells as the released guide's own fill.sh prints them over the translation 9f30d194c625c568… (all of the seat's roots in one cut). By AI agents, Wed Nov 11 2026. No macro, syntax, notation, axiom, sorry.
-/
import Derived.Test.YtndjhonpjikjoaaChecked
import GoSem.Claim
import GoSem.ClaimJoined
import GoSem.ClaimMapViews
import Derived.JoinedTies
import Derived.KernelRfl
namespace Go.Proofs.Ytndjhonpjikjoaa
/- THE CELL 'sum', in the pinned program and in every row, IS THE sha256 OF THE DUMP (.gsa) THAT YtndjhonpjikjoaaProg.lean LOADS. Nothing in Lean hashes anything: it is a label: what it is worth is what the hold of that sum in a sandbox is worth. -/
noncomputable def Try.pinned : Pinned := { name := "ytndjhonpjikjoaa", sum := "9f30d194c625c56875a633dc18cc14747927335483d844f0642038b9e537da41", checked := Try.checked }
namespace Rows
def none {H : Type} : Left H := { results := [], args := [] }

/-- 'credencelaw5.ChecksumValues': WHATEVER THE INPUT: true; the input reads as it did. -/
def checksumValuesSpec : ChangeSpec := { name := "checksumValues", fn := fun _ => fun
  | [d1, d2] => { results := [.lit (.bool true)], args := [d1, d2] }
  | _ => none }
def checksumValuesRow : OpenClaim := { program := "ytndjhonpjikjoaa", sum := "9f30d194c625c56875a633dc18cc14747927335483d844f0642038b9e537da41", func := "credence/credencelaw5.ChecksumValues", spec := "checksumValues", apart := false }
def ChecksumValuesSaid : Prop := checksumValuesRow.holds Try.pinned (OpenSpec.ofChange checksumValuesSpec)

/-- ITS FALSE NEIGHBOUR: 'it returns false'. Refute it at one input. -/
def checksumValuesWrong : ChangeSpec := { name := "checksumValues", fn := fun _ => fun
  | [d1, d2] => { results := [.lit (.bool false)], args := [d1, d2] }
  | _ => none }
def ChecksumValuesWrongFalsely : Prop := checksumValuesRow.holds Try.pinned (OpenSpec.ofChange checksumValuesWrong)

/-- 'credencelaw5.ChecksumExtends': WHATEVER THE INPUT: true; the input reads as it did. -/
def checksumExtendsSpec : ChangeSpec := { name := "checksumExtends", fn := fun _ => fun
  | [d1, d2, d3] => { results := [.lit (.bool true)], args := [d1, d2, d3] }
  | _ => none }
def checksumExtendsRow : OpenClaim := { program := "ytndjhonpjikjoaa", sum := "9f30d194c625c56875a633dc18cc14747927335483d844f0642038b9e537da41", func := "credence/credencelaw5.ChecksumExtends", spec := "checksumExtends", apart := false }
def ChecksumExtendsSaid : Prop := checksumExtendsRow.holds Try.pinned (OpenSpec.ofChange checksumExtendsSpec)

/-- ITS FALSE NEIGHBOUR: 'it returns false'. Refute it at one input. -/
def checksumExtendsWrong : ChangeSpec := { name := "checksumExtends", fn := fun _ => fun
  | [d1, d2, d3] => { results := [.lit (.bool false)], args := [d1, d2, d3] }
  | _ => none }
def ChecksumExtendsWrongFalsely : Prop := checksumExtendsRow.holds Try.pinned (OpenSpec.ofChange checksumExtendsWrong)

/-- 'credencelaw5.ChecksumBurst': WHATEVER THE INPUT: true; the input reads as it did. -/
def checksumBurstSpec : ChangeSpec := { name := "checksumBurst", fn := fun _ => fun
  | [d1, d2, d3] => { results := [.lit (.bool true)], args := [d1, d2, d3] }
  | _ => none }
def checksumBurstRow : OpenClaim := { program := "ytndjhonpjikjoaa", sum := "9f30d194c625c56875a633dc18cc14747927335483d844f0642038b9e537da41", func := "credence/credencelaw5.ChecksumBurst", spec := "checksumBurst", apart := false }
def ChecksumBurstSaid : Prop := checksumBurstRow.holds Try.pinned (OpenSpec.ofChange checksumBurstSpec)

/-- ITS FALSE NEIGHBOUR: 'it returns false'. Refute it at one input. -/
def checksumBurstWrong : ChangeSpec := { name := "checksumBurst", fn := fun _ => fun
  | [d1, d2, d3] => { results := [.lit (.bool false)], args := [d1, d2, d3] }
  | _ => none }
def ChecksumBurstWrongFalsely : Prop := checksumBurstRow.holds Try.pinned (OpenSpec.ofChange checksumBurstWrong)

/-- 'credencelaw5.ChecksumByte': WHATEVER THE INPUT: true; the input reads as it did. -/
def checksumByteSpec : ChangeSpec := { name := "checksumByte", fn := fun _ => fun
  | [d1, d2, d3] => { results := [.lit (.bool true)], args := [d1, d2, d3] }
  | _ => none }
def checksumByteRow : OpenClaim := { program := "ytndjhonpjikjoaa", sum := "9f30d194c625c56875a633dc18cc14747927335483d844f0642038b9e537da41", func := "credence/credencelaw5.ChecksumByte", spec := "checksumByte", apart := false }
def ChecksumByteSaid : Prop := checksumByteRow.holds Try.pinned (OpenSpec.ofChange checksumByteSpec)

/-- ITS FALSE NEIGHBOUR: 'it returns false'. Refute it at one input. -/
def checksumByteWrong : ChangeSpec := { name := "checksumByte", fn := fun _ => fun
  | [d1, d2, d3] => { results := [.lit (.bool false)], args := [d1, d2, d3] }
  | _ => none }
def ChecksumByteWrongFalsely : Prop := checksumByteRow.holds Try.pinned (OpenSpec.ofChange checksumByteWrong)

/-- 'credencelaw5.ChecksumAffine': WHATEVER THE INPUT: true; the input reads as it did. -/
def checksumAffineSpec : ChangeSpec := { name := "checksumAffine", fn := fun _ => fun
  | [d1, d2, d3] => { results := [.lit (.bool true)], args := [d1, d2, d3] }
  | _ => none }
def checksumAffineRow : OpenClaim := { program := "ytndjhonpjikjoaa", sum := "9f30d194c625c56875a633dc18cc14747927335483d844f0642038b9e537da41", func := "credence/credencelaw5.ChecksumAffine", spec := "checksumAffine", apart := false }
def ChecksumAffineSaid : Prop := checksumAffineRow.holds Try.pinned (OpenSpec.ofChange checksumAffineSpec)

/-- ITS FALSE NEIGHBOUR: 'it returns false'. Refute it at one input. -/
def checksumAffineWrong : ChangeSpec := { name := "checksumAffine", fn := fun _ => fun
  | [d1, d2, d3] => { results := [.lit (.bool false)], args := [d1, d2, d3] }
  | _ => none }
def ChecksumAffineWrongFalsely : Prop := checksumAffineRow.holds Try.pinned (OpenSpec.ofChange checksumAffineWrong)

/-- 'credencelaw5.ChecksumSealed': WHATEVER THE INPUT: true; the input reads as it did. -/
def checksumSealedSpec : ChangeSpec := { name := "checksumSealed", fn := fun _ => fun
  | [d1, d2] => { results := [.lit (.bool true)], args := [d1, d2] }
  | _ => none }
def checksumSealedRow : OpenClaim := { program := "ytndjhonpjikjoaa", sum := "9f30d194c625c56875a633dc18cc14747927335483d844f0642038b9e537da41", func := "credence/credencelaw5.ChecksumSealed", spec := "checksumSealed", apart := false }
def ChecksumSealedSaid : Prop := checksumSealedRow.holds Try.pinned (OpenSpec.ofChange checksumSealedSpec)

/-- ITS FALSE NEIGHBOUR: 'it returns false'. Refute it at one input. -/
def checksumSealedWrong : ChangeSpec := { name := "checksumSealed", fn := fun _ => fun
  | [d1, d2] => { results := [.lit (.bool false)], args := [d1, d2] }
  | _ => none }
def ChecksumSealedWrongFalsely : Prop := checksumSealedRow.holds Try.pinned (OpenSpec.ofChange checksumSealedWrong)

/- THE SECOND FORM. 'bulk': how many values and letters a reading holds, each counted each time it is reached (what is shared counts as often as it is met; a slice's spare places count too). A statement '..UptoSaid' is the law's where the arguments, and the package variables that the reading takes, are together of bulk at most 1048576: NARROWER than '..Said'. Prove '..Said' where nothing that the law and all that it calls make is longer than what came in: it says more and counts as full. Else prove '..UptoSaid'. A law counts once. -/
mutual
def uptoBulk {H : Type} : DataW H → Nat
  | .lit (.string bytes) => bytes.length + 1
  | .lit _ => 1
  | .nil => 1
  | .ptr d => uptoBulk d + 1
  | .slice elems spare => uptoBulkAll elems + uptoBulkAll spare + 1
  | .agg parts => uptoBulkAll parts + 1
  | .iface _ d => uptoBulk d + 1
  | .map entries => uptoBulkEntries entries + 1
  | .held _ => 1
def uptoBulkAll {H : Type} : List (DataW H) → Nat
  | [] => 0
  | d :: r => uptoBulk d + uptoBulkAll r
def uptoBulkEntries {H : Type} : List (Lit × DataW H) → Nat
  | [] => 0
  | x :: r => uptoBulkEntry x + uptoBulkEntries r
def uptoBulkEntry {H : Type} : Lit × DataW H → Nat
  | (.string bytes, d) => bytes.length + uptoBulk d + 1
  | (_, d) => uptoBulk d + 1
 end
def uptoSmall : (H : Type) → List (DataW H) → Bool := fun _ ds => decide (uptoBulkAll ds ≤ 1048576)
def OpenSpec.upto (s : _root_.Go.ChangeSpec) : _root_.Go.OpenSpec := { _root_.Go.OpenSpec.ofChange s with cond := some uptoSmall }

/-- 'credencelaw5.ChecksumValues', WHERE WHAT IT READS IS OF BULK AT MOST 1048576: true; the input reads as it did. -/
def checksumValuesUptoRow : OpenClaim := { program := "ytndjhonpjikjoaa", sum := "9f30d194c625c56875a633dc18cc14747927335483d844f0642038b9e537da41", func := "credence/credencelaw5.ChecksumValues", spec := "checksumValues", apart := false, narrowed := true }
def ChecksumValuesUptoSaid : Prop := checksumValuesUptoRow.holds Try.pinned (OpenSpec.upto checksumValuesSpec)

/-- 'credencelaw5.ChecksumExtends', WHERE WHAT IT READS IS OF BULK AT MOST 1048576: true; the input reads as it did. -/
def checksumExtendsUptoRow : OpenClaim := { program := "ytndjhonpjikjoaa", sum := "9f30d194c625c56875a633dc18cc14747927335483d844f0642038b9e537da41", func := "credence/credencelaw5.ChecksumExtends", spec := "checksumExtends", apart := false, narrowed := true }
def ChecksumExtendsUptoSaid : Prop := checksumExtendsUptoRow.holds Try.pinned (OpenSpec.upto checksumExtendsSpec)

/-- 'credencelaw5.ChecksumBurst', WHERE WHAT IT READS IS OF BULK AT MOST 1048576: true; the input reads as it did. -/
def checksumBurstUptoRow : OpenClaim := { program := "ytndjhonpjikjoaa", sum := "9f30d194c625c56875a633dc18cc14747927335483d844f0642038b9e537da41", func := "credence/credencelaw5.ChecksumBurst", spec := "checksumBurst", apart := false, narrowed := true }
def ChecksumBurstUptoSaid : Prop := checksumBurstUptoRow.holds Try.pinned (OpenSpec.upto checksumBurstSpec)

/-- 'credencelaw5.ChecksumByte', WHERE WHAT IT READS IS OF BULK AT MOST 1048576: true; the input reads as it did. -/
def checksumByteUptoRow : OpenClaim := { program := "ytndjhonpjikjoaa", sum := "9f30d194c625c56875a633dc18cc14747927335483d844f0642038b9e537da41", func := "credence/credencelaw5.ChecksumByte", spec := "checksumByte", apart := false, narrowed := true }
def ChecksumByteUptoSaid : Prop := checksumByteUptoRow.holds Try.pinned (OpenSpec.upto checksumByteSpec)

/-- 'credencelaw5.ChecksumAffine', WHERE WHAT IT READS IS OF BULK AT MOST 1048576: true; the input reads as it did. -/
def checksumAffineUptoRow : OpenClaim := { program := "ytndjhonpjikjoaa", sum := "9f30d194c625c56875a633dc18cc14747927335483d844f0642038b9e537da41", func := "credence/credencelaw5.ChecksumAffine", spec := "checksumAffine", apart := false, narrowed := true }
def ChecksumAffineUptoSaid : Prop := checksumAffineUptoRow.holds Try.pinned (OpenSpec.upto checksumAffineSpec)

/-- 'credencelaw5.ChecksumSealed', WHERE WHAT IT READS IS OF BULK AT MOST 1048576: true; the input reads as it did. -/
def checksumSealedUptoRow : OpenClaim := { program := "ytndjhonpjikjoaa", sum := "9f30d194c625c56875a633dc18cc14747927335483d844f0642038b9e537da41", func := "credence/credencelaw5.ChecksumSealed", spec := "checksumSealed", apart := false, narrowed := true }
def ChecksumSealedUptoSaid : Prop := checksumSealedUptoRow.holds Try.pinned (OpenSpec.upto checksumSealedSpec)

end Rows
end Go.Proofs.Ytndjhonpjikjoaa
