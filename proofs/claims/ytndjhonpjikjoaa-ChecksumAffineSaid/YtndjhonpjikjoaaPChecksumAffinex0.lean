-- Out of the translation, by a turned copy of the kit's printer (wip/pr/patch_print.py of this session)
import Derived.Test.YtndjhonpjikjoaaProg
import Derived.Below
import Derived.Deep.Draws
import Derived.Deep.AppendLies
import Derived.Maps.AppendAt
import Derived.OwnWalk
import Derived.Laws.BytesArg
import Derived.Laws.MakeOwn
import Derived.Laws.OwnMore
import Derived.Deep.OwnRows
import Derived.Tactics
import Derived.Lib.ConvBytes
import Derived.Laws.Slices
import Derived.WalkKit
import Derived.KernelRfl
import Derived.RowKit3
import Derived.Deep.LoopGhost
import Derived.Deep.QuietTactic
import Derived.BigQuiet
import Derived.WideLaws
import Derived.Deep.DeepCutAuto
import Derived.Deep.CutBlock
import Derived.Deep.RegionHeld3
import Derived.Laws.Rows
import Derived.Lib.AppendStr
import Derived.ArgAppend
import Derived.Laws.IdiomCopy
import Derived.OrdersHeld
import Derived.Laws.BitsLemmas
import Derived.RowKit
import Derived.Test.YtndjhonpjikjoaaWWords
import Derived.Test.YtndjhonpjikjoaaWLast
import Derived.Test.YtndjhonpjikjoaaWTab
import Derived.Test.YtndjhonpjikjoaaWFour
import Derived.Test.YtndjhonpjikjoaaWQPut
import Derived.Test.YtndjhonpjikjoaaWApart
import Derived.Test.YtndjhonpjikjoaaWArr
import Derived.Test.YtndjhonpjikjoaaWZeros
import Derived.Test.YtndjhonpjikjoaaWFoot
import Derived.Test.YtndjhonpjikjoaaWKept
import Derived.Test.YtndjhonpjikjoaaWShare
import Derived.Test.YtndjhonpjikjoaaWN
import Derived.Test.YtndjhonpjikjoaaWFootNe
import Derived.Test.YtndjhonpjikjoaaWAt
import Derived.Test.YtndjhonpjikjoaaWEqStruct
import Derived.Test.YtndjhonpjikjoaaWRepsOne
import Derived.Test.YtndjhonpjikjoaaWInv
import Derived.Test.YtndjhonpjikjoaaWInvWords
import Derived.Test.YtndjhonpjikjoaaWGuard
import Derived.Test.YtndjhonpjikjoaaWNEv
import Derived.Test.YtndjhonpjikjoaaWMore
namespace Go.Proofs.Ytndjhonpjikjoaa.PChecksumAffine
open Go.RowKit Go.Proofs.YtndjhonpjikjoaaW.PrintWords Go.Proofs.YtndjhonpjikjoaaW.PrintLast Go.Proofs.YtndjhonpjikjoaaW.PrintMore
attribute [local go_sem] max2_int min2_int max_two min_two max_three min_three max_four min_four   -- for this text's walks alone
set_option linter.unusedVariables false
set_option linter.unusedSimpArgs false



def errW : Option Int → Value
  | none => .nilIface
  | some c => .iface 0 (.int .i64 c)
theorem errW_none : errW none = .nilIface := rfl
theorem errW_some (c : Int) : errW (some c) = .iface 0 (.int .i64 c) := rfl

theorem info5 : (Try.prog.info? 5).map (fun i => (i.zero, i.size, i.bytes)) = some (some (.int .u8 0), 1, 1) := by kernel_rfl
-- the values' own types

end Go.Proofs.Ytndjhonpjikjoaa.PChecksumAffine
