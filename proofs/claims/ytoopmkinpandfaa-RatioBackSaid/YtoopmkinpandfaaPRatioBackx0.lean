-- WRITTEN BY THIS SESSION'S mprint.py upon the print: some functions are proved by hand
import Derived.Test.YtoopmkinpandfaaProg
import Derived.Lib.OthersKept
import Derived.Test.YtoopmkinpandfaaShelf
import Derived.Deep.QuietTactic
import Derived.BigQuiet
import Derived.RegionTactic
import Derived.ChangeAlike
import Derived.BigRegion
import Derived.Lib.Strings
import Derived.Lib.CutLaws
import Derived.Lib.SplitLaws
import Derived.Test.YtoopmkinpandfaaFlt
import Derived.WalkLawsBesides
import Derived.Below
import Derived.Deep.Draws
import Derived.Deep.AppendLies
import Derived.Maps.AppendAt
import Derived.OwnWalk
import Derived.Laws.BytesArg
import Derived.Laws.MakeOwn
import Derived.Laws.OwnMore
import Derived.Deep.OwnRows
import Derived.Tactics
import Derived.Lib.ConvBytes
import Derived.Laws.Slices
import Derived.WalkKit
import Derived.KernelRfl
import Derived.RowKit3
import Derived.Deep.LoopGhost
import Derived.Deep.QuietTactic
import Derived.BigQuiet
import Derived.WideLaws
import Derived.Deep.DeepCutAuto
import Derived.Deep.CutBlock
import Derived.Deep.RegionHeld3
import Derived.Laws.Rows
import Derived.Lib.AppendStr
import Derived.ArgAppend
import Derived.Laws.IdiomCopy
import Derived.OrdersHeld
import Derived.Laws.BitsLemmas
import Derived.RowKit
import Derived.Test.YtoopmkinpandfaaWWords
import Derived.Test.YtoopmkinpandfaaWLast
import Derived.Test.YtoopmkinpandfaaWTab
import Derived.Test.YtoopmkinpandfaaWFour
import Derived.Test.YtoopmkinpandfaaWQPut
import Derived.Test.YtoopmkinpandfaaWApart
import Derived.Test.YtoopmkinpandfaaWArr
import Derived.Test.YtoopmkinpandfaaWZeros
import Derived.Test.YtoopmkinpandfaaWFoot
import Derived.Test.YtoopmkinpandfaaWKept
import Derived.Test.YtoopmkinpandfaaWShare
import Derived.Test.YtoopmkinpandfaaWN
import Derived.Test.YtoopmkinpandfaaWFootNe
import Derived.Test.YtoopmkinpandfaaWAt
import Derived.Test.YtoopmkinpandfaaWEqStruct
import Derived.Test.YtoopmkinpandfaaWRepsOne
import Derived.Test.YtoopmkinpandfaaWInv
import Derived.Test.YtoopmkinpandfaaWInvWords
import Derived.Test.YtoopmkinpandfaaWGuard
import Derived.Test.YtoopmkinpandfaaWNEv
import Derived.Test.YtoopmkinpandfaaWMore
namespace Go.Proofs.Ytoopmkinpandfaa.PRatioBack
open Go.RowKit Go.Proofs.YtoopmkinpandfaaW.PrintWords Go.Proofs.YtoopmkinpandfaaW.PrintLast Go.Proofs.YtoopmkinpandfaaW.PrintMore
attribute [local go_sem] max2_int min2_int max_two min_two max_three min_three max_four min_four   -- for this text's walks alone
set_option linter.unusedVariables false
set_option linter.unusedSimpArgs false



def errW : Option Int → Value
  | none => .nilIface
  | some c => .iface 0 (.int .i64 c)
theorem errW_none : errW none = .nilIface := rfl
theorem errW_some (c : Int) : errW (some c) = .iface 0 (.int .i64 c) := rfl

theorem info5 : (Try.prog.info? 5).map (fun i => (i.zero, i.size, i.bytes)) = some (some (.int .u8 0), 1, 1) := by kernel_rfl
-- the values' own types

end Go.Proofs.Ytoopmkinpandfaa.PRatioBack
