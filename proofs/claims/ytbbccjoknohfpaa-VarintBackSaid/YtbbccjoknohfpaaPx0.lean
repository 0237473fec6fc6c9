-- Printed by a program of this session over the kit's print: all laws of the seat in one namespace, some texts by hand.
import Derived.Test.YtbbccjoknohfpaaProg
import Derived.Below
import Derived.Deep.Draws
import Derived.Deep.AppendLies
import Derived.Maps.AppendAt
import Derived.OwnWalk
import Derived.Laws.BytesArg
import Derived.Laws.MakeOwn
import Derived.Laws.OwnMore
import Derived.Deep.OwnRows
import Derived.Tactics
import Derived.Lib.ConvBytes
import Derived.Laws.Slices
import Derived.WalkKit
import Derived.KernelRfl
import Derived.RowKit3
import Derived.Deep.LoopGhost
import Derived.Deep.QuietTactic
import Derived.BigQuiet
import Derived.WideLaws
import Derived.Deep.DeepCutAuto
import Derived.Deep.CutBlock
import Derived.Deep.RegionHeld3
import Derived.Laws.Rows
import Derived.Lib.AppendStr
import Derived.ArgAppend
import Derived.Laws.IdiomCopy
import Derived.OrdersHeld
import Derived.Laws.BitsLemmas
import Derived.RowKit
import Derived.Test.YtbbccjoknohfpaaWWords
import Derived.Test.YtbbccjoknohfpaaWLast
import Derived.Test.YtbbccjoknohfpaaWTab
import Derived.Test.YtbbccjoknohfpaaWFour
import Derived.Test.YtbbccjoknohfpaaWQPut
import Derived.Test.YtbbccjoknohfpaaWApart
import Derived.Test.YtbbccjoknohfpaaWArr
import Derived.Test.YtbbccjoknohfpaaWZeros
import Derived.Test.YtbbccjoknohfpaaWFoot
import Derived.Test.YtbbccjoknohfpaaWKept
import Derived.Test.YtbbccjoknohfpaaWShare
import Derived.Test.YtbbccjoknohfpaaWN
import Derived.Test.YtbbccjoknohfpaaWFootNe
import Derived.Test.YtbbccjoknohfpaaWAt
import Derived.Test.YtbbccjoknohfpaaWEqStruct
import Derived.Test.YtbbccjoknohfpaaWRepsOne
import Derived.Test.YtbbccjoknohfpaaWInv
import Derived.Test.YtbbccjoknohfpaaWInvWords
import Derived.Test.YtbbccjoknohfpaaWGuard
import Derived.Test.YtbbccjoknohfpaaWNEv
import Derived.Test.YtbbccjoknohfpaaWMore
namespace Go.Proofs.Ytbbccjoknohfpaa.P
open Go.RowKit Go.Proofs.YtbbccjoknohfpaaW.PrintWords Go.Proofs.YtbbccjoknohfpaaW.PrintLast Go.Proofs.YtbbccjoknohfpaaW.PrintMore
attribute [local go_sem] max2_int min2_int max_two min_two max_three min_three max_four min_four   -- for this text's walks alone
set_option linter.unusedVariables false
set_option linter.unusedSimpArgs false



def errW : Option Int → Value
  | none => .nilIface
  | some c => .iface 0 (.int .i64 c)
theorem errW_none : errW none = .nilIface := rfl
theorem errW_some (c : Int) : errW (some c) = .iface 0 (.int .i64 c) := rfl

theorem info3 : (Try.prog.info? 3).map (fun i => (i.zero, i.size, i.bytes)) = some (some (.int .i64 0), 1, 8) := by kernel_rfl
theorem info5 : (Try.prog.info? 5).map (fun i => (i.zero, i.size, i.bytes)) = some (some (.int .u8 0), 1, 1) := by kernel_rfl
-- the values' own types

end Go.Proofs.Ytbbccjoknohfpaa.P
