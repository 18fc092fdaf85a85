-- written by a program of this session (wip/tools/xprint.py)
import Derived.Test.YtndfmgdpajcbdaaProg
import Derived.Below
import Derived.Deep.Draws
import Derived.Deep.AppendLies
import Derived.Maps.AppendAt
import Derived.OwnWalk
import Derived.Laws.BytesArg
import Derived.Laws.MakeOwn
import Derived.Laws.OwnMore
import Derived.Deep.OwnRows
import Derived.Tactics
import Derived.Lib.ConvBytes
import Derived.Laws.Slices
import Derived.WalkKit
import Derived.KernelRfl
import Derived.RowKit3
import Derived.Deep.LoopGhost
import Derived.Deep.QuietTactic
import Derived.BigQuiet
import Derived.WideLaws
import Derived.Deep.DeepCutAuto
import Derived.Deep.CutBlock
import Derived.Deep.RegionHeld3
import Derived.Laws.Rows
import Derived.Lib.AppendStr
import Derived.ArgAppend
import Derived.Laws.IdiomCopy
import Derived.OrdersHeld
import Derived.Laws.BitsLemmas
import Derived.RowKit
import Derived.Test.YtndfmgdpajcbdaaShelf
import Derived.Test.YtndfmgdpajcbdaaWWords
import Derived.Test.YtndfmgdpajcbdaaWLast
import Derived.Test.YtndfmgdpajcbdaaWTab
import Derived.Test.YtndfmgdpajcbdaaWFour
import Derived.Test.YtndfmgdpajcbdaaWQPut
import Derived.Test.YtndfmgdpajcbdaaWApart
import Derived.Test.YtndfmgdpajcbdaaWArr
import Derived.Test.YtndfmgdpajcbdaaWZeros
import Derived.Test.YtndfmgdpajcbdaaWFoot
import Derived.Test.YtndfmgdpajcbdaaWKept
import Derived.Test.YtndfmgdpajcbdaaWShare
import Derived.Test.YtndfmgdpajcbdaaWN
import Derived.Test.YtndfmgdpajcbdaaWFootNe
import Derived.Test.YtndfmgdpajcbdaaWAt
import Derived.Test.YtndfmgdpajcbdaaWEqStruct
import Derived.Test.YtndfmgdpajcbdaaWRepsOne
import Derived.Test.YtndfmgdpajcbdaaWInv
import Derived.Test.YtndfmgdpajcbdaaWInvWords
import Derived.Test.YtndfmgdpajcbdaaWGuard
import Derived.Test.YtndfmgdpajcbdaaWNEv
import Derived.Test.YtndfmgdpajcbdaaWMore
namespace Go.Proofs.Ytndfmgdpajcbdaa.PCl
open Go.RowKit Go.Proofs.YtndfmgdpajcbdaaW.PrintWords Go.Proofs.YtndfmgdpajcbdaaW.PrintLast Go.Proofs.YtndfmgdpajcbdaaW.PrintMore
attribute [local go_sem] max2_int min2_int max_two min_two max_three min_three max_four min_four   -- for this text's walks alone
set_option linter.unusedVariables false
set_option linter.unusedSimpArgs false



def errW : Option Int → Value
  | none => .nilIface
  | some c => .iface 0 (.int .i64 c)
theorem errW_none : errW none = .nilIface := rfl
theorem errW_some (c : Int) : errW (some c) = .iface 0 (.int .i64 c) := rfl

theorem info3 : (Try.prog.info? 3).map (fun i => (i.zero, i.size, i.bytes)) = some (some (.int .i64 0), 1, 8) := by kernel_rfl
theorem info5 : (Try.prog.info? 5).map (fun i => (i.zero, i.size, i.bytes)) = some (some (.int .u8 0), 1, 1) := by kernel_rfl
-- the values' own types

end Go.Proofs.Ytndfmgdpajcbdaa.PCl
