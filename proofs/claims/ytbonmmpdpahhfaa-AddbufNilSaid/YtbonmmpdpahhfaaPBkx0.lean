-- written by a program of this session (wip/tools/xprint.py)
import Derived.Test.YtbonmmpdpahhfaaProg
import Derived.Below
import Derived.Deep.Draws
import Derived.Deep.AppendLies
import Derived.Maps.AppendAt
import Derived.OwnWalk
import Derived.Laws.BytesArg
import Derived.Laws.MakeOwn
import Derived.Laws.OwnMore
import Derived.Deep.OwnRows
import Derived.Tactics
import Derived.Lib.ConvBytes
import Derived.Laws.Slices
import Derived.WalkKit
import Derived.KernelRfl
import Derived.RowKit3
import Derived.Deep.LoopGhost
import Derived.Deep.QuietTactic
import Derived.BigQuiet
import Derived.WideLaws
import Derived.Deep.DeepCutAuto
import Derived.Deep.CutBlock
import Derived.Deep.RegionHeld3
import Derived.Laws.Rows
import Derived.Lib.AppendStr
import Derived.ArgAppend
import Derived.Laws.IdiomCopy
import Derived.OrdersHeld
import Derived.Laws.BitsLemmas
import Derived.RowKit
import Derived.Test.YtbonmmpdpahhfaaAwake
import Derived.Test.YtbonmmpdpahhfaaWWords
import Derived.Test.YtbonmmpdpahhfaaWLast
import Derived.Test.YtbonmmpdpahhfaaWTab
import Derived.Test.YtbonmmpdpahhfaaWFour
import Derived.Test.YtbonmmpdpahhfaaWQPut
import Derived.Test.YtbonmmpdpahhfaaWApart
import Derived.Test.YtbonmmpdpahhfaaWArr
import Derived.Test.YtbonmmpdpahhfaaWZeros
import Derived.Test.YtbonmmpdpahhfaaWFoot
import Derived.Test.YtbonmmpdpahhfaaWKept
import Derived.Test.YtbonmmpdpahhfaaWShare
import Derived.Test.YtbonmmpdpahhfaaWN
import Derived.Test.YtbonmmpdpahhfaaWFootNe
import Derived.Test.YtbonmmpdpahhfaaWAt
import Derived.Test.YtbonmmpdpahhfaaWEqStruct
import Derived.Test.YtbonmmpdpahhfaaWRepsOne
import Derived.Test.YtbonmmpdpahhfaaWInv
import Derived.Test.YtbonmmpdpahhfaaWInvWords
import Derived.Test.YtbonmmpdpahhfaaWGuard
import Derived.Test.YtbonmmpdpahhfaaWNEv
import Derived.Test.YtbonmmpdpahhfaaWMore
namespace Go.Proofs.Ytbonmmpdpahhfaa.PBk
open Go.RowKit Go.Proofs.YtbonmmpdpahhfaaW.PrintWords Go.Proofs.YtbonmmpdpahhfaaW.PrintLast Go.Proofs.YtbonmmpdpahhfaaW.PrintMore
attribute [local go_sem] max2_int min2_int max_two min_two max_three min_three max_four min_four   -- for this text's walks alone
set_option linter.unusedVariables false
set_option linter.unusedSimpArgs false



def errW : Option Int → Value
  | none => .nilIface
  | some c => .iface 0 (.int .i64 c)
theorem errW_none : errW none = .nilIface := rfl
theorem errW_some (c : Int) : errW (some c) = .iface 0 (.int .i64 c) := rfl

-- the values' own types

end Go.Proofs.Ytbonmmpdpahhfaa.PBk
