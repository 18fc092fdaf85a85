-- written by a program of this session (wip/tools/xprint.py)
import Derived.Test.YtghoeadmimgfnaaProg
import Derived.Below
import Derived.Deep.Draws
import Derived.Deep.AppendLies
import Derived.Maps.AppendAt
import Derived.OwnWalk
import Derived.Laws.BytesArg
import Derived.Laws.MakeOwn
import Derived.Laws.OwnMore
import Derived.Deep.OwnRows
import Derived.Tactics
import Derived.Lib.ConvBytes
import Derived.Laws.Slices
import Derived.WalkKit
import Derived.KernelRfl
import Derived.RowKit3
import Derived.Deep.LoopGhost
import Derived.Deep.QuietTactic
import Derived.BigQuiet
import Derived.WideLaws
import Derived.Deep.DeepCutAuto
import Derived.Deep.CutBlock
import Derived.Deep.RegionHeld3
import Derived.Laws.Rows
import Derived.Lib.AppendStr
import Derived.ArgAppend
import Derived.Laws.IdiomCopy
import Derived.OrdersHeld
import Derived.Laws.BitsLemmas
import Derived.RowKit
import Derived.Test.YtghoeadmimgfnaaMw
import Derived.Test.YtghoeadmimgfnaaAlive
import Derived.Test.YtghoeadmimgfnaaWWords
import Derived.Test.YtghoeadmimgfnaaWLast
import Derived.Test.YtghoeadmimgfnaaWTab
import Derived.Test.YtghoeadmimgfnaaWFour
import Derived.Test.YtghoeadmimgfnaaWQPut
import Derived.Test.YtghoeadmimgfnaaWApart
import Derived.Test.YtghoeadmimgfnaaWArr
import Derived.Test.YtghoeadmimgfnaaWZeros
import Derived.Test.YtghoeadmimgfnaaWFoot
import Derived.Test.YtghoeadmimgfnaaWKept
import Derived.Test.YtghoeadmimgfnaaWShare
import Derived.Test.YtghoeadmimgfnaaWN
import Derived.Test.YtghoeadmimgfnaaWFootNe
import Derived.Test.YtghoeadmimgfnaaWAt
import Derived.Test.YtghoeadmimgfnaaWEqStruct
import Derived.Test.YtghoeadmimgfnaaWRepsOne
import Derived.Test.YtghoeadmimgfnaaWInv
import Derived.Test.YtghoeadmimgfnaaWInvWords
import Derived.Test.YtghoeadmimgfnaaWGuard
import Derived.Test.YtghoeadmimgfnaaWNEv
import Derived.Test.YtghoeadmimgfnaaWMore
namespace Go.Proofs.Ytghoeadmimgfnaa.PWb
open Go.RowKit Go.Proofs.YtghoeadmimgfnaaW.PrintWords Go.Proofs.YtghoeadmimgfnaaW.PrintLast Go.Proofs.YtghoeadmimgfnaaW.PrintMore
attribute [local go_sem] max2_int min2_int max_two min_two max_three min_three max_four min_four   -- for this text's walks alone
set_option linter.unusedVariables false
set_option linter.unusedSimpArgs false



def errW : Option Int → Value
  | none => .nilIface
  | some c => .iface 0 (.int .i64 c)
theorem errW_none : errW none = .nilIface := rfl
theorem errW_some (c : Int) : errW (some c) = .iface 0 (.int .i64 c) := rfl

theorem info9 : (Try.prog.info? 9).map (fun i => (i.zero, i.size, i.bytes)) = some (some (.string ⟨#[]⟩), 1, 16) := by kernel_rfl
-- the values' own types

end Go.Proofs.Ytghoeadmimgfnaa.PWb
