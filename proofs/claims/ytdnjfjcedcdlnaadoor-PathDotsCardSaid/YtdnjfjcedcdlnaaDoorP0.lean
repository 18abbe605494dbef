-- printed by wip/tools/pr.py, a program of this session's, with the kit's print.py
import Derived.Test.YtdnjfjcedcdlnaaDoorProg
import Derived.Below
import Derived.Deep.Draws
import Derived.Deep.AppendLies
import Derived.Maps.AppendAt
import Derived.OwnWalk
import Derived.Laws.BytesArg
import Derived.Laws.MakeOwn
import Derived.Laws.OwnMore
import Derived.Deep.OwnRows
import Derived.Tactics
import Derived.Lib.ConvBytes
import Derived.Laws.Slices
import Derived.WalkKit
import Derived.KernelRfl
import Derived.RowKit3
import Derived.Deep.LoopGhost
import Derived.Deep.QuietTactic
import Derived.BigQuiet
import Derived.WideLaws
import Derived.Deep.DeepCutAuto
import Derived.Deep.CutBlock
import Derived.Deep.RegionHeld3
import Derived.Laws.Rows
import Derived.Lib.AppendStr
import Derived.ArgAppend
import Derived.Laws.IdiomCopy
import Derived.OrdersHeld
import Derived.Laws.BitsLemmas
import Derived.RowKit
import Derived.Test.YtdnjfjcedcdlnaaDoorWWords
import Derived.Test.YtdnjfjcedcdlnaaDoorWLast
import Derived.Test.YtdnjfjcedcdlnaaDoorWTab
import Derived.Test.YtdnjfjcedcdlnaaDoorWFour
import Derived.Test.YtdnjfjcedcdlnaaDoorWQPut
import Derived.Test.YtdnjfjcedcdlnaaDoorWApart
import Derived.Test.YtdnjfjcedcdlnaaDoorWArr
import Derived.Test.YtdnjfjcedcdlnaaDoorWZeros
import Derived.Test.YtdnjfjcedcdlnaaDoorWFoot
import Derived.Test.YtdnjfjcedcdlnaaDoorWKept
import Derived.Test.YtdnjfjcedcdlnaaDoorWShare
import Derived.Test.YtdnjfjcedcdlnaaDoorWN
import Derived.Test.YtdnjfjcedcdlnaaDoorWFootNe
import Derived.Test.YtdnjfjcedcdlnaaDoorWAt
import Derived.Test.YtdnjfjcedcdlnaaDoorWEqStruct
import Derived.Test.YtdnjfjcedcdlnaaDoorWRepsOne
import Derived.Test.YtdnjfjcedcdlnaaDoorWInv
import Derived.Test.YtdnjfjcedcdlnaaDoorWInvWords
import Derived.Test.YtdnjfjcedcdlnaaDoorWGuard
import Derived.Test.YtdnjfjcedcdlnaaDoorWNEv
import Derived.Test.YtdnjfjcedcdlnaaDoorWMore
namespace Go.Proofs.YtdnjfjcedcdlnaaDoor.P
open Go.RowKit Go.Proofs.YtdnjfjcedcdlnaaDoorW.PrintWords Go.Proofs.YtdnjfjcedcdlnaaDoorW.PrintLast Go.Proofs.YtdnjfjcedcdlnaaDoorW.PrintMore
attribute [local go_sem] max2_int min2_int max_two min_two max_three min_three max_four min_four
set_option linter.unusedVariables false
set_option linter.unusedSimpArgs false

def errW : Option Int → Value
  | none => .nilIface
  | some c => .iface 0 (.int .i64 c)
theorem errW_none : errW none = .nilIface := rfl
theorem errW_some (c : Int) : errW (some c) = .iface 0 (.int .i64 c) := rfl

theorem info9 : (Tryd.prog.info? 9).map (fun i => (i.zero, i.size, i.bytes)) = some (some (.string ⟨#[]⟩), 1, 16) := by kernel_rfl

end Go.Proofs.YtdnjfjcedcdlnaaDoor.P
