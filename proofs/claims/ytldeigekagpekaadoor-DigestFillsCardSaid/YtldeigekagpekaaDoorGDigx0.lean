-- WRITTEN BY giv.py, a program of this session (wip/giv.py), over the kit's printer: not a printed text
import Derived.Test.YtldeigekagpekaaDoorProg
import Derived.Below
import Derived.Deep.Draws
import Derived.Deep.AppendLies
import Derived.Maps.AppendAt
import Derived.OwnWalk
import Derived.Laws.BytesArg
import Derived.Laws.MakeOwn
import Derived.Laws.OwnMore
import Derived.Deep.OwnRows
import Derived.Tactics
import Derived.Lib.ConvBytes
import Derived.Laws.Slices
import Derived.WalkKit
import Derived.KernelRfl
import Derived.RowKit3
import Derived.Deep.LoopGhost
import Derived.Deep.QuietTactic
import Derived.BigQuiet
import Derived.WideLaws
import Derived.Deep.DeepCutAuto
import Derived.Deep.CutBlock
import Derived.Deep.RegionHeld3
import Derived.Laws.Rows
import Derived.Lib.AppendStr
import Derived.ArgAppend
import Derived.Laws.IdiomCopy
import Derived.OrdersHeld
import Derived.Laws.BitsLemmas
import Derived.RowKit
import Derived.Test.YtldeigekagpekaaDoorWWords
import Derived.Test.YtldeigekagpekaaDoorWLast
import Derived.Test.YtldeigekagpekaaDoorWTab
import Derived.Test.YtldeigekagpekaaDoorWFour
import Derived.Test.YtldeigekagpekaaDoorWQPut
import Derived.Test.YtldeigekagpekaaDoorWApart
import Derived.Test.YtldeigekagpekaaDoorWArr
import Derived.Test.YtldeigekagpekaaDoorWZeros
import Derived.Test.YtldeigekagpekaaDoorWFoot
import Derived.Test.YtldeigekagpekaaDoorWKept
import Derived.Test.YtldeigekagpekaaDoorWShare
import Derived.Test.YtldeigekagpekaaDoorWN
import Derived.Test.YtldeigekagpekaaDoorWFootNe
import Derived.Test.YtldeigekagpekaaDoorWAt
import Derived.Test.YtldeigekagpekaaDoorWEqStruct
import Derived.Test.YtldeigekagpekaaDoorWRepsOne
import Derived.Test.YtldeigekagpekaaDoorWInv
import Derived.Test.YtldeigekagpekaaDoorWInvWords
import Derived.Test.YtldeigekagpekaaDoorWGuard
import Derived.Test.YtldeigekagpekaaDoorWNEv
import Derived.Test.YtldeigekagpekaaDoorWMore
namespace Go.Proofs.YtldeigekagpekaaDoor.GDig
open Go.RowKit Go.Proofs.YtldeigekagpekaaDoorW.PrintWords Go.Proofs.YtldeigekagpekaaDoorW.PrintLast Go.Proofs.YtldeigekagpekaaDoorW.PrintMore
attribute [local go_sem] max2_int min2_int max_two min_two max_three min_three max_four min_four   -- for this text's walks alone
set_option linter.unusedVariables false
set_option linter.unusedSimpArgs false



def errW : Option Int → Value
  | none => .nilIface
  | some c => .iface 0 (.int .i64 c)
theorem errW_none : errW none = .nilIface := rfl
theorem errW_some (c : Int) : errW (some c) = .iface 0 (.int .i64 c) := rfl

theorem info3 : (Tryd.prog.info? 3).map (fun i => (i.zero, i.size, i.bytes)) = some (some (.int .i64 0), 1, 8) := by kernel_rfl
theorem info5 : (Tryd.prog.info? 5).map (fun i => (i.zero, i.size, i.bytes)) = some (some (.int .u8 0), 1, 1) := by kernel_rfl
-- the values' own types

end Go.Proofs.YtldeigekagpekaaDoor.GDig
