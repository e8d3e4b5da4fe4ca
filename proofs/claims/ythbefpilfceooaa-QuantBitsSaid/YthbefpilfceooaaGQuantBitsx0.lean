-- WRITTEN BY giv.py, a program of this session (wip/giv.py), over the kit's printer: not a printed text
import Derived.Test.YthbefpilfceooaaProg
import Derived.Below
import Derived.Deep.Draws
import Derived.Deep.AppendLies
import Derived.Maps.AppendAt
import Derived.OwnWalk
import Derived.Laws.BytesArg
import Derived.Laws.MakeOwn
import Derived.Laws.OwnMore
import Derived.Deep.OwnRows
import Derived.Tactics
import Derived.Lib.ConvBytes
import Derived.Laws.Slices
import Derived.WalkKit
import Derived.KernelRfl
import Derived.RowKit3
import Derived.Deep.LoopGhost
import Derived.Deep.QuietTactic
import Derived.BigQuiet
import Derived.WideLaws
import Derived.Deep.DeepCutAuto
import Derived.Deep.CutBlock
import Derived.Deep.RegionHeld3
import Derived.Laws.Rows
import Derived.Lib.AppendStr
import Derived.ArgAppend
import Derived.Laws.IdiomCopy
import Derived.OrdersHeld
import Derived.Laws.BitsLemmas
import Derived.RowKit
import Derived.Test.YthbefpilfceooaaWWords
import Derived.Test.YthbefpilfceooaaWLast
import Derived.Test.YthbefpilfceooaaWTab
import Derived.Test.YthbefpilfceooaaWFour
import Derived.Test.YthbefpilfceooaaWQPut
import Derived.Test.YthbefpilfceooaaWApart
import Derived.Test.YthbefpilfceooaaWArr
import Derived.Test.YthbefpilfceooaaWZeros
import Derived.Test.YthbefpilfceooaaWFoot
import Derived.Test.YthbefpilfceooaaWKept
import Derived.Test.YthbefpilfceooaaWShare
import Derived.Test.YthbefpilfceooaaWN
import Derived.Test.YthbefpilfceooaaWFootNe
import Derived.Test.YthbefpilfceooaaWAt
import Derived.Test.YthbefpilfceooaaWEqStruct
import Derived.Test.YthbefpilfceooaaWRepsOne
import Derived.Test.YthbefpilfceooaaWInv
import Derived.Test.YthbefpilfceooaaWInvWords
import Derived.Test.YthbefpilfceooaaWGuard
import Derived.Test.YthbefpilfceooaaWNEv
import Derived.Test.YthbefpilfceooaaWMore
namespace Go.Proofs.Ythbefpilfceooaa.GQuantBits
open Go.RowKit Go.Proofs.YthbefpilfceooaaW.PrintWords Go.Proofs.YthbefpilfceooaaW.PrintLast Go.Proofs.YthbefpilfceooaaW.PrintMore
attribute [local go_sem] max2_int min2_int max_two min_two max_three min_three max_four min_four   -- for this text's walks alone
set_option linter.unusedVariables false
set_option linter.unusedSimpArgs false



def errW : Option Int → Value
  | none => .nilIface
  | some c => .iface 0 (.int .i64 c)
theorem errW_none : errW none = .nilIface := rfl
theorem errW_some (c : Int) : errW (some c) = .iface 0 (.int .i64 c) := rfl

theorem info3 : (Try.prog.info? 3).map (fun i => (i.zero, i.size, i.bytes)) = some (some (.int .i64 0), 1, 8) := by kernel_rfl
-- the values' own types

end Go.Proofs.Ythbefpilfceooaa.GQuantBits
