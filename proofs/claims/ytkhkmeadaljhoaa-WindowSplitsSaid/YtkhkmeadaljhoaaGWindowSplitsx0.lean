-- WRITTEN BY giv.py, a program of this session (wip/giv.py), over the kit's printer: not a printed text
import Derived.Test.YtkhkmeadaljhoaaProg
import Derived.Below
import Derived.Deep.Draws
import Derived.Deep.AppendLies
import Derived.Maps.AppendAt
import Derived.OwnWalk
import Derived.Laws.BytesArg
import Derived.Laws.MakeOwn
import Derived.Laws.OwnMore
import Derived.Deep.OwnRows
import Derived.Tactics
import Derived.Lib.ConvBytes
import Derived.Laws.Slices
import Derived.WalkKit
import Derived.KernelRfl
import Derived.RowKit3
import Derived.Deep.LoopGhost
import Derived.Deep.QuietTactic
import Derived.BigQuiet
import Derived.WideLaws
import Derived.Deep.DeepCutAuto
import Derived.Deep.CutBlock
import Derived.Deep.RegionHeld3
import Derived.Laws.Rows
import Derived.Lib.AppendStr
import Derived.ArgAppend
import Derived.Laws.IdiomCopy
import Derived.OrdersHeld
import Derived.Laws.BitsLemmas
import Derived.RowKit
import Derived.Test.YtkhkmeadaljhoaaGiven
import Derived.Test.YtkhkmeadaljhoaaWWords
import Derived.Test.YtkhkmeadaljhoaaWLast
import Derived.Test.YtkhkmeadaljhoaaWTab
import Derived.Test.YtkhkmeadaljhoaaWFour
import Derived.Test.YtkhkmeadaljhoaaWQPut
import Derived.Test.YtkhkmeadaljhoaaWApart
import Derived.Test.YtkhkmeadaljhoaaWArr
import Derived.Test.YtkhkmeadaljhoaaWZeros
import Derived.Test.YtkhkmeadaljhoaaWFoot
import Derived.Test.YtkhkmeadaljhoaaWKept
import Derived.Test.YtkhkmeadaljhoaaWShare
import Derived.Test.YtkhkmeadaljhoaaWN
import Derived.Test.YtkhkmeadaljhoaaWFootNe
import Derived.Test.YtkhkmeadaljhoaaWAt
import Derived.Test.YtkhkmeadaljhoaaWEqStruct
import Derived.Test.YtkhkmeadaljhoaaWRepsOne
import Derived.Test.YtkhkmeadaljhoaaWInv
import Derived.Test.YtkhkmeadaljhoaaWInvWords
import Derived.Test.YtkhkmeadaljhoaaWGuard
import Derived.Test.YtkhkmeadaljhoaaWNEv
import Derived.Test.YtkhkmeadaljhoaaWMore
namespace Go.Proofs.Ytkhkmeadaljhoaa.GWindowSplits
open Go.RowKit Go.Proofs.YtkhkmeadaljhoaaW.PrintWords Go.Proofs.YtkhkmeadaljhoaaW.PrintLast Go.Proofs.YtkhkmeadaljhoaaW.PrintMore
attribute [local go_sem] max2_int min2_int max_two min_two max_three min_three max_four min_four   -- for this text's walks alone
set_option linter.unusedVariables false
set_option linter.unusedSimpArgs false



def errW : Option Int → Value
  | none => .nilIface
  | some c => .iface 0 (.int .i64 c)
theorem errW_none : errW none = .nilIface := rfl
theorem errW_some (c : Int) : errW (some c) = .iface 0 (.int .i64 c) := rfl

theorem info3 : (Try.prog.info? 3).map (fun i => (i.zero, i.size, i.bytes)) = some (some (.int .i64 0), 1, 8) := by kernel_rfl
-- the values' own types

end Go.Proofs.Ytkhkmeadaljhoaa.GWindowSplits
