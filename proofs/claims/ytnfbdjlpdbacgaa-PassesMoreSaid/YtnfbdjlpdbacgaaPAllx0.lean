/- Written by a program of this session: functions of the given program as plain Lean functions, the walks that show it, and the row of each law, for every input that its statement speaks of. -/
import Derived.Test.YtnfbdjlpdbacgaaProg
import Derived.StillTailTactics
import Derived.Below
import Derived.Deep.Draws
import Derived.Deep.AppendLies
import Derived.Maps.AppendAt
import Derived.OwnWalk
import Derived.Laws.BytesArg
import Derived.Laws.MakeOwn
import Derived.Laws.OwnMore
import Derived.Deep.OwnRows
import Derived.Tactics
import Derived.Lib.ConvBytes
import Derived.Laws.Slices
import Derived.WalkKit
import Derived.KernelRfl
import Derived.RowKit3
import Derived.Deep.LoopGhost
import Derived.Deep.QuietTactic
import Derived.BigQuiet
import Derived.WideLaws
import Derived.Deep.DeepCutAuto
import Derived.Deep.CutBlock
import Derived.Deep.RegionHeld3
import Derived.Laws.Rows
import Derived.Lib.AppendStr
import Derived.ArgAppend
import Derived.Laws.IdiomCopy
import Derived.OrdersHeld
import Derived.Laws.BitsLemmas
import Derived.RowKit
import Derived.Test.YtnfbdjlpdbacgaaWWords
import Derived.Test.YtnfbdjlpdbacgaaWLast
import Derived.Test.YtnfbdjlpdbacgaaWTab
import Derived.Test.YtnfbdjlpdbacgaaWFour
import Derived.Test.YtnfbdjlpdbacgaaWQPut
import Derived.Test.YtnfbdjlpdbacgaaWApart
import Derived.Test.YtnfbdjlpdbacgaaWArr
import Derived.Test.YtnfbdjlpdbacgaaWZeros
import Derived.Test.YtnfbdjlpdbacgaaWFoot
import Derived.Test.YtnfbdjlpdbacgaaWKept
import Derived.Test.YtnfbdjlpdbacgaaWShare
import Derived.Test.YtnfbdjlpdbacgaaWN
import Derived.Test.YtnfbdjlpdbacgaaWFootNe
import Derived.Test.YtnfbdjlpdbacgaaWAt
import Derived.Test.YtnfbdjlpdbacgaaWEqStruct
import Derived.Test.YtnfbdjlpdbacgaaWRepsOne
import Derived.Test.YtnfbdjlpdbacgaaWInv
import Derived.Test.YtnfbdjlpdbacgaaWInvWords
import Derived.Test.YtnfbdjlpdbacgaaWGuard
import Derived.Test.YtnfbdjlpdbacgaaWNEv
import Derived.Test.YtnfbdjlpdbacgaaWMore
namespace Go.Proofs.Ytnfbdjlpdbacgaa.PAll
open Go.RowKit Go.Proofs.YtnfbdjlpdbacgaaW.PrintWords Go.Proofs.YtnfbdjlpdbacgaaW.PrintLast Go.Proofs.YtnfbdjlpdbacgaaW.PrintMore
attribute [local go_sem] max2_int min2_int max_two min_two max_three min_three max_four min_four   -- for this text's walks alone
set_option linter.unusedVariables false
set_option linter.unusedSimpArgs false



def errW : Option Int → Value
  | none => .nilIface
  | some c => .iface 0 (.int .i64 c)
theorem errW_none : errW none = .nilIface := rfl
theorem errW_some (c : Int) : errW (some c) = .iface 0 (.int .i64 c) := rfl

theorem info3 : (Try.prog.info? 3).map (fun i => (i.zero, i.size, i.bytes)) = some (some (.int .i64 0), 1, 8) := by kernel_rfl
-- the values' own types

end Go.Proofs.Ytnfbdjlpdbacgaa.PAll
