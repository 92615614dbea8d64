-- Written by a program of this session (wip/gen): functions and their contracts.
import Derived.Test.YtihaochmebejbaaProg
import Derived.Below
import Derived.Deep.Draws
import Derived.Deep.AppendLies
import Derived.Maps.AppendAt
import Derived.OwnWalk
import Derived.Laws.BytesArg
import Derived.Laws.MakeOwn
import Derived.Laws.OwnMore
import Derived.Deep.OwnRows
import Derived.Tactics
import Derived.Lib.ConvBytes
import Derived.Laws.Slices
import Derived.WalkKit
import Derived.KernelRfl
import Derived.RowKit3
import Derived.Deep.LoopGhost
import Derived.Deep.QuietTactic
import Derived.BigQuiet
import Derived.WideLaws
import Derived.Deep.DeepCutAuto
import Derived.Deep.CutBlock
import Derived.Deep.RegionHeld3
import Derived.Laws.Rows
import Derived.Lib.AppendStr
import Derived.ArgAppend
import Derived.Laws.IdiomCopy
import Derived.OrdersHeld
import Derived.Laws.BitsLemmas
import Derived.RowKit
import Derived.Test.YtihaochmebejbaaWWords
import Derived.Test.YtihaochmebejbaaWLast
import Derived.Test.YtihaochmebejbaaWTab
import Derived.Test.YtihaochmebejbaaWFour
import Derived.Test.YtihaochmebejbaaWQPut
import Derived.Test.YtihaochmebejbaaWApart
import Derived.Test.YtihaochmebejbaaWArr
import Derived.Test.YtihaochmebejbaaWZeros
import Derived.Test.YtihaochmebejbaaWFoot
import Derived.Test.YtihaochmebejbaaWKept
import Derived.Test.YtihaochmebejbaaWShare
import Derived.Test.YtihaochmebejbaaWN
import Derived.Test.YtihaochmebejbaaWFootNe
import Derived.Test.YtihaochmebejbaaWAt
import Derived.Test.YtihaochmebejbaaWEqStruct
import Derived.Test.YtihaochmebejbaaWRepsOne
import Derived.Test.YtihaochmebejbaaWInv
import Derived.Test.YtihaochmebejbaaWInvWords
import Derived.Test.YtihaochmebejbaaWGuard
import Derived.Test.YtihaochmebejbaaWNEv
import Derived.Test.YtihaochmebejbaaWMore
namespace Go.Proofs.Ytihaochmebejbaa.POTurn
open Go.RowKit Go.Proofs.YtihaochmebejbaaW.PrintWords Go.Proofs.YtihaochmebejbaaW.PrintLast Go.Proofs.YtihaochmebejbaaW.PrintMore
attribute [local go_sem] max2_int min2_int max_two min_two max_three min_three max_four min_four   -- for this text's walks alone
set_option linter.unusedVariables false
set_option linter.unusedSimpArgs false



def errW : Option Int → Value
  | none => .nilIface
  | some c => .iface 0 (.int .i64 c)
theorem errW_none : errW none = .nilIface := rfl
theorem errW_some (c : Int) : errW (some c) = .iface 0 (.int .i64 c) := rfl

theorem info3 : (Try.prog.info? 3).map (fun i => (i.zero, i.size, i.bytes)) = some (some (.int .i64 0), 1, 8) := by kernel_rfl
-- the values' own types

end Go.Proofs.Ytihaochmebejbaa.POTurn
