/- Written for this claim by a program of the session: Go functions that the law reaches as plain Lean functions, each with the proof that its call comes to just that; conditions: those that each theorem names, no other. -/
import Derived.Test.YtmgocfcbkejgdaaProg
import Derived.Below
import Derived.Deep.Draws
import Derived.Deep.AppendLies
import Derived.Maps.AppendAt
import Derived.OwnWalk
import Derived.Laws.BytesArg
import Derived.Laws.MakeOwn
import Derived.Laws.OwnMore
import Derived.Deep.OwnRows
import Derived.Tactics
import Derived.Lib.ConvBytes
import Derived.Laws.Slices
import Derived.WalkKit
import Derived.KernelRfl
import Derived.RowKit3
import Derived.Deep.LoopGhost
import Derived.Deep.QuietTactic
import Derived.BigQuiet
import Derived.WideLaws
import Derived.Deep.DeepCutAuto
import Derived.Deep.CutBlock
import Derived.Deep.RegionHeld3
import Derived.Laws.Rows
import Derived.Lib.AppendStr
import Derived.ArgAppend
import Derived.Laws.IdiomCopy
import Derived.OrdersHeld
import Derived.Laws.BitsLemmas
import Derived.RowKit
import Derived.Test.YtmgocfcbkejgdaaWWords
import Derived.Test.YtmgocfcbkejgdaaWLast
import Derived.Test.YtmgocfcbkejgdaaWTab
import Derived.Test.YtmgocfcbkejgdaaWFour
import Derived.Test.YtmgocfcbkejgdaaWQPut
import Derived.Test.YtmgocfcbkejgdaaWApart
import Derived.Test.YtmgocfcbkejgdaaWArr
import Derived.Test.YtmgocfcbkejgdaaWZeros
import Derived.Test.YtmgocfcbkejgdaaWFoot
import Derived.Test.YtmgocfcbkejgdaaWKept
import Derived.Test.YtmgocfcbkejgdaaWShare
import Derived.Test.YtmgocfcbkejgdaaWN
import Derived.Test.YtmgocfcbkejgdaaWFootNe
import Derived.Test.YtmgocfcbkejgdaaWAt
import Derived.Test.YtmgocfcbkejgdaaWEqStruct
import Derived.Test.YtmgocfcbkejgdaaWRepsOne
import Derived.Test.YtmgocfcbkejgdaaWInv
import Derived.Test.YtmgocfcbkejgdaaWInvWords
import Derived.Test.YtmgocfcbkejgdaaWGuard
import Derived.Test.YtmgocfcbkejgdaaWNEv
import Derived.Test.YtmgocfcbkejgdaaWMore
namespace Go.Proofs.Ytmgocfcbkejgdaa.PRankCompares
open Go.RowKit Go.Proofs.YtmgocfcbkejgdaaW.PrintWords Go.Proofs.YtmgocfcbkejgdaaW.PrintLast Go.Proofs.YtmgocfcbkejgdaaW.PrintMore
attribute [local go_sem] max2_int min2_int max_two min_two max_three min_three max_four min_four   -- for this text's walks alone
set_option linter.unusedVariables false
set_option linter.unusedSimpArgs false



def errW : Option Int → Value
  | none => .nilIface
  | some c => .iface 0 (.int .i64 c)
theorem errW_none : errW none = .nilIface := rfl
theorem errW_some (c : Int) : errW (some c) = .iface 0 (.int .i64 c) := rfl

-- the values' own types

end Go.Proofs.Ytmgocfcbkejgdaa.PRankCompares
