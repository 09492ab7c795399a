/- Written for this claim by a program of the session: Go functions that the law reaches as plain Lean functions, each with the proof that its call comes to just that; conditions: those that each theorem names, no other. -/
import Derived.Test.YtfepnokgadacnaaProg
import Derived.Below
import Derived.Deep.Draws
import Derived.Deep.AppendLies
import Derived.Maps.AppendAt
import Derived.OwnWalk
import Derived.Laws.BytesArg
import Derived.Laws.MakeOwn
import Derived.Laws.OwnMore
import Derived.Deep.OwnRows
import Derived.Tactics
import Derived.Lib.ConvBytes
import Derived.Laws.Slices
import Derived.WalkKit
import Derived.KernelRfl
import Derived.RowKit3
import Derived.Deep.LoopGhost
import Derived.Deep.QuietTactic
import Derived.BigQuiet
import Derived.WideLaws
import Derived.Deep.DeepCutAuto
import Derived.Deep.CutBlock
import Derived.Deep.RegionHeld3
import Derived.Laws.Rows
import Derived.Lib.AppendStr
import Derived.ArgAppend
import Derived.Laws.IdiomCopy
import Derived.OrdersHeld
import Derived.Laws.BitsLemmas
import Derived.RowKit
import Derived.Test.YtfepnokgadacnaaWWords
import Derived.Test.YtfepnokgadacnaaWLast
import Derived.Test.YtfepnokgadacnaaWTab
import Derived.Test.YtfepnokgadacnaaWFour
import Derived.Test.YtfepnokgadacnaaWQPut
import Derived.Test.YtfepnokgadacnaaWApart
import Derived.Test.YtfepnokgadacnaaWArr
import Derived.Test.YtfepnokgadacnaaWZeros
import Derived.Test.YtfepnokgadacnaaWFoot
import Derived.Test.YtfepnokgadacnaaWKept
import Derived.Test.YtfepnokgadacnaaWShare
import Derived.Test.YtfepnokgadacnaaWN
import Derived.Test.YtfepnokgadacnaaWFootNe
import Derived.Test.YtfepnokgadacnaaWAt
import Derived.Test.YtfepnokgadacnaaWEqStruct
import Derived.Test.YtfepnokgadacnaaWRepsOne
import Derived.Test.YtfepnokgadacnaaWInv
import Derived.Test.YtfepnokgadacnaaWInvWords
import Derived.Test.YtfepnokgadacnaaWGuard
import Derived.Test.YtfepnokgadacnaaWNEv
import Derived.Test.YtfepnokgadacnaaWMore
namespace Go.Proofs.Ytfepnokgadacnaa.PCellBounds
open Go.RowKit Go.Proofs.YtfepnokgadacnaaW.PrintWords Go.Proofs.YtfepnokgadacnaaW.PrintLast Go.Proofs.YtfepnokgadacnaaW.PrintMore
attribute [local go_sem] max2_int min2_int max_two min_two max_three min_three max_four min_four   -- for this text's walks alone
set_option linter.unusedVariables false
set_option linter.unusedSimpArgs false



def errW : Option Int → Value
  | none => .nilIface
  | some c => .iface 0 (.int .i64 c)
theorem errW_none : errW none = .nilIface := rfl
theorem errW_some (c : Int) : errW (some c) = .iface 0 (.int .i64 c) := rfl

theorem info2 : (Try.prog.info? 2).map (fun i => (i.zero, i.size, i.bytes)) = some (some (.int .i64 0), 1, 8) := by kernel_rfl
-- the values' own types

end Go.Proofs.Ytfepnokgadacnaa.PCellBounds
