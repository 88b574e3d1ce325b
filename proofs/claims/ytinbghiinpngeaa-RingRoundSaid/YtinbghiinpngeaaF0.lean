/- What is proved: the Go functions that the law reaches come to what the Lean functions beside them tell, and (in the text of the law) the given statement follows. Conditions: none beyond each theorem's own. Written by a program (a turned copy of the kit's print.py), some walks by hand. -/
import Derived.Test.YtinbghiinpngeaaProg
import Derived.Below
import Derived.Deep.Draws
import Derived.Deep.AppendLies
import Derived.Maps.AppendAt
import Derived.OwnWalk
import Derived.Laws.BytesArg
import Derived.Laws.MakeOwn
import Derived.Laws.OwnMore
import Derived.Deep.OwnRows
import Derived.Tactics
import Derived.Lib.ConvBytes
import Derived.Laws.Slices
import Derived.WalkKit
import Derived.KernelRfl
import Derived.RowKit3
import Derived.Deep.LoopGhost
import Derived.Deep.QuietTactic
import Derived.BigQuiet
import Derived.WideLaws
import Derived.Deep.DeepCutAuto
import Derived.Deep.CutBlock
import Derived.Deep.RegionHeld3
import Derived.Laws.Rows
import Derived.Lib.AppendStr
import Derived.ArgAppend
import Derived.Laws.IdiomCopy
import Derived.OrdersHeld
import Derived.Laws.BitsLemmas
import Derived.RowKit
import Derived.Lib.SliceRun
import Derived.Test.YtinbghiinpngeaaWWords
import Derived.Test.YtinbghiinpngeaaWLast
import Derived.Test.YtinbghiinpngeaaWTab
import Derived.Test.YtinbghiinpngeaaWFour
import Derived.Test.YtinbghiinpngeaaWQPut
import Derived.Test.YtinbghiinpngeaaWApart
import Derived.Test.YtinbghiinpngeaaWArr
import Derived.Test.YtinbghiinpngeaaWZeros
import Derived.Test.YtinbghiinpngeaaWFoot
import Derived.Test.YtinbghiinpngeaaWKept
import Derived.Test.YtinbghiinpngeaaWShare
import Derived.Test.YtinbghiinpngeaaWN
import Derived.Test.YtinbghiinpngeaaWFootNe
import Derived.Test.YtinbghiinpngeaaWAt
import Derived.Test.YtinbghiinpngeaaWEqStruct
import Derived.Test.YtinbghiinpngeaaWRepsOne
import Derived.Test.YtinbghiinpngeaaWInv
import Derived.Test.YtinbghiinpngeaaWInvWords
import Derived.Test.YtinbghiinpngeaaWGuard
import Derived.Test.YtinbghiinpngeaaWNEv
import Derived.Test.YtinbghiinpngeaaWMore
namespace Go.Proofs.Ytinbghiinpngeaa.F
open Go.RowKit Go.Proofs.YtinbghiinpngeaaW.PrintWords Go.Proofs.YtinbghiinpngeaaW.PrintLast Go.Proofs.YtinbghiinpngeaaW.PrintMore
attribute [local go_sem] max2_int min2_int max_two min_two max_three min_three max_four min_four   -- for this text's walks alone
set_option linter.unusedVariables false
set_option linter.unusedSimpArgs false



def errW : Option Int → Value
  | none => .nilIface
  | some c => .iface 0 (.int .i64 c)
theorem errW_none : errW none = .nilIface := rfl
theorem errW_some (c : Int) : errW (some c) = .iface 0 (.int .i64 c) := rfl

theorem info3 : (Try.prog.info? 3).map (fun i => (i.zero, i.size, i.bytes)) = some (some (.int .i64 0), 1, 8) := by kernel_rfl
-- the values' own types

end Go.Proofs.Ytinbghiinpngeaa.F
