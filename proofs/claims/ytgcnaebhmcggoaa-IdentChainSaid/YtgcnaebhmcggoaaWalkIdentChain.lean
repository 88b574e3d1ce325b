/- Of two ids that are not the same one stands ahead; who stands ahead of one that stands ahead of a third one stands ahead of that. Conditions: none beyond the statement's own. -/
import Derived.Test.YtgcnaebhmcggoaaWalkP1
import Derived.Test.YtgcnaebhmcggoaaArgs
import Derived.Deep.QuietTactic
import Derived.BigQuiet
import Derived.Lib.QuietBelow
import Derived.Outline
import Derived.Deep.RegionHeld3
import Derived.Deep.CutRange
namespace Go.Proofs.Ytgcnaebhmcggoaa.Walk
open Go.RowKit Go.Proofs.Ytgcnaebhmcggoaa.F Go.Proofs.YtgcnaebhmcggoaaW.PrintWords Go.Proofs.YtgcnaebhmcggoaaW.PrintLast Go.Proofs.YtgcnaebhmcggoaaW.PrintMore Go.Proofs.Ytgcnaebhmcggoaa.Open
open Go.Sort (grow)
attribute [local go_sem] max2_int min2_int max_two min_two max_three min_three max_four min_four
set_option linter.unusedVariables false
set_option linter.unusedSimpArgs false

theorem IdentChain (a0 a1 b0 b1 c0 c1 : Int) (w : World) (_ : wf33 ⟨a0, a1⟩) (_ : wf33 ⟨b0, b1⟩) (_ : wf33 ⟨c0, c1⟩) :
    Calls Try.prog 4 #[.agg #[.int .u8 a0, .int .u64 a1], .agg #[.int .u8 b0, .int .u64 b1], .agg #[.int .u8 c0, .int .u64 c1]] w fun e w' => e = .returned (.bool true) ∧ Below w.heap.size w w' := by
  obtain ⟨k, hk⟩ := Chain_eq ⟨a0, a1⟩ ⟨b0, b1⟩ ⟨c0, c1⟩
  exact unisonlaw03_IdentChain.calls k a0 a1 b0 b1 c0 c1 true w hk

end Go.Proofs.Ytgcnaebhmcggoaa.Walk
