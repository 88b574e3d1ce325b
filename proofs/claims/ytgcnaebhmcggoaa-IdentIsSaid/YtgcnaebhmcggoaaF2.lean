/- What is proved: the Go functions that the law reaches come to what the Lean functions beside them tell, and (in the text of the law) the given statement follows. Conditions: none beyond each theorem's own. Written by a program (a turned copy of the kit's print.py), some walks by hand. -/
import Derived.Test.YtgcnaebhmcggoaaF0
namespace Go.Proofs.Ytgcnaebhmcggoaa.F
open Go.RowKit Go.Proofs.YtgcnaebhmcggoaaW.PrintWords Go.Proofs.YtgcnaebhmcggoaaW.PrintLast Go.Proofs.YtgcnaebhmcggoaaW.PrintMore
attribute [local go_sem] max2_int min2_int max_two min_two max_three min_three max_four min_four   -- for this text's walks alone
set_option linter.unusedVariables false
set_option linter.unusedSimpArgs false

theorem eqA40 (d : Nat) (w : World) (x0 y0 : Int) (x1 y1 : Int) (x2 y2 : Int) :
    (Op.equalIn (d + 2) 40 (.agg #[.int .u8 x0, .int .u64 x1, .int .u64 x2]) (.agg #[.int .u8 y0, .int .u64 y1, .int .u64 y2])).run Try.prog w = .ok (x0 == y0 && (x1 == y1 && (x2 == y2))) w := by
  refine eqA_of Try.underlying40 (by kernel_rfl) ?_
  refine eqf_cons (by rfl) (by go_simp; rfl) (by go_simp; rfl) (by go_simp) ?_
  refine eqf_cons (by rfl) (by go_simp; rfl) (by go_simp; rfl) (by go_simp) ?_
  exact eqf_last (by rfl) (by go_simp; rfl) (by go_simp; rfl) (by go_simp)
end Go.Proofs.Ytgcnaebhmcggoaa.F
