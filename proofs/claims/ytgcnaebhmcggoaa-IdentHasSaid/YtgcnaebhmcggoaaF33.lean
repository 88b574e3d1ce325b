/- What is proved: the Go functions that the law reaches come to what the Lean functions beside them tell, and (in the text of the law) the given statement follows. Conditions: none beyond each theorem's own. Written by a program (a turned copy of the kit's print.py), some walks by hand. -/
import Derived.Test.YtgcnaebhmcggoaaWalkHas
import Derived.Test.YtgcnaebhmcggoaaF0
namespace Go.Proofs.Ytgcnaebhmcggoaa.F
open Go.RowKit Go.Proofs.YtgcnaebhmcggoaaW.PrintWords Go.Proofs.YtgcnaebhmcggoaaW.PrintLast Go.Proofs.YtgcnaebhmcggoaaW.PrintMore
attribute [local go_sem] max2_int min2_int max_two min_two max_three min_three max_four min_four   -- for this text's walks alone
set_option linter.unusedVariables false
set_option linter.unusedSimpArgs false

-- NOT PRINTED: function 44 (api_Run_44)

-- NOT PRINTED: function 36 (api_Run_36)

/-! ### ident_Has: function 23 -/
/-- ident.Has: whether one of some runs has an id. Walked by hand. -/
def ident_Has.f (a0_0 : Int) (a0_1 : Int) (l1 : List S40) : Option Bool := if l1.length ≤ 1000000000000 then some (Go.Proofs.Ytgcnaebhmcggoaa.Walk.hasF ⟨a0_0, a0_1⟩ l1) else none
theorem ident_Has.calls (a0_0 : Int) (a0_1 : Int) (A1 : Option Addr) (c1 : Nat) (l1 : List S40) (r : Bool) (w : World) (hr1 : Kd.C k40 w A1 l1.length l1) (hc1 : l1.length ≤ c1) (h : ident_Has.f a0_0 a0_1 l1 = some r) :
    Calls Try.prog 23 #[.agg #[.int .u8 a0_0, .int .u64 a0_1], .slice A1 l1.length c1] w fun e w' => e = .returned (.bool r) ∧ Below w.heap.size w w' := by
  unfold ident_Has.f at h
  by_cases hl : l1.length ≤ 1000000000000
  · rw [if_pos hl] at h
    obtain rfl := Option.some.inj h
    exact Go.Proofs.Ytgcnaebhmcggoaa.Walk.Has_calls a0_0 a0_1 A1 c1 l1 w hl hr1
  · rw [if_neg hl] at h
    cases h

end Go.Proofs.Ytgcnaebhmcggoaa.F
