/- A nil bag takes nothing, and has nothing. Conditions: none beyond the statement's own. -/
import Derived.Test.YtemgfogpeogdeaaWalkAwake
import Derived.Test.YtemgfogpeogdeaaArgs
import Derived.Deep.QuietTactic
import Derived.BigQuiet
import Derived.Lib.QuietBelow
import Derived.Outline
import Derived.Deep.RegionHeld3
import Derived.Deep.CutRange
namespace Go.Proofs.Ytemgfogpeogdeaa.Walk
open Go.RowKit Go.Proofs.Ytemgfogpeogdeaa.F Go.Proofs.YtemgfogpeogdeaaW.PrintWords Go.Proofs.YtemgfogpeogdeaaW.PrintLast Go.Proofs.YtemgfogpeogdeaaW.PrintMore Go.Proofs.Ytemgfogpeogdeaa.Open
open Go.Sort (grow)
attribute [local go_sem] max2_int min2_int max_two min_two max_three min_three max_four min_four
set_option linter.unusedVariables false
set_option linter.unusedSimpArgs false

/-! ### The law: a nil bag takes nothing, and has nothing -/
set_option maxHeartbeats 2000000 in
theorem BagNil (A0 : Option Addr) (c0 : Nat) (l0 : List Int) (a1 a2 a3 : Int) (w : World) (hr0 : Kd.C (Kd.int .u8) w A0 l0.length l0) (hc0 : l0.length ≤ c0)
    (w0 : l0.length ≤ maxLen ∧ ∀ x ∈ l0, (Lit.int .u8 x).wf = true) (w1 : (Lit.int .i64 a1).wf = true) (w2 : (Lit.int .i64 a2).wf = true) (w3 : (Lit.int .u32 a3).wf = true) :
    Calls Try.prog 6 #[.slice A0 l0.length c0, .int .i64 a1, .int .i64 a2, .int .u32 a3] w fun e w' => e = .returned (.bool true) ∧ Below w.heap.size w w' := by
  clear w0 w1 w2 w3 hr0 hc0
  have H0 := Aside0.mk (Below.refl w.heap.size w)
  by_cases hl : (50 : Int) < l0.length
  · have hl' : decide ((50 : Int) < l0.length) = true := decide_eq_true hl
    have hl2 : decide (50 < l0.length) = true := decide_eq_true (by omega)
    go_enter Try.func6, Try.ntmps6
    go_wp2_with fail
    refine (awake_calls _).mono ?_
    rintro e w1 ⟨rfl, hb⟩
    have B1 := Aside0.mk hb
    clear hb
    go_wp2_with fail
    go_ret
    exact ⟨rfl, B1.out⟩
  · have hl' : decide ((50 : Int) < l0.length) = false := decide_eq_false hl
    have hl2 : decide (50 < l0.length) = false := decide_eq_false (by omega)
    go_enter Try.func6, Try.ntmps6
    go_wp2_with fail
    refine (Take_nil _ _).mono ?_
    rintro e w1 ⟨rfl, rfl⟩
    go_wp2_with fail
    refine (Look_nil _ _).mono ?_
    rintro e w1 ⟨rfl, rfl⟩
    go_wp2_with fail
    refine (Put_nil _ _).mono ?_
    rintro e w1 ⟨rfl, rfl⟩
    have B1 := Aside0.mk (below_alloc H0.out (.cells #[.slice A0 l0.length c0] 24))
    generalize w1.alloc (.cells #[.slice A0 l0.length c0] 24) = v1 at *
    go_wp2_with fail
    refine (Twice_nil _ _).mono ?_
    rintro e v2 ⟨rfl, hb⟩
    have B2 := Aside0.mk (below_step B1.out hb)
    clear hb
    go_wp2_with fail
    refine (Turn_nil _ _ _ _).mono ?_
    rintro e v3 ⟨rfl, hb⟩
    have B3 := Aside0.mk (below_step B2.out hb)
    clear hb
    go_wp2_with fail
    refine (Len_nil _).mono ?_
    rintro e v4 ⟨rfl, rfl⟩
    go_wp2_with fail
    refine (Lost_nil _).mono ?_
    rintro e v5 ⟨rfl, rfl⟩
    go_wp2_with fail
    refine (awake_calls _).mono ?_
    rintro e v6 ⟨rfl, hb⟩
    have B4 := Aside0.mk (below_step B3.out hb)
    clear hb
    go_wp2_with fail
    go_ret
    exact ⟨rfl, B4.out⟩

end Go.Proofs.Ytemgfogpeogdeaa.Walk
