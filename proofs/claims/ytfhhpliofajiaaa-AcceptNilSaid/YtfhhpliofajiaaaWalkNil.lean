/- A nil gate lets nothing in, and owes nothing. Conditions: none beyond the statement's own. -/
import Derived.Test.YtfhhpliofajiaaaWalkLaw
import Derived.Test.YtfhhpliofajiaaaArgs
import Derived.Deep.QuietTactic
import Derived.BigQuiet
import Derived.Lib.QuietBelow
import Derived.Outline
import Derived.Deep.RegionHeld3
namespace Go.Proofs.Ytfhhpliofajiaaa.Walk
open Go.RowKit Go.Proofs.Ytfhhpliofajiaaa.F Go.Proofs.YtfhhpliofajiaaaW.PrintWords Go.Proofs.YtfhhpliofajiaaaW.PrintLast Go.Proofs.YtfhhpliofajiaaaW.PrintMore Go.Proofs.Ytfhhpliofajiaaa.Open
open Go.Sort (grow)
attribute [local go_sem] max2_int min2_int max_two min_two max_three min_three max_four min_four
set_option linter.unusedVariables false
set_option linter.unusedSimpArgs false

theorem AcceptNil (a0 : Int) (a1 : Int) (w : World) (w0 : (Lit.int .u64 a0).wf = true) (w1 : (Lit.int .u8 a1).wf = true) :
    Calls Try.prog 5 #[.int .u64 a0, .int .u8 a1] w fun e w' => e = .returned (.bool true) ∧ Below w.heap.size w w' := by
  clear w0 w1
  go_enter Try.func5, Try.ntmps5
  go_wp2_with fail
  refine (Take_nil _ _ _ _).mono ?_
  rintro e w1 ⟨rfl, rfl⟩
  have B1 := Aside0.mk (below_alloc (Below.refl w.heap.size w) (.cells #[.int .u64 a0] 27))
  go_wp2_with fail
  refine (Told_nil _).mono ?_
  rintro e w1 ⟨rfl, rfl⟩
  go_wp2_with fail
  refine (Upto_nil _).mono ?_
  rintro e w1 ⟨rfl, rfl⟩
  go_wp2_with fail
  refine (Owes_nil _).mono ?_
  rintro e w1 ⟨rfl, rfl⟩
  go_wp2_with fail
  refine (Count_nil _ _).mono ?_
  rintro e w1 ⟨rfl, rfl⟩
  go_wp2_with fail
  refine (New_calls _).mono ?_
  rintro e w1 ⟨g, rfl, hge, hg, hb⟩
  have G1 := Aside0.mk hg
  have B2 := Aside0.mk (below_step B1.out hb)
  have GE : Aside0 (w.heap.size ≤ g) := ⟨Nat.le_trans B1.out.size hge⟩
  clear hg hb hge B1
  go_wp2_with fail
  refine (Take_calls g g0 none 0 [] _ G1.out ⟨by decide, by decide⟩ (Kd.C_kept_nil) (by simp) (by simp) (by simp)).mono ?_
  rintro e w2 ⟨rfl, _, hb⟩
  have B3 := Aside0.mk (Beside.step B2.out hb (fun k hk => hk ▸ GE.out))
  clear hb
  go_wp2_with fail
  refine (awake_calls _).mono ?_
  rintro e w4 ⟨rfl, hb⟩
  have B4 := Aside0.mk (below_step B3.out hb)
  clear hb
  go_wp2_with fail
  go_ret
  exact ⟨rfl, B4.out⟩

end Go.Proofs.Ytfhhpliofajiaaa.Walk
