/- A nil store has nothing, and takes nothing. Conditions: none beyond the statement's own. -/
import Derived.Test.YtpdglodfgikfkaaWalkAwake
import Derived.Test.YtpdglodfgikfkaaArgs
import Derived.Deep.QuietTactic
import Derived.BigQuiet
import Derived.Lib.QuietBelow
import Derived.Outline
import Derived.Deep.RegionHeld3
import Derived.Deep.CutRange
namespace Go.Proofs.Ytpdglodfgikfkaa.Walk
open Go.RowKit Go.Proofs.Ytpdglodfgikfkaa.F Go.Proofs.YtpdglodfgikfkaaW.PrintWords Go.Proofs.YtpdglodfgikfkaaW.PrintLast Go.Proofs.YtpdglodfgikfkaaW.PrintMore Go.Proofs.Ytpdglodfgikfkaa.Open
open Go.Sort (grow)
attribute [local go_sem] max2_int min2_int max_two min_two max_three min_three max_four min_four
set_option linter.unusedVariables false
set_option linter.unusedSimpArgs false

theorem Get0 (W : World) (q s : Int) : Calls Try.prog 24 #[.pointer none, .agg #[.int .u8 q, .int .u64 s]] W fun e w' => e = .returned (.tuple #[.slice none 0 0, .bool false]) ∧ Below W.heap.size W w' := Get_nil q s W
set_option maxHeartbeats 2000000 in
theorem StoreNil (q s : Int) (w : World) (_ : wf29 ⟨q, s⟩) : Calls Try.prog 7 #[.agg #[.int .u8 q, .int .u64 s]] w fun e w' => e = .returned (.bool true) ∧ Below w.heap.size w w' := by
  have hu := Try.underlying29
  have BX := Aside0.mk (blk_new w (.cells #[.int .u8 q, .int .u64 s] tID))
  have B1 := Aside0.mk (below_alloc (Below.refl w.heap.size w) (.cells #[.int .u8 q, .int .u64 s] tID))
  go_enter Try.func7, Try.ntmps7
  go_upto_region 2 with (fail)
  generalize w.alloc (.cells #[.int .u8 q, .int .u64 s] tID) = w1 at BX B1 ⊢
  obtain ⟨b, hb0⟩ : ∃ b, b = w.heap.size := ⟨_, rfl⟩
  rw [← hb0] at BX
  rw [← hb0]
  clear hb0
  have i0 : w1.cell? ⟨b, 0, none⟩ = some (.int .u8 q) := (blk_cell BX.out 0).trans rfl
  have i1 : w1.cell? ⟨b, 1, none⟩ = some (.int .u64 s) := (blk_cell BX.out 1).trans rfl
  go_wp2_with fail
  refine (Get_nil q s _).mono ?_
  rintro e w2 ⟨rfl, hb⟩
  have B2 := Aside0.mk (below_step B1.out hb)
  have X2 := Aside0.mk (blk_below BX.out hb)
  clear hb i0 i1
  have i0 : w2.cell? ⟨b, 0, none⟩ = some (.int .u8 q) := (blk_cell X2.out 0).trans rfl
  have i1 : w2.cell? ⟨b, 1, none⟩ = some (.int .u64 s) := (blk_cell X2.out 1).trans rfl
  go_wp2_with fail
  refine (Put_nil q s _ _).mono ?_
  rintro e w3 ⟨rfl, hb⟩
  have B3 := Aside0.mk (below_step (below_alloc B2.out _) hb)
  have X3 := Aside0.mk (blk_below (blk_alloc X2.out _) hb)
  clear hb i0 i1
  have i0 : w3.cell? ⟨b, 0, none⟩ = some (.int .u8 q) := (blk_cell X3.out 0).trans rfl
  have i1 : w3.cell? ⟨b, 1, none⟩ = some (.int .u64 s) := (blk_cell X3.out 1).trans rfl
  have X4 := Aside0.mk (blk_new w3 (.cells #[.int .u8 q, .int .u64 s] tID))
  go_wp2_with fail
  refine (Has_nil1 X4.out).mono ?_
  rintro e w4 ⟨rfl, hb⟩
  have B4 := Aside0.mk (below_step (below_alloc B3.out _) hb)
  clear hb i0 i1 X4
  go_wp2_with fail
  refine (Has_nil0 _).mono ?_
  rintro e w5 ⟨rfl, h⟩
  have h := h.symm
  subst h
  go_wp2_with fail
  refine (Drop_nil _ _).mono ?_
  rintro e w5 ⟨rfl, h⟩
  have B5 := Aside0.mk (below_step (below_alloc (below_alloc B4.out _) _) h)
  clear h
  go_wp2_with fail
  refine (Held_nil _).mono ?_
  rintro e w6 ⟨rfl, h⟩
  have h := h.symm
  subst h
  go_wp2_with fail
  refine (Floor_nil _).mono ?_
  rintro e w6 ⟨rfl, h⟩
  have h := h.symm
  subst h
  go_wp2_with fail
  refine (Used_nil _).mono ?_
  rintro e w6 ⟨rfl, h⟩
  have h := h.symm
  subst h
  go_wp2_with fail
  refine (Len_nil _).mono ?_
  rintro e w6 ⟨rfl, h⟩
  have h := h.symm
  subst h
  go_wp2_with fail
  refine (awake_calls _).mono ?_
  rintro e w6 ⟨rfl, hb⟩
  have B6 := Aside0.mk (below_step B5.out hb)
  clear hb
  go_wp2_with fail
  go_ret
  exact ⟨rfl, B6.out⟩

end Go.Proofs.Ytpdglodfgikfkaa.Walk
