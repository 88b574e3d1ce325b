/- A nil matrix has nothing. Conditions: none beyond the statement's own. -/
import Derived.Test.YtahdbiddpphepaaWalkNil
import Derived.Test.YtahdbiddpphepaaArgs
import Derived.Deep.QuietTactic
import Derived.BigQuiet
import Derived.Lib.QuietBelow
import Derived.Outline
import Derived.Deep.RegionHeld3
import Derived.Deep.CutRange
namespace Go.Proofs.Ytahdbiddpphepaa.Walk
open Go.RowKit Go.Proofs.Ytahdbiddpphepaa.F Go.Proofs.YtahdbiddpphepaaW.PrintWords Go.Proofs.YtahdbiddpphepaaW.PrintLast Go.Proofs.YtahdbiddpphepaaW.PrintMore Go.Proofs.Ytahdbiddpphepaa.Open
open Go.Sort (grow)
attribute [local go_sem] max2_int min2_int max_two min_two max_three min_three max_four min_four
set_option linter.unusedVariables false
set_option linter.unusedSimpArgs false

set_option maxHeartbeats 4000000 in
theorem MatrixNil (p a0 a1 : Int) (w : World) (_ : (Lit.int .i64 p).wf = true) (_ : wf40 ⟨a0, a1⟩) : Calls Try.prog 7 #[.int .i64 p, .agg #[.int .u8 a0, .int .u64 a1]] w fun e w' => e = .returned (.bool true) ∧ Below w.heap.size w w' := by
  have hu := Try.underlying40
  have AW : Aside0 (∀ W, Calls Try.prog 8 #[] W fun e w' => e = .returned (.bool true) ∧ Below W.heap.size W w') := ⟨awake_calls⟩
  have BX := Aside0.mk (blk_new w (.cells #[.int .u8 a0, .int .u64 a1] 40))
  have HC : Aside0 (∀ W, Calls Try.prog 22 #[.pointer none, .agg #[.int .u8 a0, .int .u64 a1]] W fun e w' => e = .returned (.slice none 0 0) ∧ Below W.heap.size W w') := ⟨fun W => Holders_nil a0 a1 W⟩
  go_enter Try.func7, Try.ntmps7
  go_wp2_with fail
  refine (Tell_nil _ _ _ _ _).mono ?_
  rintro e w1 ⟨rfl, hw1⟩
  have B1 : Aside0 (Below w.heap.size w w1) := ⟨by rw [hw1]; repeat (first | exact Below.refl _ _ | apply below_alloc)⟩
  have X1 : Aside0 (w1.heap[w.heap.size]? = some (.cells #[.int .u8 a0, .int .u64 a1] 40 (0, 0))) := ⟨by rw [hw1]; exact blk_alloc (blk_alloc BX.out _) _⟩
  clear hw1
  have x0 : w1.cell? ⟨w.heap.size, 0, none⟩ = some (.int .u8 a0) := (blk_cell X1.out 0).trans rfl
  have x1 : w1.cell? ⟨w.heap.size, 1, none⟩ = some (.int .u64 a1) := (blk_cell X1.out 1).trans rfl
  have hXl := blk_lt X1.out
  go_wp2_with fail
  go_region_held3 (fun w' => w'.cell? ⟨w.heap.size, 0, none⟩ = some (.int .u8 a0) ∧ w'.cell? ⟨w.heap.size, 1, none⟩ = some (.int .u64 a1)) (go_keep)
    ((first
      | (go_at_call 11; refine (Gone_nil p w1.heap.size 1 _ (by first | exact (blk_cell (blk_new _ _) 0).trans rfl | exact (blk_cell (blk_drew (blk_new _ _)) 0).trans rfl)).mono ?_; rintro e w2 ⟨rfl, hw2⟩; have B2 : Aside0 (Below w.heap.size w w2) := ⟨by rw [hw2]; first | exact below_alloc (below_drew B1.out) _ | exact below_drew (below_alloc B1.out _)⟩; have X2 : Aside0 (w2.heap[w.heap.size]? = some (.cells #[.int .u8 a0, .int .u64 a1] 40 (0, 0))) := ⟨by rw [hw2]; first | exact blk_alloc (blk_drew X1.out) _ | exact blk_drew (blk_alloc X1.out _)⟩; clear hw2; have z0 : w2.cell? ⟨w.heap.size, 0, none⟩ = some (.int .u8 a0) := (blk_cell X2.out 0).trans rfl; have z1 : w2.cell? ⟨w.heap.size, 1, none⟩ = some (.int .u64 a1) := (blk_cell X2.out 1).trans rfl)
      | (go_at_call 17; refine (Inst_nil _ _).mono ?_; rintro e w3 ⟨rfl, h3⟩; have h3 := h3.symm; subst h3)
      | (go_at_call 18; refine (Done_nil _ _).mono ?_; rintro e w3 ⟨rfl, h3⟩; have h3 := h3.symm; subst h3)
      | (go_at_call 19; refine (Held_nil _ _).mono ?_; rintro e w3 ⟨rfl, h3⟩; have h3 := h3.symm; subst h3)
      | (go_at_call 14; refine (Stable_nil _).mono ?_; rintro e w3 ⟨rfl, h3⟩; have h3 := h3.symm; subst h3)
      | (go_at_call 16; refine (Most_nil _).mono ?_; rintro e w3 ⟨rfl, h3⟩; have h3 := h3.symm; subst h3)
      | (go_at_call 22; refine (HC.out _).mono ?_; rintro e w4 ⟨rfl, hb⟩; have B4 : Aside0 (Below w.heap.size w w4) := ⟨below_step B2.out hb⟩; have X4 := Aside0.mk (blk_below X2.out hb); clear hb; have z0 : w4.cell? ⟨w.heap.size, 0, none⟩ = some (.int .u8 a0) := (blk_cell X4.out 0).trans rfl; have z1 : w4.cell? ⟨w.heap.size, 1, none⟩ = some (.int .u64 a1) := (blk_cell X4.out 1).trans rfl)
      | (go_at_call 15; refine (Least_nil _).mono ?_; rintro e w3 ⟨rfl, h3⟩; have h3 := h3.symm; subst h3)
      | (go_at_call 8; refine (AW.out _).mono ?_; rintro e w5 ⟨rfl, hb⟩; have B5 : Aside0 (Below w.heap.size w w5) := ⟨below_step B4.out hb⟩; have X5 := Aside0.mk (blk_below X4.out hb); clear hb; have z0 : w5.cell? ⟨w.heap.size, 0, none⟩ = some (.int .u8 a0) := (blk_cell X5.out 0).trans rfl; have z1 : w5.cell? ⟨w.heap.size, 1, none⟩ = some (.int .u64 a1) := (blk_cell X5.out 1).trans rfl)))
  go_wp2_with fail
  go_ret
  exact ⟨rfl, B5.out⟩

end Go.Proofs.Ytahdbiddpphepaa.Walk
