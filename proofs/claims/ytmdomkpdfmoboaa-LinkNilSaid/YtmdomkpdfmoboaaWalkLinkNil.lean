/- A nil link sends nothing, lets nothing in, and has nothing. Conditions: none beyond the statement's own. -/
import Derived.Test.YtmdomkpdfmoboaaWalkAwake
import Derived.Test.YtmdomkpdfmoboaaArgs
import Derived.Deep.QuietTactic
import Derived.BigQuiet
import Derived.Lib.QuietBelow
import Derived.Outline
import Derived.Deep.RegionHeld3
import Derived.Deep.CutRange
namespace Go.Proofs.Ytmdomkpdfmoboaa.Walk
open Go.RowKit Go.Proofs.Ytmdomkpdfmoboaa.F Go.Proofs.YtmdomkpdfmoboaaW.PrintWords Go.Proofs.YtmdomkpdfmoboaaW.PrintLast Go.Proofs.YtmdomkpdfmoboaaW.PrintMore Go.Proofs.Ytmdomkpdfmoboaa.Open
open Go.Sort (grow)
attribute [local go_sem] max2_int min2_int max_two min_two max_three min_three max_four min_four
set_option linter.unusedVariables false
set_option linter.unusedSimpArgs false

/-! ### The law of the nil link -/
set_option maxHeartbeats 4000000 in
set_option maxRecDepth 100000 in
theorem LinkNil (a0 a1 : Int) (w : World) (w0 : (Lit.int .u64 a0).wf = true) (w1 : (Lit.int .i64 a1).wf = true) :
    Calls Try.prog 8 #[.int .u64 a0, .int .i64 a1] w fun e w' => e = .returned (.bool true) ∧ Below w.heap.size w w' := by
  clear w0 w1
  have SZ := Aside0.mk same_zero
  go_enter Try.func8, Try.ntmps8
  go_wp2_with fail
  refine (LCome_nil _ _ _ _ _ _ _ _ _ _ _ _).mono ?_
  rintro e w1 ⟨rfl, hb⟩
  have B1 := Aside0.mk hb
  clear hb
  go_wp2_with fail
  refine (LSend_nil _ _ _ _).mono ?_
  rintro e w2 ⟨rfl, hw2⟩
  have B2 : Aside0 (Below w.heap.size w w2) := ⟨by rw [hw2]; exact below_alloc (below_alloc B1.out _) _⟩
  have hbx : w2.heap[w1.heap.size]? = some (.cells #[.int .u8 0, .int .u8 0, .int .u8 0, .int .u8 0, .int .u64 0, .int .u64 0, .int .u32 0, .int .u32 0, .int .u32 0, .int .u64 0, .int .u64 0, .slice none 0 0, .slice none 0 0, .slice none 0 0, .slice none 0 0, .slice none 0 0] 39 (0, 0)) := by rw [hw2]; exact blk_alloc (blk_new w1 _) _
  have q0 : w2.cell? ⟨w1.heap.size, 0, none⟩ = some (.int .u8 0) := (blk_cell hbx 0).trans rfl
  have q1 : w2.cell? ⟨w1.heap.size, 1, none⟩ = some (.int .u8 0) := (blk_cell hbx 1).trans rfl
  have q2 : w2.cell? ⟨w1.heap.size, 2, none⟩ = some (.int .u8 0) := (blk_cell hbx 2).trans rfl
  have q3 : w2.cell? ⟨w1.heap.size, 3, none⟩ = some (.int .u8 0) := (blk_cell hbx 3).trans rfl
  have q4 : w2.cell? ⟨w1.heap.size, 4, none⟩ = some (.int .u64 0) := (blk_cell hbx 4).trans rfl
  have q5 : w2.cell? ⟨w1.heap.size, 5, none⟩ = some (.int .u64 0) := (blk_cell hbx 5).trans rfl
  have q6 : w2.cell? ⟨w1.heap.size, 6, none⟩ = some (.int .u32 0) := (blk_cell hbx 6).trans rfl
  have q7 : w2.cell? ⟨w1.heap.size, 7, none⟩ = some (.int .u32 0) := (blk_cell hbx 7).trans rfl
  have q8 : w2.cell? ⟨w1.heap.size, 8, none⟩ = some (.int .u32 0) := (blk_cell hbx 8).trans rfl
  have q9 : w2.cell? ⟨w1.heap.size, 9, none⟩ = some (.int .u64 0) := (blk_cell hbx 9).trans rfl
  have q10 : w2.cell? ⟨w1.heap.size, 10, none⟩ = some (.int .u64 0) := (blk_cell hbx 10).trans rfl
  have q11 : w2.cell? ⟨w1.heap.size, 11, none⟩ = some (.slice none 0 0) := (blk_cell hbx 11).trans rfl
  have q12 : w2.cell? ⟨w1.heap.size, 12, none⟩ = some (.slice none 0 0) := (blk_cell hbx 12).trans rfl
  have q13 : w2.cell? ⟨w1.heap.size, 13, none⟩ = some (.slice none 0 0) := (blk_cell hbx 13).trans rfl
  have q14 : w2.cell? ⟨w1.heap.size, 14, none⟩ = some (.slice none 0 0) := (blk_cell hbx 14).trans rfl
  have q15 : w2.cell? ⟨w1.heap.size, 15, none⟩ = some (.slice none 0 0) := (blk_cell hbx 15).trans rfl
  clear hw2 hbx B1
  go_wp2_with fail
  refine (unisonref06_Same.calls 3 0 0 0 0 0 0 0 0 0 0 0 none 0 [] none 0 [] none 0 [] none 0 [] none 0 [] 0 0 0 0 0 0 0 0 0 0 0 none 0 [] none 0 [] none 0 [] none 0 [] none 0 [] true _ (Kd.C_nil _ _) (Nat.le_refl _) (Kd.C_nil _ _) (Nat.le_refl _) (Kd.C_nil _ _) (Nat.le_refl _) (Kd.C_nil _ _) (Nat.le_refl _) (Kd.C_nil _ _) (Nat.le_refl _) (Kd.C_nil _ _) (Nat.le_refl _) (Kd.C_nil _ _) (Nat.le_refl _) (Kd.C_nil _ _) (Nat.le_refl _) (Kd.C_nil _ _) (Nat.le_refl _) (Kd.C_nil _ _) (Nat.le_refl _) SZ.out).mono ?_
  rintro e w3 ⟨rfl, hb⟩
  have B3 := Aside0.mk (below_step B2.out hb)
  clear hb B2 q0 q1 q2 q3 q4 q5 q6 q7 q8 q9 q10 q11 q12 q13 q14 q15
  go_wp2_with fail
  refine (LOut_nil _ _).mono ?_
  rintro e w4 ⟨rfl, rfl⟩
  go_wp2_with fail
  refine (LRoom_nil _).mono ?_
  rintro e w4 ⟨rfl, rfl⟩
  go_wp2_with fail
  refine (LWaits_nil _).mono ?_
  rintro e w4 ⟨rfl, rfl⟩
  go_wp2_with fail
  refine (LUpto_nil _).mono ?_
  rintro e w4 ⟨rfl, rfl⟩
  go_wp2_with fail
  refine (awake_calls _).mono ?_
  rintro e w4 ⟨rfl, hb⟩
  have B4 := Aside0.mk (below_step B3.out hb)
  clear hb
  go_wp2_with fail
  go_ret
  exact ⟨rfl, B4.out⟩

end Go.Proofs.Ytmdomkpdfmoboaa.Walk
