/- What is up to the floors goes. Conditions: none beyond the statement's own. -/
import Derived.Test.YtpdglodfgikfkaaWalkCov
import Derived.Test.YtpdglodfgikfkaaF4
import Derived.Test.YtpdglodfgikfkaaF3
import Derived.Test.YtpdglodfgikfkaaArgs
import Derived.Deep.QuietTactic
import Derived.BigQuiet
import Derived.Lib.QuietBelow
import Derived.Outline
import Derived.Deep.RegionHeld3
import Derived.Deep.CutRange
import Derived.StillTailTactics
namespace Go.Proofs.Ytpdglodfgikfkaa.Walk
open Go.RowKit Go.Proofs.Ytpdglodfgikfkaa.F Go.Proofs.YtpdglodfgikfkaaW.PrintWords Go.Proofs.YtpdglodfgikfkaaW.PrintLast Go.Proofs.YtpdglodfgikfkaaW.PrintMore Go.Proofs.Ytpdglodfgikfkaa.Open
open Go.Sort (grow)
attribute [local go_sem] max2_int min2_int max_two min_two max_three min_three max_four min_four
set_option linter.unusedVariables false
set_option linter.unusedSimpArgs false

/-! ### What is up to the floors goes -/
theorem cell_step {S : Nat → Prop} {w w1 : World} {p : Addr} {v : Value} (h : w.cell? p = some v) (hB : Beside S w w1) (hn : ¬ S p.block) : w1.cell? p = some v := by
  have hlt : p.block < w.heap.size := by
    rcases Nat.lt_or_ge p.block w.heap.size with h1 | h1
    · exact h1
    · unfold World.cell? at h
      rw [Array.getElem?_eq_none h1] at h
      cases h
  have hb := hB.block _ hlt hn
  rw [← h]
  unfold World.cell?
  rw [hb]
section
variable {w : World} {g mb fb hb n : Nat} {room used : Int}
set_option maxHeartbeats 2000000 in
theorem Drop1_calls {b0 q len c : Nat} {A : Option Addr} {s f : Int} (hbx : w.cell? ⟨b0, 0, none⟩ = some (.pointer (some ⟨g, 0, none⟩))) (hg : w.heap[g]? = some (.cells #[.int .i64 room, .int .i64 used, .map (some mb), .slice (some ⟨fb, 0, none⟩) n n, .slice (some ⟨hb, 0, none⟩) n n] tSt (0, 0)))
    (hq : q < n) (hn : n ≤ 64) (hf : w.cell? ⟨fb, q, none⟩ = some (.int .u64 f)) (hu : (len : Int) ≤ used ∧ used ≤ 9223372036854775807) :
    Calls Try.prog 34 #[.agg #[.int .u8 (q : Int), .int .u64 s], .slice A len c, .pointer (some ⟨b0, 0, none⟩)] w fun e w' => e = .returned (.bool (decide (s ≤ f))) ∧ Beside (fun k => k = g) w w' ∧
      w'.heap[g]? = some (.cells #[.int .i64 room, .int .i64 (if s ≤ f then used - len else used), .map (some mb), .slice (some ⟨fb, 0, none⟩) n n, .slice (some ⟨hb, 0, none⟩) n n] tSt (0, 0)) := by
  have hu2 := Try.underlying29
  have B1 := Aside0.mk (below_alloc (Below.refl w.heap.size w) (.cells #[.int .u8 (q : Int), .int .u64 s] tID))
  have X1 := Aside0.mk (blk_new w (.cells #[.int .u8 (q : Int), .int .u64 s] tID))
  have G := Aside0.mk hg
  have F0 := Aside0.mk hf
  have BX := Aside0.mk hbx
  clear hg hf hbx
  go_enter Try.func34, Try.ntmps34
  go_upto_region 1 with (fail)
  generalize w.alloc (.cells #[.int .u8 (q : Int), .int .u64 s] tID) = w1 at B1 X1 ⊢
  obtain ⟨ib, hib⟩ : ∃ ib, ib = w.heap.size := ⟨_, rfl⟩
  rw [← hib] at X1
  rw [← hib]
  clear hib
  have G1 := Aside0.mk (blk_below G.out B1.out)
  have i0 : w1.cell? ⟨ib, 0, none⟩ = some (.int .u8 (q : Int)) := (blk_cell X1.out 0).trans rfl
  have i1 : w1.cell? ⟨ib, 1, none⟩ = some (.int .u64 s) := (blk_cell X1.out 1).trans rfl
  have bx := pw_cell_below B1.out BX.out
  have f0 := pw_cell_below B1.out F0.out
  have g1 : w1.cell? ⟨g, 1, none⟩ = some (.int .i64 used) := (blk_cell G1.out 1).trans rfl
  have g3 : w1.cell? ⟨g, 3, none⟩ = some (.slice (some ⟨fb, 0, none⟩) n n) := (blk_cell G1.out 3).trans rfl
  have zg : w1.frozen? ⟨g, 1, none⟩ = false := blk_frozen G1.out 1
  have hqz : (q : Int) < (n : Int) := by omega
  by_cases hsf : s ≤ f
  · have hd : decide (s ≤ f) = true := decide_eq_true hsf
    have hw : IntKind.i64.wrap (used - (len : Int)) = used - (len : Int) := by rw [IntKind.wrap_i64]; omega
    refine wp_region_still_tail 11 (by kernel_rfl) (by kernel_rfl) ?_
    simp only [List.take_succ_cons, List.take_zero, List.drop_succ_cons, List.drop_zero]
    repeat still_step
    refine wpStill_nil ?_
    change wpList _ _ _ _ _ w1.drew
    go_wp2_with fail
    go_ret
    refine ⟨rfl, ?_, ?_⟩
    · exact ((Beside.of_below (fun k => k = g) B1.out).setCell (p := ⟨g, 1, none⟩) rfl _).drew
    · exact blk_put G1.out 1 _ rfl
  · have hd : decide (s ≤ f) = false := decide_eq_false hsf
    refine wp_region_still_tail 11 (by kernel_rfl) (by kernel_rfl) ?_
    simp only [List.take_succ_cons, List.take_zero, List.drop_succ_cons, List.drop_zero]
    repeat still_step
    refine wpStill_nil ?_
    change wpList _ _ _ _ _ w1.drew
    go_wp2_with fail
    go_ret
    exact ⟨rfl, (Beside.of_below _ B1.out).drew, G1.out⟩
end

end Go.Proofs.Ytpdglodfgikfkaa.Walk
