/- A nil net has no ways. Conditions: none beyond the statement's own. -/
import Derived.Test.YtmkacejnnjppjaaWalkNetAwake
import Derived.Test.YtmkacejnnjppjaaArgs
import Derived.Deep.QuietTactic
import Derived.BigQuiet
import Derived.Lib.QuietBelow
import Derived.Outline
import Derived.Deep.RegionHeld3
import Derived.Deep.CutRange
namespace Go.Proofs.Ytmkacejnnjppjaa.Walk
open Go.RowKit Go.Proofs.Ytmkacejnnjppjaa.F Go.Proofs.YtmkacejnnjppjaaW.PrintWords Go.Proofs.YtmkacejnnjppjaaW.PrintLast Go.Proofs.YtmkacejnnjppjaaW.PrintMore Go.Proofs.Ytmkacejnnjppjaa.Open
open Go.Sort (grow)
attribute [local go_sem] max2_int min2_int max_two min_two max_three min_three max_four min_four
set_option linter.unusedVariables false
set_option linter.unusedSimpArgs false

/-! ### A nil net -/
theorem wf_i64 {x : Int} (h : (Lit.int .i64 x).wf = true) : i64 x := by
  simp only [Lit.wf, Bool.and_eq_true, decide_eq_true_eq, show IntKind.i64.min = -9223372036854775808 from rfl, show IntKind.i64.max = 9223372036854775807 from rfl] at h
  exact h
theorem rowSum_zero (a : Int) : ∀ K : List Int, rowSum (fun _ _ => 0) a K = 0
  | [] => rfl
  | x :: K => by
    have h := rowSum_zero a K
    unfold rowSum at h ⊢
    rw [List.map_cons, List.sum_cons, h]
theorem allSum_zero (K : List Int) : ∀ L : List Int, allSum (fun _ _ => 0) K L = 0
  | [] => rfl
  | x :: L => by
    have h := allSum_zero K L
    unfold allSum at h ⊢
    rw [List.map_cons, List.sum_cons, h, rowSum_zero]
set_option maxHeartbeats 1000000 in
theorem Send_nil {w : World} {b c n : Nat} {tt a : Int} {A : Option Addr} (hb : w.heap[b]? = some (.cells #[.int .u8 tt, .slice A n c] tO (0, 0))) (ht : 0 ≤ tt ∧ tt ≤ 255) :
    Calls Try.prog 6 #[.pointer none, .int .i64 a, .slice (some ⟨b, 0, none⟩) 1 1] w fun e w' => e = .returned (.int .i64 0) ∧ Below w.heap.size w w' := by
  have k0 : w.cell? ⟨b, 0, none⟩ = some (.int .u8 tt) := (blk_cell hb 0).trans rfl
  have k1 : w.cell? ⟨b, 1, none⟩ = some (.slice A n c) := (blk_cell hb 1).trans rfl
  have B0 : Aside0 (Below w.heap.size w w) := ⟨Below.refl _ _⟩
  clear hb
  go_enter Try.func6, Try.ntmps6
  go_wp2_with fail
  go_loopg [7, 12] 1 (fun gg s7 s12 wr => ∃ i : Nat, s12 = .int .i64 i ∧ i ≤ 1 ∧ 1 - i ≤ gg ∧ s7 = .int .i64 0 ∧ Aside0 (Below w.heap.size w wr))
  case atStart => exact ⟨0, rfl, by omega, by omega, rfl, B0⟩
  case round =>
    clear B0
    obtain ⟨i, rfl, hi, hgg, rfl, BR⟩ := hrel
    rcases Nat.lt_or_ge i 1 with hlt | hge
    · obtain rfl : i = 0 := by omega
      have k0 := pw_cell_below BR.out k0
      have k1 := pw_cell_below BR.out k1
      go_upto_region 5 with (fail)
      have BB := Aside0.mk (below_alloc BR.out (.cells #[.int .u8 tt, .slice A n c] tO))
      have BQ : Aside0 ((wr.alloc (.cells #[.int .u8 tt, .slice A n c] tO)).heap[wr.heap.size]? = some (.cells #[.int .u8 tt, .slice A n c] tO (0, 0))) := ⟨blk_new wr _⟩
      generalize wr.alloc (.cells #[.int .u8 tt, .slice A n c] tO) = wq at BB BQ ⊢
      have q0 : wq.cell? ⟨wr.heap.size, 0, none⟩ = some (.int .u8 tt) := (blk_cell BQ.out 0).trans rfl
      have q1 : wq.cell? ⟨wr.heap.size, 1, none⟩ = some (.slice A n c) := (blk_cell BQ.out 1).trans rfl
      have hcv : IntKind.i64.wrap tt = tt := by rw [IntKind.wrap_i64]; omega
      clear k0 k1
      go_region_held3 (fun w' => w'.cell? ⟨wr.heap.size, 0, none⟩ = some (.int .u8 tt) ∧ w'.cell? ⟨wr.heap.size, 1, none⟩ = some (.slice A n c)) (go_keep)
        ((first
          | (go_at_call 7; refine (Bag_nil _ _ _).mono ?_; rintro e wa ⟨rfl, h⟩; have h := h.symm; subst h)
          | (go_at_call 22; refine (Put_nil _ _).mono ?_; rintro e wa ⟨rfl, h⟩; have h := h.symm; subst h)))
      all_goals
        have B5 := Aside0.mk (below_drew (below_alloc BB.out (.cells #[.slice A n c] 24)))
        go_wp2_with fail
        go_roundg 0
        case measure => omega
        case rel => exact ⟨1, by go_num, by omega, by omega, by rfl, B5⟩
    · obtain rfl : i = 1 := by omega
      go_wp2_with fail
      go_ret
      exact ⟨rfl, BR.out⟩
set_option maxHeartbeats 1000000 in
theorem NetNil (a0 a1 : Int) (w : World) (h0 : (Lit.int .i64 a0).wf = true) (h1 : (Lit.int .i64 a1).wf = true) : Calls Try.prog 3 #[.int .i64 a0, .int .i64 a1] w fun e w' => e = .returned (.bool true) ∧ Below w.heap.size w w' := by
  have W0 := Aside0.mk (wf_i64 h0)
  have W1 := Aside0.mk (wf_i64 h1)
  clear h0 h1
  have X1 := Aside0.mk (blk_new w (.cells #[.int .u8 0, .slice none 0 0] tO))
  go_enter Try.func3, Try.ntmps3
  go_wp2_with fail
  refine (Send_nil X1.out ⟨by omega, by omega⟩).mono ?_
  rintro e w2 ⟨rfl, hb⟩
  have B2 := Aside0.mk (below_step (below_alloc (Below.refl w.heap.size w) _) hb)
  clear hb X1
  go_wp2_with fail
  refine (Bag_nil _ _ _).mono ?_
  rintro e w3 ⟨rfl, h⟩
  have h := h.symm
  subst h
  go_wp2_with fail
  have X3 := Aside0.mk (blk_new w2 (.cells #[.int .i64 a0, .int .i64 a1] tI64))
  have WC := Aside0.mk (Waits_calls (w := w2.alloc (.cells #[.int .i64 a0, .int .i64 a1] tI64)) (x := .pointer none) (c := 2) [a0, a1] (fun _ _ => 0) (two_C X3.out) (fun y hy => by simp only [List.mem_cons, List.not_mem_nil, or_false] at hy; rcases hy with rfl | rfl; exact W0.out; exact W1.out) (by simp) (fun _ _ => by omega) fun W _ a b _ _ => ⟨.pointer none, Bag_nil a b W, Len_nil W⟩)
  rw [allSum_zero] at WC
  refine WC.out.mono ?_
  rintro e w4 ⟨rfl, hb⟩
  have B4 := Aside0.mk (below_step (below_alloc B2.out _) hb)
  clear hb X3 WC
  go_wp2_with fail
  refine (NetLost_nil _).mono ?_
  rintro e w5 ⟨rfl, h⟩
  have h := h.symm
  subst h
  go_wp2_with fail
  refine (awake_calls _).mono ?_
  rintro e w6 ⟨rfl, hb⟩
  have B6 := Aside0.mk (below_step B4.out hb)
  clear hb
  go_wp2_with fail
  go_ret
  exact ⟨rfl, B6.out⟩

end Go.Proofs.Ytmkacejnnjppjaa.Walk
