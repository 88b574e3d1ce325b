/- What is proved: the Go functions that the law reaches come to what the Lean functions beside them tell, and (in the text of the law) the given statement follows. Conditions: none beyond each theorem's own. Written by a program (a turned copy of the kit's print.py), some walks by hand. -/
import Derived.Test.YtdeknknefjepnaaF0
namespace Go.Proofs.Ytdeknknefjepnaa.F
open Go.RowKit Go.Proofs.YtdeknknefjepnaaW.PrintWords Go.Proofs.YtdeknknefjepnaaW.PrintLast Go.Proofs.YtdeknknefjepnaaW.PrintMore
attribute [local go_sem] max2_int min2_int max_two min_two max_three min_three max_four min_four   -- for this text's walks alone
set_option linter.unusedVariables false
set_option linter.unusedSimpArgs false

/-! ### unisonref08_W_Acked: function 13 -/
def unisonref08_W_Acked.l0 : Nat → Int → List (S36) → Int → Int → Int → List (S36) → Int → Option (Int × (List (S36)) × Int × Int)
  | 0, _, _, _, _, _, _, _ => none
  | k + 1, x1, x6, x17, x18, x125000, x125001, x125002 => if x18 < x17 then (if 0 ≤ x18 then (if x18 < (x125001.length : Int) then (if ((rd_T36 x125001 x18).f2) > x1 then (if x6.length < 764877654105 then (unisonref08_W_Acked.l0 k x1 (x6 ++ [(⟨(⟨(rd_T36 x125001 x18).f0.f0, (rd_T36 x125001 x18).f0.f1, (rd_T36 x125001 x18).f0.f2⟩ : S30), (⟨(rd_T36 x125001 x18).f1.f0, (rd_T36 x125001 x18).f1.f1⟩ : S32), (rd_T36 x125001 x18).f2, (rd_T36 x125001 x18).f3, (rd_T36 x125001 x18).f4, (rd_T36 x125001 x18).f5, (rd_T36 x125001 x18).f6, (rd_T36 x125001 x18).f7, (rd_T36 x125001 x18).f8, (rd_T36 x125001 x18).f9, (rd_T36 x125001 x18).f10, (rd_T36 x125001 x18).f11, (rd_T36 x125001 x18).f12⟩ : S36)]) x17 (wrap64 (x18 + 1)) x125000 x125001 x125002) else (none)) else (unisonref08_W_Acked.l0 k x1 x6 x17 (wrap64 (x18 + 1)) x125000 x125001 x125002)) else (none)) else (none)) else (some (x125000, x6, x125002, wrap64 ((x125001.length : Int) - (x6.length : Int))))
def unisonref08_W_Acked.f (k : Nat) (a0_0 : Int) (l0_1 : List (S36)) (a0_2 : Int) (a1 : Int) : Option (Int × (List (S36)) × Int × Int) := if a1 > a0_2 then (some (a0_0, l0_1, a0_2, 0)) else (unisonref08_W_Acked.l0 k a1 (([] : List (S36))) (l0_1.length : Int) 0 a0_0 l0_1 a0_2)
theorem unisonref08_W_Acked.mono_l : ∀ k, (∀ y0 y1 y2 y3 y4 y5 y6, LeO (unisonref08_W_Acked.l0 k y0 y1 y2 y3 y4 y5 y6) (unisonref08_W_Acked.l0 (k + 1) y0 y1 y2 y3 y4 y5 y6))
  | 0 => fun _ _ _ _ _ _ _ r h => by simp [unisonref08_W_Acked.l0] at h
  | k + 1 => by
    have ih0 := unisonref08_W_Acked.mono_l k
    · intro y0 y1 y2 y3 y4 y5 y6
      unfold unisonref08_W_Acked.l0
      repeat' first
      | (with_reducible exact ih0 _ _ _ _ _ _ _)
      | (with_reducible exact LeO.refl _)
      | (with_reducible exact LeO.none _)
      | (with_reducible refine LeO.ite ?_ ?_)
      | (with_reducible refine LeO.bind ?_ (fun _ => ?_))
      | exact ih0 _ _ _ _ _ _ _
      | exact LeO.none _
      | refine LeO.ite ?_ ?_
      | refine LeO.bind ?_ (fun _ => ?_)
theorem unisonref08_W_Acked.mono : ∀ a0 a1 a2 a3 k, LeO (unisonref08_W_Acked.f k a0 a1 a2 a3) (unisonref08_W_Acked.f (k + 1) a0 a1 a2 a3) := by
  intro a0 a1 a2 a3 k
  have ih0 := unisonref08_W_Acked.mono_l k
  unfold unisonref08_W_Acked.f
  repeat' first
      | (with_reducible exact ih0 _ _ _ _ _ _ _)
      | (with_reducible exact LeO.refl _)
      | (with_reducible exact LeO.none _)
      | (with_reducible refine LeO.ite ?_ ?_)
      | (with_reducible refine LeO.bind ?_ (fun _ => ?_))
      | exact ih0 _ _ _ _ _ _ _
      | exact LeO.none _
      | refine LeO.ite ?_ ?_
      | refine LeO.bind ?_ (fun _ => ?_)
set_option maxHeartbeats 8000000 in
set_option maxRecDepth 100000 in
theorem unisonref08_W_Acked.calls (k : Nat) (a0_0 : Int) (P0_1_ : Nat → Prop) (A0_1 : Option Addr) (c0_1 : Nat) (l0_1 : List (S36)) (a0_2 : Int) (a1 : Int) (r1 : Int) (r2 : List (S36)) (r3 : Int) (r4 : Int) (w : World) (hs0_1 : Kd.V k36 36 w w.heap.size (fun k_ => P0_1_ k_) (.slice A0_1 l0_1.length c0_1) l0_1) (h : unisonref08_W_Acked.f k a0_0 l0_1 a0_2 a1 = some (r1, r2, r3, r4)) :
    Calls Try.prog 13 #[.agg #[.int .i64 a0_0, .slice A0_1 l0_1.length c0_1, .int .u64 a0_2], .int .u64 a1] w fun e w' => ∃ v1_ : Value, e = .returned (.tuple #[.agg #[.int .i64 r1, v1_, .int .u64 r3], .int .i64 r4]) ∧ Kd.V k36 36 w' w.heap.size (fun k_ => (P0_1_ k_ ∨ w.heap.size ≤ k_)) v1_ r2 ∧ Below w.heap.size w w' := by
  have hu42 := Try.underlying42
  have hu36 := Try.underlying36
  have HO0_1 := Aside0.mk (show Kd.V k36 36 w w.heap.size (fun k_ => (P0_1_ k_ ∨ w.heap.size ≤ k_)) (.slice A0_1 l0_1.length c0_1) l0_1 from Kd.V_mono hs0_1 (fun k_ hk => .inl hk))
  have HB := Aside0.mk (Below.refl w.heap.size w)
  have H : (if a1 > a0_2 then (some (a0_0, l0_1, a0_2, 0)) else (unisonref08_W_Acked.l0 k a1 (([] : List (S36))) (l0_1.length : Int) 0 a0_0 l0_1 a0_2)) = some (r1, r2, r3, r4) := h
  clear h
  by_cases c3 : a1 > a0_2
  · rw [if_pos c3] at H
    have c3b0 : decide (a0_2 < a1) = true := decide_eq_true c3
    clear c3
    simp only [Option.some.injEq, Prod.mk.injEq] at H
    obtain ⟨rfl, rfl, rfl, rfl⟩ := H
    go_enter Try.func13, Try.ntmps13
    go_wp2_with (first | ((with_reducible refine gate_dst (N := 2) rfl ?_); refine box_event ?hg (N := 2) ?hd (cs := #[.int .i64 a0_0, .slice A0_1 l0_1.length c0_1, .int .u64 a0_2]) (t := 42) ?hr ?_; (case hd => rfl); (case hg => rfl); (case hr => first | (go_simp; done) | (go_simp; rfl)); intro gb124 hg w4 hbox hb; have n0_ := Aside0.mk (Kd.V_below (Kd.V_elderB (by (with_reducible repeat (first | apply Kd.V_alloc | apply Kd.V_drewN | apply Kd.V_drew)); exact HO0_1.out) gb124 (Nat.le_of_eq hg.symm)) hb); have n1_ := Aside0.mk (below_step (by repeat (first | (with_reducible first | exact HB.out | apply below_alloc | apply pw_below_drewN | apply below_drew1) | exact HB.out)) hb); have n2_ := Aside0.mk (hbox); have n3_ := Aside0.mk ((by rw [hg]; exact (below_size (by repeat (first | (with_reducible first | exact HB.out | apply below_alloc | apply pw_below_drewN | apply below_drew1) | exact HB.out))) : w.heap.size ≤ gb124)); have n4_ := Aside0.mk ((by rw [hg]; exact (below_size (by repeat (first | (with_reducible first | exact HB.out | apply below_alloc | apply pw_below_drewN | apply below_drew1) | exact HB.out))) : w.heap.size ≤ gb124)); clear HO0_1; clear HB; have HO0_1 := n0_; have HB := n1_; have BK124 := n2_; have GW124 := n3_; have GE124 := n4_; clear n0_ n1_ n2_ n3_ n4_; clear hb hbox hg) | ((with_reducible refine gate_dst (N := 4) rfl ?_); refine box_event ?hg (N := 4) ?hd (cs := #[.int .i64 0, .slice none 0 0, .int .u64 0]) (t := 42) ?hr ?_; (case hd => rfl); (case hg => rfl); (case hr => first | (go_simp; done) | (go_simp; rfl)); intro gb125 hg w5 hbox hb; have n0_ := Aside0.mk (Kd.V_below (Kd.V_elderB (by (with_reducible repeat (first | apply Kd.V_alloc | apply Kd.V_drewN | apply Kd.V_drew)); exact HO0_1.out) gb125 (Nat.le_of_eq hg.symm)) hb); have n1_ := Aside0.mk (blk_below (g := gb124) (o := .cells #[.int .i64 a0_0, .slice A0_1 l0_1.length c0_1, .int .u64 a0_2] 42 (0, 0)) (by (with_reducible repeat (first | refine blk_drewN ?_ _ | refine blk_drew ?_ | refine blk_alloc ?_ _)); exact BK124.out) hb); have n2_ := Aside0.mk (below_step (by repeat (first | (with_reducible first | exact HB.out | apply below_alloc | apply pw_below_drewN | apply below_drew1 | refine below_set ?_ GE124.out) | exact HB.out)) hb); have n3_ := Aside0.mk (hbox); have n4_ := Aside0.mk ((by rw [hg]; exact (below_size (by repeat (first | (with_reducible first | exact HB.out | apply below_alloc | apply pw_below_drewN | apply below_drew1 | refine below_set ?_ GE124.out) | exact HB.out))) : w.heap.size ≤ gb125)); have n5_ := Aside0.mk ((by rw [hg]; exact (below_size (by repeat (first | (with_reducible first | exact HB.out | apply below_alloc | apply pw_below_drewN | apply below_drew1 | refine below_set ?_ GE124.out) | exact HB.out))) : w.heap.size ≤ gb125)); have n6_ := Aside0.mk ((by rw [hg]; exact Nat.ne_of_lt (blk_lt (g := gb124) (o := .cells #[.int .i64 a0_0, .slice A0_1 l0_1.length c0_1, .int .u64 a0_2] 42 (0, 0)) (by (with_reducible repeat (first | refine blk_drewN ?_ _ | refine blk_drew ?_ | refine blk_alloc ?_ _)); exact BK124.out)) : gb124 ≠ gb125)); have n7_ := Aside0.mk ((by rw [hg]; exact Nat.ne_of_gt (blk_lt (g := gb124) (o := .cells #[.int .i64 a0_0, .slice A0_1 l0_1.length c0_1, .int .u64 a0_2] 42 (0, 0)) (by (with_reducible repeat (first | refine blk_drewN ?_ _ | refine blk_drew ?_ | refine blk_alloc ?_ _)); exact BK124.out)) : gb125 ≠ gb124)); clear HO0_1; clear BK124; clear HB; have HO0_1 := n0_; have BK124 := n1_; have HB := n2_; have BK125 := n3_; have GW125 := n4_; have GE125 := n5_; have NB124_125 := n6_; have NB125_124 := n7_; clear n0_ n1_ n2_ n3_ n4_ n5_ n6_ n7_; clear hb hbox hg; have hnb6 := NB124_125.out; have hnc6 := NB125_124.out; have hcz7_0 : w5.cell? ⟨gb124, 0, none⟩ = some (.int .i64 a0_0) := (blk_cell BK124.out 0).trans rfl; have hcz7_1 : w5.cell? ⟨gb124, 1, none⟩ = some (.slice A0_1 l0_1.length c0_1) := (blk_cell BK124.out 1).trans rfl; have hcz7_2 : w5.cell? ⟨gb124, 2, none⟩ = some (.int .u64 a0_2) := (blk_cell BK124.out 2).trans rfl; have hfz7_0 := blk_frozen BK124.out 0; have hfz7_1 := blk_frozen BK124.out 1; have hfz7_2 := blk_frozen BK124.out 2; have hcz8_0 : w5.cell? ⟨gb125, 0, none⟩ = some (.int .i64 0) := (blk_cell BK125.out 0).trans rfl; have hcz8_1 : w5.cell? ⟨gb125, 1, none⟩ = some (.slice none 0 0) := (blk_cell BK125.out 1).trans rfl; have hcz8_2 : w5.cell? ⟨gb125, 2, none⟩ = some (.int .u64 0) := (blk_cell BK125.out 2).trans rfl; have hfz8_0 := blk_frozen BK125.out 0; have hfz8_1 := blk_frozen BK125.out 1; have hfz8_2 := blk_frozen BK125.out 2))
    refine bodyPost_ret (results_ct rfl _ _ gb125 42 #[.int .i64 a0_0, .slice A0_1 l0_1.length c0_1, .int .u64 a0_2] (0, 0) _ rfl (by (with_reducible repeat (first | refine blk_drewN ?_ _ | refine blk_drew ?_ | refine blk_alloc ?_ _)); refine blk_put (cs := #[.int .i64 a0_0, .slice A0_1 l0_1.length c0_1, .int .u64 0]) ?_ 2 _ rfl; (with_reducible repeat (first | refine blk_drewN ?_ _ | refine blk_drew ?_ | refine blk_alloc ?_ _)); refine blk_put (cs := #[.int .i64 a0_0, .slice none 0 0, .int .u64 0]) ?_ 1 _ rfl; (with_reducible repeat (first | refine blk_drewN ?_ _ | refine blk_drew ?_ | refine blk_alloc ?_ _)); refine blk_put (cs := #[.int .i64 0, .slice none 0 0, .int .u64 0]) ?_ 0 _ rfl; (with_reducible repeat (first | refine blk_drewN ?_ _ | refine blk_drew ?_ | refine blk_alloc ?_ _)); exact BK125.out) Try.underlying42 rfl (by kernel_rfl)) rfl ?_
    exact ⟨_, by first | rfl | (simp [errW_none, errW_some] <;> rfl) | (simp [*, errW_none, errW_some] <;> rfl), by (with_reducible repeat (first | apply Kd.V_alloc | apply Kd.V_drewN | apply Kd.V_drew)); exact Kd.V_mono (Kd.V_far (p := ⟨gb125, 2, none⟩) (Kd.V_far (p := ⟨gb125, 1, none⟩) (Kd.V_far (p := ⟨gb125, 0, none⟩) (Kd.V_mono HO0_1.out (fun k_ hk => (⟨hk, hk.2⟩ : _ ∧ k_ ≠ gb125))) (fun _ hk => hk.2) (.int .i64 a0_0)) (fun _ hk => hk.2) (.slice A0_1 l0_1.length c0_1)) (fun _ hk => hk.2) (.int .u64 a0_2)) (fun _ hk => hk.1.1.1), by repeat (first | (with_reducible first | exact HB.out | apply below_alloc | apply pw_below_drewN | apply below_drew1 | refine below_set ?_ GE124.out | refine below_set ?_ GE125.out) | exact HB.out)⟩
  · rw [if_neg c3] at H
    have c3b0 : decide (a0_2 < a1) = false := decide_eq_false c3
    clear c3
    obtain ⟨y126, hy126⟩ : ∃ y_ : List (S36), y_ = (([] : List (S36))) := ⟨_, rfl⟩
    replace H : (unisonref08_W_Acked.l0 k a1 y126 (l0_1.length : Int) 0 a0_0 l0_1 a0_2) = some (r1, r2, r3, r4) := by first | (rw [hy126]; with_reducible exact H) | (have H2_ := (Option.bind_some _ _).symm.trans H; rw [hy126]; with_reducible exact H2_) | (have H2_ := (Option.bind_some _ _).symm.trans H; with_reducible exact H2_) | with_reducible exact H | (rw [hy126]; exact H) | exact H
    have Ny126 := Aside0.mk hy126
    clear hy126
    have H' := Aside0.mk H
    clear H
    go_enter Try.func13, Try.ntmps13
    go_wp2_with (first | ((with_reducible refine gate_dst (N := 2) rfl ?_); refine box_event ?hg (N := 2) ?hd (cs := #[.int .i64 a0_0, .slice A0_1 l0_1.length c0_1, .int .u64 a0_2]) (t := 42) ?hr ?_; (case hd => rfl); (case hg => rfl); (case hr => first | (go_simp; done) | (go_simp; rfl)); intro gb124 hg w9 hbox hb; have n0_ := Aside0.mk (Kd.V_below (Kd.V_elderB (by (with_reducible repeat (first | apply Kd.V_alloc | apply Kd.V_drewN | apply Kd.V_drew)); exact HO0_1.out) gb124 (Nat.le_of_eq hg.symm)) hb); have n1_ := Aside0.mk (below_step (by repeat (first | (with_reducible first | exact HB.out | apply below_alloc | apply pw_below_drewN | apply below_drew1) | exact HB.out)) hb); have n2_ := Aside0.mk (hbox); have n3_ := Aside0.mk ((by rw [hg]; exact (below_size (by repeat (first | (with_reducible first | exact HB.out | apply below_alloc | apply pw_below_drewN | apply below_drew1) | exact HB.out))) : w.heap.size ≤ gb124)); have n4_ := Aside0.mk ((by rw [hg]; exact (below_size (by repeat (first | (with_reducible first | exact HB.out | apply below_alloc | apply pw_below_drewN | apply below_drew1) | exact HB.out))) : w.heap.size ≤ gb124)); clear HO0_1; clear HB; have HO0_1 := n0_; have HB := n1_; have BK124 := n2_; have GW124 := n3_; have GE124 := n4_; clear n0_ n1_ n2_ n3_ n4_; clear hb hbox hg) | ((with_reducible refine gate_dst (N := 4) rfl ?_); refine box_event ?hg (N := 4) ?hd (cs := #[.int .i64 0, .slice none 0 0, .int .u64 0]) (t := 42) ?hr ?_; (case hd => rfl); (case hg => rfl); (case hr => first | (go_simp; done) | (go_simp; rfl)); intro gb125 hg w10 hbox hb; have n0_ := Aside0.mk (Kd.V_below (Kd.V_elderB (by (with_reducible repeat (first | apply Kd.V_alloc | apply Kd.V_drewN | apply Kd.V_drew)); exact HO0_1.out) gb125 (Nat.le_of_eq hg.symm)) hb); have n1_ := Aside0.mk (blk_below (g := gb124) (o := .cells #[.int .i64 a0_0, .slice A0_1 l0_1.length c0_1, .int .u64 a0_2] 42 (0, 0)) (by (with_reducible repeat (first | refine blk_drewN ?_ _ | refine blk_drew ?_ | refine blk_alloc ?_ _)); exact BK124.out) hb); have n2_ := Aside0.mk (below_step (by repeat (first | (with_reducible first | exact HB.out | apply below_alloc | apply pw_below_drewN | apply below_drew1 | refine below_set ?_ GE124.out) | exact HB.out)) hb); have n3_ := Aside0.mk (hbox); have n4_ := Aside0.mk ((by rw [hg]; exact (below_size (by repeat (first | (with_reducible first | exact HB.out | apply below_alloc | apply pw_below_drewN | apply below_drew1 | refine below_set ?_ GE124.out) | exact HB.out))) : w.heap.size ≤ gb125)); have n5_ := Aside0.mk ((by rw [hg]; exact (below_size (by repeat (first | (with_reducible first | exact HB.out | apply below_alloc | apply pw_below_drewN | apply below_drew1 | refine below_set ?_ GE124.out) | exact HB.out))) : w.heap.size ≤ gb125)); have n6_ := Aside0.mk ((by rw [hg]; exact Nat.ne_of_lt (blk_lt (g := gb124) (o := .cells #[.int .i64 a0_0, .slice A0_1 l0_1.length c0_1, .int .u64 a0_2] 42 (0, 0)) (by (with_reducible repeat (first | refine blk_drewN ?_ _ | refine blk_drew ?_ | refine blk_alloc ?_ _)); exact BK124.out)) : gb124 ≠ gb125)); have n7_ := Aside0.mk ((by rw [hg]; exact Nat.ne_of_gt (blk_lt (g := gb124) (o := .cells #[.int .i64 a0_0, .slice A0_1 l0_1.length c0_1, .int .u64 a0_2] 42 (0, 0)) (by (with_reducible repeat (first | refine blk_drewN ?_ _ | refine blk_drew ?_ | refine blk_alloc ?_ _)); exact BK124.out)) : gb125 ≠ gb124)); clear HO0_1; clear BK124; clear HB; have HO0_1 := n0_; have BK124 := n1_; have HB := n2_; have BK125 := n3_; have GW125 := n4_; have GE125 := n5_; have NB124_125 := n6_; have NB125_124 := n7_; clear n0_ n1_ n2_ n3_ n4_ n5_ n6_ n7_; clear hb hbox hg; have hnb11 := NB124_125.out; have hnc11 := NB125_124.out; have hcz12_0 : w10.cell? ⟨gb124, 0, none⟩ = some (.int .i64 a0_0) := (blk_cell BK124.out 0).trans rfl; have hcz12_1 : w10.cell? ⟨gb124, 1, none⟩ = some (.slice A0_1 l0_1.length c0_1) := (blk_cell BK124.out 1).trans rfl; have hcz12_2 : w10.cell? ⟨gb124, 2, none⟩ = some (.int .u64 a0_2) := (blk_cell BK124.out 2).trans rfl; have hfz12_0 := blk_frozen BK124.out 0; have hfz12_1 := blk_frozen BK124.out 1; have hfz12_2 := blk_frozen BK124.out 2) | ((with_reducible refine gate_dst (N := 14) rfl ?_); refine Kd.N_lit k36 _ 36 ?hg (N' := 14) ?hd (xs := ([] : List (S36))) (inner := []) (ok := (fun k_ => (P0_1_ k_ ∨ w.heap.size ≤ k_) ∧ k_ ≠ gb124 ∧ k_ ≠ gb125)) (okp := (fun k_ => (P0_1_ k_ ∨ w.heap.size ≤ k_) ∧ k_ ≠ gb124 ∧ k_ ≠ gb125)) ?hr ?hp (fun _ hk => hk) ((show ∀ k_, w10.heap.size ≤ k_ → (fun k_ => (P0_1_ k_ ∨ w.heap.size ≤ k_) ∧ k_ ≠ gb124 ∧ k_ ≠ gb125) k_ from fun k_ hk => ⟨(.inr (Nat.le_trans (below_size (by repeat (first | (with_reducible first | exact HB.out | apply below_alloc | apply pw_below_drewN | apply below_drew1 | refine below_set ?_ GE124.out | refine below_set ?_ GE125.out) | exact HB.out))) hk)), Kd.freshB (g := gb124) (o := .cells #[.int .i64 a0_0, .slice A0_1 l0_1.length c0_1, .int .u64 a0_2] 42 (0, 0)) (by (with_reducible repeat (first | refine blk_drewN ?_ _ | refine blk_drew ?_ | refine blk_alloc ?_ _)); exact BK124.out) k_ hk, Kd.freshB (g := gb125) (o := .cells #[.int .i64 0, .slice none 0 0, .int .u64 0] 42 (0, 0)) (by (with_reducible repeat (first | refine blk_drewN ?_ _ | refine blk_drew ?_ | refine blk_alloc ?_ _)); exact BK125.out) k_ hk⟩) _ (Nat.le_refl _)) (Below.refl _ _) (Nat.le_refl _) (by simp) ?_; (case hd => rfl); (case hg => rfl); (case hr => first | (go_simp; done) | (go_simp; rfl)); (case hp => exact (Reps.none _ _)); intro v127 w13 ho14 hb hg_ hnew_; clear hg_ hnew_; (first | rw [← Ny126.out] at ho14 | (simp only [Int.reduceToNat] at ho14; rw [← Ny126.out] at ho14)); have n0_ := Aside0.mk (Kd.V_elder' (by (with_reducible repeat (first | apply Kd.V_alloc | apply Kd.V_drewN | apply Kd.V_drew)); exact HO0_1.out) (Kd.N_base ho14) hb); have n1_ := Aside0.mk (Kd.N_lower ho14 (below_size (by repeat (first | (with_reducible first | exact HB.out | apply below_alloc | apply pw_below_drewN | apply below_drew1 | refine below_set ?_ GE124.out | refine below_set ?_ GE125.out) | exact HB.out)))); have n2_ := Aside0.mk (blk_below (g := gb124) (o := .cells #[.int .i64 a0_0, .slice A0_1 l0_1.length c0_1, .int .u64 a0_2] 42 (0, 0)) (by (with_reducible repeat (first | refine blk_drewN ?_ _ | refine blk_drew ?_ | refine blk_alloc ?_ _)); exact BK124.out) hb); have n3_ := Aside0.mk (blk_below (g := gb125) (o := .cells #[.int .i64 0, .slice none 0 0, .int .u64 0] 42 (0, 0)) (by (with_reducible repeat (first | refine blk_drewN ?_ _ | refine blk_drew ?_ | refine blk_alloc ?_ _)); exact BK125.out) hb); have n4_ := Aside0.mk (below_step (by repeat (first | (with_reducible first | exact HB.out | apply below_alloc | apply pw_below_drewN | apply below_drew1 | refine below_set ?_ GE124.out | refine below_set ?_ GE125.out) | exact HB.out)) hb); clear HO0_1; clear BK124; clear BK125; clear HB; have HO0_1 := n0_; have HO128 := n1_; have BK124 := n2_; have BK125 := n3_; have HB := n4_; clear n0_ n1_ n2_ n3_ n4_; clear hb ho14; have hcz15_0 : w13.cell? ⟨gb124, 0, none⟩ = some (.int .i64 a0_0) := (blk_cell BK124.out 0).trans rfl; have hcz15_1 : w13.cell? ⟨gb124, 1, none⟩ = some (.slice A0_1 l0_1.length c0_1) := (blk_cell BK124.out 1).trans rfl; have hcz15_2 : w13.cell? ⟨gb124, 2, none⟩ = some (.int .u64 a0_2) := (blk_cell BK124.out 2).trans rfl; have hfz15_0 := blk_frozen BK124.out 0; have hfz15_1 := blk_frozen BK124.out 1; have hfz15_2 := blk_frozen BK124.out 2))
    go_loopg [6, 18] k (fun kq v6 v18 w' => ∃ (x6_1 : List (S36)) (x18_1 : Int), v18 = .int .i64 x18_1 ∧ Aside0 (unisonref08_W_Acked.l0 kq a1 x6_1 (l0_1.length : Int) x18_1 a0_0 l0_1 a0_2 = some (r1, r2, r3, r4)) ∧ Aside0 (kq ≤ k) ∧ Aside0 (Kd.N k36 36 w' w.heap.size (fun k_ => (P0_1_ k_ ∨ w.heap.size ≤ k_) ∧ k_ ≠ gb124 ∧ k_ ≠ gb125) v6 x6_1) ∧ Aside0 (Kd.V k36 36 w' w.heap.size (fun k_ => (P0_1_ k_ ∨ w.heap.size ≤ k_) ∧ some k_ ≠ (v6 : Value).ownBlock ∧ k_ ≠ gb124 ∧ k_ ≠ gb125) (.slice A0_1 l0_1.length c0_1) l0_1) ∧ Aside0 (w'.heap[gb124]? = some (.cells #[.int .i64 a0_0, (.slice A0_1 l0_1.length c0_1), .int .u64 a0_2] 42 (0, 0))) ∧ Aside0 (w'.heap[gb125]? = some (.cells #[.int .i64 0, (.slice none 0 0), .int .u64 0] 42 (0, 0))) ∧ Aside0 (Below w.heap.size w w'))
    case atStart => exact ⟨(y126), (0), (by first | rfl | (simp; done) | (simp [*]; done)), H', ⟨Nat.le_refl _⟩, ⟨by (with_reducible repeat (first | apply Kd.N_alloc | apply Kd.N_drewN | apply Kd.N_drew)); exact HO128.out⟩, ⟨by (with_reducible repeat (first | apply Kd.V_alloc | apply Kd.V_drewN | apply Kd.V_drew)); exact Kd.V_mono HO0_1.out (fun _ hk => ⟨hk.1.1.1, ⟨hk.2, ⟨hk.1.1.2, hk.1.2⟩⟩⟩)⟩, ⟨by (with_reducible repeat (first | refine blk_drewN ?_ _ | refine blk_drew ?_ | refine blk_alloc ?_ _)); exact BK124.out⟩, ⟨by (with_reducible repeat (first | refine blk_drewN ?_ _ | refine blk_drew ?_ | refine blk_alloc ?_ _)); exact BK125.out⟩, ⟨by repeat (first | (with_reducible first | exact HB.out | apply below_alloc | apply pw_below_drewN | apply below_drew1 | refine below_set ?_ GE124.out | refine below_set ?_ GE125.out) | exact HB.out)⟩⟩
    case round =>
      clear H'
      try clear c1
      try clear p2
      try clear c3
      try clear c3b0
      try clear c6
      try clear c11
      try clear c13
      try clear hcz12_0
      try clear hcz12_1
      try clear hcz12_2
      try clear hcz15_0
      try clear hcz15_1
      try clear hcz15_2
      try clear hcz7_0
      try clear hcz7_1
      try clear hcz7_2
      try clear hcz8_0
      try clear hcz8_1
      try clear hcz8_2
      try clear hfz12_0
      try clear hfz12_1
      try clear hfz12_2
      try clear hfz15_0
      try clear hfz15_1
      try clear hfz15_2
      try clear hfz7_0
      try clear hfz7_1
      try clear hfz7_2
      try clear hfz8_0
      try clear hfz8_1
      try clear hfz8_2
      obtain ⟨x6_1, x18_1, rfl, HA, HK1, HO_6, HO_125001, BK124, BK125, HB⟩ := hrel
      cases gk with
      | zero => exact absurd HA.out (by simp [unisonref08_W_Acked.l0])
      | succ k1 =>
        have H := HA.out
        clear HA
        simp only [unisonref08_W_Acked.l0] at H
        by_cases c16 : x18_1 < (l0_1.length : Int)
        · rw [if_pos c16] at H
          have c16b0 : decide (x18_1 < (l0_1.length : Int)) = true := decide_eq_true c16
          clear c16
          by_cases c17 : 0 ≤ x18_1
          · rw [if_pos c17] at H
            have c17b0 : decide (0 ≤ x18_1) = true := decide_eq_true c17
            clear c17
            by_cases c18 : x18_1 < (l0_1.length : Int)
            · rw [if_pos c18] at H
              have c18b0 : decide (x18_1 < (l0_1.length : Int)) = true := decide_eq_true c18
              clear c18
              by_cases c19 : ((rd_T36 l0_1 x18_1).f2) > a1
              · rw [if_pos c19] at H
                have c19b0 : decide (a1 < ((rd_T36 l0_1 x18_1).f2)) = true := decide_eq_true c19
                clear c19
                by_cases c20 : x6_1.length < 764877654105
                · rw [if_pos c20] at H
                  have LMc20 := Aside0.mk c20
                  clear c20
                  obtain ⟨y131, hy131⟩ : ∃ y_ : List (S36), y_ = (x6_1 ++ [(⟨(⟨(rd_T36 l0_1 x18_1).f0.f0, (rd_T36 l0_1 x18_1).f0.f1, (rd_T36 l0_1 x18_1).f0.f2⟩ : S30), (⟨(rd_T36 l0_1 x18_1).f1.f0, (rd_T36 l0_1 x18_1).f1.f1⟩ : S32), (rd_T36 l0_1 x18_1).f2, (rd_T36 l0_1 x18_1).f3, (rd_T36 l0_1 x18_1).f4, (rd_T36 l0_1 x18_1).f5, (rd_T36 l0_1 x18_1).f6, (rd_T36 l0_1 x18_1).f7, (rd_T36 l0_1 x18_1).f8, (rd_T36 l0_1 x18_1).f9, (rd_T36 l0_1 x18_1).f10, (rd_T36 l0_1 x18_1).f11, (rd_T36 l0_1 x18_1).f12⟩ : S36)]) := ⟨_, rfl⟩
                  replace H : (unisonref08_W_Acked.l0 k1 a1 y131 (l0_1.length : Int) (wrap64 (x18_1 + 1)) a0_0 l0_1 a0_2) = some (r1, r2, r3, r4) := by first | (rw [hy131]; with_reducible exact H) | (have H2_ := (Option.bind_some _ _).symm.trans H; rw [hy131]; with_reducible exact H2_) | (have H2_ := (Option.bind_some _ _).symm.trans H; with_reducible exact H2_) | with_reducible exact H | (rw [hy131]; exact H) | exact H
                  have Ny131 := Aside0.mk hy131
                  clear hy131
                  have H' := Aside0.mk H
                  clear H
                  have hnb21 := NB124_125.out
                  have hnc21 := NB125_124.out
                  have hcz22_0 : wr.cell? ⟨gb124, 0, none⟩ = some (.int .i64 a0_0) := (blk_cell BK124.out 0).trans rfl
                  have hcz22_1 : wr.cell? ⟨gb124, 1, none⟩ = some (.slice A0_1 l0_1.length c0_1) := (blk_cell BK124.out 1).trans rfl
                  have hcz22_2 : wr.cell? ⟨gb124, 2, none⟩ = some (.int .u64 a0_2) := (blk_cell BK124.out 2).trans rfl
                  have hfz22_0 := blk_frozen BK124.out 0
                  have hfz22_1 := blk_frozen BK124.out 1
                  have hfz22_2 := blk_frozen BK124.out 2
                  have p129 : 0 ≤ (x18_1 : Int) := of_decide_eq_true (by first | (with_reducible assumption) | assumption)
                  have q129 : x18_1 < (l0_1.length : Int) := of_decide_eq_true (by first | (with_reducible assumption) | assumption)
                  obtain ⟨ad129, A129_11, c129_11, A129_12, c129_12, A129_13, c129_13, A129_14, c129_14, A129_15, c129_15, e129, hx129_0, hx129_1, hx129_2, hx129_3, hx129_4, hx129_5, hx129_6, hx129_7, hx129_8, hx129_9, hx129_10, hx129_11, hx129_12, hx129_13, hx129_14, hx129_15, hl129_11, hi129_11, hl129_12, hi129_12, hl129_13, hi129_13, hl129_14, hi129_14, hl129_15, hi129_15⟩ := at_T36 (Kd.V_reads' HO_125001.out).2.2 x18_1 p129 q129
                  cases e129
                  obtain ⟨ce129, hce129, hMe129, hcc129⟩ := Kd.V_get HO_125001.out z36 x18_1 p129 (by first | exact q129 | exact of_decide_eq_true (by first | (with_reducible assumption) | assumption) | (have e_ := (Kd.V_reads' HO_125001.out).1; omega))
                  obtain ⟨ua129_11, uc129_11, ua129_12, uc129_12, ua129_13, uc129_13, ua129_14, uc129_14, ua129_15, uc129_15, rfl, ul129_11, ge129_11, ul129_12, ge129_12, ul129_13, ge129_13, ul129_14, ge129_14, ul129_15, ge129_15⟩ := k36_openF hMe129
                  have hv129_11 := hcc129 11 _ rfl
                  rw [add_field _ _ 11 (by omega)] at hv129_11
                  replace hv129_11 := Option.some.inj (hv129_11.symm.trans hx129_11)
                  injection hv129_11 with hva_ hvn_ hvc_
                  rw [hva_] at ge129_11
                  rw [hvc_] at ul129_11
                  have HL129_11 := Aside0.mk (show Kd.V k66 66 _ w.heap.size _ _ ((rd_T36 l0_1 x18_1).f8) from Kd.V_mk ul129_11 ge129_11)
                  clear hva_ hvn_ hvc_ ge129_11 ul129_11
                  have hv129_12 := hcc129 12 _ rfl
                  rw [add_field _ _ 12 (by omega)] at hv129_12
                  replace hv129_12 := Option.some.inj (hv129_12.symm.trans hx129_12)
                  injection hv129_12 with hva_ hvn_ hvc_
                  rw [hva_] at ge129_12
                  rw [hvc_] at ul129_12
                  have HL129_12 := Aside0.mk (show Kd.V k66 66 _ w.heap.size _ _ ((rd_T36 l0_1 x18_1).f9) from Kd.V_mk ul129_12 ge129_12)
                  clear hva_ hvn_ hvc_ ge129_12 ul129_12
                  have hv129_13 := hcc129 13 _ rfl
                  rw [add_field _ _ 13 (by omega)] at hv129_13
                  replace hv129_13 := Option.some.inj (hv129_13.symm.trans hx129_13)
                  injection hv129_13 with hva_ hvn_ hvc_
                  rw [hva_] at ge129_13
                  rw [hvc_] at ul129_13
                  have HL129_13 := Aside0.mk (show Kd.V (Kd.int .u64) 27 _ w.heap.size _ _ ((rd_T36 l0_1 x18_1).f10) from Kd.V_mk ul129_13 ge129_13)
                  clear hva_ hvn_ hvc_ ge129_13 ul129_13
                  have hv129_14 := hcc129 14 _ rfl
                  rw [add_field _ _ 14 (by omega)] at hv129_14
                  replace hv129_14 := Option.some.inj (hv129_14.symm.trans hx129_14)
                  injection hv129_14 with hva_ hvn_ hvc_
                  rw [hva_] at ge129_14
                  rw [hvc_] at ul129_14
                  have HL129_14 := Aside0.mk (show Kd.V (Kd.int .u64) 27 _ w.heap.size _ _ ((rd_T36 l0_1 x18_1).f11) from Kd.V_mk ul129_14 ge129_14)
                  clear hva_ hvn_ hvc_ ge129_14 ul129_14
                  have hv129_15 := hcc129 15 _ rfl
                  rw [add_field _ _ 15 (by omega)] at hv129_15
                  replace hv129_15 := Option.some.inj (hv129_15.symm.trans hx129_15)
                  injection hv129_15 with hva_ hvn_ hvc_
                  rw [hva_] at ge129_15
                  rw [hvc_] at ul129_15
                  have HL129_15 := Aside0.mk (show Kd.V (Kd.int .u8) 5 _ w.heap.size _ _ ((rd_T36 l0_1 x18_1).f12) from Kd.V_mk ul129_15 ge129_15)
                  clear hva_ hvn_ hvc_ ge129_15 ul129_15
                  clear hcc129 hce129
                  have HR129_11 := Aside0.mk hi129_11
                  have HC129_11 := Aside0.mk hl129_11
                  clear hi129_11 hl129_11
                  have HR129_12 := Aside0.mk hi129_12
                  have HC129_12 := Aside0.mk hl129_12
                  clear hi129_12 hl129_12
                  have HR129_13 := Aside0.mk hi129_13
                  have HC129_13 := Aside0.mk hl129_13
                  clear hi129_13 hl129_13
                  have HR129_14 := Aside0.mk hi129_14
                  have HC129_14 := Aside0.mk hl129_14
                  clear hi129_14 hl129_14
                  have HR129_15 := Aside0.mk hi129_15
                  have HC129_15 := Aside0.mk hl129_15
                  clear hi129_15 hl129_15
                  replace p129 := eq_true p129
                  replace q129 := eq_true q129
                  have p130 : 0 ≤ (x18_1 : Int) := of_decide_eq_true (by first | (with_reducible assumption) | assumption)
                  have q130 : x18_1 < (l0_1.length : Int) := of_decide_eq_true (by first | (with_reducible assumption) | assumption)
                  obtain ⟨ad130, A130_11, c130_11, A130_12, c130_12, A130_13, c130_13, A130_14, c130_14, A130_15, c130_15, e130, hx130_0, hx130_1, hx130_2, hx130_3, hx130_4, hx130_5, hx130_6, hx130_7, hx130_8, hx130_9, hx130_10, hx130_11, hx130_12, hx130_13, hx130_14, hx130_15, hl130_11, hi130_11, hl130_12, hi130_12, hl130_13, hi130_13, hl130_14, hi130_14, hl130_15, hi130_15⟩ := at_T36 (Kd.V_reads' HO_125001.out).2.2 x18_1 p130 q130
                  obtain rfl : ad129 = ad130 := (by injection e130)
                  obtain ⟨ce130, hce130, hMe130, hcc130⟩ := Kd.V_get HO_125001.out z36 x18_1 p130 (by first | exact q130 | exact of_decide_eq_true (by first | (with_reducible assumption) | assumption) | (have e_ := (Kd.V_reads' HO_125001.out).1; omega))
                  obtain ⟨ua130_11, uc130_11, ua130_12, uc130_12, ua130_13, uc130_13, ua130_14, uc130_14, ua130_15, uc130_15, rfl, ul130_11, ge130_11, ul130_12, ge130_12, ul130_13, ge130_13, ul130_14, ge130_14, ul130_15, ge130_15⟩ := k36_openF hMe130
                  have hv130_11 := hcc130 11 _ rfl
                  rw [add_field _ _ 11 (by omega)] at hv130_11
                  replace hv130_11 := Option.some.inj (hv130_11.symm.trans hx130_11)
                  injection hv130_11 with hva_ hvn_ hvc_
                  rw [hva_] at ge130_11
                  rw [hvc_] at ul130_11
                  have HL130_11 := Aside0.mk (show Kd.V k66 66 _ w.heap.size _ _ ((rd_T36 l0_1 x18_1).f8) from Kd.V_mk ul130_11 ge130_11)
                  clear hva_ hvn_ hvc_ ge130_11 ul130_11
                  have hv130_12 := hcc130 12 _ rfl
                  rw [add_field _ _ 12 (by omega)] at hv130_12
                  replace hv130_12 := Option.some.inj (hv130_12.symm.trans hx130_12)
                  injection hv130_12 with hva_ hvn_ hvc_
                  rw [hva_] at ge130_12
                  rw [hvc_] at ul130_12
                  have HL130_12 := Aside0.mk (show Kd.V k66 66 _ w.heap.size _ _ ((rd_T36 l0_1 x18_1).f9) from Kd.V_mk ul130_12 ge130_12)
                  clear hva_ hvn_ hvc_ ge130_12 ul130_12
                  have hv130_13 := hcc130 13 _ rfl
                  rw [add_field _ _ 13 (by omega)] at hv130_13
                  replace hv130_13 := Option.some.inj (hv130_13.symm.trans hx130_13)
                  injection hv130_13 with hva_ hvn_ hvc_
                  rw [hva_] at ge130_13
                  rw [hvc_] at ul130_13
                  have HL130_13 := Aside0.mk (show Kd.V (Kd.int .u64) 27 _ w.heap.size _ _ ((rd_T36 l0_1 x18_1).f10) from Kd.V_mk ul130_13 ge130_13)
                  clear hva_ hvn_ hvc_ ge130_13 ul130_13
                  have hv130_14 := hcc130 14 _ rfl
                  rw [add_field _ _ 14 (by omega)] at hv130_14
                  replace hv130_14 := Option.some.inj (hv130_14.symm.trans hx130_14)
                  injection hv130_14 with hva_ hvn_ hvc_
                  rw [hva_] at ge130_14
                  rw [hvc_] at ul130_14
                  have HL130_14 := Aside0.mk (show Kd.V (Kd.int .u64) 27 _ w.heap.size _ _ ((rd_T36 l0_1 x18_1).f11) from Kd.V_mk ul130_14 ge130_14)
                  clear hva_ hvn_ hvc_ ge130_14 ul130_14
                  have hv130_15 := hcc130 15 _ rfl
                  rw [add_field _ _ 15 (by omega)] at hv130_15
                  replace hv130_15 := Option.some.inj (hv130_15.symm.trans hx130_15)
                  injection hv130_15 with hva_ hvn_ hvc_
                  rw [hva_] at ge130_15
                  rw [hvc_] at ul130_15
                  have HL130_15 := Aside0.mk (show Kd.V (Kd.int .u8) 5 _ w.heap.size _ _ ((rd_T36 l0_1 x18_1).f12) from Kd.V_mk ul130_15 ge130_15)
                  clear hva_ hvn_ hvc_ ge130_15 ul130_15
                  clear hcc130 hce130
                  have HR130_11 := Aside0.mk hi130_11
                  have HC130_11 := Aside0.mk hl130_11
                  clear hi130_11 hl130_11
                  have HR130_12 := Aside0.mk hi130_12
                  have HC130_12 := Aside0.mk hl130_12
                  clear hi130_12 hl130_12
                  have HR130_13 := Aside0.mk hi130_13
                  have HC130_13 := Aside0.mk hl130_13
                  clear hi130_13 hl130_13
                  have HR130_14 := Aside0.mk hi130_14
                  have HC130_14 := Aside0.mk hl130_14
                  clear hi130_14 hl130_14
                  have HR130_15 := Aside0.mk hi130_15
                  have HC130_15 := Aside0.mk hl130_15
                  clear hi130_15 hl130_15
                  replace p130 := eq_true p130
                  replace q130 := eq_true q130
                  have ea_ := Option.some.inj (hx129_11.symm.trans hx130_11)
                  injection ea_ with ea_ en_ ec_
                  subst ea_
                  subst ec_
                  clear en_
                  have ea_ := Option.some.inj (hx129_12.symm.trans hx130_12)
                  injection ea_ with ea_ en_ ec_
                  subst ea_
                  subst ec_
                  clear en_
                  have ea_ := Option.some.inj (hx129_13.symm.trans hx130_13)
                  injection ea_ with ea_ en_ ec_
                  subst ea_
                  subst ec_
                  clear en_
                  have ea_ := Option.some.inj (hx129_14.symm.trans hx130_14)
                  injection ea_ with ea_ en_ ec_
                  subst ea_
                  subst ec_
                  clear en_
                  have ea_ := Option.some.inj (hx129_15.symm.trans hx130_15)
                  injection ea_ with ea_ en_ ec_
                  subst ea_
                  subst ec_
                  clear en_
                  go_wp2_with (first | ((with_reducible refine gate_builtin (b := .append) (xs := #[.tmp 29, .tmp 35]) rfl ?_); at_builtin; refine Kd.N_append k36 (w0 := w) w.heap.size rfl (.tmp 29) (.tmp 35) 37 36 (.agg #[(.int .u8 0), (.int .u8 0), (.int .u8 0), (.int .u8 0), (.int .u64 0), (.int .u64 0), (.int .u32 0), (.int .u32 0), (.int .u32 0), (.int .u64 0), (.int .u64 0), (.slice none 0 0), (.slice none 0 0), (.slice none 0 0), (.slice none 0 0), (.slice none 0 0)]) 184 rfl Try.underlying37 info36 rfl (by decide) (by omega) u6 x6_1 (⟨(⟨(rd_T36 l0_1 x18_1).f0.f0, (rd_T36 l0_1 x18_1).f0.f1, (rd_T36 l0_1 x18_1).f0.f2⟩ : S30), (⟨(rd_T36 l0_1 x18_1).f1.f0, (rd_T36 l0_1 x18_1).f1.f1⟩ : S32), (rd_T36 l0_1 x18_1).f2, (rd_T36 l0_1 x18_1).f3, (rd_T36 l0_1 x18_1).f4, (rd_T36 l0_1 x18_1).f5, (rd_T36 l0_1 x18_1).f6, (rd_T36 l0_1 x18_1).f7, (rd_T36 l0_1 x18_1).f8, (rd_T36 l0_1 x18_1).f9, (rd_T36 l0_1 x18_1).f10, (rd_T36 l0_1 x18_1).f11, (rd_T36 l0_1 x18_1).f12⟩ : S36) [.int .u8 ((rd_T36 l0_1 x18_1).f0.f0), .int .u8 ((rd_T36 l0_1 x18_1).f0.f1), .int .u8 ((rd_T36 l0_1 x18_1).f0.f2), .int .u8 ((rd_T36 l0_1 x18_1).f1.f0), .int .u64 ((rd_T36 l0_1 x18_1).f1.f1), .int .u64 ((rd_T36 l0_1 x18_1).f2), .int .u32 ((rd_T36 l0_1 x18_1).f3), .int .u32 ((rd_T36 l0_1 x18_1).f4), .int .u32 ((rd_T36 l0_1 x18_1).f5), .int .u64 ((rd_T36 l0_1 x18_1).f6), .int .u64 ((rd_T36 l0_1 x18_1).f7), .slice A129_11 ((rd_T36 l0_1 x18_1).f8).length c129_11, .slice A129_12 ((rd_T36 l0_1 x18_1).f9).length c129_12, .slice A129_13 ((rd_T36 l0_1 x18_1).f10).length c129_13, .slice A129_14 ((rd_T36 l0_1 x18_1).f11).length c129_14, .slice A129_15 ((rd_T36 l0_1 x18_1).f12).length c129_15] (fun k_ => (P0_1_ k_ ∨ w.heap.size ≤ k_) ∧ k_ ≠ gb124 ∧ k_ ≠ gb125) (fun k_ => ((fun k_ => (P0_1_ k_ ∨ w.heap.size ≤ k_) ∧ k_ ≠ gb124 ∧ k_ ≠ gb125)) k_ ∧ some k_ ≠ (u6 : Value).ownBlock) rfl rfl ?aP (fun _ hk => hk) ?aF ?aO ?aB ?aS ?aL ?_; (case aP => exact (k36_mkF _ _ (⟨(⟨(rd_T36 l0_1 x18_1).f0.f0, (rd_T36 l0_1 x18_1).f0.f1, (rd_T36 l0_1 x18_1).f0.f2⟩ : S30), (⟨(rd_T36 l0_1 x18_1).f1.f0, (rd_T36 l0_1 x18_1).f1.f1⟩ : S32), (rd_T36 l0_1 x18_1).f2, (rd_T36 l0_1 x18_1).f3, (rd_T36 l0_1 x18_1).f4, (rd_T36 l0_1 x18_1).f5, (rd_T36 l0_1 x18_1).f6, (rd_T36 l0_1 x18_1).f7, (rd_T36 l0_1 x18_1).f8, (rd_T36 l0_1 x18_1).f9, (rd_T36 l0_1 x18_1).f10, (rd_T36 l0_1 x18_1).f11, (rd_T36 l0_1 x18_1).f12⟩ : S36) (Kd.V_reads' (Kd.V_mono (ok' := (fun k_ => ((fun k_ => (P0_1_ k_ ∨ w.heap.size ≤ k_) ∧ k_ ≠ gb124 ∧ k_ ≠ gb125)) k_ ∧ some k_ ≠ (u6 : Value).ownBlock)) (HL130_11.out) (fun k_ hk => ⟨⟨hk.1, ⟨hk.2.2.1, hk.2.2.2⟩⟩, hk.2.1⟩))).2.1 (Kd.V_F (Kd.V_mono (ok' := (fun k_ => ((fun k_ => (P0_1_ k_ ∨ w.heap.size ≤ k_) ∧ k_ ≠ gb124 ∧ k_ ≠ gb125)) k_ ∧ some k_ ≠ (u6 : Value).ownBlock)) (HL130_11.out) (fun k_ hk => ⟨⟨hk.1, ⟨hk.2.2.1, hk.2.2.2⟩⟩, hk.2.1⟩))) (Kd.V_reads' (Kd.V_mono (ok' := (fun k_ => ((fun k_ => (P0_1_ k_ ∨ w.heap.size ≤ k_) ∧ k_ ≠ gb124 ∧ k_ ≠ gb125)) k_ ∧ some k_ ≠ (u6 : Value).ownBlock)) (HL130_12.out) (fun k_ hk => ⟨⟨hk.1, ⟨hk.2.2.1, hk.2.2.2⟩⟩, hk.2.1⟩))).2.1 (Kd.V_F (Kd.V_mono (ok' := (fun k_ => ((fun k_ => (P0_1_ k_ ∨ w.heap.size ≤ k_) ∧ k_ ≠ gb124 ∧ k_ ≠ gb125)) k_ ∧ some k_ ≠ (u6 : Value).ownBlock)) (HL130_12.out) (fun k_ hk => ⟨⟨hk.1, ⟨hk.2.2.1, hk.2.2.2⟩⟩, hk.2.1⟩))) (Kd.V_reads' (Kd.V_mono (ok' := (fun k_ => ((fun k_ => (P0_1_ k_ ∨ w.heap.size ≤ k_) ∧ k_ ≠ gb124 ∧ k_ ≠ gb125)) k_ ∧ some k_ ≠ (u6 : Value).ownBlock)) (HL130_13.out) (fun k_ hk => ⟨⟨hk.1, ⟨hk.2.2.1, hk.2.2.2⟩⟩, hk.2.1⟩))).2.1 (Kd.V_F (Kd.V_mono (ok' := (fun k_ => ((fun k_ => (P0_1_ k_ ∨ w.heap.size ≤ k_) ∧ k_ ≠ gb124 ∧ k_ ≠ gb125)) k_ ∧ some k_ ≠ (u6 : Value).ownBlock)) (HL130_13.out) (fun k_ hk => ⟨⟨hk.1, ⟨hk.2.2.1, hk.2.2.2⟩⟩, hk.2.1⟩))) (Kd.V_reads' (Kd.V_mono (ok' := (fun k_ => ((fun k_ => (P0_1_ k_ ∨ w.heap.size ≤ k_) ∧ k_ ≠ gb124 ∧ k_ ≠ gb125)) k_ ∧ some k_ ≠ (u6 : Value).ownBlock)) (HL130_14.out) (fun k_ hk => ⟨⟨hk.1, ⟨hk.2.2.1, hk.2.2.2⟩⟩, hk.2.1⟩))).2.1 (Kd.V_F (Kd.V_mono (ok' := (fun k_ => ((fun k_ => (P0_1_ k_ ∨ w.heap.size ≤ k_) ∧ k_ ≠ gb124 ∧ k_ ≠ gb125)) k_ ∧ some k_ ≠ (u6 : Value).ownBlock)) (HL130_14.out) (fun k_ hk => ⟨⟨hk.1, ⟨hk.2.2.1, hk.2.2.2⟩⟩, hk.2.1⟩))) (Kd.V_reads' (Kd.V_mono (ok' := (fun k_ => ((fun k_ => (P0_1_ k_ ∨ w.heap.size ≤ k_) ∧ k_ ≠ gb124 ∧ k_ ≠ gb125)) k_ ∧ some k_ ≠ (u6 : Value).ownBlock)) (HL130_15.out) (fun k_ hk => ⟨⟨hk.1, ⟨hk.2.2.1, hk.2.2.2⟩⟩, hk.2.1⟩))).2.1 (Kd.V_F (Kd.V_mono (ok' := (fun k_ => ((fun k_ => (P0_1_ k_ ∨ w.heap.size ≤ k_) ∧ k_ ≠ gb124 ∧ k_ ≠ gb125)) k_ ∧ some k_ ≠ (u6 : Value).ownBlock)) (HL130_15.out) (fun k_ hk => ⟨⟨hk.1, ⟨hk.2.2.1, hk.2.2.2⟩⟩, hk.2.1⟩))))); (case aB => exact (by repeat (first | (with_reducible first | exact HB.out | apply below_alloc | apply pw_below_drewN | apply below_drew1 | refine below_set ?_ GE124.out | refine below_set ?_ GE125.out) | exact HB.out))); (case aF => exact (fun k_ hk => ⟨(.inr (Nat.le_trans (below_size (by repeat (first | (with_reducible first | exact HB.out | apply below_alloc | apply pw_below_drewN | apply below_drew1 | refine below_set ?_ GE124.out | refine below_set ?_ GE125.out) | exact HB.out))) hk)), Kd.freshB (g := gb124) (o := .cells #[.int .i64 a0_0, .slice (some ad129) l0_1.length c0_1, .int .u64 a0_2] 42 (0, 0)) (by (with_reducible repeat (first | refine blk_drewN ?_ _ | refine blk_drew ?_ | refine blk_alloc ?_ _)); exact BK124.out) k_ hk, Kd.freshB (g := gb125) (o := .cells #[.int .i64 0, .slice none 0 0, .int .u64 0] 42 (0, 0)) (by (with_reducible repeat (first | refine blk_drewN ?_ _ | refine blk_drew ?_ | refine blk_alloc ?_ _)); exact BK125.out) k_ hk⟩)); (case aO => exact (by (with_reducible repeat (first | apply Kd.N_alloc | apply Kd.N_drewN | apply Kd.N_drew)); exact HO_6.out)); (case aS => exact (below_size (by repeat (first | (with_reducible first | exact HB.out | apply below_alloc | apply pw_below_drewN | apply below_drew1 | refine below_set ?_ GE124.out | refine below_set ?_ GE125.out) | exact HB.out)))); (case aL => have := LMc20.out; omega); intro v132 w23 ho hb hg hat; rw [← Ny131.out] at ho; have n0_ := Aside0.mk (Kd.V_afterv (ok := (fun k_ => (P0_1_ k_ ∨ w.heap.size ≤ k_) ∧ k_ ≠ gb124 ∧ k_ ≠ gb125)) (by (with_reducible repeat (first | apply Kd.V_alloc | apply Kd.V_drewN | apply Kd.V_drew)); exact Kd.V_mono HO_125001.out (fun _ hk => ⟨⟨hk.1, ⟨hk.2.2.1, hk.2.2.2⟩⟩, hk.2.1⟩)) hg hat); have n1_ := Aside0.mk (blk_grown (g := gb124) (o := .cells #[.int .i64 a0_0, .slice (some ad129) l0_1.length c0_1, .int .u64 a0_2] 42 (0, 0)) (by (with_reducible repeat (first | refine blk_drewN ?_ _ | refine blk_drew ?_ | refine blk_alloc ?_ _)); exact BK124.out) hg (Kd.N_ne HO_6.out BK124.out (by decide))); have n2_ := Aside0.mk (blk_grown (g := gb125) (o := .cells #[.int .i64 0, .slice none 0 0, .int .u64 0] 42 (0, 0)) (by (with_reducible repeat (first | refine blk_drewN ?_ _ | refine blk_drew ?_ | refine blk_alloc ?_ _)); exact BK125.out) hg (Kd.N_ne HO_6.out BK125.out (by decide))); have n3_ := Aside0.mk (Kd.V_afterv (ok := (fun k_ => (P0_1_ k_ ∨ w.heap.size ≤ k_) ∧ k_ ≠ gb124 ∧ k_ ≠ gb125)) (by (with_reducible repeat (first | apply Kd.V_alloc | apply Kd.V_drewN | apply Kd.V_drew)); exact Kd.V_mono HL129_11.out (fun _ hk => ⟨⟨hk.1, ⟨hk.2.2.1, hk.2.2.2⟩⟩, hk.2.1⟩)) hg hat); have n4_ := Aside0.mk (Kd.V_afterv (ok := (fun k_ => (P0_1_ k_ ∨ w.heap.size ≤ k_) ∧ k_ ≠ gb124 ∧ k_ ≠ gb125)) (by (with_reducible repeat (first | apply Kd.V_alloc | apply Kd.V_drewN | apply Kd.V_drew)); exact Kd.V_mono HL129_12.out (fun _ hk => ⟨⟨hk.1, ⟨hk.2.2.1, hk.2.2.2⟩⟩, hk.2.1⟩)) hg hat); have n5_ := Aside0.mk (Kd.V_afterv (ok := (fun k_ => (P0_1_ k_ ∨ w.heap.size ≤ k_) ∧ k_ ≠ gb124 ∧ k_ ≠ gb125)) (by (with_reducible repeat (first | apply Kd.V_alloc | apply Kd.V_drewN | apply Kd.V_drew)); exact Kd.V_mono HL129_13.out (fun _ hk => ⟨⟨hk.1, ⟨hk.2.2.1, hk.2.2.2⟩⟩, hk.2.1⟩)) hg hat); have n6_ := Aside0.mk (Kd.V_afterv (ok := (fun k_ => (P0_1_ k_ ∨ w.heap.size ≤ k_) ∧ k_ ≠ gb124 ∧ k_ ≠ gb125)) (by (with_reducible repeat (first | apply Kd.V_alloc | apply Kd.V_drewN | apply Kd.V_drew)); exact Kd.V_mono HL129_14.out (fun _ hk => ⟨⟨hk.1, ⟨hk.2.2.1, hk.2.2.2⟩⟩, hk.2.1⟩)) hg hat); have n7_ := Aside0.mk (Kd.V_afterv (ok := (fun k_ => (P0_1_ k_ ∨ w.heap.size ≤ k_) ∧ k_ ≠ gb124 ∧ k_ ≠ gb125)) (by (with_reducible repeat (first | apply Kd.V_alloc | apply Kd.V_drewN | apply Kd.V_drew)); exact Kd.V_mono HL129_15.out (fun _ hk => ⟨⟨hk.1, ⟨hk.2.2.1, hk.2.2.2⟩⟩, hk.2.1⟩)) hg hat); have n8_ := Aside0.mk (Kd.V_afterv (ok := (fun k_ => (P0_1_ k_ ∨ w.heap.size ≤ k_) ∧ k_ ≠ gb124 ∧ k_ ≠ gb125)) (by (with_reducible repeat (first | apply Kd.V_alloc | apply Kd.V_drewN | apply Kd.V_drew)); exact Kd.V_mono HL130_11.out (fun _ hk => ⟨⟨hk.1, ⟨hk.2.2.1, hk.2.2.2⟩⟩, hk.2.1⟩)) hg hat); have n9_ := Aside0.mk (Kd.V_afterv (ok := (fun k_ => (P0_1_ k_ ∨ w.heap.size ≤ k_) ∧ k_ ≠ gb124 ∧ k_ ≠ gb125)) (by (with_reducible repeat (first | apply Kd.V_alloc | apply Kd.V_drewN | apply Kd.V_drew)); exact Kd.V_mono HL130_12.out (fun _ hk => ⟨⟨hk.1, ⟨hk.2.2.1, hk.2.2.2⟩⟩, hk.2.1⟩)) hg hat); have n10_ := Aside0.mk (Kd.V_afterv (ok := (fun k_ => (P0_1_ k_ ∨ w.heap.size ≤ k_) ∧ k_ ≠ gb124 ∧ k_ ≠ gb125)) (by (with_reducible repeat (first | apply Kd.V_alloc | apply Kd.V_drewN | apply Kd.V_drew)); exact Kd.V_mono HL130_13.out (fun _ hk => ⟨⟨hk.1, ⟨hk.2.2.1, hk.2.2.2⟩⟩, hk.2.1⟩)) hg hat); have n11_ := Aside0.mk (Kd.V_afterv (ok := (fun k_ => (P0_1_ k_ ∨ w.heap.size ≤ k_) ∧ k_ ≠ gb124 ∧ k_ ≠ gb125)) (by (with_reducible repeat (first | apply Kd.V_alloc | apply Kd.V_drewN | apply Kd.V_drew)); exact Kd.V_mono HL130_14.out (fun _ hk => ⟨⟨hk.1, ⟨hk.2.2.1, hk.2.2.2⟩⟩, hk.2.1⟩)) hg hat); have n12_ := Aside0.mk (Kd.V_afterv (ok := (fun k_ => (P0_1_ k_ ∨ w.heap.size ≤ k_) ∧ k_ ≠ gb124 ∧ k_ ≠ gb125)) (by (with_reducible repeat (first | apply Kd.V_alloc | apply Kd.V_drewN | apply Kd.V_drew)); exact Kd.V_mono HL130_15.out (fun _ hk => ⟨⟨hk.1, ⟨hk.2.2.1, hk.2.2.2⟩⟩, hk.2.1⟩)) hg hat); have n13_ := Aside0.mk (hb); have n14_ := Aside0.mk (ho); clear HO_125001; clear BK124; clear BK125; clear HL129_11; clear HL129_12; clear HL129_13; clear HL129_14; clear HL129_15; clear HL130_11; clear HL130_12; clear HL130_13; clear HL130_14; clear HL130_15; clear HB; clear HO_6; have HO_125001 := n0_; have BK124 := n1_; have BK125 := n2_; have HL129_11 := n3_; have HL129_12 := n4_; have HL129_13 := n5_; have HL129_14 := n6_; have HL129_15 := n7_; have HL130_11 := n8_; have HL130_12 := n9_; have HL130_13 := n10_; have HL130_14 := n11_; have HL130_15 := n12_; have HB := n13_; have HO133 := n14_; clear n0_ n1_ n2_ n3_ n4_ n5_ n6_ n7_ n8_ n9_ n10_ n11_ n12_ n13_ n14_; clear ho hb hg hat))
                  go_roundg k1
                  case measure => have := HK1.out; omega
                  case rel => exact ⟨(y131), (wrap64 (x18_1 + 1)), (by first | rfl | (simp; done) | (simp [*]; done)), H', ⟨by have := HK1.out; omega⟩, ⟨by (with_reducible repeat (first | apply Kd.N_alloc | apply Kd.N_drewN | apply Kd.N_drew)); exact HO133.out⟩, ⟨by (with_reducible repeat (first | apply Kd.V_alloc | apply Kd.V_drewN | apply Kd.V_drew)); exact Kd.V_mono HO_125001.out (fun _ hk => ⟨hk.1.1, ⟨hk.2, ⟨hk.1.2.1, hk.1.2.2⟩⟩⟩)⟩, ⟨by (with_reducible repeat (first | refine blk_drewN ?_ _ | refine blk_drew ?_ | refine blk_alloc ?_ _)); exact BK124.out⟩, ⟨by (with_reducible repeat (first | refine blk_drewN ?_ _ | refine blk_drew ?_ | refine blk_alloc ?_ _)); exact BK125.out⟩, ⟨by repeat (first | (with_reducible first | exact HB.out | apply below_alloc | apply pw_below_drewN | apply below_drew1 | refine below_set ?_ GE124.out | refine below_set ?_ GE125.out) | exact HB.out)⟩⟩
                · rw [if_neg c20] at H
                  exact absurd H (by simp)
              · rw [if_neg c19] at H
                have c19b0 : decide (a1 < ((rd_T36 l0_1 x18_1).f2)) = false := decide_eq_false c19
                clear c19
                have H' := Aside0.mk H
                clear H
                have hnb24 := NB124_125.out
                have hnc24 := NB125_124.out
                have hcz25_0 : wr.cell? ⟨gb124, 0, none⟩ = some (.int .i64 a0_0) := (blk_cell BK124.out 0).trans rfl
                have hcz25_1 : wr.cell? ⟨gb124, 1, none⟩ = some (.slice A0_1 l0_1.length c0_1) := (blk_cell BK124.out 1).trans rfl
                have hcz25_2 : wr.cell? ⟨gb124, 2, none⟩ = some (.int .u64 a0_2) := (blk_cell BK124.out 2).trans rfl
                have hfz25_0 := blk_frozen BK124.out 0
                have hfz25_1 := blk_frozen BK124.out 1
                have hfz25_2 := blk_frozen BK124.out 2
                have p129 : 0 ≤ (x18_1 : Int) := of_decide_eq_true (by first | (with_reducible assumption) | assumption)
                have q129 : x18_1 < (l0_1.length : Int) := of_decide_eq_true (by first | (with_reducible assumption) | assumption)
                obtain ⟨ad129, A129_11, c129_11, A129_12, c129_12, A129_13, c129_13, A129_14, c129_14, A129_15, c129_15, e129, hx129_0, hx129_1, hx129_2, hx129_3, hx129_4, hx129_5, hx129_6, hx129_7, hx129_8, hx129_9, hx129_10, hx129_11, hx129_12, hx129_13, hx129_14, hx129_15, hl129_11, hi129_11, hl129_12, hi129_12, hl129_13, hi129_13, hl129_14, hi129_14, hl129_15, hi129_15⟩ := at_T36 (Kd.V_reads' HO_125001.out).2.2 x18_1 p129 q129
                cases e129
                obtain ⟨ce129, hce129, hMe129, hcc129⟩ := Kd.V_get HO_125001.out z36 x18_1 p129 (by first | exact q129 | exact of_decide_eq_true (by first | (with_reducible assumption) | assumption) | (have e_ := (Kd.V_reads' HO_125001.out).1; omega))
                obtain ⟨ua129_11, uc129_11, ua129_12, uc129_12, ua129_13, uc129_13, ua129_14, uc129_14, ua129_15, uc129_15, rfl, ul129_11, ge129_11, ul129_12, ge129_12, ul129_13, ge129_13, ul129_14, ge129_14, ul129_15, ge129_15⟩ := k36_openF hMe129
                have hv129_11 := hcc129 11 _ rfl
                rw [add_field _ _ 11 (by omega)] at hv129_11
                replace hv129_11 := Option.some.inj (hv129_11.symm.trans hx129_11)
                injection hv129_11 with hva_ hvn_ hvc_
                rw [hva_] at ge129_11
                rw [hvc_] at ul129_11
                have HL129_11 := Aside0.mk (show Kd.V k66 66 _ w.heap.size _ _ ((rd_T36 l0_1 x18_1).f8) from Kd.V_mk ul129_11 ge129_11)
                clear hva_ hvn_ hvc_ ge129_11 ul129_11
                have hv129_12 := hcc129 12 _ rfl
                rw [add_field _ _ 12 (by omega)] at hv129_12
                replace hv129_12 := Option.some.inj (hv129_12.symm.trans hx129_12)
                injection hv129_12 with hva_ hvn_ hvc_
                rw [hva_] at ge129_12
                rw [hvc_] at ul129_12
                have HL129_12 := Aside0.mk (show Kd.V k66 66 _ w.heap.size _ _ ((rd_T36 l0_1 x18_1).f9) from Kd.V_mk ul129_12 ge129_12)
                clear hva_ hvn_ hvc_ ge129_12 ul129_12
                have hv129_13 := hcc129 13 _ rfl
                rw [add_field _ _ 13 (by omega)] at hv129_13
                replace hv129_13 := Option.some.inj (hv129_13.symm.trans hx129_13)
                injection hv129_13 with hva_ hvn_ hvc_
                rw [hva_] at ge129_13
                rw [hvc_] at ul129_13
                have HL129_13 := Aside0.mk (show Kd.V (Kd.int .u64) 27 _ w.heap.size _ _ ((rd_T36 l0_1 x18_1).f10) from Kd.V_mk ul129_13 ge129_13)
                clear hva_ hvn_ hvc_ ge129_13 ul129_13
                have hv129_14 := hcc129 14 _ rfl
                rw [add_field _ _ 14 (by omega)] at hv129_14
                replace hv129_14 := Option.some.inj (hv129_14.symm.trans hx129_14)
                injection hv129_14 with hva_ hvn_ hvc_
                rw [hva_] at ge129_14
                rw [hvc_] at ul129_14
                have HL129_14 := Aside0.mk (show Kd.V (Kd.int .u64) 27 _ w.heap.size _ _ ((rd_T36 l0_1 x18_1).f11) from Kd.V_mk ul129_14 ge129_14)
                clear hva_ hvn_ hvc_ ge129_14 ul129_14
                have hv129_15 := hcc129 15 _ rfl
                rw [add_field _ _ 15 (by omega)] at hv129_15
                replace hv129_15 := Option.some.inj (hv129_15.symm.trans hx129_15)
                injection hv129_15 with hva_ hvn_ hvc_
                rw [hva_] at ge129_15
                rw [hvc_] at ul129_15
                have HL129_15 := Aside0.mk (show Kd.V (Kd.int .u8) 5 _ w.heap.size _ _ ((rd_T36 l0_1 x18_1).f12) from Kd.V_mk ul129_15 ge129_15)
                clear hva_ hvn_ hvc_ ge129_15 ul129_15
                clear hcc129 hce129
                have HR129_11 := Aside0.mk hi129_11
                have HC129_11 := Aside0.mk hl129_11
                clear hi129_11 hl129_11
                have HR129_12 := Aside0.mk hi129_12
                have HC129_12 := Aside0.mk hl129_12
                clear hi129_12 hl129_12
                have HR129_13 := Aside0.mk hi129_13
                have HC129_13 := Aside0.mk hl129_13
                clear hi129_13 hl129_13
                have HR129_14 := Aside0.mk hi129_14
                have HC129_14 := Aside0.mk hl129_14
                clear hi129_14 hl129_14
                have HR129_15 := Aside0.mk hi129_15
                have HC129_15 := Aside0.mk hl129_15
                clear hi129_15 hl129_15
                replace p129 := eq_true p129
                replace q129 := eq_true q129
                go_wp2
                go_roundg k1
                case measure => have := HK1.out; omega
                case rel => exact ⟨(x6_1), (wrap64 (x18_1 + 1)), (by first | rfl | (simp; done) | (simp [*]; done)), H', ⟨by have := HK1.out; omega⟩, ⟨by (with_reducible repeat (first | apply Kd.N_alloc | apply Kd.N_drewN | apply Kd.N_drew)); exact HO_6.out⟩, ⟨by (with_reducible repeat (first | apply Kd.V_alloc | apply Kd.V_drewN | apply Kd.V_drew)); exact HO_125001.out⟩, ⟨by (with_reducible repeat (first | refine blk_drewN ?_ _ | refine blk_drew ?_ | refine blk_alloc ?_ _)); exact BK124.out⟩, ⟨by (with_reducible repeat (first | refine blk_drewN ?_ _ | refine blk_drew ?_ | refine blk_alloc ?_ _)); exact BK125.out⟩, ⟨by repeat (first | (with_reducible first | exact HB.out | apply below_alloc | apply pw_below_drewN | apply below_drew1 | refine below_set ?_ GE124.out | refine below_set ?_ GE125.out) | exact HB.out)⟩⟩
            · rw [if_neg c18] at H
              exact absurd H (by simp)
          · rw [if_neg c17] at H
            exact absurd H (by simp)
        · rw [if_neg c16] at H
          have c16b0 : decide (x18_1 < (l0_1.length : Int)) = false := decide_eq_false c16
          clear c16
          simp only [Option.some.injEq, Prod.mk.injEq] at H
          obtain ⟨rfl, rfl, rfl, rfl⟩ := H
          have hnb26 := NB124_125.out
          have hnc26 := NB125_124.out
          have hcz27_0 : wr.cell? ⟨gb124, 0, none⟩ = some (.int .i64 a0_0) := (blk_cell BK124.out 0).trans rfl
          have hcz27_1 : wr.cell? ⟨gb124, 1, none⟩ = some (.slice A0_1 l0_1.length c0_1) := (blk_cell BK124.out 1).trans rfl
          have hcz27_2 : wr.cell? ⟨gb124, 2, none⟩ = some (.int .u64 a0_2) := (blk_cell BK124.out 2).trans rfl
          have hfz27_0 := blk_frozen BK124.out 0
          have hfz27_1 := blk_frozen BK124.out 1
          have hfz27_2 := blk_frozen BK124.out 2
          obtain ⟨Ao28, co28, eo28⟩ := Kd.N_slice HO_6.out
          subst eo28
          have hcz29_0 : wr.cell? ⟨gb125, 0, none⟩ = some (.int .i64 0) := (blk_cell BK125.out 0).trans rfl
          have hcz29_1 : wr.cell? ⟨gb125, 1, none⟩ = some (.slice none 0 0) := (blk_cell BK125.out 1).trans rfl
          have hcz29_2 : wr.cell? ⟨gb125, 2, none⟩ = some (.int .u64 0) := (blk_cell BK125.out 2).trans rfl
          have hfz29_0 := blk_frozen BK125.out 0
          have hfz29_1 := blk_frozen BK125.out 1
          have hfz29_2 := blk_frozen BK125.out 2
          go_wp2
          refine bodyPost_ret (results_ct rfl _ _ gb125 42 #[.int .i64 a0_0, .slice Ao28 x6_1.length co28, .int .u64 a0_2] (0, 0) _ rfl (by (with_reducible repeat (first | refine blk_drewN ?_ _ | refine blk_drew ?_ | refine blk_alloc ?_ _)); refine blk_put (cs := #[.int .i64 a0_0, .slice Ao28 x6_1.length co28, .int .u64 0]) ?_ 2 _ rfl; (with_reducible repeat (first | refine blk_drewN ?_ _ | refine blk_drew ?_ | refine blk_alloc ?_ _)); refine blk_put (cs := #[.int .i64 a0_0, .slice none 0 0, .int .u64 0]) ?_ 1 _ rfl; (with_reducible repeat (first | refine blk_drewN ?_ _ | refine blk_drew ?_ | refine blk_alloc ?_ _)); refine blk_put (cs := #[.int .i64 0, .slice none 0 0, .int .u64 0]) ?_ 0 _ rfl; (with_reducible repeat (first | refine blk_drewN ?_ _ | refine blk_drew ?_ | refine blk_alloc ?_ _)); refine blk_far ?_ NB125_124.out _; (with_reducible repeat (first | refine blk_drewN ?_ _ | refine blk_drew ?_ | refine blk_alloc ?_ _)); exact BK125.out) Try.underlying42 rfl (by kernel_rfl)) rfl ?_
          exact ⟨_, by first | rfl | (simp [errW_none, errW_some] <;> rfl) | (simp [*, errW_none, errW_some] <;> rfl), Kd.N_V (by (with_reducible repeat (first | apply Kd.N_alloc | apply Kd.N_drewN | apply Kd.N_drew)); exact Kd.N_mono (Kd.N_far (p := ⟨gb125, 2, none⟩) (Kd.N_far (p := ⟨gb125, 1, none⟩) (Kd.N_far (p := ⟨gb125, 0, none⟩) (Kd.N_far (p := ⟨gb124, 1, none⟩) (Kd.N_mono (Kd.N_mono HO_6.out (fun k_ hk => (⟨hk, hk.2.1⟩ : _ ∧ k_ ≠ gb124))) (fun k_ hk => (⟨hk, hk.1.2.2⟩ : _ ∧ k_ ≠ gb125))) (fun _ hk => hk.1.2) (.slice Ao28 x6_1.length co28)) (fun _ hk => hk.2) (.int .i64 a0_0)) (fun _ hk => hk.2) (.slice Ao28 x6_1.length co28)) (fun _ hk => hk.2) (.int .u64 a0_2)) (fun _ hk => hk.1.1.1)), by repeat (first | (with_reducible first | exact HB.out | apply below_alloc | apply pw_below_drewN | apply below_drew1 | refine below_set ?_ GE124.out | refine below_set ?_ GE125.out) | exact HB.out)⟩

end Go.Proofs.Ytdeknknefjepnaa.F
