/- What is proved: the Go functions that the law reaches come to what the Lean functions beside them tell, and (in the text of the law) the given statement follows. Conditions: none beyond each theorem's own. Written by a program (a turned copy of the kit's print.py), some walks by hand. -/
import Derived.Test.YtdeknknefjepnaaF0
namespace Go.Proofs.Ytdeknknefjepnaa.F
open Go.RowKit Go.Proofs.YtdeknknefjepnaaW.PrintWords Go.Proofs.YtdeknknefjepnaaW.PrintLast Go.Proofs.YtdeknknefjepnaaW.PrintMore
attribute [local go_sem] max2_int min2_int max_two min_two max_three min_three max_four min_four   -- for this text's walks alone
set_option linter.unusedVariables false
set_option linter.unusedSimpArgs false

/-! ### unisonref08_W_From: function 22 -/
def unisonref08_W_From.l0 : Nat → Int → Int → List (S36) → Int → Int → Int → List (S36) → Int → Option ((List (S36)))
  | 0, _, _, _, _, _, _, _, _ => none
  | k + 1, x1, x2, x7, x12, x13, x178000, x178001, x178002 => if x13 < x12 then (if 0 ≤ x13 then (if x13 < (x178001.length : Int) then (if ((rd_T36 x178001 x13).f2) ≥ x1 then (if (x7.length : Int) < x2 then (if x7.length < 764877654105 then (unisonref08_W_From.l0 k x1 x2 (x7 ++ [(⟨(⟨(rd_T36 x178001 x13).f0.f0, (rd_T36 x178001 x13).f0.f1, (rd_T36 x178001 x13).f0.f2⟩ : S30), (⟨(rd_T36 x178001 x13).f1.f0, (rd_T36 x178001 x13).f1.f1⟩ : S32), (rd_T36 x178001 x13).f2, (rd_T36 x178001 x13).f3, (rd_T36 x178001 x13).f4, (rd_T36 x178001 x13).f5, (rd_T36 x178001 x13).f6, (rd_T36 x178001 x13).f7, (rd_T36 x178001 x13).f8, (rd_T36 x178001 x13).f9, (rd_T36 x178001 x13).f10, (rd_T36 x178001 x13).f11, (rd_T36 x178001 x13).f12⟩ : S36)]) x12 (wrap64 (x13 + 1)) x178000 x178001 x178002) else (none)) else (unisonref08_W_From.l0 k x1 x2 x7 x12 (wrap64 (x13 + 1)) x178000 x178001 x178002)) else (unisonref08_W_From.l0 k x1 x2 x7 x12 (wrap64 (x13 + 1)) x178000 x178001 x178002)) else (none)) else (none)) else (some x7)
def unisonref08_W_From.f (k : Nat) (a0_0 : Int) (l0_1 : List (S36)) (a0_2 : Int) (a1 : Int) (a2 : Int) : Option ((List (S36))) := unisonref08_W_From.l0 k a1 a2 (([] : List (S36))) (l0_1.length : Int) 0 a0_0 l0_1 a0_2
theorem unisonref08_W_From.mono_l : ∀ k, (∀ y0 y1 y2 y3 y4 y5 y6 y7, LeO (unisonref08_W_From.l0 k y0 y1 y2 y3 y4 y5 y6 y7) (unisonref08_W_From.l0 (k + 1) y0 y1 y2 y3 y4 y5 y6 y7))
  | 0 => fun _ _ _ _ _ _ _ _ r h => by simp [unisonref08_W_From.l0] at h
  | k + 1 => by
    have ih0 := unisonref08_W_From.mono_l k
    · intro y0 y1 y2 y3 y4 y5 y6 y7
      unfold unisonref08_W_From.l0
      repeat' first
      | (with_reducible exact ih0 _ _ _ _ _ _ _ _)
      | (with_reducible exact LeO.refl _)
      | (with_reducible exact LeO.none _)
      | (with_reducible refine LeO.ite ?_ ?_)
      | (with_reducible refine LeO.bind ?_ (fun _ => ?_))
      | exact ih0 _ _ _ _ _ _ _ _
      | exact LeO.none _
      | refine LeO.ite ?_ ?_
      | refine LeO.bind ?_ (fun _ => ?_)
theorem unisonref08_W_From.mono : ∀ a0 a1 a2 a3 a4 k, LeO (unisonref08_W_From.f k a0 a1 a2 a3 a4) (unisonref08_W_From.f (k + 1) a0 a1 a2 a3 a4) := by
  intro a0 a1 a2 a3 a4 k
  have ih0 := unisonref08_W_From.mono_l k
  unfold unisonref08_W_From.f
  repeat' first
      | (with_reducible exact ih0 _ _ _ _ _ _ _ _)
      | (with_reducible exact LeO.refl _)
      | (with_reducible exact LeO.none _)
      | (with_reducible refine LeO.ite ?_ ?_)
      | (with_reducible refine LeO.bind ?_ (fun _ => ?_))
      | exact ih0 _ _ _ _ _ _ _ _
      | exact LeO.none _
      | refine LeO.ite ?_ ?_
      | refine LeO.bind ?_ (fun _ => ?_)
set_option maxHeartbeats 8000000 in
set_option maxRecDepth 100000 in
theorem unisonref08_W_From.calls (k : Nat) (a0_0 : Int) (P0_1_ : Nat → Prop) (A0_1 : Option Addr) (c0_1 : Nat) (l0_1 : List (S36)) (a0_2 : Int) (a1 : Int) (a2 : Int) (r : List (S36)) (w : World) (hs0_1 : Kd.V k36 36 w w.heap.size (fun k_ => P0_1_ k_) (.slice A0_1 l0_1.length c0_1) l0_1) (h : unisonref08_W_From.f k a0_0 l0_1 a0_2 a1 a2 = some r) :
    Calls Try.prog 22 #[.agg #[.int .i64 a0_0, .slice A0_1 l0_1.length c0_1, .int .u64 a0_2], .int .u64 a1, .int .i64 a2] w fun e w' => ∃ v0_ : Value, e = .returned (v0_) ∧ Kd.N k36 36 w' w.heap.size (fun k_ => (P0_1_ k_ ∨ w.heap.size ≤ k_)) v0_ r ∧ Below w.heap.size w w' := by
  have hu42 := Try.underlying42
  have hu36 := Try.underlying36
  have HO0_1 := Aside0.mk (show Kd.V k36 36 w w.heap.size (fun k_ => (P0_1_ k_ ∨ w.heap.size ≤ k_)) (.slice A0_1 l0_1.length c0_1) l0_1 from Kd.V_mono hs0_1 (fun k_ hk => .inl hk))
  have HB := Aside0.mk (Below.refl w.heap.size w)
  have H : (unisonref08_W_From.l0 k a1 a2 (([] : List (S36))) (l0_1.length : Int) 0 a0_0 l0_1 a0_2) = some r := h
  clear h
  obtain ⟨y178, hy178⟩ : ∃ y_ : List (S36), y_ = (([] : List (S36))) := ⟨_, rfl⟩
  replace H : (unisonref08_W_From.l0 k a1 a2 y178 (l0_1.length : Int) 0 a0_0 l0_1 a0_2) = some r := by first | (rw [hy178]; with_reducible exact H) | (have H2_ := (Option.bind_some _ _).symm.trans H; rw [hy178]; with_reducible exact H2_) | (have H2_ := (Option.bind_some _ _).symm.trans H; with_reducible exact H2_) | with_reducible exact H | (rw [hy178]; exact H) | exact H
  have Ny178 := Aside0.mk hy178
  clear hy178
  have H' := Aside0.mk H
  clear H
  go_enter Try.func22, Try.ntmps22
  go_wp2_with (first | ((with_reducible refine gate_dst (N := 3) rfl ?_); (try (refine gate_guard (by rfl) ?_; dsimp only)); refine box_event ?hg (N := 3) ?hd (cs := #[.int .i64 a0_0, .slice A0_1 l0_1.length c0_1, .int .u64 a0_2]) (t := 42) ?hr ?_; (case hd => rfl); (case hg => rfl); (case hr => first | (go_simp; done) | (go_simp; rfl)); intro gb177 hg w4 hbox hb; have n0_ := Aside0.mk (Kd.V_below (Kd.V_elderB (by (with_reducible repeat (first | apply Kd.V_alloc | apply Kd.V_drewN | apply Kd.V_drew)); exact HO0_1.out) gb177 (Nat.le_of_eq hg.symm)) hb); have n1_ := Aside0.mk (below_step (by repeat (first | (with_reducible first | exact HB.out | apply below_alloc | apply pw_below_drewN | apply below_drew1) | exact HB.out)) hb); have n2_ := Aside0.mk (hbox); have n3_ := Aside0.mk ((by rw [hg]; exact (below_size (by repeat (first | (with_reducible first | exact HB.out | apply below_alloc | apply pw_below_drewN | apply below_drew1) | exact HB.out))) : w.heap.size ≤ gb177)); have n4_ := Aside0.mk ((by rw [hg]; exact (below_size (by repeat (first | (with_reducible first | exact HB.out | apply below_alloc | apply pw_below_drewN | apply below_drew1) | exact HB.out))) : w.heap.size ≤ gb177)); clear HO0_1; clear HB; have HO0_1 := n0_; have HB := n1_; have BK177 := n2_; have GW177 := n3_; have GE177 := n4_; clear n0_ n1_ n2_ n3_ n4_; clear hb hbox hg) | ((with_reducible refine gate_dst (N := 9) rfl ?_); (try (refine gate_guard (by rfl) ?_; dsimp only)); refine Kd.N_lit k36 _ 36 ?hg (N' := 9) ?hd (xs := ([] : List (S36))) (inner := []) (ok := (fun k_ => (P0_1_ k_ ∨ w.heap.size ≤ k_) ∧ k_ ≠ gb177)) (okp := (fun k_ => (P0_1_ k_ ∨ w.heap.size ≤ k_) ∧ k_ ≠ gb177)) ?hr ?hp (fun _ hk => hk) ((show ∀ k_, w4.heap.size ≤ k_ → (fun k_ => (P0_1_ k_ ∨ w.heap.size ≤ k_) ∧ k_ ≠ gb177) k_ from fun k_ hk => ⟨(.inr (Nat.le_trans (below_size (by repeat (first | (with_reducible first | exact HB.out | apply below_alloc | apply pw_below_drewN | apply below_drew1 | refine below_set ?_ GE177.out) | exact HB.out))) hk)), Kd.freshB (g := gb177) (o := .cells #[.int .i64 a0_0, .slice A0_1 l0_1.length c0_1, .int .u64 a0_2] 42 (0, 0)) (by (with_reducible repeat (first | refine blk_drewN ?_ _ | refine blk_drew ?_ | refine blk_alloc ?_ _)); exact BK177.out) k_ hk⟩) _ (Nat.le_refl _)) (Below.refl _ _) (Nat.le_refl _) (by simp) ?_; (case hd => rfl); (case hg => rfl); (case hr => first | (go_simp; done) | (go_simp; rfl)); (case hp => exact (Reps.none _ _)); intro v179 w5 ho6 hb hg_ hnew_; clear hg_ hnew_; (first | rw [← Ny178.out] at ho6 | (simp only [Int.reduceToNat] at ho6; rw [← Ny178.out] at ho6)); have n0_ := Aside0.mk (Kd.V_elder' (by (with_reducible repeat (first | apply Kd.V_alloc | apply Kd.V_drewN | apply Kd.V_drew)); exact HO0_1.out) (Kd.N_base ho6) hb); have n1_ := Aside0.mk (Kd.N_lower ho6 (below_size (by repeat (first | (with_reducible first | exact HB.out | apply below_alloc | apply pw_below_drewN | apply below_drew1 | refine below_set ?_ GE177.out) | exact HB.out)))); have n2_ := Aside0.mk (blk_below (g := gb177) (o := .cells #[.int .i64 a0_0, .slice A0_1 l0_1.length c0_1, .int .u64 a0_2] 42 (0, 0)) (by (with_reducible repeat (first | refine blk_drewN ?_ _ | refine blk_drew ?_ | refine blk_alloc ?_ _)); exact BK177.out) hb); have n3_ := Aside0.mk (below_step (by repeat (first | (with_reducible first | exact HB.out | apply below_alloc | apply pw_below_drewN | apply below_drew1 | refine below_set ?_ GE177.out) | exact HB.out)) hb); clear HO0_1; clear BK177; clear HB; have HO0_1 := n0_; have HO180 := n1_; have BK177 := n2_; have HB := n3_; clear n0_ n1_ n2_ n3_; clear hb ho6; have hcz7_0 : w5.cell? ⟨gb177, 0, none⟩ = some (.int .i64 a0_0) := (blk_cell BK177.out 0).trans rfl; have hcz7_1 : w5.cell? ⟨gb177, 1, none⟩ = some (.slice A0_1 l0_1.length c0_1) := (blk_cell BK177.out 1).trans rfl; have hcz7_2 : w5.cell? ⟨gb177, 2, none⟩ = some (.int .u64 a0_2) := (blk_cell BK177.out 2).trans rfl; have hfz7_0 := blk_frozen BK177.out 0; have hfz7_1 := blk_frozen BK177.out 1; have hfz7_2 := blk_frozen BK177.out 2))
  go_loopg [7, 13] k (fun kq v7 v13 w' => ∃ (x7_1 : List (S36)) (x13_1 : Int), v13 = .int .i64 x13_1 ∧ Aside0 (unisonref08_W_From.l0 kq a1 a2 x7_1 (l0_1.length : Int) x13_1 a0_0 l0_1 a0_2 = some r) ∧ Aside0 (kq ≤ k) ∧ Aside0 (Kd.N k36 36 w' w.heap.size (fun k_ => (P0_1_ k_ ∨ w.heap.size ≤ k_) ∧ k_ ≠ gb177) v7 x7_1) ∧ Aside0 (Kd.V k36 36 w' w.heap.size (fun k_ => (P0_1_ k_ ∨ w.heap.size ≤ k_) ∧ some k_ ≠ (v7 : Value).ownBlock ∧ k_ ≠ gb177) (.slice A0_1 l0_1.length c0_1) l0_1) ∧ Aside0 (w'.heap[gb177]? = some (.cells #[.int .i64 a0_0, (.slice A0_1 l0_1.length c0_1), .int .u64 a0_2] 42 (0, 0))) ∧ Aside0 (Below w.heap.size w w'))
  case atStart => exact ⟨(y178), (0), (by first | rfl | (simp; done) | (simp [*]; done)), H', ⟨Nat.le_refl _⟩, ⟨by (with_reducible repeat (first | apply Kd.N_alloc | apply Kd.N_drewN | apply Kd.N_drew)); exact HO180.out⟩, ⟨by (with_reducible repeat (first | apply Kd.V_alloc | apply Kd.V_drewN | apply Kd.V_drew)); exact Kd.V_mono HO0_1.out (fun _ hk => ⟨hk.1.1, ⟨hk.2, hk.1.2⟩⟩)⟩, ⟨by (with_reducible repeat (first | refine blk_drewN ?_ _ | refine blk_drew ?_ | refine blk_alloc ?_ _)); exact BK177.out⟩, ⟨by repeat (first | (with_reducible first | exact HB.out | apply below_alloc | apply pw_below_drewN | apply below_drew1 | refine below_set ?_ GE177.out) | exact HB.out)⟩⟩
  case round =>
    clear H'
    try clear c2
    try clear p2
    try clear hcz7_0
    try clear hcz7_1
    try clear hcz7_2
    try clear hfz7_0
    try clear hfz7_1
    try clear hfz7_2
    obtain ⟨x7_1, x13_1, rfl, HA, HK1, HO_7, HO_178001, BK177, HB⟩ := hrel
    cases gk with
    | zero => exact absurd HA.out (by simp [unisonref08_W_From.l0])
    | succ k1 =>
      have H := HA.out
      clear HA
      simp only [unisonref08_W_From.l0] at H
      by_cases c8 : x13_1 < (l0_1.length : Int)
      · rw [if_pos c8] at H
        have c8b0 : decide (x13_1 < (l0_1.length : Int)) = true := decide_eq_true c8
        clear c8
        by_cases c9 : 0 ≤ x13_1
        · rw [if_pos c9] at H
          have c9b0 : decide (0 ≤ x13_1) = true := decide_eq_true c9
          clear c9
          by_cases c10 : x13_1 < (l0_1.length : Int)
          · rw [if_pos c10] at H
            have c10b0 : decide (x13_1 < (l0_1.length : Int)) = true := decide_eq_true c10
            clear c10
            by_cases c11 : ((rd_T36 l0_1 x13_1).f2) ≥ a1
            · rw [if_pos c11] at H
              have c11b0 : decide (a1 ≤ ((rd_T36 l0_1 x13_1).f2)) = true := decide_eq_true c11
              clear c11
              by_cases c12 : (x7_1.length : Int) < a2
              · rw [if_pos c12] at H
                have c12b0 : decide ((x7_1.length : Int) < a2) = true := decide_eq_true c12
                clear c12
                by_cases c13 : x7_1.length < 764877654105
                · rw [if_pos c13] at H
                  have LMc13 := Aside0.mk c13
                  clear c13
                  obtain ⟨y183, hy183⟩ : ∃ y_ : List (S36), y_ = (x7_1 ++ [(⟨(⟨(rd_T36 l0_1 x13_1).f0.f0, (rd_T36 l0_1 x13_1).f0.f1, (rd_T36 l0_1 x13_1).f0.f2⟩ : S30), (⟨(rd_T36 l0_1 x13_1).f1.f0, (rd_T36 l0_1 x13_1).f1.f1⟩ : S32), (rd_T36 l0_1 x13_1).f2, (rd_T36 l0_1 x13_1).f3, (rd_T36 l0_1 x13_1).f4, (rd_T36 l0_1 x13_1).f5, (rd_T36 l0_1 x13_1).f6, (rd_T36 l0_1 x13_1).f7, (rd_T36 l0_1 x13_1).f8, (rd_T36 l0_1 x13_1).f9, (rd_T36 l0_1 x13_1).f10, (rd_T36 l0_1 x13_1).f11, (rd_T36 l0_1 x13_1).f12⟩ : S36)]) := ⟨_, rfl⟩
                  replace H : (unisonref08_W_From.l0 k1 a1 a2 y183 (l0_1.length : Int) (wrap64 (x13_1 + 1)) a0_0 l0_1 a0_2) = some r := by first | (rw [hy183]; with_reducible exact H) | (have H2_ := (Option.bind_some _ _).symm.trans H; rw [hy183]; with_reducible exact H2_) | (have H2_ := (Option.bind_some _ _).symm.trans H; with_reducible exact H2_) | with_reducible exact H | (rw [hy183]; exact H) | exact H
                  have Ny183 := Aside0.mk hy183
                  clear hy183
                  have H' := Aside0.mk H
                  clear H
                  have hcz14_0 : wr.cell? ⟨gb177, 0, none⟩ = some (.int .i64 a0_0) := (blk_cell BK177.out 0).trans rfl
                  have hcz14_1 : wr.cell? ⟨gb177, 1, none⟩ = some (.slice A0_1 l0_1.length c0_1) := (blk_cell BK177.out 1).trans rfl
                  have hcz14_2 : wr.cell? ⟨gb177, 2, none⟩ = some (.int .u64 a0_2) := (blk_cell BK177.out 2).trans rfl
                  have hfz14_0 := blk_frozen BK177.out 0
                  have hfz14_1 := blk_frozen BK177.out 1
                  have hfz14_2 := blk_frozen BK177.out 2
                  have p181 : 0 ≤ (x13_1 : Int) := of_decide_eq_true (by first | (with_reducible assumption) | assumption)
                  have q181 : x13_1 < (l0_1.length : Int) := of_decide_eq_true (by first | (with_reducible assumption) | assumption)
                  obtain ⟨ad181, A181_11, c181_11, A181_12, c181_12, A181_13, c181_13, A181_14, c181_14, A181_15, c181_15, e181, hx181_0, hx181_1, hx181_2, hx181_3, hx181_4, hx181_5, hx181_6, hx181_7, hx181_8, hx181_9, hx181_10, hx181_11, hx181_12, hx181_13, hx181_14, hx181_15, hl181_11, hi181_11, hl181_12, hi181_12, hl181_13, hi181_13, hl181_14, hi181_14, hl181_15, hi181_15⟩ := at_T36 (Kd.V_reads' HO_178001.out).2.2 x13_1 p181 q181
                  cases e181
                  obtain ⟨ce181, hce181, hMe181, hcc181⟩ := Kd.V_get HO_178001.out z36 x13_1 p181 (by first | exact q181 | exact of_decide_eq_true (by first | (with_reducible assumption) | assumption) | (have e_ := (Kd.V_reads' HO_178001.out).1; omega))
                  obtain ⟨ua181_11, uc181_11, ua181_12, uc181_12, ua181_13, uc181_13, ua181_14, uc181_14, ua181_15, uc181_15, rfl, ul181_11, ge181_11, ul181_12, ge181_12, ul181_13, ge181_13, ul181_14, ge181_14, ul181_15, ge181_15⟩ := k36_openF hMe181
                  have hv181_11 := hcc181 11 _ rfl
                  rw [add_field _ _ 11 (by omega)] at hv181_11
                  replace hv181_11 := Option.some.inj (hv181_11.symm.trans hx181_11)
                  injection hv181_11 with hva_ hvn_ hvc_
                  rw [hva_] at ge181_11
                  rw [hvc_] at ul181_11
                  have HL181_11 := Aside0.mk (show Kd.V k66 66 _ w.heap.size _ _ ((rd_T36 l0_1 x13_1).f8) from Kd.V_mk ul181_11 ge181_11)
                  clear hva_ hvn_ hvc_ ge181_11 ul181_11
                  have hv181_12 := hcc181 12 _ rfl
                  rw [add_field _ _ 12 (by omega)] at hv181_12
                  replace hv181_12 := Option.some.inj (hv181_12.symm.trans hx181_12)
                  injection hv181_12 with hva_ hvn_ hvc_
                  rw [hva_] at ge181_12
                  rw [hvc_] at ul181_12
                  have HL181_12 := Aside0.mk (show Kd.V k66 66 _ w.heap.size _ _ ((rd_T36 l0_1 x13_1).f9) from Kd.V_mk ul181_12 ge181_12)
                  clear hva_ hvn_ hvc_ ge181_12 ul181_12
                  have hv181_13 := hcc181 13 _ rfl
                  rw [add_field _ _ 13 (by omega)] at hv181_13
                  replace hv181_13 := Option.some.inj (hv181_13.symm.trans hx181_13)
                  injection hv181_13 with hva_ hvn_ hvc_
                  rw [hva_] at ge181_13
                  rw [hvc_] at ul181_13
                  have HL181_13 := Aside0.mk (show Kd.V (Kd.int .u64) 27 _ w.heap.size _ _ ((rd_T36 l0_1 x13_1).f10) from Kd.V_mk ul181_13 ge181_13)
                  clear hva_ hvn_ hvc_ ge181_13 ul181_13
                  have hv181_14 := hcc181 14 _ rfl
                  rw [add_field _ _ 14 (by omega)] at hv181_14
                  replace hv181_14 := Option.some.inj (hv181_14.symm.trans hx181_14)
                  injection hv181_14 with hva_ hvn_ hvc_
                  rw [hva_] at ge181_14
                  rw [hvc_] at ul181_14
                  have HL181_14 := Aside0.mk (show Kd.V (Kd.int .u64) 27 _ w.heap.size _ _ ((rd_T36 l0_1 x13_1).f11) from Kd.V_mk ul181_14 ge181_14)
                  clear hva_ hvn_ hvc_ ge181_14 ul181_14
                  have hv181_15 := hcc181 15 _ rfl
                  rw [add_field _ _ 15 (by omega)] at hv181_15
                  replace hv181_15 := Option.some.inj (hv181_15.symm.trans hx181_15)
                  injection hv181_15 with hva_ hvn_ hvc_
                  rw [hva_] at ge181_15
                  rw [hvc_] at ul181_15
                  have HL181_15 := Aside0.mk (show Kd.V (Kd.int .u8) 5 _ w.heap.size _ _ ((rd_T36 l0_1 x13_1).f12) from Kd.V_mk ul181_15 ge181_15)
                  clear hva_ hvn_ hvc_ ge181_15 ul181_15
                  clear hcc181 hce181
                  have HR181_11 := Aside0.mk hi181_11
                  have HC181_11 := Aside0.mk hl181_11
                  clear hi181_11 hl181_11
                  have HR181_12 := Aside0.mk hi181_12
                  have HC181_12 := Aside0.mk hl181_12
                  clear hi181_12 hl181_12
                  have HR181_13 := Aside0.mk hi181_13
                  have HC181_13 := Aside0.mk hl181_13
                  clear hi181_13 hl181_13
                  have HR181_14 := Aside0.mk hi181_14
                  have HC181_14 := Aside0.mk hl181_14
                  clear hi181_14 hl181_14
                  have HR181_15 := Aside0.mk hi181_15
                  have HC181_15 := Aside0.mk hl181_15
                  clear hi181_15 hl181_15
                  replace p181 := eq_true p181
                  replace q181 := eq_true q181
                  obtain ⟨Ao15, co15, eo15⟩ := Kd.N_slice HO_7.out
                  subst eo15
                  have p182 : 0 ≤ (x13_1 : Int) := of_decide_eq_true (by first | (with_reducible assumption) | assumption)
                  have q182 : x13_1 < (l0_1.length : Int) := of_decide_eq_true (by first | (with_reducible assumption) | assumption)
                  obtain ⟨ad182, A182_11, c182_11, A182_12, c182_12, A182_13, c182_13, A182_14, c182_14, A182_15, c182_15, e182, hx182_0, hx182_1, hx182_2, hx182_3, hx182_4, hx182_5, hx182_6, hx182_7, hx182_8, hx182_9, hx182_10, hx182_11, hx182_12, hx182_13, hx182_14, hx182_15, hl182_11, hi182_11, hl182_12, hi182_12, hl182_13, hi182_13, hl182_14, hi182_14, hl182_15, hi182_15⟩ := at_T36 (Kd.V_reads' HO_178001.out).2.2 x13_1 p182 q182
                  obtain rfl : ad181 = ad182 := (by injection e182)
                  obtain ⟨ce182, hce182, hMe182, hcc182⟩ := Kd.V_get HO_178001.out z36 x13_1 p182 (by first | exact q182 | exact of_decide_eq_true (by first | (with_reducible assumption) | assumption) | (have e_ := (Kd.V_reads' HO_178001.out).1; omega))
                  obtain ⟨ua182_11, uc182_11, ua182_12, uc182_12, ua182_13, uc182_13, ua182_14, uc182_14, ua182_15, uc182_15, rfl, ul182_11, ge182_11, ul182_12, ge182_12, ul182_13, ge182_13, ul182_14, ge182_14, ul182_15, ge182_15⟩ := k36_openF hMe182
                  have hv182_11 := hcc182 11 _ rfl
                  rw [add_field _ _ 11 (by omega)] at hv182_11
                  replace hv182_11 := Option.some.inj (hv182_11.symm.trans hx182_11)
                  injection hv182_11 with hva_ hvn_ hvc_
                  rw [hva_] at ge182_11
                  rw [hvc_] at ul182_11
                  have HL182_11 := Aside0.mk (show Kd.V k66 66 _ w.heap.size _ _ ((rd_T36 l0_1 x13_1).f8) from Kd.V_mk ul182_11 ge182_11)
                  clear hva_ hvn_ hvc_ ge182_11 ul182_11
                  have hv182_12 := hcc182 12 _ rfl
                  rw [add_field _ _ 12 (by omega)] at hv182_12
                  replace hv182_12 := Option.some.inj (hv182_12.symm.trans hx182_12)
                  injection hv182_12 with hva_ hvn_ hvc_
                  rw [hva_] at ge182_12
                  rw [hvc_] at ul182_12
                  have HL182_12 := Aside0.mk (show Kd.V k66 66 _ w.heap.size _ _ ((rd_T36 l0_1 x13_1).f9) from Kd.V_mk ul182_12 ge182_12)
                  clear hva_ hvn_ hvc_ ge182_12 ul182_12
                  have hv182_13 := hcc182 13 _ rfl
                  rw [add_field _ _ 13 (by omega)] at hv182_13
                  replace hv182_13 := Option.some.inj (hv182_13.symm.trans hx182_13)
                  injection hv182_13 with hva_ hvn_ hvc_
                  rw [hva_] at ge182_13
                  rw [hvc_] at ul182_13
                  have HL182_13 := Aside0.mk (show Kd.V (Kd.int .u64) 27 _ w.heap.size _ _ ((rd_T36 l0_1 x13_1).f10) from Kd.V_mk ul182_13 ge182_13)
                  clear hva_ hvn_ hvc_ ge182_13 ul182_13
                  have hv182_14 := hcc182 14 _ rfl
                  rw [add_field _ _ 14 (by omega)] at hv182_14
                  replace hv182_14 := Option.some.inj (hv182_14.symm.trans hx182_14)
                  injection hv182_14 with hva_ hvn_ hvc_
                  rw [hva_] at ge182_14
                  rw [hvc_] at ul182_14
                  have HL182_14 := Aside0.mk (show Kd.V (Kd.int .u64) 27 _ w.heap.size _ _ ((rd_T36 l0_1 x13_1).f11) from Kd.V_mk ul182_14 ge182_14)
                  clear hva_ hvn_ hvc_ ge182_14 ul182_14
                  have hv182_15 := hcc182 15 _ rfl
                  rw [add_field _ _ 15 (by omega)] at hv182_15
                  replace hv182_15 := Option.some.inj (hv182_15.symm.trans hx182_15)
                  injection hv182_15 with hva_ hvn_ hvc_
                  rw [hva_] at ge182_15
                  rw [hvc_] at ul182_15
                  have HL182_15 := Aside0.mk (show Kd.V (Kd.int .u8) 5 _ w.heap.size _ _ ((rd_T36 l0_1 x13_1).f12) from Kd.V_mk ul182_15 ge182_15)
                  clear hva_ hvn_ hvc_ ge182_15 ul182_15
                  clear hcc182 hce182
                  have HR182_11 := Aside0.mk hi182_11
                  have HC182_11 := Aside0.mk hl182_11
                  clear hi182_11 hl182_11
                  have HR182_12 := Aside0.mk hi182_12
                  have HC182_12 := Aside0.mk hl182_12
                  clear hi182_12 hl182_12
                  have HR182_13 := Aside0.mk hi182_13
                  have HC182_13 := Aside0.mk hl182_13
                  clear hi182_13 hl182_13
                  have HR182_14 := Aside0.mk hi182_14
                  have HC182_14 := Aside0.mk hl182_14
                  clear hi182_14 hl182_14
                  have HR182_15 := Aside0.mk hi182_15
                  have HC182_15 := Aside0.mk hl182_15
                  clear hi182_15 hl182_15
                  replace p182 := eq_true p182
                  replace q182 := eq_true q182
                  have ea_ := Option.some.inj (hx181_11.symm.trans hx182_11)
                  injection ea_ with ea_ en_ ec_
                  subst ea_
                  subst ec_
                  clear en_
                  have ea_ := Option.some.inj (hx181_12.symm.trans hx182_12)
                  injection ea_ with ea_ en_ ec_
                  subst ea_
                  subst ec_
                  clear en_
                  have ea_ := Option.some.inj (hx181_13.symm.trans hx182_13)
                  injection ea_ with ea_ en_ ec_
                  subst ea_
                  subst ec_
                  clear en_
                  have ea_ := Option.some.inj (hx181_14.symm.trans hx182_14)
                  injection ea_ with ea_ en_ ec_
                  subst ea_
                  subst ec_
                  clear en_
                  have ea_ := Option.some.inj (hx181_15.symm.trans hx182_15)
                  injection ea_ with ea_ en_ ec_
                  subst ea_
                  subst ec_
                  clear en_
                  go_wp2_with (first | ((with_reducible refine gate_builtin (b := .append) (xs := #[.tmp 30, .tmp 36]) rfl ?_); (try (refine gate_guard (by rfl) ?_; dsimp only)); at_builtin; refine Kd.N_append k36 (w0 := w) w.heap.size rfl (.tmp 30) (.tmp 36) 37 36 (.agg #[(.int .u8 0), (.int .u8 0), (.int .u8 0), (.int .u8 0), (.int .u64 0), (.int .u64 0), (.int .u32 0), (.int .u32 0), (.int .u32 0), (.int .u64 0), (.int .u64 0), (.slice none 0 0), (.slice none 0 0), (.slice none 0 0), (.slice none 0 0), (.slice none 0 0)]) 184 rfl Try.underlying37 info36 rfl (by decide) (by omega) (.slice Ao15 x7_1.length co15) x7_1 (⟨(⟨(rd_T36 l0_1 x13_1).f0.f0, (rd_T36 l0_1 x13_1).f0.f1, (rd_T36 l0_1 x13_1).f0.f2⟩ : S30), (⟨(rd_T36 l0_1 x13_1).f1.f0, (rd_T36 l0_1 x13_1).f1.f1⟩ : S32), (rd_T36 l0_1 x13_1).f2, (rd_T36 l0_1 x13_1).f3, (rd_T36 l0_1 x13_1).f4, (rd_T36 l0_1 x13_1).f5, (rd_T36 l0_1 x13_1).f6, (rd_T36 l0_1 x13_1).f7, (rd_T36 l0_1 x13_1).f8, (rd_T36 l0_1 x13_1).f9, (rd_T36 l0_1 x13_1).f10, (rd_T36 l0_1 x13_1).f11, (rd_T36 l0_1 x13_1).f12⟩ : S36) [.int .u8 ((rd_T36 l0_1 x13_1).f0.f0), .int .u8 ((rd_T36 l0_1 x13_1).f0.f1), .int .u8 ((rd_T36 l0_1 x13_1).f0.f2), .int .u8 ((rd_T36 l0_1 x13_1).f1.f0), .int .u64 ((rd_T36 l0_1 x13_1).f1.f1), .int .u64 ((rd_T36 l0_1 x13_1).f2), .int .u32 ((rd_T36 l0_1 x13_1).f3), .int .u32 ((rd_T36 l0_1 x13_1).f4), .int .u32 ((rd_T36 l0_1 x13_1).f5), .int .u64 ((rd_T36 l0_1 x13_1).f6), .int .u64 ((rd_T36 l0_1 x13_1).f7), .slice A181_11 ((rd_T36 l0_1 x13_1).f8).length c181_11, .slice A181_12 ((rd_T36 l0_1 x13_1).f9).length c181_12, .slice A181_13 ((rd_T36 l0_1 x13_1).f10).length c181_13, .slice A181_14 ((rd_T36 l0_1 x13_1).f11).length c181_14, .slice A181_15 ((rd_T36 l0_1 x13_1).f12).length c181_15] (fun k_ => (P0_1_ k_ ∨ w.heap.size ≤ k_) ∧ k_ ≠ gb177) (fun k_ => ((fun k_ => (P0_1_ k_ ∨ w.heap.size ≤ k_) ∧ k_ ≠ gb177)) k_ ∧ some k_ ≠ (.slice Ao15 x7_1.length co15 : Value).ownBlock) rfl rfl ?aP (fun _ hk => hk) ?aF ?aO ?aB ?aS ?aL ?_; (case aP => exact (k36_mkF _ _ (⟨(⟨(rd_T36 l0_1 x13_1).f0.f0, (rd_T36 l0_1 x13_1).f0.f1, (rd_T36 l0_1 x13_1).f0.f2⟩ : S30), (⟨(rd_T36 l0_1 x13_1).f1.f0, (rd_T36 l0_1 x13_1).f1.f1⟩ : S32), (rd_T36 l0_1 x13_1).f2, (rd_T36 l0_1 x13_1).f3, (rd_T36 l0_1 x13_1).f4, (rd_T36 l0_1 x13_1).f5, (rd_T36 l0_1 x13_1).f6, (rd_T36 l0_1 x13_1).f7, (rd_T36 l0_1 x13_1).f8, (rd_T36 l0_1 x13_1).f9, (rd_T36 l0_1 x13_1).f10, (rd_T36 l0_1 x13_1).f11, (rd_T36 l0_1 x13_1).f12⟩ : S36) (Kd.V_reads' (Kd.V_mono (ok' := (fun k_ => ((fun k_ => (P0_1_ k_ ∨ w.heap.size ≤ k_) ∧ k_ ≠ gb177)) k_ ∧ some k_ ≠ (.slice Ao15 x7_1.length co15 : Value).ownBlock)) (HL182_11.out) (fun k_ hk => ⟨⟨hk.1, hk.2.2⟩, hk.2.1⟩))).2.1 (Kd.V_F (Kd.V_mono (ok' := (fun k_ => ((fun k_ => (P0_1_ k_ ∨ w.heap.size ≤ k_) ∧ k_ ≠ gb177)) k_ ∧ some k_ ≠ (.slice Ao15 x7_1.length co15 : Value).ownBlock)) (HL182_11.out) (fun k_ hk => ⟨⟨hk.1, hk.2.2⟩, hk.2.1⟩))) (Kd.V_reads' (Kd.V_mono (ok' := (fun k_ => ((fun k_ => (P0_1_ k_ ∨ w.heap.size ≤ k_) ∧ k_ ≠ gb177)) k_ ∧ some k_ ≠ (.slice Ao15 x7_1.length co15 : Value).ownBlock)) (HL182_12.out) (fun k_ hk => ⟨⟨hk.1, hk.2.2⟩, hk.2.1⟩))).2.1 (Kd.V_F (Kd.V_mono (ok' := (fun k_ => ((fun k_ => (P0_1_ k_ ∨ w.heap.size ≤ k_) ∧ k_ ≠ gb177)) k_ ∧ some k_ ≠ (.slice Ao15 x7_1.length co15 : Value).ownBlock)) (HL182_12.out) (fun k_ hk => ⟨⟨hk.1, hk.2.2⟩, hk.2.1⟩))) (Kd.V_reads' (Kd.V_mono (ok' := (fun k_ => ((fun k_ => (P0_1_ k_ ∨ w.heap.size ≤ k_) ∧ k_ ≠ gb177)) k_ ∧ some k_ ≠ (.slice Ao15 x7_1.length co15 : Value).ownBlock)) (HL182_13.out) (fun k_ hk => ⟨⟨hk.1, hk.2.2⟩, hk.2.1⟩))).2.1 (Kd.V_F (Kd.V_mono (ok' := (fun k_ => ((fun k_ => (P0_1_ k_ ∨ w.heap.size ≤ k_) ∧ k_ ≠ gb177)) k_ ∧ some k_ ≠ (.slice Ao15 x7_1.length co15 : Value).ownBlock)) (HL182_13.out) (fun k_ hk => ⟨⟨hk.1, hk.2.2⟩, hk.2.1⟩))) (Kd.V_reads' (Kd.V_mono (ok' := (fun k_ => ((fun k_ => (P0_1_ k_ ∨ w.heap.size ≤ k_) ∧ k_ ≠ gb177)) k_ ∧ some k_ ≠ (.slice Ao15 x7_1.length co15 : Value).ownBlock)) (HL182_14.out) (fun k_ hk => ⟨⟨hk.1, hk.2.2⟩, hk.2.1⟩))).2.1 (Kd.V_F (Kd.V_mono (ok' := (fun k_ => ((fun k_ => (P0_1_ k_ ∨ w.heap.size ≤ k_) ∧ k_ ≠ gb177)) k_ ∧ some k_ ≠ (.slice Ao15 x7_1.length co15 : Value).ownBlock)) (HL182_14.out) (fun k_ hk => ⟨⟨hk.1, hk.2.2⟩, hk.2.1⟩))) (Kd.V_reads' (Kd.V_mono (ok' := (fun k_ => ((fun k_ => (P0_1_ k_ ∨ w.heap.size ≤ k_) ∧ k_ ≠ gb177)) k_ ∧ some k_ ≠ (.slice Ao15 x7_1.length co15 : Value).ownBlock)) (HL182_15.out) (fun k_ hk => ⟨⟨hk.1, hk.2.2⟩, hk.2.1⟩))).2.1 (Kd.V_F (Kd.V_mono (ok' := (fun k_ => ((fun k_ => (P0_1_ k_ ∨ w.heap.size ≤ k_) ∧ k_ ≠ gb177)) k_ ∧ some k_ ≠ (.slice Ao15 x7_1.length co15 : Value).ownBlock)) (HL182_15.out) (fun k_ hk => ⟨⟨hk.1, hk.2.2⟩, hk.2.1⟩))))); (case aB => exact (by repeat (first | (with_reducible first | exact HB.out | apply below_alloc | apply pw_below_drewN | apply below_drew1 | refine below_set ?_ GE177.out) | exact HB.out))); (case aF => exact (fun k_ hk => ⟨(.inr (Nat.le_trans (below_size (by repeat (first | (with_reducible first | exact HB.out | apply below_alloc | apply pw_below_drewN | apply below_drew1 | refine below_set ?_ GE177.out) | exact HB.out))) hk)), Kd.freshB (g := gb177) (o := .cells #[.int .i64 a0_0, .slice (some ad181) l0_1.length c0_1, .int .u64 a0_2] 42 (0, 0)) (by (with_reducible repeat (first | refine blk_drewN ?_ _ | refine blk_drew ?_ | refine blk_alloc ?_ _)); exact BK177.out) k_ hk⟩)); (case aO => exact (by (with_reducible repeat (first | apply Kd.N_alloc | apply Kd.N_drewN | apply Kd.N_drew)); exact HO_7.out)); (case aS => exact (below_size (by repeat (first | (with_reducible first | exact HB.out | apply below_alloc | apply pw_below_drewN | apply below_drew1 | refine below_set ?_ GE177.out) | exact HB.out)))); (case aL => have := LMc13.out; omega); intro v184 w16 ho hb hg hat; rw [← Ny183.out] at ho; have n0_ := Aside0.mk (Kd.V_afterv (ok := (fun k_ => (P0_1_ k_ ∨ w.heap.size ≤ k_) ∧ k_ ≠ gb177)) (by (with_reducible repeat (first | apply Kd.V_alloc | apply Kd.V_drewN | apply Kd.V_drew)); exact Kd.V_mono HO_178001.out (fun _ hk => ⟨⟨hk.1, hk.2.2⟩, hk.2.1⟩)) hg hat); have n1_ := Aside0.mk (blk_grown (g := gb177) (o := .cells #[.int .i64 a0_0, .slice (some ad181) l0_1.length c0_1, .int .u64 a0_2] 42 (0, 0)) (by (with_reducible repeat (first | refine blk_drewN ?_ _ | refine blk_drew ?_ | refine blk_alloc ?_ _)); exact BK177.out) hg (Kd.N_ne HO_7.out BK177.out (by decide))); have n2_ := Aside0.mk (Kd.V_afterv (ok := (fun k_ => (P0_1_ k_ ∨ w.heap.size ≤ k_) ∧ k_ ≠ gb177)) (by (with_reducible repeat (first | apply Kd.V_alloc | apply Kd.V_drewN | apply Kd.V_drew)); exact Kd.V_mono HL181_11.out (fun _ hk => ⟨⟨hk.1, hk.2.2⟩, hk.2.1⟩)) hg hat); have n3_ := Aside0.mk (Kd.V_afterv (ok := (fun k_ => (P0_1_ k_ ∨ w.heap.size ≤ k_) ∧ k_ ≠ gb177)) (by (with_reducible repeat (first | apply Kd.V_alloc | apply Kd.V_drewN | apply Kd.V_drew)); exact Kd.V_mono HL181_12.out (fun _ hk => ⟨⟨hk.1, hk.2.2⟩, hk.2.1⟩)) hg hat); have n4_ := Aside0.mk (Kd.V_afterv (ok := (fun k_ => (P0_1_ k_ ∨ w.heap.size ≤ k_) ∧ k_ ≠ gb177)) (by (with_reducible repeat (first | apply Kd.V_alloc | apply Kd.V_drewN | apply Kd.V_drew)); exact Kd.V_mono HL181_13.out (fun _ hk => ⟨⟨hk.1, hk.2.2⟩, hk.2.1⟩)) hg hat); have n5_ := Aside0.mk (Kd.V_afterv (ok := (fun k_ => (P0_1_ k_ ∨ w.heap.size ≤ k_) ∧ k_ ≠ gb177)) (by (with_reducible repeat (first | apply Kd.V_alloc | apply Kd.V_drewN | apply Kd.V_drew)); exact Kd.V_mono HL181_14.out (fun _ hk => ⟨⟨hk.1, hk.2.2⟩, hk.2.1⟩)) hg hat); have n6_ := Aside0.mk (Kd.V_afterv (ok := (fun k_ => (P0_1_ k_ ∨ w.heap.size ≤ k_) ∧ k_ ≠ gb177)) (by (with_reducible repeat (first | apply Kd.V_alloc | apply Kd.V_drewN | apply Kd.V_drew)); exact Kd.V_mono HL181_15.out (fun _ hk => ⟨⟨hk.1, hk.2.2⟩, hk.2.1⟩)) hg hat); have n7_ := Aside0.mk (Kd.V_afterv (ok := (fun k_ => (P0_1_ k_ ∨ w.heap.size ≤ k_) ∧ k_ ≠ gb177)) (by (with_reducible repeat (first | apply Kd.V_alloc | apply Kd.V_drewN | apply Kd.V_drew)); exact Kd.V_mono HL182_11.out (fun _ hk => ⟨⟨hk.1, hk.2.2⟩, hk.2.1⟩)) hg hat); have n8_ := Aside0.mk (Kd.V_afterv (ok := (fun k_ => (P0_1_ k_ ∨ w.heap.size ≤ k_) ∧ k_ ≠ gb177)) (by (with_reducible repeat (first | apply Kd.V_alloc | apply Kd.V_drewN | apply Kd.V_drew)); exact Kd.V_mono HL182_12.out (fun _ hk => ⟨⟨hk.1, hk.2.2⟩, hk.2.1⟩)) hg hat); have n9_ := Aside0.mk (Kd.V_afterv (ok := (fun k_ => (P0_1_ k_ ∨ w.heap.size ≤ k_) ∧ k_ ≠ gb177)) (by (with_reducible repeat (first | apply Kd.V_alloc | apply Kd.V_drewN | apply Kd.V_drew)); exact Kd.V_mono HL182_13.out (fun _ hk => ⟨⟨hk.1, hk.2.2⟩, hk.2.1⟩)) hg hat); have n10_ := Aside0.mk (Kd.V_afterv (ok := (fun k_ => (P0_1_ k_ ∨ w.heap.size ≤ k_) ∧ k_ ≠ gb177)) (by (with_reducible repeat (first | apply Kd.V_alloc | apply Kd.V_drewN | apply Kd.V_drew)); exact Kd.V_mono HL182_14.out (fun _ hk => ⟨⟨hk.1, hk.2.2⟩, hk.2.1⟩)) hg hat); have n11_ := Aside0.mk (Kd.V_afterv (ok := (fun k_ => (P0_1_ k_ ∨ w.heap.size ≤ k_) ∧ k_ ≠ gb177)) (by (with_reducible repeat (first | apply Kd.V_alloc | apply Kd.V_drewN | apply Kd.V_drew)); exact Kd.V_mono HL182_15.out (fun _ hk => ⟨⟨hk.1, hk.2.2⟩, hk.2.1⟩)) hg hat); have n12_ := Aside0.mk (hb); have n13_ := Aside0.mk (ho); clear HO_178001; clear BK177; clear HL181_11; clear HL181_12; clear HL181_13; clear HL181_14; clear HL181_15; clear HL182_11; clear HL182_12; clear HL182_13; clear HL182_14; clear HL182_15; clear HB; clear HO_7; have HO_178001 := n0_; have BK177 := n1_; have HL181_11 := n2_; have HL181_12 := n3_; have HL181_13 := n4_; have HL181_14 := n5_; have HL181_15 := n6_; have HL182_11 := n7_; have HL182_12 := n8_; have HL182_13 := n9_; have HL182_14 := n10_; have HL182_15 := n11_; have HB := n12_; have HO185 := n13_; clear n0_ n1_ n2_ n3_ n4_ n5_ n6_ n7_ n8_ n9_ n10_ n11_ n12_ n13_; clear ho hb hg hat))
                  go_roundg k1
                  case measure => have := HK1.out; omega
                  case rel => exact ⟨(y183), (wrap64 (x13_1 + 1)), (by first | rfl | (simp; done) | (simp [*]; done)), H', ⟨by have := HK1.out; omega⟩, ⟨by (with_reducible repeat (first | apply Kd.N_alloc | apply Kd.N_drewN | apply Kd.N_drew)); exact HO185.out⟩, ⟨by (with_reducible repeat (first | apply Kd.V_alloc | apply Kd.V_drewN | apply Kd.V_drew)); exact Kd.V_mono HO_178001.out (fun _ hk => ⟨hk.1.1, ⟨hk.2, hk.1.2⟩⟩)⟩, ⟨by (with_reducible repeat (first | refine blk_drewN ?_ _ | refine blk_drew ?_ | refine blk_alloc ?_ _)); exact BK177.out⟩, ⟨by repeat (first | (with_reducible first | exact HB.out | apply below_alloc | apply pw_below_drewN | apply below_drew1 | refine below_set ?_ GE177.out) | exact HB.out)⟩⟩
                · rw [if_neg c13] at H
                  exact absurd H (by simp)
              · rw [if_neg c12] at H
                have c12b0 : decide ((x7_1.length : Int) < a2) = false := decide_eq_false c12
                clear c12
                have H' := Aside0.mk H
                clear H
                have hcz17_0 : wr.cell? ⟨gb177, 0, none⟩ = some (.int .i64 a0_0) := (blk_cell BK177.out 0).trans rfl
                have hcz17_1 : wr.cell? ⟨gb177, 1, none⟩ = some (.slice A0_1 l0_1.length c0_1) := (blk_cell BK177.out 1).trans rfl
                have hcz17_2 : wr.cell? ⟨gb177, 2, none⟩ = some (.int .u64 a0_2) := (blk_cell BK177.out 2).trans rfl
                have hfz17_0 := blk_frozen BK177.out 0
                have hfz17_1 := blk_frozen BK177.out 1
                have hfz17_2 := blk_frozen BK177.out 2
                have p181 : 0 ≤ (x13_1 : Int) := of_decide_eq_true (by first | (with_reducible assumption) | assumption)
                have q181 : x13_1 < (l0_1.length : Int) := of_decide_eq_true (by first | (with_reducible assumption) | assumption)
                obtain ⟨ad181, A181_11, c181_11, A181_12, c181_12, A181_13, c181_13, A181_14, c181_14, A181_15, c181_15, e181, hx181_0, hx181_1, hx181_2, hx181_3, hx181_4, hx181_5, hx181_6, hx181_7, hx181_8, hx181_9, hx181_10, hx181_11, hx181_12, hx181_13, hx181_14, hx181_15, hl181_11, hi181_11, hl181_12, hi181_12, hl181_13, hi181_13, hl181_14, hi181_14, hl181_15, hi181_15⟩ := at_T36 (Kd.V_reads' HO_178001.out).2.2 x13_1 p181 q181
                cases e181
                obtain ⟨ce181, hce181, hMe181, hcc181⟩ := Kd.V_get HO_178001.out z36 x13_1 p181 (by first | exact q181 | exact of_decide_eq_true (by first | (with_reducible assumption) | assumption) | (have e_ := (Kd.V_reads' HO_178001.out).1; omega))
                obtain ⟨ua181_11, uc181_11, ua181_12, uc181_12, ua181_13, uc181_13, ua181_14, uc181_14, ua181_15, uc181_15, rfl, ul181_11, ge181_11, ul181_12, ge181_12, ul181_13, ge181_13, ul181_14, ge181_14, ul181_15, ge181_15⟩ := k36_openF hMe181
                have hv181_11 := hcc181 11 _ rfl
                rw [add_field _ _ 11 (by omega)] at hv181_11
                replace hv181_11 := Option.some.inj (hv181_11.symm.trans hx181_11)
                injection hv181_11 with hva_ hvn_ hvc_
                rw [hva_] at ge181_11
                rw [hvc_] at ul181_11
                have HL181_11 := Aside0.mk (show Kd.V k66 66 _ w.heap.size _ _ ((rd_T36 l0_1 x13_1).f8) from Kd.V_mk ul181_11 ge181_11)
                clear hva_ hvn_ hvc_ ge181_11 ul181_11
                have hv181_12 := hcc181 12 _ rfl
                rw [add_field _ _ 12 (by omega)] at hv181_12
                replace hv181_12 := Option.some.inj (hv181_12.symm.trans hx181_12)
                injection hv181_12 with hva_ hvn_ hvc_
                rw [hva_] at ge181_12
                rw [hvc_] at ul181_12
                have HL181_12 := Aside0.mk (show Kd.V k66 66 _ w.heap.size _ _ ((rd_T36 l0_1 x13_1).f9) from Kd.V_mk ul181_12 ge181_12)
                clear hva_ hvn_ hvc_ ge181_12 ul181_12
                have hv181_13 := hcc181 13 _ rfl
                rw [add_field _ _ 13 (by omega)] at hv181_13
                replace hv181_13 := Option.some.inj (hv181_13.symm.trans hx181_13)
                injection hv181_13 with hva_ hvn_ hvc_
                rw [hva_] at ge181_13
                rw [hvc_] at ul181_13
                have HL181_13 := Aside0.mk (show Kd.V (Kd.int .u64) 27 _ w.heap.size _ _ ((rd_T36 l0_1 x13_1).f10) from Kd.V_mk ul181_13 ge181_13)
                clear hva_ hvn_ hvc_ ge181_13 ul181_13
                have hv181_14 := hcc181 14 _ rfl
                rw [add_field _ _ 14 (by omega)] at hv181_14
                replace hv181_14 := Option.some.inj (hv181_14.symm.trans hx181_14)
                injection hv181_14 with hva_ hvn_ hvc_
                rw [hva_] at ge181_14
                rw [hvc_] at ul181_14
                have HL181_14 := Aside0.mk (show Kd.V (Kd.int .u64) 27 _ w.heap.size _ _ ((rd_T36 l0_1 x13_1).f11) from Kd.V_mk ul181_14 ge181_14)
                clear hva_ hvn_ hvc_ ge181_14 ul181_14
                have hv181_15 := hcc181 15 _ rfl
                rw [add_field _ _ 15 (by omega)] at hv181_15
                replace hv181_15 := Option.some.inj (hv181_15.symm.trans hx181_15)
                injection hv181_15 with hva_ hvn_ hvc_
                rw [hva_] at ge181_15
                rw [hvc_] at ul181_15
                have HL181_15 := Aside0.mk (show Kd.V (Kd.int .u8) 5 _ w.heap.size _ _ ((rd_T36 l0_1 x13_1).f12) from Kd.V_mk ul181_15 ge181_15)
                clear hva_ hvn_ hvc_ ge181_15 ul181_15
                clear hcc181 hce181
                have HR181_11 := Aside0.mk hi181_11
                have HC181_11 := Aside0.mk hl181_11
                clear hi181_11 hl181_11
                have HR181_12 := Aside0.mk hi181_12
                have HC181_12 := Aside0.mk hl181_12
                clear hi181_12 hl181_12
                have HR181_13 := Aside0.mk hi181_13
                have HC181_13 := Aside0.mk hl181_13
                clear hi181_13 hl181_13
                have HR181_14 := Aside0.mk hi181_14
                have HC181_14 := Aside0.mk hl181_14
                clear hi181_14 hl181_14
                have HR181_15 := Aside0.mk hi181_15
                have HC181_15 := Aside0.mk hl181_15
                clear hi181_15 hl181_15
                replace p181 := eq_true p181
                replace q181 := eq_true q181
                obtain ⟨Ao18, co18, eo18⟩ := Kd.N_slice HO_7.out
                subst eo18
                go_wp2
                go_roundg k1
                case measure => have := HK1.out; omega
                case rel => exact ⟨(x7_1), (wrap64 (x13_1 + 1)), (by first | rfl | (simp; done) | (simp [*]; done)), H', ⟨by have := HK1.out; omega⟩, ⟨by (with_reducible repeat (first | apply Kd.N_alloc | apply Kd.N_drewN | apply Kd.N_drew)); exact HO_7.out⟩, ⟨by (with_reducible repeat (first | apply Kd.V_alloc | apply Kd.V_drewN | apply Kd.V_drew)); exact HO_178001.out⟩, ⟨by (with_reducible repeat (first | refine blk_drewN ?_ _ | refine blk_drew ?_ | refine blk_alloc ?_ _)); exact BK177.out⟩, ⟨by repeat (first | (with_reducible first | exact HB.out | apply below_alloc | apply pw_below_drewN | apply below_drew1 | refine below_set ?_ GE177.out) | exact HB.out)⟩⟩
            · rw [if_neg c11] at H
              have c11b0 : decide (a1 ≤ ((rd_T36 l0_1 x13_1).f2)) = false := decide_eq_false c11
              clear c11
              have H' := Aside0.mk H
              clear H
              have hcz19_0 : wr.cell? ⟨gb177, 0, none⟩ = some (.int .i64 a0_0) := (blk_cell BK177.out 0).trans rfl
              have hcz19_1 : wr.cell? ⟨gb177, 1, none⟩ = some (.slice A0_1 l0_1.length c0_1) := (blk_cell BK177.out 1).trans rfl
              have hcz19_2 : wr.cell? ⟨gb177, 2, none⟩ = some (.int .u64 a0_2) := (blk_cell BK177.out 2).trans rfl
              have hfz19_0 := blk_frozen BK177.out 0
              have hfz19_1 := blk_frozen BK177.out 1
              have hfz19_2 := blk_frozen BK177.out 2
              have p181 : 0 ≤ (x13_1 : Int) := of_decide_eq_true (by first | (with_reducible assumption) | assumption)
              have q181 : x13_1 < (l0_1.length : Int) := of_decide_eq_true (by first | (with_reducible assumption) | assumption)
              obtain ⟨ad181, A181_11, c181_11, A181_12, c181_12, A181_13, c181_13, A181_14, c181_14, A181_15, c181_15, e181, hx181_0, hx181_1, hx181_2, hx181_3, hx181_4, hx181_5, hx181_6, hx181_7, hx181_8, hx181_9, hx181_10, hx181_11, hx181_12, hx181_13, hx181_14, hx181_15, hl181_11, hi181_11, hl181_12, hi181_12, hl181_13, hi181_13, hl181_14, hi181_14, hl181_15, hi181_15⟩ := at_T36 (Kd.V_reads' HO_178001.out).2.2 x13_1 p181 q181
              cases e181
              obtain ⟨ce181, hce181, hMe181, hcc181⟩ := Kd.V_get HO_178001.out z36 x13_1 p181 (by first | exact q181 | exact of_decide_eq_true (by first | (with_reducible assumption) | assumption) | (have e_ := (Kd.V_reads' HO_178001.out).1; omega))
              obtain ⟨ua181_11, uc181_11, ua181_12, uc181_12, ua181_13, uc181_13, ua181_14, uc181_14, ua181_15, uc181_15, rfl, ul181_11, ge181_11, ul181_12, ge181_12, ul181_13, ge181_13, ul181_14, ge181_14, ul181_15, ge181_15⟩ := k36_openF hMe181
              have hv181_11 := hcc181 11 _ rfl
              rw [add_field _ _ 11 (by omega)] at hv181_11
              replace hv181_11 := Option.some.inj (hv181_11.symm.trans hx181_11)
              injection hv181_11 with hva_ hvn_ hvc_
              rw [hva_] at ge181_11
              rw [hvc_] at ul181_11
              have HL181_11 := Aside0.mk (show Kd.V k66 66 _ w.heap.size _ _ ((rd_T36 l0_1 x13_1).f8) from Kd.V_mk ul181_11 ge181_11)
              clear hva_ hvn_ hvc_ ge181_11 ul181_11
              have hv181_12 := hcc181 12 _ rfl
              rw [add_field _ _ 12 (by omega)] at hv181_12
              replace hv181_12 := Option.some.inj (hv181_12.symm.trans hx181_12)
              injection hv181_12 with hva_ hvn_ hvc_
              rw [hva_] at ge181_12
              rw [hvc_] at ul181_12
              have HL181_12 := Aside0.mk (show Kd.V k66 66 _ w.heap.size _ _ ((rd_T36 l0_1 x13_1).f9) from Kd.V_mk ul181_12 ge181_12)
              clear hva_ hvn_ hvc_ ge181_12 ul181_12
              have hv181_13 := hcc181 13 _ rfl
              rw [add_field _ _ 13 (by omega)] at hv181_13
              replace hv181_13 := Option.some.inj (hv181_13.symm.trans hx181_13)
              injection hv181_13 with hva_ hvn_ hvc_
              rw [hva_] at ge181_13
              rw [hvc_] at ul181_13
              have HL181_13 := Aside0.mk (show Kd.V (Kd.int .u64) 27 _ w.heap.size _ _ ((rd_T36 l0_1 x13_1).f10) from Kd.V_mk ul181_13 ge181_13)
              clear hva_ hvn_ hvc_ ge181_13 ul181_13
              have hv181_14 := hcc181 14 _ rfl
              rw [add_field _ _ 14 (by omega)] at hv181_14
              replace hv181_14 := Option.some.inj (hv181_14.symm.trans hx181_14)
              injection hv181_14 with hva_ hvn_ hvc_
              rw [hva_] at ge181_14
              rw [hvc_] at ul181_14
              have HL181_14 := Aside0.mk (show Kd.V (Kd.int .u64) 27 _ w.heap.size _ _ ((rd_T36 l0_1 x13_1).f11) from Kd.V_mk ul181_14 ge181_14)
              clear hva_ hvn_ hvc_ ge181_14 ul181_14
              have hv181_15 := hcc181 15 _ rfl
              rw [add_field _ _ 15 (by omega)] at hv181_15
              replace hv181_15 := Option.some.inj (hv181_15.symm.trans hx181_15)
              injection hv181_15 with hva_ hvn_ hvc_
              rw [hva_] at ge181_15
              rw [hvc_] at ul181_15
              have HL181_15 := Aside0.mk (show Kd.V (Kd.int .u8) 5 _ w.heap.size _ _ ((rd_T36 l0_1 x13_1).f12) from Kd.V_mk ul181_15 ge181_15)
              clear hva_ hvn_ hvc_ ge181_15 ul181_15
              clear hcc181 hce181
              have HR181_11 := Aside0.mk hi181_11
              have HC181_11 := Aside0.mk hl181_11
              clear hi181_11 hl181_11
              have HR181_12 := Aside0.mk hi181_12
              have HC181_12 := Aside0.mk hl181_12
              clear hi181_12 hl181_12
              have HR181_13 := Aside0.mk hi181_13
              have HC181_13 := Aside0.mk hl181_13
              clear hi181_13 hl181_13
              have HR181_14 := Aside0.mk hi181_14
              have HC181_14 := Aside0.mk hl181_14
              clear hi181_14 hl181_14
              have HR181_15 := Aside0.mk hi181_15
              have HC181_15 := Aside0.mk hl181_15
              clear hi181_15 hl181_15
              replace p181 := eq_true p181
              replace q181 := eq_true q181
              go_wp2
              go_roundg k1
              case measure => have := HK1.out; omega
              case rel => exact ⟨(x7_1), (wrap64 (x13_1 + 1)), (by first | rfl | (simp; done) | (simp [*]; done)), H', ⟨by have := HK1.out; omega⟩, ⟨by (with_reducible repeat (first | apply Kd.N_alloc | apply Kd.N_drewN | apply Kd.N_drew)); exact HO_7.out⟩, ⟨by (with_reducible repeat (first | apply Kd.V_alloc | apply Kd.V_drewN | apply Kd.V_drew)); exact HO_178001.out⟩, ⟨by (with_reducible repeat (first | refine blk_drewN ?_ _ | refine blk_drew ?_ | refine blk_alloc ?_ _)); exact BK177.out⟩, ⟨by repeat (first | (with_reducible first | exact HB.out | apply below_alloc | apply pw_below_drewN | apply below_drew1 | refine below_set ?_ GE177.out) | exact HB.out)⟩⟩
          · rw [if_neg c10] at H
            exact absurd H (by simp)
        · rw [if_neg c9] at H
          exact absurd H (by simp)
      · rw [if_neg c8] at H
        have c8b0 : decide (x13_1 < (l0_1.length : Int)) = false := decide_eq_false c8
        clear c8
        obtain rfl := Option.some.inj H
        go_wp2
        go_ret
        exact ⟨_, by first | rfl | (simp [errW_none, errW_some] <;> rfl) | (simp [*, errW_none, errW_some] <;> rfl), by (with_reducible repeat (first | apply Kd.N_alloc | apply Kd.N_drewN | apply Kd.N_drew)); exact Kd.N_mono HO_7.out (fun _ hk => hk.1), by repeat (first | (with_reducible first | exact HB.out | apply below_alloc | apply pw_below_drewN | apply below_drew1 | refine below_set ?_ GE177.out) | exact HB.out)⟩

end Go.Proofs.Ytdeknknefjepnaa.F
