/- What is proved: the Go functions that the law reaches come to what the Lean functions beside them tell, and (in the text of the law) the given statement follows. Conditions: none beyond each theorem's own. Written by a program (a turned copy of the kit's print.py), some walks by hand. -/
import Derived.Test.YtemgfogpeogdeaaF0
namespace Go.Proofs.Ytemgfogpeogdeaa.F
open Go.RowKit Go.Proofs.YtemgfogpeogdeaaW.PrintWords Go.Proofs.YtemgfogpeogdeaaW.PrintLast Go.Proofs.YtemgfogpeogdeaaW.PrintMore
attribute [local go_sem] max2_int min2_int max_two min_two max_three min_three max_four min_four   -- for this text's walks alone
set_option linter.unusedVariables false
set_option linter.unusedSimpArgs false

/-! ### unisonref07_G_Take: function 25 -/
def unisonref07_G_Take.j0 : Nat → Int → Bool → Bool → Int → List (S48) → Int → Option (Int × (List (S48)) × Int × ByteArray × Bool)
  | 0, _, _, _, _, _, _ => none
  | k + 1, x1, x2, x19, x131000, x131001, x131002 => if x19 = true then (some (x131000, x131001, x131002, (⟨#[]⟩ : ByteArray), false)) else (if 0 ≤ x1 then (if x1 < (x131001.length : Int) then (if x2 = true then ((some (([] : List (S48)) : List (S48))).bind fun y133 => (if x1 ≤ (x131001.length : Int) then ((some (x131001.take (x1 : Int).toNat : List (S48))).bind fun y136 => (if y133.length + y136.length < 5864062014805 then ((some (y133 ++ y136 : List (S48))).bind fun y140 => (if 0 ≤ (wrap64 (x1 + 1)) then (if (wrap64 (x1 + 1)) ≤ (x131001.length : Int) then ((some (x131001.drop ((wrap64 (x1 + 1)) : Int).toNat : List (S48))).bind fun y143 => (if y140.length + y143.length < 5864062014805 then (some (x131000, (y140 ++ y143), x131002, (rd_T48 x131001 x1).f0, true)) else (none))) else (none)) else (none))) else (none))) else (none))) else (some (x131000, x131001, x131002, (rd_T48 x131001 x1).f0, true))) else (none)) else (none))
def unisonref07_G_Take.f (k : Nat) (a0_0 : Int) (l0_1 : List (S48)) (a0_2 : Int) (a1 : Int) (a2 : Bool) : Option (Int × (List (S48)) × Int × ByteArray × Bool) := if a1 < 0 then (unisonref07_G_Take.j0 k a1 a2 true a0_0 l0_1 a0_2) else (unisonref07_G_Take.j0 k a1 a2 (decide (a1 ≥ (l0_1.length : Int))) a0_0 l0_1 a0_2)
theorem unisonref07_G_Take.mono_l : ∀ k, (∀ y0 y1 y2 y3 y4 y5, LeO (unisonref07_G_Take.j0 k y0 y1 y2 y3 y4 y5) (unisonref07_G_Take.j0 (k + 1) y0 y1 y2 y3 y4 y5))
  | 0 => fun _ _ _ _ _ _ r h => by simp [unisonref07_G_Take.j0] at h
  | k + 1 => by
    have ih0 := unisonref07_G_Take.mono_l k
    · intro y0 y1 y2 y3 y4 y5
      unfold unisonref07_G_Take.j0
      repeat' first
      | (with_reducible exact ih0 _ _ _ _ _ _)
      | (with_reducible exact LeO.refl _)
      | (with_reducible exact LeO.none _)
      | (with_reducible refine LeO.ite ?_ ?_)
      | (with_reducible refine LeO.bind ?_ (fun _ => ?_))
      | exact ih0 _ _ _ _ _ _
      | exact LeO.none _
      | refine LeO.ite ?_ ?_
      | refine LeO.bind ?_ (fun _ => ?_)
theorem unisonref07_G_Take.mono : ∀ a0 a1 a2 a3 a4 k, LeO (unisonref07_G_Take.f k a0 a1 a2 a3 a4) (unisonref07_G_Take.f (k + 1) a0 a1 a2 a3 a4) := by
  intro a0 a1 a2 a3 a4 k
  have ih0 := unisonref07_G_Take.mono_l k
  unfold unisonref07_G_Take.f
  repeat' first
      | (with_reducible exact ih0 _ _ _ _ _ _)
      | (with_reducible exact LeO.refl _)
      | (with_reducible exact LeO.none _)
      | (with_reducible refine LeO.ite ?_ ?_)
      | (with_reducible refine LeO.bind ?_ (fun _ => ?_))
      | exact ih0 _ _ _ _ _ _
      | exact LeO.none _
      | refine LeO.ite ?_ ?_
      | refine LeO.bind ?_ (fun _ => ?_)
set_option maxHeartbeats 8000000 in
set_option maxRecDepth 100000 in
theorem unisonref07_G_Take.calls (k : Nat) (a0_0 : Int) (P0_1_ : Nat → Prop) (u9000_ : Value) (l0_1 : List (S48)) (a0_2 : Int) (a1 : Int) (a2 : Bool) (r1 : Int) (r2 : List (S48)) (r3 : Int) (r4 : ByteArray) (r5 : Bool) (w0 w : World) (hB : Below w0.heap.size w0 w) (ho0_1 : Kd.R k48 48 w w0.heap.size P0_1_ u9000_ l0_1) (h : unisonref07_G_Take.f k a0_0 l0_1 a0_2 a1 a2 = some (r1, r2, r3, r4, r5)) :
    Calls Try.prog 25 #[.agg #[.int .i64 a0_0, u9000_, .int .i64 a0_2], .int .i64 a1, .bool a2] w fun e w' => ∃ v1_ : Value, e = .returned (.tuple #[.agg #[.int .i64 r1, v1_, .int .i64 r3], .string r4, .bool r5]) ∧ Kd.R k48 48 w' w0.heap.size (fun k_ => (P0_1_ k_ ∨ w.heap.size ≤ k_)) v1_ r2 ∧ Below w0.heap.size w0 w' ∧ Kept w w' (fun k_ => P0_1_ k_) := by
  have hu43 := Try.underlying43
  have HO0_1 := Aside0.mk (show Kd.R k48 48 w w0.heap.size (fun k_ => (P0_1_ k_ ∨ w.heap.size ≤ k_)) u9000_ l0_1 from Kd.R_mono ho0_1 (fun k_ hk => (.inl hk)))
  have HK := Aside0.mk (Kept.refl w (fun k_ => P0_1_ k_))
  have HW0 := Aside0.mk hB.size
  have HB := Aside0.mk hB
  clear hB
  have H : (if a1 < 0 then (unisonref07_G_Take.j0 k a1 a2 true a0_0 l0_1 a0_2) else (unisonref07_G_Take.j0 k a1 a2 (decide (a1 ≥ (l0_1.length : Int))) a0_0 l0_1 a0_2)) = some (r1, r2, r3, r4, r5) := h
  clear h
  have HC4 := Aside0.mk H
  clear H
  obtain ⟨Ao5, co5, eo5⟩ := Kd.R_slice HO0_1.out
  subst eo5
  go_enter Try.func25, Try.ntmps25
  go_upto_region 1 with (first | ((with_reducible refine gate_dst (N := 3) rfl ?_); (try (refine gate_guard (by rfl) ?_; dsimp only)); refine box_event ?hg (N := 3) ?hd (cs := #[.int .i64 a0_0, .slice Ao5 l0_1.length co5, .int .i64 a0_2]) (t := 43) ?hr ?_; (case hd => rfl); (case hg => rfl); (case hr => first | (go_simp; done) | (go_simp; rfl)); intro gb130 hg w6 hbox hb; have n0_ := Aside0.mk (Kd.R_below (by (with_reducible repeat (first | apply Kd.R_alloc | apply Kd.R_drewN | apply Kd.R_drew)); exact HO0_1.out) hb); have n1_ := Aside0.mk (Kept.below (S := (fun k_ => P0_1_ k_)) (by repeat (first | (with_reducible first | exact HK.out | apply Kept.alloc | apply Kept.drewN | apply Kept.drew) | exact HK.out)) hb); have n2_ := Aside0.mk (below_step (by repeat (first | (with_reducible first | exact HB.out | apply below_alloc | apply pw_below_drewN | apply below_drew1) | exact HB.out)) hb); have n3_ := Aside0.mk (hbox); have n4_ := Aside0.mk ((by rw [hg]; exact (by first | exact HK.out.1 | exact (show Kept w _ (fun k_ => P0_1_ k_) from by repeat (first | (with_reducible first | exact HK.out | apply Kept.alloc | apply Kept.drewN | apply Kept.drew) | exact HK.out)).1) : w.heap.size ≤ gb130)); have n5_ := Aside0.mk ((by rw [hg]; exact (below_size (by repeat (first | (with_reducible first | exact HB.out | apply below_alloc | apply pw_below_drewN | apply below_drew1) | exact HB.out))) : w0.heap.size ≤ gb130)); clear HO0_1; clear HK; clear HB; have HO0_1 := n0_; have HK := n1_; have HB := n2_; have BK130 := n3_; have GW130 := n4_; have GE130 := n5_; clear n0_ n1_ n2_ n3_ n4_ n5_; clear hb hbox hg) | ((with_reducible refine gate_dst (N := 6) rfl ?_); (try (refine gate_guard (by rfl) ?_; dsimp only)); refine box_event ?hg (N := 6) ?hd (cs := #[.int .i64 0, .slice none 0 0, .int .i64 0]) (t := 43) ?hr ?_; (case hd => rfl); (case hg => rfl); (case hr => first | (go_simp; done) | (go_simp; rfl)); intro gb131 hg w7 hbox hb; have n0_ := Aside0.mk (Kd.R_below (by (with_reducible repeat (first | apply Kd.R_alloc | apply Kd.R_drewN | apply Kd.R_drew)); exact HO0_1.out) hb); have n1_ := Aside0.mk (blk_below (g := gb130) (o := .cells #[.int .i64 a0_0, .slice Ao5 l0_1.length co5, .int .i64 a0_2] 43 (0, 0)) (by (with_reducible repeat (first | refine blk_drewN ?_ _ | refine blk_drew ?_ | refine blk_alloc ?_ _)); exact BK130.out) hb); have n2_ := Aside0.mk (Kept.below (S := (fun k_ => P0_1_ k_)) (by repeat (first | (with_reducible first | exact HK.out | apply Kept.alloc | apply Kept.drewN | apply Kept.drew | refine Kept.setCell ?_ (.inr GW130.out) _) | exact HK.out)) hb); have n3_ := Aside0.mk (below_step (by repeat (first | (with_reducible first | exact HB.out | apply below_alloc | apply pw_below_drewN | apply below_drew1 | refine below_set ?_ GE130.out) | exact HB.out)) hb); have n4_ := Aside0.mk (hbox); have n5_ := Aside0.mk ((by rw [hg]; exact (by first | exact HK.out.1 | exact (show Kept w _ (fun k_ => P0_1_ k_) from by repeat (first | (with_reducible first | exact HK.out | apply Kept.alloc | apply Kept.drewN | apply Kept.drew | refine Kept.setCell ?_ (.inr GW130.out) _) | exact HK.out)).1) : w.heap.size ≤ gb131)); have n6_ := Aside0.mk ((by rw [hg]; exact (below_size (by repeat (first | (with_reducible first | exact HB.out | apply below_alloc | apply pw_below_drewN | apply below_drew1 | refine below_set ?_ GE130.out) | exact HB.out))) : w0.heap.size ≤ gb131)); have n7_ := Aside0.mk ((by rw [hg]; exact Nat.ne_of_lt (blk_lt (g := gb130) (o := .cells #[.int .i64 a0_0, .slice Ao5 l0_1.length co5, .int .i64 a0_2] 43 (0, 0)) (by (with_reducible repeat (first | refine blk_drewN ?_ _ | refine blk_drew ?_ | refine blk_alloc ?_ _)); exact BK130.out)) : gb130 ≠ gb131)); have n8_ := Aside0.mk ((by rw [hg]; exact Nat.ne_of_gt (blk_lt (g := gb130) (o := .cells #[.int .i64 a0_0, .slice Ao5 l0_1.length co5, .int .i64 a0_2] 43 (0, 0)) (by (with_reducible repeat (first | refine blk_drewN ?_ _ | refine blk_drew ?_ | refine blk_alloc ?_ _)); exact BK130.out)) : gb131 ≠ gb130)); clear HO0_1; clear BK130; clear HK; clear HB; have HO0_1 := n0_; have BK130 := n1_; have HK := n2_; have HB := n3_; have BK131 := n4_; have GW131 := n5_; have GE131 := n6_; have NB130_131 := n7_; have NB131_130 := n8_; clear n0_ n1_ n2_ n3_ n4_ n5_ n6_ n7_ n8_; clear hb hbox hg))
  (try simp only [Act.put, List.setIfInBounds_toArray, List.set_cons_zero, List.set_cons_succ])
  go_cut [19] (fun v19 wc => ∃ (kq : Nat) (x19_3 : Bool), v19 = .bool x19_3 ∧ Aside0 (unisonref07_G_Take.j0 kq a1 a2 x19_3 a0_0 l0_1 a0_2 = some (r1, r2, r3, r4, r5)) ∧ Aside0 (kq ≤ k) ∧ Aside0 (Kd.R k48 48 wc w0.heap.size (fun k_ => (P0_1_ k_ ∨ w.heap.size ≤ k_)) (.slice Ao5 l0_1.length co5) l0_1) ∧ Aside0 (wc.heap[gb130]? = some (.cells #[.int .i64 a0_0, (.slice Ao5 l0_1.length co5), .int .i64 a0_2] 43 (0, 0))) ∧ Aside0 (wc.heap[gb131]? = some (.cells #[.int .i64 0, (.slice none 0 0), .int .i64 0] 43 (0, 0))) ∧ Aside0 (Kept w wc (fun k_ => P0_1_ k_)) ∧ Aside0 (Below w0.heap.size w0 wc))
  case first =>
    have H := HC4.out
    clear HC4
    by_cases c8 : a1 < 0
    · rw [if_pos c8] at H
      have c8b0 : decide (a1 < 0) = true := decide_eq_true c8
      clear c8
      (first | rw [c8b0] | (simp only [i64_w, i32_w]; rw [c8b0]) | skip)
      have H' := Aside0.mk H
      clear H
      go_wp2
      go_meet
      case rel => exact ⟨_, (true), (by first | rfl | (simp; done) | (simp [*]; done)), H', ⟨by first | omega | exact Nat.le_refl _⟩, ⟨by (with_reducible repeat (first | apply Kd.R_alloc | apply Kd.R_drewN | apply Kd.R_drew)); exact HO0_1.out⟩, ⟨by (with_reducible repeat (first | refine blk_drewN ?_ _ | refine blk_drew ?_ | refine blk_alloc ?_ _)); exact BK130.out⟩, ⟨by (with_reducible repeat (first | refine blk_drewN ?_ _ | refine blk_drew ?_ | refine blk_alloc ?_ _)); exact BK131.out⟩, ⟨by repeat (first | (with_reducible first | exact HK.out | apply Kept.alloc | apply Kept.drewN | apply Kept.drew | refine Kept.setCell ?_ (.inr GW130.out) _ | refine Kept.setCell ?_ (.inr GW131.out) _) | exact HK.out)⟩, ⟨by repeat (first | (with_reducible first | exact HB.out | apply below_alloc | apply pw_below_drewN | apply below_drew1 | refine below_set ?_ GE130.out | refine below_set ?_ GE131.out) | exact HB.out)⟩⟩
    · rw [if_neg c8] at H
      have c8b0 : decide (a1 < 0) = false := decide_eq_false c8
      clear c8
      (first | rw [c8b0] | (simp only [i64_w, i32_w]; rw [c8b0]) | skip)
      have H' := Aside0.mk H
      clear H
      have hnb9 := NB130_131.out
      have hnc9 := NB131_130.out
      have hcz10_0 : w7.cell? ⟨gb130, 0, none⟩ = some (.int .i64 a0_0) := (blk_cell BK130.out 0).trans rfl
      have hcz10_1 : w7.cell? ⟨gb130, 1, none⟩ = some (.slice Ao5 l0_1.length co5) := (blk_cell BK130.out 1).trans rfl
      have hcz10_2 : w7.cell? ⟨gb130, 2, none⟩ = some (.int .i64 a0_2) := (blk_cell BK130.out 2).trans rfl
      have hfz10_0 := blk_frozen BK130.out 0
      have hfz10_1 := blk_frozen BK130.out 1
      have hfz10_2 := blk_frozen BK130.out 2
      go_wp2
      go_meet
      case rel => exact ⟨_, (decide (a1 ≥ (l0_1.length : Int))), (by first | rfl | (simp; done) | (simp [*]; done)), H', ⟨by first | omega | exact Nat.le_refl _⟩, ⟨by (with_reducible repeat (first | apply Kd.R_alloc | apply Kd.R_drewN | apply Kd.R_drew)); exact HO0_1.out⟩, ⟨by (with_reducible repeat (first | refine blk_drewN ?_ _ | refine blk_drew ?_ | refine blk_alloc ?_ _)); exact BK130.out⟩, ⟨by (with_reducible repeat (first | refine blk_drewN ?_ _ | refine blk_drew ?_ | refine blk_alloc ?_ _)); exact BK131.out⟩, ⟨by repeat (first | (with_reducible first | exact HK.out | apply Kept.alloc | apply Kept.drewN | apply Kept.drew | refine Kept.setCell ?_ (.inr GW130.out) _ | refine Kept.setCell ?_ (.inr GW131.out) _) | exact HK.out)⟩, ⟨by repeat (first | (with_reducible first | exact HB.out | apply below_alloc | apply pw_below_drewN | apply below_drew1 | refine below_set ?_ GE130.out | refine below_set ?_ GE131.out) | exact HB.out)⟩⟩
  case rest =>
    clear HC4
    try clear c2
    try clear p2
    try clear c8
    try clear c8b0
    try clear c9
    try clear hcz10_0
    try clear hcz10_1
    try clear hcz10_2
    try clear hfz10_0
    try clear hfz10_1
    try clear hfz10_2
    obtain ⟨kq, x19_3, rfl, HA, HJ3, HO_131001, BK130, BK131, HK, HB⟩ := hcut
    cases kq with
    | zero => exact absurd HA.out (by simp [unisonref07_G_Take.j0])
    | succ kj3 =>
      have H := HA.out
      clear HA
      simp only [unisonref07_G_Take.j0] at H
      by_cases c11 : x19_3 = true
      · subst c11
        have H1 : (some (a0_0, l0_1, a0_2, (⟨#[]⟩ : ByteArray), false)) = some (r1, r2, r3, r4, r5) := by rw [if_pos rfl] at H; exact H
        clear H
        have H := H1
        clear H1
        simp only [Option.some.injEq, Prod.mk.injEq] at H
        obtain ⟨rfl, rfl, rfl, rfl, rfl⟩ := H
        have hnb12 := NB130_131.out
        have hnc12 := NB131_130.out
        have hcz13_0 : wc.cell? ⟨gb130, 0, none⟩ = some (.int .i64 a0_0) := (blk_cell BK130.out 0).trans rfl
        have hcz13_1 : wc.cell? ⟨gb130, 1, none⟩ = some (.slice Ao5 l0_1.length co5) := (blk_cell BK130.out 1).trans rfl
        have hcz13_2 : wc.cell? ⟨gb130, 2, none⟩ = some (.int .i64 a0_2) := (blk_cell BK130.out 2).trans rfl
        have hfz13_0 := blk_frozen BK130.out 0
        have hfz13_1 := blk_frozen BK130.out 1
        have hfz13_2 := blk_frozen BK130.out 2
        have hcz14_0 : wc.cell? ⟨gb131, 0, none⟩ = some (.int .i64 0) := (blk_cell BK131.out 0).trans rfl
        have hcz14_1 : wc.cell? ⟨gb131, 1, none⟩ = some (.slice none 0 0) := (blk_cell BK131.out 1).trans rfl
        have hcz14_2 : wc.cell? ⟨gb131, 2, none⟩ = some (.int .i64 0) := (blk_cell BK131.out 2).trans rfl
        have hfz14_0 := blk_frozen BK131.out 0
        have hfz14_1 := blk_frozen BK131.out 1
        have hfz14_2 := blk_frozen BK131.out 2
        go_wp2
        refine bodyPost_ret (results_ctt rfl _ _ gb131 43 #[.int .i64 a0_0, .slice Ao5 l0_1.length co5, .int .i64 a0_2] (0, 0) _ rfl (by (with_reducible repeat (first | refine blk_drewN ?_ _ | refine blk_drew ?_ | refine blk_alloc ?_ _)); refine blk_put (cs := #[.int .i64 a0_0, .slice Ao5 l0_1.length co5, .int .i64 0]) ?_ 2 _ rfl; (with_reducible repeat (first | refine blk_drewN ?_ _ | refine blk_drew ?_ | refine blk_alloc ?_ _)); refine blk_put (cs := #[.int .i64 a0_0, .slice none 0 0, .int .i64 0]) ?_ 1 _ rfl; (with_reducible repeat (first | refine blk_drewN ?_ _ | refine blk_drew ?_ | refine blk_alloc ?_ _)); refine blk_put (cs := #[.int .i64 0, .slice none 0 0, .int .i64 0]) ?_ 0 _ rfl; (with_reducible repeat (first | refine blk_drewN ?_ _ | refine blk_drew ?_ | refine blk_alloc ?_ _)); exact BK131.out) Try.underlying43 rfl (by kernel_rfl)) rfl ?_
        exact ⟨_, by first | rfl | (simp [errW_none, errW_some] <;> rfl) | (simp [*, errW_none, errW_some] <;> rfl), by (with_reducible repeat (first | apply Kd.R_alloc | apply Kd.R_drewN | apply Kd.R_drew)); exact Kd.R_mono (Kd.R_far (p := ⟨gb131, 2, none⟩) (Kd.R_far (p := ⟨gb131, 1, none⟩) (Kd.R_far (p := ⟨gb131, 0, none⟩) (Kd.R_types HO_131001.out BK131.out (by decide)) (fun _ hk => hk.2) (.int .i64 a0_0)) (fun _ hk => hk.2) (.slice Ao5 l0_1.length co5)) (fun _ hk => hk.2) (.int .i64 a0_2)) (fun _ hk => hk.1), by repeat (first | (with_reducible first | exact HB.out | apply below_alloc | apply pw_below_drewN | apply below_drew1 | refine below_set ?_ GE130.out | refine below_set ?_ GE131.out) | exact HB.out), by repeat (first | (with_reducible first | exact HK.out | apply Kept.alloc | apply Kept.drewN | apply Kept.drew | refine Kept.setCell ?_ (.inr GW130.out) _ | refine Kept.setCell ?_ (.inr GW131.out) _) | exact HK.out)⟩
      · replace c11 := Bool.eq_false_iff.mpr c11
        subst c11
        have H1 : (if 0 ≤ a1 then (if a1 < (l0_1.length : Int) then (if a2 = true then ((some (([] : List (S48)) : List (S48))).bind fun y133 => (if a1 ≤ (l0_1.length : Int) then ((some (l0_1.take (a1 : Int).toNat : List (S48))).bind fun y136 => (if y133.length + y136.length < 5864062014805 then ((some (y133 ++ y136 : List (S48))).bind fun y140 => (if 0 ≤ (wrap64 (a1 + 1)) then (if (wrap64 (a1 + 1)) ≤ (l0_1.length : Int) then ((some (l0_1.drop ((wrap64 (a1 + 1)) : Int).toNat : List (S48))).bind fun y143 => (if y140.length + y143.length < 5864062014805 then (some (a0_0, (y140 ++ y143), a0_2, (rd_T48 l0_1 a1).f0, true)) else (none))) else (none)) else (none))) else (none))) else (none))) else (some (a0_0, l0_1, a0_2, (rd_T48 l0_1 a1).f0, true))) else (none)) else (none)) = some (r1, r2, r3, r4, r5) := by rw [if_neg (show ¬ (false = true) by decide)] at H; exact H
        clear H
        have H := H1
        clear H1
        by_cases c15 : 0 ≤ a1
        · rw [if_pos c15] at H
          have c15b0 : decide (0 ≤ a1) = true := decide_eq_true c15
          clear c15
          by_cases c16 : a1 < (l0_1.length : Int)
          · rw [if_pos c16] at H
            have c16b0 : decide (a1 < (l0_1.length : Int)) = true := decide_eq_true c16
            clear c16
            by_cases c17 : a2 = true
            · subst c17
              have H1 : ((some (([] : List (S48)) : List (S48))).bind fun y133 => (if a1 ≤ (l0_1.length : Int) then ((some (l0_1.take (a1 : Int).toNat : List (S48))).bind fun y136 => (if y133.length + y136.length < 5864062014805 then ((some (y133 ++ y136 : List (S48))).bind fun y140 => (if 0 ≤ (wrap64 (a1 + 1)) then (if (wrap64 (a1 + 1)) ≤ (l0_1.length : Int) then ((some (l0_1.drop ((wrap64 (a1 + 1)) : Int).toNat : List (S48))).bind fun y143 => (if y140.length + y143.length < 5864062014805 then (some (a0_0, (y140 ++ y143), a0_2, (rd_T48 l0_1 a1).f0, true)) else (none))) else (none)) else (none))) else (none))) else (none))) = some (r1, r2, r3, r4, r5) := by rw [if_pos rfl] at H; exact H
              clear H
              have H := H1
              clear H1
              obtain ⟨y133, hy133⟩ : ∃ y_ : List (S48), y_ = (([] : List (S48))) := ⟨_, rfl⟩
              replace H : (if a1 ≤ (l0_1.length : Int) then ((some (l0_1.take (a1 : Int).toNat : List (S48))).bind fun y136 => (if y133.length + y136.length < 5864062014805 then ((some (y133 ++ y136 : List (S48))).bind fun y140 => (if 0 ≤ (wrap64 (a1 + 1)) then (if (wrap64 (a1 + 1)) ≤ (l0_1.length : Int) then ((some (l0_1.drop ((wrap64 (a1 + 1)) : Int).toNat : List (S48))).bind fun y143 => (if y140.length + y143.length < 5864062014805 then (some (a0_0, (y140 ++ y143), a0_2, (rd_T48 l0_1 a1).f0, true)) else (none))) else (none)) else (none))) else (none))) else (none)) = some (r1, r2, r3, r4, r5) := by first | (rw [hy133]; with_reducible exact H) | (have H2_ := (Option.bind_some _ _).symm.trans H; rw [hy133]; with_reducible exact H2_) | (have H2_ := (Option.bind_some _ _).symm.trans H; with_reducible exact H2_) | with_reducible exact H | (rw [hy133]; exact H) | exact H
              have Ny133 := Aside0.mk hy133
              clear hy133
              have c18b0 := eq_true (of_decide_eq_true (by first | (with_reducible assumption) | assumption) : 0 ≤ a1)
              by_cases c19 : a1 ≤ (l0_1.length : Int)
              · rw [if_pos c19] at H
                have c19b0 := eq_true c19
                have c19b1 : decide (a1 ≤ (l0_1.length : Int)) = true := decide_eq_true c19
                clear c19
                obtain ⟨y136, hy136⟩ : ∃ y_ : List (S48), y_ = (l0_1.take (a1 : Int).toNat) := ⟨_, rfl⟩
                replace H : (if y133.length + y136.length < 5864062014805 then ((some (y133 ++ y136 : List (S48))).bind fun y140 => (if 0 ≤ (wrap64 (a1 + 1)) then (if (wrap64 (a1 + 1)) ≤ (l0_1.length : Int) then ((some (l0_1.drop ((wrap64 (a1 + 1)) : Int).toNat : List (S48))).bind fun y143 => (if y140.length + y143.length < 5864062014805 then (some (a0_0, (y140 ++ y143), a0_2, (rd_T48 l0_1 a1).f0, true)) else (none))) else (none)) else (none))) else (none)) = some (r1, r2, r3, r4, r5) := by first | (rw [hy136]; with_reducible exact H) | (have H2_ := (Option.bind_some _ _).symm.trans H; rw [hy136]; with_reducible exact H2_) | (have H2_ := (Option.bind_some _ _).symm.trans H; with_reducible exact H2_) | with_reducible exact H | (rw [hy136]; exact H) | exact H
                have Ny136 := Aside0.mk hy136
                clear hy136
                by_cases c20 : y133.length + y136.length < 5864062014805
                · rw [if_pos c20] at H
                  have LMc20 := Aside0.mk c20
                  clear c20
                  obtain ⟨y140, hy140⟩ : ∃ y_ : List (S48), y_ = (y133 ++ y136) := ⟨_, rfl⟩
                  replace H : (if 0 ≤ (wrap64 (a1 + 1)) then (if (wrap64 (a1 + 1)) ≤ (l0_1.length : Int) then ((some (l0_1.drop ((wrap64 (a1 + 1)) : Int).toNat : List (S48))).bind fun y143 => (if y140.length + y143.length < 5864062014805 then (some (a0_0, (y140 ++ y143), a0_2, (rd_T48 l0_1 a1).f0, true)) else (none))) else (none)) else (none)) = some (r1, r2, r3, r4, r5) := by first | (rw [hy140]; with_reducible exact H) | (have H2_ := (Option.bind_some _ _).symm.trans H; rw [hy140]; with_reducible exact H2_) | (have H2_ := (Option.bind_some _ _).symm.trans H; with_reducible exact H2_) | with_reducible exact H | (rw [hy140]; exact H) | exact H
                  have Ny140 := Aside0.mk hy140
                  clear hy140
                  obtain ⟨ji21, hji21⟩ : ∃ j_ : Int, (wrap64 (a1 + 1)) = j_ := ⟨_, rfl⟩
                  replace H : (if 0 ≤ (ji21) then (if (ji21) ≤ (l0_1.length : Int) then ((some (l0_1.drop ((ji21) : Int).toNat : List (S48))).bind fun y143 => (if y140.length + y143.length < 5864062014805 then (some (a0_0, (y140 ++ y143), a0_2, (rd_T48 l0_1 a1).f0, true)) else (none))) else (none)) else (none)) = some (r1, r2, r3, r4, r5) := by first | (rw [hji21] at H; exact H) | (simp only [hji21] at H ⊢; exact H)
                  have hji21w : (IntKind.i64.wrap (a1 + 1)) = ji21 := (i64_w _).trans hji21
                  by_cases c22 : 0 ≤ (ji21)
                  · rw [if_pos c22] at H
                    have c22b0 := eq_true c22
                    have c22b1 : decide (0 ≤ (ji21)) = true := decide_eq_true c22
                    clear c22
                    by_cases c23 : (ji21) ≤ (l0_1.length : Int)
                    · rw [if_pos c23] at H
                      have c23b0 := eq_true c23
                      have c23b1 : decide ((ji21) ≤ (l0_1.length : Int)) = true := decide_eq_true c23
                      clear c23
                      obtain ⟨y143, hy143⟩ : ∃ y_ : List (S48), y_ = (l0_1.drop ((ji21) : Int).toNat) := ⟨_, rfl⟩
                      replace H : (if y140.length + y143.length < 5864062014805 then (some (a0_0, (y140 ++ y143), a0_2, (rd_T48 l0_1 a1).f0, true)) else (none)) = some (r1, r2, r3, r4, r5) := by first | (rw [hy143]; with_reducible exact H) | (have H2_ := (Option.bind_some _ _).symm.trans H; rw [hy143]; with_reducible exact H2_) | (have H2_ := (Option.bind_some _ _).symm.trans H; with_reducible exact H2_) | with_reducible exact H | (rw [hy143]; exact H) | exact H
                      have Ny143 := Aside0.mk hy143
                      clear hy143
                      by_cases c24 : y140.length + y143.length < 5864062014805
                      · rw [if_pos c24] at H
                        have LMc24 := Aside0.mk c24
                        clear c24
                        obtain ⟨y147, hy147⟩ : ∃ y_ : List (S48), y_ = (y140 ++ y143) := ⟨_, rfl⟩
                        replace H : (some (a0_0, y147, a0_2, (rd_T48 l0_1 a1).f0, true)) = some (r1, r2, r3, r4, r5) := by first | (rw [hy147]; with_reducible exact H) | (have H2_ := (Option.bind_some _ _).symm.trans H; rw [hy147]; with_reducible exact H2_) | (have H2_ := (Option.bind_some _ _).symm.trans H; with_reducible exact H2_) | with_reducible exact H | (rw [hy147]; exact H) | exact H
                        have Ny147 := Aside0.mk hy147
                        clear hy147
                        simp only [Option.some.injEq, Prod.mk.injEq] at H
                        obtain ⟨rfl, rfl, rfl, rfl, rfl⟩ := H
                        have hnb25 := NB130_131.out
                        have hnc25 := NB131_130.out
                        have hcz26_0 : wc.cell? ⟨gb130, 0, none⟩ = some (.int .i64 a0_0) := (blk_cell BK130.out 0).trans rfl
                        have hcz26_1 : wc.cell? ⟨gb130, 1, none⟩ = some (.slice Ao5 l0_1.length co5) := (blk_cell BK130.out 1).trans rfl
                        have hcz26_2 : wc.cell? ⟨gb130, 2, none⟩ = some (.int .i64 a0_2) := (blk_cell BK130.out 2).trans rfl
                        have hfz26_0 := blk_frozen BK130.out 0
                        have hfz26_1 := blk_frozen BK130.out 1
                        have hfz26_2 := blk_frozen BK130.out 2
                        have p132 : 0 ≤ (a1 : Int) := of_decide_eq_true (by first | (with_reducible assumption) | assumption)
                        have q132 : a1 < (l0_1.length : Int) := of_decide_eq_true (by first | (with_reducible assumption) | assumption)
                        obtain ⟨ad132, e132, hx132_0, hx132_1⟩ := at_T48 (Kd.R_reads' HO_131001.out).2.2 a1 p132 q132
                        cases e132
                        replace p132 := eq_true p132
                        replace q132 := eq_true q132
                        go_wp2_with (first | ((with_reducible refine gate_dst (N := 28) rfl ?_); (try (refine gate_guard (by rfl) ?_; dsimp only)); refine Kd.R_lit k48 _ 48 ?hg (N := 28) ?hd (xs := ([] : List (S48))) (inner := []) (ok := fun _ => True) (okp := fun _ => True) ?hr ?hp (fun _ hk => hk) trivial (Below.refl _ _) (Nat.le_refl _) (by simp) ?_; (case hd => rfl); (case hg => rfl); (case hr => first | (go_simp; done) | (go_simp; rfl)); (case hp => exact (Reps.none _ _)); intro v134 w27 ho28 hb hg_ hnew_; clear hg_ hnew_; (first | rw [← Ny133.out] at ho28 | (simp only [Int.reduceToNat] at ho28; rw [← Ny133.out] at ho28)); have n0_ := Aside0.mk (Kd.R_elder' (by (with_reducible repeat (first | apply Kd.R_alloc | apply Kd.R_drewN | apply Kd.R_drew)); exact HO_131001.out) (Kd.R_base ho28) hb); have n1_ := Aside0.mk (Kd.R_lower (Kd.R_new' (Kd.R_newM (M := fun k_ => (P0_1_ k_ ∨ w.heap.size ≤ k_)) ho28 (by first | exact HK.out.1 | exact (show Kept w _ (fun k_ => P0_1_ k_) from by repeat (first | (with_reducible first | exact HK.out | apply Kept.alloc | apply Kept.drewN | apply Kept.drew | refine Kept.setCell ?_ (.inr GW130.out) _ | refine Kept.setCell ?_ (.inr GW131.out) _) | exact HK.out)).1) (fun k_ h_ => .inr h_)) (Kd.R_lt (by (with_reducible repeat (first | apply Kd.R_alloc | apply Kd.R_drewN | apply Kd.R_drew)); exact HO_131001.out))) (below_size (by repeat (first | (with_reducible first | exact HB.out | apply below_alloc | apply pw_below_drewN | apply below_drew1 | refine below_set ?_ GE130.out | refine below_set ?_ GE131.out) | exact HB.out)))); have n2_ := Aside0.mk (blk_below (g := gb130) (o := .cells #[.int .i64 a0_0, .slice (some ad132) l0_1.length co5, .int .i64 a0_2] 43 (0, 0)) (by (with_reducible repeat (first | refine blk_drewN ?_ _ | refine blk_drew ?_ | refine blk_alloc ?_ _)); exact BK130.out) hb); have n3_ := Aside0.mk (blk_below (g := gb131) (o := .cells #[.int .i64 0, .slice none 0 0, .int .i64 0] 43 (0, 0)) (by (with_reducible repeat (first | refine blk_drewN ?_ _ | refine blk_drew ?_ | refine blk_alloc ?_ _)); exact BK131.out) hb); have n4_ := Aside0.mk (Kept.below (S := (fun k_ => P0_1_ k_)) (by repeat (first | (with_reducible first | exact HK.out | apply Kept.alloc | apply Kept.drewN | apply Kept.drew | refine Kept.setCell ?_ (.inr GW130.out) _ | refine Kept.setCell ?_ (.inr GW131.out) _) | exact HK.out)) hb); have n5_ := Aside0.mk (below_step (by repeat (first | (with_reducible first | exact HB.out | apply below_alloc | apply pw_below_drewN | apply below_drew1 | refine below_set ?_ GE130.out | refine below_set ?_ GE131.out) | exact HB.out)) hb); clear HO_131001; clear BK130; clear BK131; clear HK; clear HB; have HO_131001 := n0_; have HO135 := n1_; have BK130 := n2_; have BK131 := n3_; have HK := n4_; have HB := n5_; clear n0_ n1_ n2_ n3_ n4_ n5_; clear hb ho28; have hcz29_0 : w27.cell? ⟨gb130, 0, none⟩ = some (.int .i64 a0_0) := (blk_cell BK130.out 0).trans rfl; have hcz29_1 : w27.cell? ⟨gb130, 1, none⟩ = some (.slice (some ad132) l0_1.length co5) := (blk_cell BK130.out 1).trans rfl; have hcz29_2 : w27.cell? ⟨gb130, 2, none⟩ = some (.int .i64 a0_2) := (blk_cell BK130.out 2).trans rfl; have hfz29_0 := blk_frozen BK130.out 0; have hfz29_1 := blk_frozen BK130.out 1; have hfz29_2 := blk_frozen BK130.out 2; have q30 : (a1 : Int) ≤ ((l0_1.length : Int) : Int) := of_decide_eq_true (by first | (with_reducible assumption) | assumption); obtain ⟨i030, hi030, _, hsz30, _⟩ := info_parts info48; have hroom30 : l0_1.length ≤ co5 := (Kd.R_reads' HO_131001.out).2.1; have hC30 : Kd.C k48 _ (some ad132) l0_1.length l0_1 := (Kd.R_reads' HO_131001.out).2.2; have hcut30 := cut_to (P := Try.prog) 41 48 .i64 Try.underlying41 hi030 (some ad132) l0_1.length co5 a1 (of_decide_eq_true (by first | (with_reducible assumption) | assumption)) q30 hroom30; have hr30 := Kd.C_take (m := (a1 : Int).toNat) hC30 (by omega); have hy30 : y136.length = (a1 : Int).toNat := (by rw [Ny136.out, List.length_take]; omega); rw [← Ny136.out] at hr30; rw [← hy30] at hcut30; have HR139 := Aside0.mk hr30; have HC139 := Aside0.mk (show y136.length ≤ co5 from by omega); clear hr30 hC30 hroom30 hi030 hsz30; have KY30 := Aside0.mk hy30; clear hy30; have KL30 := Aside0.mk (show (a1 : Int).toNat ≤ l0_1.length from by omega); replace q30 := eq_true q30) | ((with_reducible refine gate_builtin (b := .append) (xs := #[.tmp 28, .tmp 32]) rfl ?_); (try (refine gate_guard (by rfl) ?_; dsimp only)); at_builtin; refine Kd.R_append_rows k48 (w0 := w0) w0.heap.size rfl (.tmp 28) (.tmp 32) 41 48 (.agg #[(.string ⟨#[]⟩), (.bool false)]) 24 rfl Try.underlying41 info48 rfl (by decide) (by omega) v134 y133 y136 _ _ _ (fun k_ => (P0_1_ k_ ∨ w.heap.size ≤ k_) ∧ some k_ ≠ (.slice (some ad132) l0_1.length co5 : Value).ownBlock) (fun _ => False) rfl rfl ?aO ?aR (fun _ _ h => h) (fun _ h => h.elim) ?aF ?aB ?aS ?aL ?_; (case aR => repeat (first | exact (by repeat (first | (with_reducible exact HR139.out) | (with_reducible refine Kd.C_alloc ?_ _) | (with_reducible refine Kd.C_drewN ?_ _) | (with_reducible refine Kd.C_drew ?_) | exact HR139.out)) | (with_reducible refine Kd.C_alloc ?_ _) | (with_reducible refine Kd.C_drewN ?_ _) | (with_reducible refine Kd.C_drew ?_))); (case aB => exact (by repeat (first | (with_reducible first | exact HB.out | apply below_alloc | apply pw_below_drewN | apply below_drew1 | refine below_set ?_ GE130.out | refine below_set ?_ GE131.out) | exact HB.out))); (case aF => exact (fun k_ hk => ⟨(.inr (Nat.le_trans (by first | exact HK.out.1 | exact (show Kept w _ (fun k_ => P0_1_ k_) from by repeat (first | (with_reducible first | exact HK.out | apply Kept.alloc | apply Kept.drewN | apply Kept.drew | refine Kept.setCell ?_ (.inr GW130.out) _ | refine Kept.setCell ?_ (.inr GW131.out) _) | exact HK.out)).1) hk)), Kd.fresh' (Kd.R_lt (by (with_reducible repeat (first | apply Kd.R_alloc | apply Kd.R_drewN | apply Kd.R_drew)); exact HO_131001.out)) k_ hk⟩)); (case aO => exact (by (with_reducible repeat (first | apply Kd.R_alloc | apply Kd.R_drewN | apply Kd.R_drew)); exact Kd.R_mono HO135.out (fun _ hk => ⟨hk.1.1, hk.2⟩))); (case aS => exact (below_size (by repeat (first | (with_reducible first | exact HB.out | apply below_alloc | apply pw_below_drewN | apply below_drew1 | refine below_set ?_ GE130.out | refine below_set ?_ GE131.out) | exact HB.out)))); (case aL => have := LMc20.out; omega); intro v141 w31 ho hb hg hat; rw [← Ny140.out] at ho; have n0_ := Aside0.mk (Kd.R_after (ok := (fun k_ => (P0_1_ k_ ∨ w.heap.size ≤ k_))) (by (with_reducible repeat (first | apply Kd.R_alloc | apply Kd.R_drewN | apply Kd.R_drew)); exact HO_131001.out) hg hat); have n1_ := Aside0.mk (blk_grown (g := gb130) (o := .cells #[.int .i64 a0_0, .slice (some ad132) l0_1.length co5, .int .i64 a0_2] 43 (0, 0)) (by (with_reducible repeat (first | refine blk_drewN ?_ _ | refine blk_drew ?_ | refine blk_alloc ?_ _)); exact BK130.out) hg (Kd.R_ne HO135.out BK130.out (by decide))); have n2_ := Aside0.mk (blk_grown (g := gb131) (o := .cells #[.int .i64 0, .slice none 0 0, .int .i64 0] 43 (0, 0)) (by (with_reducible repeat (first | refine blk_drewN ?_ _ | refine blk_drew ?_ | refine blk_alloc ?_ _)); exact BK131.out) hg (Kd.R_ne HO135.out BK131.out (by decide))); have n3_ := Aside0.mk (hb); have n4_ := Aside0.mk (Kept.of_grown (S := (fun k_ => P0_1_ k_)) hg (by repeat (first | (with_reducible first | exact HK.out | apply Kept.alloc | apply Kept.drewN | apply Kept.drew | refine Kept.setCell ?_ (.inr GW130.out) _ | refine Kept.setCell ?_ (.inr GW131.out) _) | exact HK.out)) (fun k_ e_ => (HO135.out.1 k_ e_).1.1)); have n5_ := Aside0.mk ((show Kd.C k48 w31 (some ad132) y136.length y136 from by rw [Ny136.out]; exact Kd.C_take (m := (a1 : Int).toNat) ((Kd.R_reads' (Kd.R_after (ok := (fun k_ => (P0_1_ k_ ∨ w.heap.size ≤ k_))) (by (with_reducible repeat (first | apply Kd.R_alloc | apply Kd.R_drewN | apply Kd.R_drew)); exact HO_131001.out) hg hat)).2.2) KL30.out)); have n6_ := Aside0.mk (ho); clear HO_131001; clear BK130; clear BK131; clear HB; clear HK; clear HR139; clear HO135; have HO_131001 := n0_; have BK130 := n1_; have BK131 := n2_; have HB := n3_; have HK := n4_; have HR139 := n5_; have HO142 := n6_; clear n0_ n1_ n2_ n3_ n4_ n5_ n6_; clear ho hb hg hat; have hcz32_0 : w31.cell? ⟨gb130, 0, none⟩ = some (.int .i64 a0_0) := (blk_cell BK130.out 0).trans rfl; have hcz32_1 : w31.cell? ⟨gb130, 1, none⟩ = some (.slice (some ad132) l0_1.length co5) := (blk_cell BK130.out 1).trans rfl; have hcz32_2 : w31.cell? ⟨gb130, 2, none⟩ = some (.int .i64 a0_2) := (blk_cell BK130.out 2).trans rfl; have hfz32_0 := blk_frozen BK130.out 0; have hfz32_1 := blk_frozen BK130.out 1; have hfz32_2 := blk_frozen BK130.out 2; have q33 : ((ji21) : Int) ≤ ((l0_1.length : Int) : Int) := of_decide_eq_true (by first | (with_reducible assumption) | assumption); obtain ⟨i033, hi033, _, hsz33, _⟩ := info_parts info48; have hroom33 : l0_1.length ≤ co5 := (Kd.R_reads' HO_131001.out).2.1; have hC33 : Kd.C k48 _ (some ad132) l0_1.length l0_1 := (Kd.R_reads' HO_131001.out).2.2; have q033 : (0 : Int) ≤ ((ji21) : Int) := of_decide_eq_true (by first | (with_reducible assumption) | assumption); have hcut33 := cut_from (P := Try.prog) 41 48 .i64 Try.underlying41 hi033 2 hsz33 (some ad132) l0_1.length co5 (ji21) q033 q33; have hr33 := Kd.C_drop (m := ((ji21) : Int).toNat) (c := co5) hC33 (by omega) hroom33; obtain ⟨A33, hA33⟩ : ∃ A1, A1 = (if co5 = ((ji21) : Int).toNat then (some ad132) else ((some ad132) : Option Addr).map (·.add (((ji21) : Int).toNat * 2))) := ⟨_, rfl⟩; obtain ⟨c33, hc33⟩ : ∃ c1, c1 = co5 - ((ji21) : Int).toNat := ⟨_, rfl⟩; have hy33 : y143.length = l0_1.length - ((ji21) : Int).toNat := (by rw [Ny143.out, List.length_drop] <;> omega); rw [show (l0_1).drop ((ji21) : Int).toNat = y143 from Ny143.out.symm] at hr33; replace hr33 : Kd.C k48 _ A33 y143.length y143 := (by rw [hA33]; exact hr33); rw [← hy33, ← hA33, ← hc33] at hcut33; have HR146 := Aside0.mk hr33; have HC146 := Aside0.mk (show y143.length ≤ c33 from by rw [hy33, hc33]; exact Nat.sub_le_sub_right hroom33 _); clear hr33 hC33 hroom33 hi033 hsz33 hc33; have KY33 := Aside0.mk hy33; have KA33 := Aside0.mk hA33; clear hy33 hA33; have KL33 := Aside0.mk (show ((ji21) : Int).toNat ≤ l0_1.length from by omega); replace q33 := eq_true q33) | ((with_reducible refine gate_builtin (b := .append) (xs := #[.tmp 34, .tmp 39]) rfl ?_); (try (refine gate_guard (by rfl) ?_; dsimp only)); at_builtin; refine Kd.R_append_rows k48 (w0 := w0) w0.heap.size rfl (.tmp 34) (.tmp 39) 41 48 (.agg #[(.string ⟨#[]⟩), (.bool false)]) 24 rfl Try.underlying41 info48 rfl (by decide) (by omega) v141 y140 y143 _ _ _ (fun k_ => (P0_1_ k_ ∨ w.heap.size ≤ k_) ∧ some k_ ≠ (.slice (some ad132) l0_1.length co5 : Value).ownBlock) (fun _ => False) rfl rfl ?aO ?aR (fun _ _ h => h) (fun _ h => h.elim) ?aF ?aB ?aS ?aL ?_; (case aR => repeat (first | exact (by repeat (first | (with_reducible exact HR146.out) | (with_reducible refine Kd.C_alloc ?_ _) | (with_reducible refine Kd.C_drewN ?_ _) | (with_reducible refine Kd.C_drew ?_) | exact HR146.out)) | (with_reducible refine Kd.C_alloc ?_ _) | (with_reducible refine Kd.C_drewN ?_ _) | (with_reducible refine Kd.C_drew ?_))); (case aB => exact (by repeat (first | (with_reducible first | exact HB.out | apply below_alloc | apply pw_below_drewN | apply below_drew1 | refine below_set ?_ GE130.out | refine below_set ?_ GE131.out) | exact HB.out))); (case aF => exact (fun k_ hk => ⟨(.inr (Nat.le_trans (by first | exact HK.out.1 | exact (show Kept w _ (fun k_ => P0_1_ k_) from by repeat (first | (with_reducible first | exact HK.out | apply Kept.alloc | apply Kept.drewN | apply Kept.drew | refine Kept.setCell ?_ (.inr GW130.out) _ | refine Kept.setCell ?_ (.inr GW131.out) _) | exact HK.out)).1) hk)), Kd.fresh' (Kd.R_lt (by (with_reducible repeat (first | apply Kd.R_alloc | apply Kd.R_drewN | apply Kd.R_drew)); exact HO_131001.out)) k_ hk⟩)); (case aO => exact (by (with_reducible repeat (first | apply Kd.R_alloc | apply Kd.R_drewN | apply Kd.R_drew)); exact HO142.out)); (case aS => exact (below_size (by repeat (first | (with_reducible first | exact HB.out | apply below_alloc | apply pw_below_drewN | apply below_drew1 | refine below_set ?_ GE130.out | refine below_set ?_ GE131.out) | exact HB.out)))); (case aL => have := LMc24.out; omega); intro v148 w34 ho hb hg hat; rw [← Ny147.out] at ho; have n0_ := Aside0.mk (Kd.R_after (ok := (fun k_ => (P0_1_ k_ ∨ w.heap.size ≤ k_))) (by (with_reducible repeat (first | apply Kd.R_alloc | apply Kd.R_drewN | apply Kd.R_drew)); exact HO_131001.out) hg hat); have n1_ := Aside0.mk (blk_grown (g := gb130) (o := .cells #[.int .i64 a0_0, .slice (some ad132) l0_1.length co5, .int .i64 a0_2] 43 (0, 0)) (by (with_reducible repeat (first | refine blk_drewN ?_ _ | refine blk_drew ?_ | refine blk_alloc ?_ _)); exact BK130.out) hg (Kd.R_ne HO142.out BK130.out (by decide))); have n2_ := Aside0.mk (blk_grown (g := gb131) (o := .cells #[.int .i64 0, .slice none 0 0, .int .i64 0] 43 (0, 0)) (by (with_reducible repeat (first | refine blk_drewN ?_ _ | refine blk_drew ?_ | refine blk_alloc ?_ _)); exact BK131.out) hg (Kd.R_ne HO142.out BK131.out (by decide))); have n3_ := Aside0.mk (hb); have n4_ := Aside0.mk (Kept.of_grown (S := (fun k_ => P0_1_ k_)) hg (by repeat (first | (with_reducible first | exact HK.out | apply Kept.alloc | apply Kept.drewN | apply Kept.drew | refine Kept.setCell ?_ (.inr GW130.out) _ | refine Kept.setCell ?_ (.inr GW131.out) _) | exact HK.out)) (fun k_ e_ => (HO142.out.1 k_ e_).1)); have n5_ := Aside0.mk ((show Kd.C k48 w34 (some ad132) y136.length y136 from by rw [Ny136.out]; exact Kd.C_take (m := (a1 : Int).toNat) ((Kd.R_reads' (Kd.R_after (ok := (fun k_ => (P0_1_ k_ ∨ w.heap.size ≤ k_))) (by (with_reducible repeat (first | apply Kd.R_alloc | apply Kd.R_drewN | apply Kd.R_drew)); exact HO_131001.out) hg hat)).2.2) KL30.out)); have n6_ := Aside0.mk ((show Kd.C k48 w34 A33 y143.length y143 from by rw [Ny143.out, KA33.out]; exact Kd.C_drop (m := ((ji21) : Int).toNat) (c := co5) ((Kd.R_reads' (Kd.R_after (ok := (fun k_ => (P0_1_ k_ ∨ w.heap.size ≤ k_))) (by (with_reducible repeat (first | apply Kd.R_alloc | apply Kd.R_drewN | apply Kd.R_drew)); exact HO_131001.out) hg hat)).2.2) KL33.out ((Kd.R_reads' (Kd.R_after (ok := (fun k_ => (P0_1_ k_ ∨ w.heap.size ≤ k_))) (by (with_reducible repeat (first | apply Kd.R_alloc | apply Kd.R_drewN | apply Kd.R_drew)); exact HO_131001.out) hg hat)).2.1))); have n7_ := Aside0.mk (ho); clear HO_131001; clear BK130; clear BK131; clear HB; clear HK; clear HR139; clear HR146; clear HO142; have HO_131001 := n0_; have BK130 := n1_; have BK131 := n2_; have HB := n3_; have HK := n4_; have HR139 := n5_; have HR146 := n6_; have HO149 := n7_; clear n0_ n1_ n2_ n3_ n4_ n5_ n6_ n7_; clear ho hb hg hat; obtain ⟨Ao35, co35, eo35⟩ := Kd.R_slice HO149.out; subst eo35; have hcz36_0 : w34.cell? ⟨gb130, 0, none⟩ = some (.int .i64 a0_0) := (blk_cell BK130.out 0).trans rfl; have hcz36_1 : w34.cell? ⟨gb130, 1, none⟩ = some (.slice (some ad132) l0_1.length co5) := (blk_cell BK130.out 1).trans rfl; have hcz36_2 : w34.cell? ⟨gb130, 2, none⟩ = some (.int .i64 a0_2) := (blk_cell BK130.out 2).trans rfl; have hfz36_0 := blk_frozen BK130.out 0; have hfz36_1 := blk_frozen BK130.out 1; have hfz36_2 := blk_frozen BK130.out 2; have hcz37_0 : w34.cell? ⟨gb131, 0, none⟩ = some (.int .i64 0) := (blk_cell BK131.out 0).trans rfl; have hcz37_1 : w34.cell? ⟨gb131, 1, none⟩ = some (.slice none 0 0) := (blk_cell BK131.out 1).trans rfl; have hcz37_2 : w34.cell? ⟨gb131, 2, none⟩ = some (.int .i64 0) := (blk_cell BK131.out 2).trans rfl; have hfz37_0 := blk_frozen BK131.out 0; have hfz37_1 := blk_frozen BK131.out 1; have hfz37_2 := blk_frozen BK131.out 2))
                        refine bodyPost_ret (results_ctt rfl _ _ gb131 43 #[.int .i64 a0_0, .slice Ao35 y147.length co35, .int .i64 a0_2] (0, 0) _ rfl (by (with_reducible repeat (first | refine blk_drewN ?_ _ | refine blk_drew ?_ | refine blk_alloc ?_ _)); refine blk_put (cs := #[.int .i64 a0_0, .slice Ao35 y147.length co35, .int .i64 0]) ?_ 2 _ rfl; (with_reducible repeat (first | refine blk_drewN ?_ _ | refine blk_drew ?_ | refine blk_alloc ?_ _)); refine blk_put (cs := #[.int .i64 a0_0, .slice none 0 0, .int .i64 0]) ?_ 1 _ rfl; (with_reducible repeat (first | refine blk_drewN ?_ _ | refine blk_drew ?_ | refine blk_alloc ?_ _)); refine blk_put (cs := #[.int .i64 0, .slice none 0 0, .int .i64 0]) ?_ 0 _ rfl; (with_reducible repeat (first | refine blk_drewN ?_ _ | refine blk_drew ?_ | refine blk_alloc ?_ _)); refine blk_far ?_ NB131_130.out _; (with_reducible repeat (first | refine blk_drewN ?_ _ | refine blk_drew ?_ | refine blk_alloc ?_ _)); exact BK131.out) Try.underlying43 rfl (by kernel_rfl)) rfl ?_
                        exact ⟨_, by first | rfl | (simp [errW_none, errW_some] <;> rfl) | (simp only [← hji21]; first | rfl | (simp [errW_none, errW_some] <;> rfl)) | (simp [*, errW_none, errW_some] <;> rfl), by (with_reducible repeat (first | apply Kd.R_alloc | apply Kd.R_drewN | apply Kd.R_drew)); exact Kd.R_mono (Kd.R_far (p := ⟨gb131, 2, none⟩) (Kd.R_far (p := ⟨gb131, 1, none⟩) (Kd.R_far (p := ⟨gb131, 0, none⟩) (Kd.R_far (p := ⟨gb130, 1, none⟩) (Kd.R_types (Kd.R_types HO149.out BK130.out (by decide)) BK131.out (by decide)) (fun _ hk => hk.1.2) (.slice Ao35 y147.length co35)) (fun _ hk => hk.2) (.int .i64 a0_0)) (fun _ hk => hk.2) (.slice Ao35 y147.length co35)) (fun _ hk => hk.2) (.int .i64 a0_2)) (fun _ hk => hk.1.1.1), by repeat (first | (with_reducible first | exact HB.out | apply below_alloc | apply pw_below_drewN | apply below_drew1 | refine below_set ?_ GE130.out | refine below_set ?_ GE131.out) | exact HB.out), by repeat (first | (with_reducible first | exact HK.out | apply Kept.alloc | apply Kept.drewN | apply Kept.drew | refine Kept.setCell ?_ (.inr GW130.out) _ | refine Kept.setCell ?_ (.inr GW131.out) _) | exact HK.out)⟩
                      · rw [if_neg c24] at H
                        exact absurd H (by simp)
                    · rw [if_neg c23] at H
                      exact absurd H (by simp)
                  · rw [if_neg c22] at H
                    exact absurd H (by simp)
                · rw [if_neg c20] at H
                  exact absurd H (by simp)
              · rw [if_neg c19] at H
                exact absurd H (by simp)
            · replace c17 := Bool.eq_false_iff.mpr c17
              subst c17
              have H1 : (some (a0_0, l0_1, a0_2, (rd_T48 l0_1 a1).f0, true)) = some (r1, r2, r3, r4, r5) := by rw [if_neg (show ¬ (false = true) by decide)] at H; exact H
              clear H
              have H := H1
              clear H1
              simp only [Option.some.injEq, Prod.mk.injEq] at H
              obtain ⟨rfl, rfl, rfl, rfl, rfl⟩ := H
              have hnb38 := NB130_131.out
              have hnc38 := NB131_130.out
              have hcz39_0 : wc.cell? ⟨gb130, 0, none⟩ = some (.int .i64 a0_0) := (blk_cell BK130.out 0).trans rfl
              have hcz39_1 : wc.cell? ⟨gb130, 1, none⟩ = some (.slice Ao5 l0_1.length co5) := (blk_cell BK130.out 1).trans rfl
              have hcz39_2 : wc.cell? ⟨gb130, 2, none⟩ = some (.int .i64 a0_2) := (blk_cell BK130.out 2).trans rfl
              have hfz39_0 := blk_frozen BK130.out 0
              have hfz39_1 := blk_frozen BK130.out 1
              have hfz39_2 := blk_frozen BK130.out 2
              have p132 : 0 ≤ (a1 : Int) := of_decide_eq_true (by first | (with_reducible assumption) | assumption)
              have q132 : a1 < (l0_1.length : Int) := of_decide_eq_true (by first | (with_reducible assumption) | assumption)
              obtain ⟨ad132, e132, hx132_0, hx132_1⟩ := at_T48 (Kd.R_reads' HO_131001.out).2.2 a1 p132 q132
              cases e132
              replace p132 := eq_true p132
              replace q132 := eq_true q132
              have hcz40_0 : wc.cell? ⟨gb131, 0, none⟩ = some (.int .i64 0) := (blk_cell BK131.out 0).trans rfl
              have hcz40_1 : wc.cell? ⟨gb131, 1, none⟩ = some (.slice none 0 0) := (blk_cell BK131.out 1).trans rfl
              have hcz40_2 : wc.cell? ⟨gb131, 2, none⟩ = some (.int .i64 0) := (blk_cell BK131.out 2).trans rfl
              have hfz40_0 := blk_frozen BK131.out 0
              have hfz40_1 := blk_frozen BK131.out 1
              have hfz40_2 := blk_frozen BK131.out 2
              go_wp2
              refine bodyPost_ret (results_ctt rfl _ _ gb131 43 #[.int .i64 a0_0, .slice (some ad132) l0_1.length co5, .int .i64 a0_2] (0, 0) _ rfl (by (with_reducible repeat (first | refine blk_drewN ?_ _ | refine blk_drew ?_ | refine blk_alloc ?_ _)); refine blk_put (cs := #[.int .i64 a0_0, .slice (some ad132) l0_1.length co5, .int .i64 0]) ?_ 2 _ rfl; (with_reducible repeat (first | refine blk_drewN ?_ _ | refine blk_drew ?_ | refine blk_alloc ?_ _)); refine blk_put (cs := #[.int .i64 a0_0, .slice none 0 0, .int .i64 0]) ?_ 1 _ rfl; (with_reducible repeat (first | refine blk_drewN ?_ _ | refine blk_drew ?_ | refine blk_alloc ?_ _)); refine blk_put (cs := #[.int .i64 0, .slice none 0 0, .int .i64 0]) ?_ 0 _ rfl; (with_reducible repeat (first | refine blk_drewN ?_ _ | refine blk_drew ?_ | refine blk_alloc ?_ _)); exact BK131.out) Try.underlying43 rfl (by kernel_rfl)) rfl ?_
              exact ⟨_, by first | rfl | (simp [errW_none, errW_some] <;> rfl) | (simp [*, errW_none, errW_some] <;> rfl), by (with_reducible repeat (first | apply Kd.R_alloc | apply Kd.R_drewN | apply Kd.R_drew)); exact Kd.R_mono (Kd.R_far (p := ⟨gb131, 2, none⟩) (Kd.R_far (p := ⟨gb131, 1, none⟩) (Kd.R_far (p := ⟨gb131, 0, none⟩) (Kd.R_types HO_131001.out BK131.out (by decide)) (fun _ hk => hk.2) (.int .i64 a0_0)) (fun _ hk => hk.2) (.slice (some ad132) l0_1.length co5)) (fun _ hk => hk.2) (.int .i64 a0_2)) (fun _ hk => hk.1), by repeat (first | (with_reducible first | exact HB.out | apply below_alloc | apply pw_below_drewN | apply below_drew1 | refine below_set ?_ GE130.out | refine below_set ?_ GE131.out) | exact HB.out), by repeat (first | (with_reducible first | exact HK.out | apply Kept.alloc | apply Kept.drewN | apply Kept.drew | refine Kept.setCell ?_ (.inr GW130.out) _ | refine Kept.setCell ?_ (.inr GW131.out) _) | exact HK.out)⟩
          · rw [if_neg c16] at H
            exact absurd H (by simp)
        · rw [if_neg c15] at H
          exact absurd H (by simp)

-- NOT PRINTED: function 26 (unisonref07_G_Twice)

-- NOT PRINTED: function 20 (unisonref07_Turned)

-- NOT PRINTED: function 27 (unisonref07_G_Turn)

-- NOT PRINTED: function 18 (unisonlaw07_does)

-- NOT PRINTED: function 5 (unisonlaw07_BagPlays)

-- NOT PRINTED: function 6 (unisonlaw07_BagNil)

-- NOT PRINTED: function 7 (unisonlaw07_BagTwins)

end Go.Proofs.Ytemgfogpeogdeaa.F
