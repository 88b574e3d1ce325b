/- What is proved: the Go functions that the law reaches come to what the Lean functions beside them tell, and (in the text of the law) the given statement follows. Conditions: none beyond each theorem's own. Written by a program (a turned copy of the kit's print.py), some walks by hand. -/
import Derived.Test.YtiiajenhjamjdaaF0
namespace Go.Proofs.Ytiiajenhjamjdaa.F
open Go.RowKit Go.Proofs.YtiiajenhjamjdaaW.PrintWords Go.Proofs.YtiiajenhjamjdaaW.PrintLast Go.Proofs.YtiiajenhjamjdaaW.PrintMore
attribute [local go_sem] max2_int min2_int max_two min_two max_three min_three max_four min_four   -- for this text's walks alone
set_option linter.unusedVariables false
set_option linter.unusedSimpArgs false

-- NOT PRINTED: function 9 (relay_Queue_Put)

-- NOT PRINTED: function 10 (relay_Queue_Len)

-- NOT PRINTED: function 7 (unisonlaw16_awake)

/-! ### slices_Index_uint8_uint8: function 35 -/
def slices_Index_uint8_uint8.l0 : Nat → List Int → Int → Int → Int → Option (Int)
  | 0, _, _, _, _ => none
  | k + 1, x0, x1, x7, x8 => if x8 < x7 then (if 0 ≤ x8 then (if x8 < (x0.length : Int) then (if x1 = (rd x0 x8) then (some x8) else (slices_Index_uint8_uint8.l0 k x0 x1 x7 (wrap64 (x8 + 1)))) else (none)) else (none)) else (some (-1))
def slices_Index_uint8_uint8.f (k : Nat) (l0 : List Int) (a1 : Int) : Option (Int) := slices_Index_uint8_uint8.l0 k l0 a1 (l0.length : Int) 0
theorem slices_Index_uint8_uint8.mono_l : ∀ k, (∀ y0 y1 y2 y3, LeO (slices_Index_uint8_uint8.l0 k y0 y1 y2 y3) (slices_Index_uint8_uint8.l0 (k + 1) y0 y1 y2 y3))
  | 0 => fun _ _ _ _ r h => by simp [slices_Index_uint8_uint8.l0] at h
  | k + 1 => by
    have ih0 := slices_Index_uint8_uint8.mono_l k
    · intro y0 y1 y2 y3
      unfold slices_Index_uint8_uint8.l0
      repeat' first
      | (with_reducible exact ih0 _ _ _ _)
      | (with_reducible exact LeO.refl _)
      | (with_reducible exact LeO.none _)
      | (with_reducible refine LeO.ite ?_ ?_)
      | (with_reducible refine LeO.bind ?_ (fun _ => ?_))
      | exact ih0 _ _ _ _
      | exact LeO.none _
      | refine LeO.ite ?_ ?_
      | refine LeO.bind ?_ (fun _ => ?_)
theorem slices_Index_uint8_uint8.mono : ∀ a0 a1 k, LeO (slices_Index_uint8_uint8.f k a0 a1) (slices_Index_uint8_uint8.f (k + 1) a0 a1) := by
  intro a0 a1 k
  have ih0 := slices_Index_uint8_uint8.mono_l k
  unfold slices_Index_uint8_uint8.f
  repeat' first
      | (with_reducible exact ih0 _ _ _ _)
      | (with_reducible exact LeO.refl _)
      | (with_reducible exact LeO.none _)
      | (with_reducible refine LeO.ite ?_ ?_)
      | (with_reducible refine LeO.bind ?_ (fun _ => ?_))
      | exact ih0 _ _ _ _
      | exact LeO.none _
      | refine LeO.ite ?_ ?_
      | refine LeO.bind ?_ (fun _ => ?_)
set_option maxHeartbeats 8000000 in
set_option maxRecDepth 100000 in
theorem slices_Index_uint8_uint8.calls (k : Nat) (A0 : Option Addr) (c0 : Nat) (l0 : List Int) (a1 : Int) (r : Int) (w : World) (hr0 : Kd.C (Kd.int .u8) w A0 l0.length l0) (hc0 : l0.length ≤ c0) (h : slices_Index_uint8_uint8.f k l0 a1 = some r) :
    Calls Try.prog 35 #[.slice A0 l0.length c0, .int .u8 a1] w fun e w' => e = .returned (.int .i64 r) ∧ Drawn0 w w' := by
  have HR0 := Aside0.mk hr0
  have HC0 := Aside0.mk hc0
  clear hr0 hc0
  have H : (slices_Index_uint8_uint8.l0 k l0 a1 (l0.length : Int) 0) = some r := h
  clear h
  have H' := Aside0.mk H
  clear H
  go_enter Try.func35, Try.ntmps35
  go_wp2
  go_loopg [8] k (fun kq v8 w' => ∃ (x8_1 : Int), v8 = .int .i64 x8_1 ∧ Aside0 (slices_Index_uint8_uint8.l0 kq l0 a1 (l0.length : Int) x8_1 = some r) ∧ Aside0 (kq ≤ k) ∧ Drawn0 w w')
  case atStart => exact ⟨(0), (by first | rfl | (simp; done) | (simp [*]; done)), H', ⟨Nat.le_refl _⟩, by repeat (first | exact Drawn0.refl _ | apply Drawn0.step)⟩
  case round =>
    clear H'
    try clear p2
    obtain ⟨x8_1, rfl, HA, HK1, ⟨m1, rfl⟩⟩ := hrel
    cases gk with
    | zero => exact absurd HA.out (by simp [slices_Index_uint8_uint8.l0])
    | succ k1 =>
      have H := HA.out
      clear HA
      simp only [slices_Index_uint8_uint8.l0] at H
      by_cases c3 : x8_1 < (l0.length : Int)
      · rw [if_pos c3] at H
        have c3b0 : decide (x8_1 < (l0.length : Int)) = true := decide_eq_true c3
        clear c3
        by_cases c4 : 0 ≤ x8_1
        · rw [if_pos c4] at H
          have c4b0 : decide (0 ≤ x8_1) = true := decide_eq_true c4
          clear c4
          by_cases c5 : x8_1 < (l0.length : Int)
          · rw [if_pos c5] at H
            have c5b0 : decide (x8_1 < (l0.length : Int)) = true := decide_eq_true c5
            clear c5
            by_cases c6 : a1 = (rd l0 x8_1)
            · rw [if_pos c6] at H
              have c6b0 : (a1 == (rd l0 x8_1)) = true := beq_iff_eq.mpr c6
              have c6b1 : (a1 != (rd l0 x8_1)) = false := bne_eq_false_iff_eq.mpr c6
              clear c6
              obtain rfl := Option.some.inj H
              have p120 : 0 ≤ (x8_1 : Int) := of_decide_eq_true (by first | (with_reducible assumption) | assumption)
              have q120 : x8_1 < (l0.length : Int) := of_decide_eq_true (by first | (with_reducible assumption) | assumption)
              obtain ⟨ad120, e120, hx120_0⟩ := Kd.at_int HR0.out x8_1 p120 q120
              cases e120
              replace p120 := eq_true p120
              replace q120 := eq_true q120
              go_wp2
              go_ret
              exact ⟨by first | rfl | (simp; done) | (simp [*]; done), by repeat (first | exact Drawn0.refl _ | apply Drawn0.step)⟩
            · rw [if_neg c6] at H
              have c6b0 : (a1 == (rd l0 x8_1)) = false := beq_eq_false_iff_ne.mpr c6
              have c6b1 : (a1 != (rd l0 x8_1)) = true := bne_iff_ne.mpr c6
              have H' := Aside0.mk H
              clear H
              have p120 : 0 ≤ (x8_1 : Int) := of_decide_eq_true (by first | (with_reducible assumption) | assumption)
              have q120 : x8_1 < (l0.length : Int) := of_decide_eq_true (by first | (with_reducible assumption) | assumption)
              obtain ⟨ad120, e120, hx120_0⟩ := Kd.at_int HR0.out x8_1 p120 q120
              cases e120
              replace p120 := eq_true p120
              replace q120 := eq_true q120
              go_wp2
              go_roundg k1
              case measure => have := HK1.out; omega
              case rel => exact ⟨(wrap64 (x8_1 + 1)), (by first | rfl | (simp; done) | (simp [*]; done)), H', ⟨by have := HK1.out; omega⟩, by repeat (first | exact Drawn0.refl _ | apply Drawn0.step)⟩
          · rw [if_neg c5] at H
            exact absurd H (by simp)
        · rw [if_neg c4] at H
          exact absurd H (by simp)
      · rw [if_neg c3] at H
        have c3b0 : decide (x8_1 < (l0.length : Int)) = false := decide_eq_false c3
        clear c3
        obtain rfl := Option.some.inj H
        go_wp2
        go_ret
        exact ⟨by first | rfl | (simp; done) | (simp [*]; done), by repeat (first | exact Drawn0.refl _ | apply Drawn0.step)⟩

/-! ### slices_Contains_uint8_uint8: function 22 -/
def slices_Contains_uint8_uint8.f (k : Nat) (l0 : List Int) (a1 : Int) : Option (Bool) := (slices_Index_uint8_uint8.f k l0 a1).bind fun t121 => (some (decide (t121 ≥ 0)))
theorem slices_Contains_uint8_uint8.mono : ∀ a0 a1 k, LeO (slices_Contains_uint8_uint8.f k a0 a1) (slices_Contains_uint8_uint8.f (k + 1) a0 a1) := by
  intro a0 a1 k
  unfold slices_Contains_uint8_uint8.f
  repeat' first
      | (with_reducible exact slices_Index_uint8_uint8.mono _ _ _)
      | (with_reducible exact LeO.refl _)
      | (with_reducible exact LeO.none _)
      | (with_reducible refine LeO.ite ?_ ?_)
      | (with_reducible refine LeO.bind ?_ (fun _ => ?_))
      | exact slices_Index_uint8_uint8.mono _ _ _
      | exact LeO.none _
      | refine LeO.ite ?_ ?_
      | refine LeO.bind ?_ (fun _ => ?_)
set_option maxHeartbeats 8000000 in
set_option maxRecDepth 100000 in
theorem slices_Contains_uint8_uint8.calls (k : Nat) (A0 : Option Addr) (c0 : Nat) (l0 : List Int) (a1 : Int) (r : Bool) (w : World) (hr0 : Kd.C (Kd.int .u8) w A0 l0.length l0) (hc0 : l0.length ≤ c0) (h : slices_Contains_uint8_uint8.f k l0 a1 = some r) :
    Calls Try.prog 22 #[.slice A0 l0.length c0, .int .u8 a1] w fun e w' => e = .returned (.bool r) ∧ Drawn0 w w' := by
  have HR0 := Aside0.mk hr0
  have HC0 := Aside0.mk hc0
  clear hr0 hc0
  have H : ((slices_Index_uint8_uint8.f k l0 a1).bind fun t121 => (some (decide (t121 ≥ 0)))) = some r := h
  clear h
  replace H := Option.bind_eq_some_iff.mp H
  obtain ⟨t121, A30, H⟩ := H
  replace H : (some (decide (t121 ≥ 0))) = some r := H
  have A3 := Aside0.mk A30
  clear A30
  obtain rfl := Option.some.inj H
  go_enter Try.func22, Try.ntmps22
  go_wp2_with (first | ((with_reducible refine gate_callee (f := 35) rfl ?_); refine goesL_ (some 7) rfl rfl Try.func35 (by kernel_rfl) rfl #[.slice A0 l0.length c0, .int .u8 a1] rfl (by (try simp only [List.map_toArray, List.map_cons, List.map_nil]); first | done | rfl | (simp only [List.length_drop, List.length_take]; rfl)) ?_; (with_reducible refine (slices_Index_uint8_uint8.calls k _ _ l0 a1 t121 _ ?side1 ?side2 A3.out).mono ?_); (case side1 => repeat (first | exact HR0.out | (with_reducible refine Kd.C_alloc ?_ _) | (with_reducible refine Kd.C_drewN ?_ _) | (with_reducible refine Kd.C_drew ?_))); (case side2 => exact HC0.out); rintro e w' ⟨rfl, ⟨nd, rfl⟩⟩; refine ⟨_, rfl, ?_⟩))
  go_ret
  exact ⟨by first | rfl | (simp; done) | (simp [*]; done), by repeat (first | exact Drawn0.refl _ | apply Drawn0.step)⟩

-- NOT PRINTED: function 23 (relay_Queue_first)

-- NOT PRINTED: function 11 (relay_Queue_Take)

-- NOT PRINTED: function 3 (unisonlaw16_RelayOrder)

-- NOT PRINTED: function 12 (relay_Queue_Lost)

-- NOT PRINTED: function 4 (unisonlaw16_RelayRoom)

/-! ### unisonref16_New: function 13 -/
def unisonref16_New.f (a0 : Int) : Option (Int × (List (S37)) × Int) := if a0 < 1 then (if 1 > 4096 then (some (4096, ([] : List (S37)), 0)) else (some (1, ([] : List (S37)), 0))) else (if a0 > 4096 then (some (4096, ([] : List (S37)), 0)) else (some (a0, ([] : List (S37)), 0)))
set_option maxHeartbeats 8000000 in
set_option maxRecDepth 100000 in
theorem unisonref16_New.calls (a0 : Int) (r1 : Int) (r2 : List (S37)) (r3 : Int) (w : World) (h : unisonref16_New.f a0 = some (r1, r2, r3)) :
    Calls Try.prog 13 #[.int .i64 a0] w fun e w' => ∃ v1_ : Value, e = .returned (.agg #[.int .i64 r1, v1_, .int .i64 r3]) ∧ Kd.S k37 37 w' w.heap.size (fun _ => True) v1_ r2 ∧ Below w.heap.size w w' := by
  have hu45 := Try.underlying45
  have HB := Aside0.mk (Below.refl w.heap.size w)
  have H : (if a0 < 1 then (if 1 > 4096 then (some (4096, ([] : List (S37)), 0)) else (some (1, ([] : List (S37)), 0))) else (if a0 > 4096 then (some (4096, ([] : List (S37)), 0)) else (some (a0, ([] : List (S37)), 0)))) = some (r1, r2, r3) := h
  clear h
  by_cases c2 : a0 < 1
  · rw [if_pos c2] at H
    have c2b0 : decide (a0 < 1) = true := decide_eq_true c2
    clear c2
    by_cases c3 : 1 > 4096
    · exact absurd c3 (by decide)
    · rw [if_neg c3] at H
      have c3b0 : decide (4096 < 1) = false := decide_eq_false c3
      clear c3
      simp only [Option.some.injEq, Prod.mk.injEq] at H
      obtain ⟨rfl, rfl, rfl⟩ := H
      go_enter Try.func13, Try.ntmps13
      go_wp2_with (first | ((with_reducible refine gate_dst (N := 2) rfl ?_); refine box_event ?hg (N := 2) ?hd (cs := #[.int .i64 0, .slice none 0 0, .int .i64 0]) (t := 45) ?hr ?_; (case hd => rfl); (case hg => rfl); (case hr => first | (go_simp; done) | (go_simp; rfl)); intro gb122 hg w6 hbox hb; have n0_ := Aside0.mk (below_step (by repeat (first | (with_reducible first | exact HB.out | apply below_alloc | apply pw_below_drewN | apply below_drew1) | exact HB.out)) hb); have n1_ := Aside0.mk (hbox); have n2_ := Aside0.mk ((by rw [hg]; exact (below_size (by repeat (first | (with_reducible first | exact HB.out | apply below_alloc | apply pw_below_drewN | apply below_drew1) | exact HB.out))) : w.heap.size ≤ gb122)); have n3_ := Aside0.mk ((by rw [hg]; exact (below_size (by repeat (first | (with_reducible first | exact HB.out | apply below_alloc | apply pw_below_drewN | apply below_drew1) | exact HB.out))) : w.heap.size ≤ gb122)); clear HB; have HB := n0_; have BK122 := n1_; have GW122 := n2_; have GE122 := n3_; clear n0_ n1_ n2_ n3_; clear hb hbox hg; have hcz7_0 : w6.cell? ⟨gb122, 0, none⟩ = some (.int .i64 0) := (blk_cell BK122.out 0).trans rfl; have hcz7_1 : w6.cell? ⟨gb122, 1, none⟩ = some (.slice none 0 0) := (blk_cell BK122.out 1).trans rfl; have hcz7_2 : w6.cell? ⟨gb122, 2, none⟩ = some (.int .i64 0) := (blk_cell BK122.out 2).trans rfl; have hfz7_0 := blk_frozen BK122.out 0; have hfz7_1 := blk_frozen BK122.out 1; have hfz7_2 := blk_frozen BK122.out 2))
      refine bodyPost_ret (results_cell_row rfl _ _ gb122 45 #[.int .i64 1, .slice none 0 0, .int .i64 0] (0, 0) _ rfl (by (with_reducible repeat (first | refine blk_drewN ?_ _ | refine blk_drew ?_ | refine blk_alloc ?_ _)); refine blk_put (cs := #[.int .i64 1, .slice none 0 0, .int .i64 0]) ?_ 2 _ rfl; (with_reducible repeat (first | refine blk_drewN ?_ _ | refine blk_drew ?_ | refine blk_alloc ?_ _)); refine blk_put (cs := #[.int .i64 1, .slice none 0 0, .int .i64 0]) ?_ 1 _ rfl; (with_reducible repeat (first | refine blk_drewN ?_ _ | refine blk_drew ?_ | refine blk_alloc ?_ _)); refine blk_put (cs := #[.int .i64 0, .slice none 0 0, .int .i64 0]) ?_ 0 _ rfl; (with_reducible repeat (first | refine blk_drewN ?_ _ | refine blk_drew ?_ | refine blk_alloc ?_ _)); exact BK122.out) Try.underlying45 rfl (by kernel_rfl)) rfl ?_
      exact ⟨_, by first | rfl | (simp [errW_none, errW_some] <;> rfl) | (simp [*, errW_none, errW_some] <;> rfl), by first | exact Kd.S_nil _ _ _ _ _ | exact Kd.N_nil _ _ _ _ _ | exact Kd.V_nil _ _ _ _ _ | exact Kd.Q_nil _ _ _ _ _ | exact Kd.R_nil _ _ _ _ _, by repeat (first | (with_reducible first | exact HB.out | apply below_alloc | apply pw_below_drewN | apply below_drew1 | refine below_set ?_ GE122.out) | exact HB.out)⟩
  · rw [if_neg c2] at H
    have c2b0 : decide (a0 < 1) = false := decide_eq_false c2
    clear c2
    by_cases c8 : a0 > 4096
    · rw [if_pos c8] at H
      have c8b0 : decide (4096 < a0) = true := decide_eq_true c8
      clear c8
      simp only [Option.some.injEq, Prod.mk.injEq] at H
      obtain ⟨rfl, rfl, rfl⟩ := H
      go_enter Try.func13, Try.ntmps13
      go_wp2_with (first | ((with_reducible refine gate_dst (N := 2) rfl ?_); refine box_event ?hg (N := 2) ?hd (cs := #[.int .i64 0, .slice none 0 0, .int .i64 0]) (t := 45) ?hr ?_; (case hd => rfl); (case hg => rfl); (case hr => first | (go_simp; done) | (go_simp; rfl)); intro gb122 hg w9 hbox hb; have n0_ := Aside0.mk (below_step (by repeat (first | (with_reducible first | exact HB.out | apply below_alloc | apply pw_below_drewN | apply below_drew1) | exact HB.out)) hb); have n1_ := Aside0.mk (hbox); have n2_ := Aside0.mk ((by rw [hg]; exact (below_size (by repeat (first | (with_reducible first | exact HB.out | apply below_alloc | apply pw_below_drewN | apply below_drew1) | exact HB.out))) : w.heap.size ≤ gb122)); have n3_ := Aside0.mk ((by rw [hg]; exact (below_size (by repeat (first | (with_reducible first | exact HB.out | apply below_alloc | apply pw_below_drewN | apply below_drew1) | exact HB.out))) : w.heap.size ≤ gb122)); clear HB; have HB := n0_; have BK122 := n1_; have GW122 := n2_; have GE122 := n3_; clear n0_ n1_ n2_ n3_; clear hb hbox hg; have hcz10_0 : w9.cell? ⟨gb122, 0, none⟩ = some (.int .i64 0) := (blk_cell BK122.out 0).trans rfl; have hcz10_1 : w9.cell? ⟨gb122, 1, none⟩ = some (.slice none 0 0) := (blk_cell BK122.out 1).trans rfl; have hcz10_2 : w9.cell? ⟨gb122, 2, none⟩ = some (.int .i64 0) := (blk_cell BK122.out 2).trans rfl; have hfz10_0 := blk_frozen BK122.out 0; have hfz10_1 := blk_frozen BK122.out 1; have hfz10_2 := blk_frozen BK122.out 2))
      refine bodyPost_ret (results_cell_row rfl _ _ gb122 45 #[.int .i64 4096, .slice none 0 0, .int .i64 0] (0, 0) _ rfl (by (with_reducible repeat (first | refine blk_drewN ?_ _ | refine blk_drew ?_ | refine blk_alloc ?_ _)); refine blk_put (cs := #[.int .i64 4096, .slice none 0 0, .int .i64 0]) ?_ 2 _ rfl; (with_reducible repeat (first | refine blk_drewN ?_ _ | refine blk_drew ?_ | refine blk_alloc ?_ _)); refine blk_put (cs := #[.int .i64 4096, .slice none 0 0, .int .i64 0]) ?_ 1 _ rfl; (with_reducible repeat (first | refine blk_drewN ?_ _ | refine blk_drew ?_ | refine blk_alloc ?_ _)); refine blk_put (cs := #[.int .i64 0, .slice none 0 0, .int .i64 0]) ?_ 0 _ rfl; (with_reducible repeat (first | refine blk_drewN ?_ _ | refine blk_drew ?_ | refine blk_alloc ?_ _)); exact BK122.out) Try.underlying45 rfl (by kernel_rfl)) rfl ?_
      exact ⟨_, by first | rfl | (simp [errW_none, errW_some] <;> rfl) | (simp [*, errW_none, errW_some] <;> rfl), by first | exact Kd.S_nil _ _ _ _ _ | exact Kd.N_nil _ _ _ _ _ | exact Kd.V_nil _ _ _ _ _ | exact Kd.Q_nil _ _ _ _ _ | exact Kd.R_nil _ _ _ _ _, by repeat (first | (with_reducible first | exact HB.out | apply below_alloc | apply pw_below_drewN | apply below_drew1 | refine below_set ?_ GE122.out) | exact HB.out)⟩
    · rw [if_neg c8] at H
      have c8b0 : decide (4096 < a0) = false := decide_eq_false c8
      clear c8
      simp only [Option.some.injEq, Prod.mk.injEq] at H
      obtain ⟨rfl, rfl, rfl⟩ := H
      go_enter Try.func13, Try.ntmps13
      go_wp2_with (first | ((with_reducible refine gate_dst (N := 2) rfl ?_); refine box_event ?hg (N := 2) ?hd (cs := #[.int .i64 0, .slice none 0 0, .int .i64 0]) (t := 45) ?hr ?_; (case hd => rfl); (case hg => rfl); (case hr => first | (go_simp; done) | (go_simp; rfl)); intro gb122 hg w11 hbox hb; have n0_ := Aside0.mk (below_step (by repeat (first | (with_reducible first | exact HB.out | apply below_alloc | apply pw_below_drewN | apply below_drew1) | exact HB.out)) hb); have n1_ := Aside0.mk (hbox); have n2_ := Aside0.mk ((by rw [hg]; exact (below_size (by repeat (first | (with_reducible first | exact HB.out | apply below_alloc | apply pw_below_drewN | apply below_drew1) | exact HB.out))) : w.heap.size ≤ gb122)); have n3_ := Aside0.mk ((by rw [hg]; exact (below_size (by repeat (first | (with_reducible first | exact HB.out | apply below_alloc | apply pw_below_drewN | apply below_drew1) | exact HB.out))) : w.heap.size ≤ gb122)); clear HB; have HB := n0_; have BK122 := n1_; have GW122 := n2_; have GE122 := n3_; clear n0_ n1_ n2_ n3_; clear hb hbox hg; have hcz12_0 : w11.cell? ⟨gb122, 0, none⟩ = some (.int .i64 0) := (blk_cell BK122.out 0).trans rfl; have hcz12_1 : w11.cell? ⟨gb122, 1, none⟩ = some (.slice none 0 0) := (blk_cell BK122.out 1).trans rfl; have hcz12_2 : w11.cell? ⟨gb122, 2, none⟩ = some (.int .i64 0) := (blk_cell BK122.out 2).trans rfl; have hfz12_0 := blk_frozen BK122.out 0; have hfz12_1 := blk_frozen BK122.out 1; have hfz12_2 := blk_frozen BK122.out 2))
      refine bodyPost_ret (results_cell_row rfl _ _ gb122 45 #[.int .i64 a0, .slice none 0 0, .int .i64 0] (0, 0) _ rfl (by (with_reducible repeat (first | refine blk_drewN ?_ _ | refine blk_drew ?_ | refine blk_alloc ?_ _)); refine blk_put (cs := #[.int .i64 a0, .slice none 0 0, .int .i64 0]) ?_ 2 _ rfl; (with_reducible repeat (first | refine blk_drewN ?_ _ | refine blk_drew ?_ | refine blk_alloc ?_ _)); refine blk_put (cs := #[.int .i64 a0, .slice none 0 0, .int .i64 0]) ?_ 1 _ rfl; (with_reducible repeat (first | refine blk_drewN ?_ _ | refine blk_drew ?_ | refine blk_alloc ?_ _)); refine blk_put (cs := #[.int .i64 0, .slice none 0 0, .int .i64 0]) ?_ 0 _ rfl; (with_reducible repeat (first | refine blk_drewN ?_ _ | refine blk_drew ?_ | refine blk_alloc ?_ _)); exact BK122.out) Try.underlying45 rfl (by kernel_rfl)) rfl ?_
      exact ⟨_, by first | rfl | (simp [errW_none, errW_some] <;> rfl) | (simp [*, errW_none, errW_some] <;> rfl), by first | exact Kd.S_nil _ _ _ _ _ | exact Kd.N_nil _ _ _ _ _ | exact Kd.V_nil _ _ _ _ _ | exact Kd.Q_nil _ _ _ _ _ | exact Kd.R_nil _ _ _ _ _, by repeat (first | (with_reducible first | exact HB.out | apply below_alloc | apply pw_below_drewN | apply below_drew1 | refine below_set ?_ GE122.out) | exact HB.out)⟩

/-! ### unisonref06_Great: function 24 -/
def unisonref06_Great.f (a0_0 : Int) (a0_1 : Int) (a0_2 : Int) (a0_3 : Int) (a0_4 : Int) (a0_5 : Int) (a0_6 : Int) (a0_7 : Int) (a0_8 : Int) (a0_9 : Int) (a0_10 : Int) (l0_11 : List (S78)) (l0_12 : List (S78)) (l0_13 : List Int) (l0_14 : List Int) (l0_15 : List Int) : Option (Bool) := if (l0_11.length : Int) > 100 then (some true) else (if (l0_12.length : Int) > 100 then (some true) else (if (l0_13.length : Int) > 100 then (some true) else (if (l0_14.length : Int) > 100 then (some true) else (some (decide ((l0_15.length : Int) > 2000))))))
set_option maxHeartbeats 8000000 in
set_option maxRecDepth 100000 in
theorem unisonref06_Great.calls (a0_0 : Int) (a0_1 : Int) (a0_2 : Int) (a0_3 : Int) (a0_4 : Int) (a0_5 : Int) (a0_6 : Int) (a0_7 : Int) (a0_8 : Int) (a0_9 : Int) (a0_10 : Int) (A0_11 : Option Addr) (c0_11 : Nat) (l0_11 : List (S78)) (A0_12 : Option Addr) (c0_12 : Nat) (l0_12 : List (S78)) (A0_13 : Option Addr) (c0_13 : Nat) (l0_13 : List Int) (A0_14 : Option Addr) (c0_14 : Nat) (l0_14 : List Int) (A0_15 : Option Addr) (c0_15 : Nat) (l0_15 : List Int) (r : Bool) (w : World) (hr0_11 : Kd.C k78 w A0_11 l0_11.length l0_11) (hc0_11 : l0_11.length ≤ c0_11) (hr0_12 : Kd.C k78 w A0_12 l0_12.length l0_12) (hc0_12 : l0_12.length ≤ c0_12) (hr0_13 : Kd.C (Kd.int .u64) w A0_13 l0_13.length l0_13) (hc0_13 : l0_13.length ≤ c0_13) (hr0_14 : Kd.C (Kd.int .u64) w A0_14 l0_14.length l0_14) (hc0_14 : l0_14.length ≤ c0_14) (hr0_15 : Kd.C (Kd.int .u8) w A0_15 l0_15.length l0_15) (hc0_15 : l0_15.length ≤ c0_15) (h : unisonref06_Great.f a0_0 a0_1 a0_2 a0_3 a0_4 a0_5 a0_6 a0_7 a0_8 a0_9 a0_10 l0_11 l0_12 l0_13 l0_14 l0_15 = some r) :
    Calls Try.prog 24 #[.agg #[.int .u8 a0_0, .int .u8 a0_1, .int .u8 a0_2, .int .u8 a0_3, .int .u64 a0_4, .int .u64 a0_5, .int .u32 a0_6, .int .u32 a0_7, .int .u32 a0_8, .int .u64 a0_9, .int .u64 a0_10, .slice A0_11 l0_11.length c0_11, .slice A0_12 l0_12.length c0_12, .slice A0_13 l0_13.length c0_13, .slice A0_14 l0_14.length c0_14, .slice A0_15 l0_15.length c0_15]] w fun e w' => e = .returned (.bool r) ∧ Below w.heap.size w w' := by
  have hu37 := Try.underlying37
  have HR0_11 := Aside0.mk hr0_11
  have HC0_11 := Aside0.mk hc0_11
  clear hr0_11 hc0_11
  have HR0_12 := Aside0.mk hr0_12
  have HC0_12 := Aside0.mk hc0_12
  clear hr0_12 hc0_12
  have HR0_13 := Aside0.mk hr0_13
  have HC0_13 := Aside0.mk hc0_13
  clear hr0_13 hc0_13
  have HR0_14 := Aside0.mk hr0_14
  have HC0_14 := Aside0.mk hc0_14
  clear hr0_14 hc0_14
  have HR0_15 := Aside0.mk hr0_15
  have HC0_15 := Aside0.mk hc0_15
  clear hr0_15 hc0_15
  have HB := Aside0.mk (Below.refl w.heap.size w)
  have H : (if (l0_11.length : Int) > 100 then (some true) else (if (l0_12.length : Int) > 100 then (some true) else (if (l0_13.length : Int) > 100 then (some true) else (if (l0_14.length : Int) > 100 then (some true) else (some (decide ((l0_15.length : Int) > 2000))))))) = some r := h
  clear h
  by_cases c2 : (l0_11.length : Int) > 100
  · rw [if_pos c2] at H
    have c2b0 : decide (100 < (l0_11.length : Int)) = true := decide_eq_true c2
    have c2b1 : decide (100 < l0_11.length) = true := decide_eq_true (by omega)
    clear c2
    obtain rfl := Option.some.inj H
    go_enter Try.func24, Try.ntmps24
    go_wp2_with (first | ((with_reducible refine gate_dst (N := 1) rfl ?_); (try (refine gate_guard (by rfl) ?_; dsimp only)); refine box_event ?hg (N := 1) ?hd (cs := #[.int .u8 a0_0, .int .u8 a0_1, .int .u8 a0_2, .int .u8 a0_3, .int .u64 a0_4, .int .u64 a0_5, .int .u32 a0_6, .int .u32 a0_7, .int .u32 a0_8, .int .u64 a0_9, .int .u64 a0_10, .slice A0_11 l0_11.length c0_11, .slice A0_12 l0_12.length c0_12, .slice A0_13 l0_13.length c0_13, .slice A0_14 l0_14.length c0_14, .slice A0_15 l0_15.length c0_15]) (t := 37) ?hr ?_; (case hd => rfl); (case hg => rfl); (case hr => first | (go_simp; done) | (go_simp; rfl)); intro gb123 hg w3 hbox hb; have n0_ := Aside0.mk (below_step (by repeat (first | (with_reducible first | exact HB.out | apply below_alloc | apply pw_below_drewN | apply below_drew1) | exact HB.out)) hb); have n1_ := Aside0.mk (hbox); have n2_ := Aside0.mk ((by rw [hg]; exact (below_size (by repeat (first | (with_reducible first | exact HB.out | apply below_alloc | apply pw_below_drewN | apply below_drew1) | exact HB.out))) : w.heap.size ≤ gb123)); have n3_ := Aside0.mk ((by rw [hg]; exact (below_size (by repeat (first | (with_reducible first | exact HB.out | apply below_alloc | apply pw_below_drewN | apply below_drew1) | exact HB.out))) : w.heap.size ≤ gb123)); clear HB; have HB := n0_; have BK123 := n1_; have GW123 := n2_; have GE123 := n3_; clear n0_ n1_ n2_ n3_; clear hb hbox hg; have hcz4_0 : w3.cell? ⟨gb123, 0, none⟩ = some (.int .u8 a0_0) := (blk_cell BK123.out 0).trans rfl; have hcz4_1 : w3.cell? ⟨gb123, 1, none⟩ = some (.int .u8 a0_1) := (blk_cell BK123.out 1).trans rfl; have hcz4_2 : w3.cell? ⟨gb123, 2, none⟩ = some (.int .u8 a0_2) := (blk_cell BK123.out 2).trans rfl; have hcz4_3 : w3.cell? ⟨gb123, 3, none⟩ = some (.int .u8 a0_3) := (blk_cell BK123.out 3).trans rfl; have hcz4_4 : w3.cell? ⟨gb123, 4, none⟩ = some (.int .u64 a0_4) := (blk_cell BK123.out 4).trans rfl; have hcz4_5 : w3.cell? ⟨gb123, 5, none⟩ = some (.int .u64 a0_5) := (blk_cell BK123.out 5).trans rfl; have hcz4_6 : w3.cell? ⟨gb123, 6, none⟩ = some (.int .u32 a0_6) := (blk_cell BK123.out 6).trans rfl; have hcz4_7 : w3.cell? ⟨gb123, 7, none⟩ = some (.int .u32 a0_7) := (blk_cell BK123.out 7).trans rfl; have hcz4_8 : w3.cell? ⟨gb123, 8, none⟩ = some (.int .u32 a0_8) := (blk_cell BK123.out 8).trans rfl; have hcz4_9 : w3.cell? ⟨gb123, 9, none⟩ = some (.int .u64 a0_9) := (blk_cell BK123.out 9).trans rfl; have hcz4_10 : w3.cell? ⟨gb123, 10, none⟩ = some (.int .u64 a0_10) := (blk_cell BK123.out 10).trans rfl; have hcz4_11 : w3.cell? ⟨gb123, 11, none⟩ = some (.slice A0_11 l0_11.length c0_11) := (blk_cell BK123.out 11).trans rfl; have hcz4_12 : w3.cell? ⟨gb123, 12, none⟩ = some (.slice A0_12 l0_12.length c0_12) := (blk_cell BK123.out 12).trans rfl; have hcz4_13 : w3.cell? ⟨gb123, 13, none⟩ = some (.slice A0_13 l0_13.length c0_13) := (blk_cell BK123.out 13).trans rfl; have hcz4_14 : w3.cell? ⟨gb123, 14, none⟩ = some (.slice A0_14 l0_14.length c0_14) := (blk_cell BK123.out 14).trans rfl; have hcz4_15 : w3.cell? ⟨gb123, 15, none⟩ = some (.slice A0_15 l0_15.length c0_15) := (blk_cell BK123.out 15).trans rfl; have hfz4_0 := blk_frozen BK123.out 0; have hfz4_1 := blk_frozen BK123.out 1; have hfz4_2 := blk_frozen BK123.out 2; have hfz4_3 := blk_frozen BK123.out 3; have hfz4_4 := blk_frozen BK123.out 4; have hfz4_5 := blk_frozen BK123.out 5; have hfz4_6 := blk_frozen BK123.out 6; have hfz4_7 := blk_frozen BK123.out 7; have hfz4_8 := blk_frozen BK123.out 8; have hfz4_9 := blk_frozen BK123.out 9; have hfz4_10 := blk_frozen BK123.out 10; have hfz4_11 := blk_frozen BK123.out 11; have hfz4_12 := blk_frozen BK123.out 12; have hfz4_13 := blk_frozen BK123.out 13; have hfz4_14 := blk_frozen BK123.out 14; have hfz4_15 := blk_frozen BK123.out 15))
    go_ret
    exact ⟨by first | rfl | (simp [errW_none, errW_some] <;> rfl) | (simp [*, errW_none, errW_some] <;> rfl), by repeat (first | (with_reducible first | exact HB.out | apply below_alloc | apply pw_below_drewN | apply below_drew1 | refine below_set ?_ GE123.out) | exact HB.out)⟩
  · rw [if_neg c2] at H
    have c2b0 : decide (100 < (l0_11.length : Int)) = false := decide_eq_false c2
    have c2b1 : decide (100 < l0_11.length) = false := decide_eq_false (by omega)
    clear c2
    by_cases c5 : (l0_12.length : Int) > 100
    · rw [if_pos c5] at H
      have c5b0 : decide (100 < (l0_12.length : Int)) = true := decide_eq_true c5
      have c5b1 : decide (100 < l0_12.length) = true := decide_eq_true (by omega)
      clear c5
      obtain rfl := Option.some.inj H
      go_enter Try.func24, Try.ntmps24
      go_wp2_with (first | ((with_reducible refine gate_dst (N := 1) rfl ?_); (try (refine gate_guard (by rfl) ?_; dsimp only)); refine box_event ?hg (N := 1) ?hd (cs := #[.int .u8 a0_0, .int .u8 a0_1, .int .u8 a0_2, .int .u8 a0_3, .int .u64 a0_4, .int .u64 a0_5, .int .u32 a0_6, .int .u32 a0_7, .int .u32 a0_8, .int .u64 a0_9, .int .u64 a0_10, .slice A0_11 l0_11.length c0_11, .slice A0_12 l0_12.length c0_12, .slice A0_13 l0_13.length c0_13, .slice A0_14 l0_14.length c0_14, .slice A0_15 l0_15.length c0_15]) (t := 37) ?hr ?_; (case hd => rfl); (case hg => rfl); (case hr => first | (go_simp; done) | (go_simp; rfl)); intro gb123 hg w6 hbox hb; have n0_ := Aside0.mk (below_step (by repeat (first | (with_reducible first | exact HB.out | apply below_alloc | apply pw_below_drewN | apply below_drew1) | exact HB.out)) hb); have n1_ := Aside0.mk (hbox); have n2_ := Aside0.mk ((by rw [hg]; exact (below_size (by repeat (first | (with_reducible first | exact HB.out | apply below_alloc | apply pw_below_drewN | apply below_drew1) | exact HB.out))) : w.heap.size ≤ gb123)); have n3_ := Aside0.mk ((by rw [hg]; exact (below_size (by repeat (first | (with_reducible first | exact HB.out | apply below_alloc | apply pw_below_drewN | apply below_drew1) | exact HB.out))) : w.heap.size ≤ gb123)); clear HB; have HB := n0_; have BK123 := n1_; have GW123 := n2_; have GE123 := n3_; clear n0_ n1_ n2_ n3_; clear hb hbox hg; have hcz7_0 : w6.cell? ⟨gb123, 0, none⟩ = some (.int .u8 a0_0) := (blk_cell BK123.out 0).trans rfl; have hcz7_1 : w6.cell? ⟨gb123, 1, none⟩ = some (.int .u8 a0_1) := (blk_cell BK123.out 1).trans rfl; have hcz7_2 : w6.cell? ⟨gb123, 2, none⟩ = some (.int .u8 a0_2) := (blk_cell BK123.out 2).trans rfl; have hcz7_3 : w6.cell? ⟨gb123, 3, none⟩ = some (.int .u8 a0_3) := (blk_cell BK123.out 3).trans rfl; have hcz7_4 : w6.cell? ⟨gb123, 4, none⟩ = some (.int .u64 a0_4) := (blk_cell BK123.out 4).trans rfl; have hcz7_5 : w6.cell? ⟨gb123, 5, none⟩ = some (.int .u64 a0_5) := (blk_cell BK123.out 5).trans rfl; have hcz7_6 : w6.cell? ⟨gb123, 6, none⟩ = some (.int .u32 a0_6) := (blk_cell BK123.out 6).trans rfl; have hcz7_7 : w6.cell? ⟨gb123, 7, none⟩ = some (.int .u32 a0_7) := (blk_cell BK123.out 7).trans rfl; have hcz7_8 : w6.cell? ⟨gb123, 8, none⟩ = some (.int .u32 a0_8) := (blk_cell BK123.out 8).trans rfl; have hcz7_9 : w6.cell? ⟨gb123, 9, none⟩ = some (.int .u64 a0_9) := (blk_cell BK123.out 9).trans rfl; have hcz7_10 : w6.cell? ⟨gb123, 10, none⟩ = some (.int .u64 a0_10) := (blk_cell BK123.out 10).trans rfl; have hcz7_11 : w6.cell? ⟨gb123, 11, none⟩ = some (.slice A0_11 l0_11.length c0_11) := (blk_cell BK123.out 11).trans rfl; have hcz7_12 : w6.cell? ⟨gb123, 12, none⟩ = some (.slice A0_12 l0_12.length c0_12) := (blk_cell BK123.out 12).trans rfl; have hcz7_13 : w6.cell? ⟨gb123, 13, none⟩ = some (.slice A0_13 l0_13.length c0_13) := (blk_cell BK123.out 13).trans rfl; have hcz7_14 : w6.cell? ⟨gb123, 14, none⟩ = some (.slice A0_14 l0_14.length c0_14) := (blk_cell BK123.out 14).trans rfl; have hcz7_15 : w6.cell? ⟨gb123, 15, none⟩ = some (.slice A0_15 l0_15.length c0_15) := (blk_cell BK123.out 15).trans rfl; have hfz7_0 := blk_frozen BK123.out 0; have hfz7_1 := blk_frozen BK123.out 1; have hfz7_2 := blk_frozen BK123.out 2; have hfz7_3 := blk_frozen BK123.out 3; have hfz7_4 := blk_frozen BK123.out 4; have hfz7_5 := blk_frozen BK123.out 5; have hfz7_6 := blk_frozen BK123.out 6; have hfz7_7 := blk_frozen BK123.out 7; have hfz7_8 := blk_frozen BK123.out 8; have hfz7_9 := blk_frozen BK123.out 9; have hfz7_10 := blk_frozen BK123.out 10; have hfz7_11 := blk_frozen BK123.out 11; have hfz7_12 := blk_frozen BK123.out 12; have hfz7_13 := blk_frozen BK123.out 13; have hfz7_14 := blk_frozen BK123.out 14; have hfz7_15 := blk_frozen BK123.out 15))
      go_ret
      exact ⟨by first | rfl | (simp [errW_none, errW_some] <;> rfl) | (simp [*, errW_none, errW_some] <;> rfl), by repeat (first | (with_reducible first | exact HB.out | apply below_alloc | apply pw_below_drewN | apply below_drew1 | refine below_set ?_ GE123.out) | exact HB.out)⟩
    · rw [if_neg c5] at H
      have c5b0 : decide (100 < (l0_12.length : Int)) = false := decide_eq_false c5
      have c5b1 : decide (100 < l0_12.length) = false := decide_eq_false (by omega)
      clear c5
      by_cases c8 : (l0_13.length : Int) > 100
      · rw [if_pos c8] at H
        have c8b0 : decide (100 < (l0_13.length : Int)) = true := decide_eq_true c8
        have c8b1 : decide (100 < l0_13.length) = true := decide_eq_true (by omega)
        clear c8
        obtain rfl := Option.some.inj H
        go_enter Try.func24, Try.ntmps24
        go_wp2_with (first | ((with_reducible refine gate_dst (N := 1) rfl ?_); (try (refine gate_guard (by rfl) ?_; dsimp only)); refine box_event ?hg (N := 1) ?hd (cs := #[.int .u8 a0_0, .int .u8 a0_1, .int .u8 a0_2, .int .u8 a0_3, .int .u64 a0_4, .int .u64 a0_5, .int .u32 a0_6, .int .u32 a0_7, .int .u32 a0_8, .int .u64 a0_9, .int .u64 a0_10, .slice A0_11 l0_11.length c0_11, .slice A0_12 l0_12.length c0_12, .slice A0_13 l0_13.length c0_13, .slice A0_14 l0_14.length c0_14, .slice A0_15 l0_15.length c0_15]) (t := 37) ?hr ?_; (case hd => rfl); (case hg => rfl); (case hr => first | (go_simp; done) | (go_simp; rfl)); intro gb123 hg w9 hbox hb; have n0_ := Aside0.mk (below_step (by repeat (first | (with_reducible first | exact HB.out | apply below_alloc | apply pw_below_drewN | apply below_drew1) | exact HB.out)) hb); have n1_ := Aside0.mk (hbox); have n2_ := Aside0.mk ((by rw [hg]; exact (below_size (by repeat (first | (with_reducible first | exact HB.out | apply below_alloc | apply pw_below_drewN | apply below_drew1) | exact HB.out))) : w.heap.size ≤ gb123)); have n3_ := Aside0.mk ((by rw [hg]; exact (below_size (by repeat (first | (with_reducible first | exact HB.out | apply below_alloc | apply pw_below_drewN | apply below_drew1) | exact HB.out))) : w.heap.size ≤ gb123)); clear HB; have HB := n0_; have BK123 := n1_; have GW123 := n2_; have GE123 := n3_; clear n0_ n1_ n2_ n3_; clear hb hbox hg; have hcz10_0 : w9.cell? ⟨gb123, 0, none⟩ = some (.int .u8 a0_0) := (blk_cell BK123.out 0).trans rfl; have hcz10_1 : w9.cell? ⟨gb123, 1, none⟩ = some (.int .u8 a0_1) := (blk_cell BK123.out 1).trans rfl; have hcz10_2 : w9.cell? ⟨gb123, 2, none⟩ = some (.int .u8 a0_2) := (blk_cell BK123.out 2).trans rfl; have hcz10_3 : w9.cell? ⟨gb123, 3, none⟩ = some (.int .u8 a0_3) := (blk_cell BK123.out 3).trans rfl; have hcz10_4 : w9.cell? ⟨gb123, 4, none⟩ = some (.int .u64 a0_4) := (blk_cell BK123.out 4).trans rfl; have hcz10_5 : w9.cell? ⟨gb123, 5, none⟩ = some (.int .u64 a0_5) := (blk_cell BK123.out 5).trans rfl; have hcz10_6 : w9.cell? ⟨gb123, 6, none⟩ = some (.int .u32 a0_6) := (blk_cell BK123.out 6).trans rfl; have hcz10_7 : w9.cell? ⟨gb123, 7, none⟩ = some (.int .u32 a0_7) := (blk_cell BK123.out 7).trans rfl; have hcz10_8 : w9.cell? ⟨gb123, 8, none⟩ = some (.int .u32 a0_8) := (blk_cell BK123.out 8).trans rfl; have hcz10_9 : w9.cell? ⟨gb123, 9, none⟩ = some (.int .u64 a0_9) := (blk_cell BK123.out 9).trans rfl; have hcz10_10 : w9.cell? ⟨gb123, 10, none⟩ = some (.int .u64 a0_10) := (blk_cell BK123.out 10).trans rfl; have hcz10_11 : w9.cell? ⟨gb123, 11, none⟩ = some (.slice A0_11 l0_11.length c0_11) := (blk_cell BK123.out 11).trans rfl; have hcz10_12 : w9.cell? ⟨gb123, 12, none⟩ = some (.slice A0_12 l0_12.length c0_12) := (blk_cell BK123.out 12).trans rfl; have hcz10_13 : w9.cell? ⟨gb123, 13, none⟩ = some (.slice A0_13 l0_13.length c0_13) := (blk_cell BK123.out 13).trans rfl; have hcz10_14 : w9.cell? ⟨gb123, 14, none⟩ = some (.slice A0_14 l0_14.length c0_14) := (blk_cell BK123.out 14).trans rfl; have hcz10_15 : w9.cell? ⟨gb123, 15, none⟩ = some (.slice A0_15 l0_15.length c0_15) := (blk_cell BK123.out 15).trans rfl; have hfz10_0 := blk_frozen BK123.out 0; have hfz10_1 := blk_frozen BK123.out 1; have hfz10_2 := blk_frozen BK123.out 2; have hfz10_3 := blk_frozen BK123.out 3; have hfz10_4 := blk_frozen BK123.out 4; have hfz10_5 := blk_frozen BK123.out 5; have hfz10_6 := blk_frozen BK123.out 6; have hfz10_7 := blk_frozen BK123.out 7; have hfz10_8 := blk_frozen BK123.out 8; have hfz10_9 := blk_frozen BK123.out 9; have hfz10_10 := blk_frozen BK123.out 10; have hfz10_11 := blk_frozen BK123.out 11; have hfz10_12 := blk_frozen BK123.out 12; have hfz10_13 := blk_frozen BK123.out 13; have hfz10_14 := blk_frozen BK123.out 14; have hfz10_15 := blk_frozen BK123.out 15))
        go_ret
        exact ⟨by first | rfl | (simp [errW_none, errW_some] <;> rfl) | (simp [*, errW_none, errW_some] <;> rfl), by repeat (first | (with_reducible first | exact HB.out | apply below_alloc | apply pw_below_drewN | apply below_drew1 | refine below_set ?_ GE123.out) | exact HB.out)⟩
      · rw [if_neg c8] at H
        have c8b0 : decide (100 < (l0_13.length : Int)) = false := decide_eq_false c8
        have c8b1 : decide (100 < l0_13.length) = false := decide_eq_false (by omega)
        clear c8
        by_cases c11 : (l0_14.length : Int) > 100
        · rw [if_pos c11] at H
          have c11b0 : decide (100 < (l0_14.length : Int)) = true := decide_eq_true c11
          have c11b1 : decide (100 < l0_14.length) = true := decide_eq_true (by omega)
          clear c11
          obtain rfl := Option.some.inj H
          go_enter Try.func24, Try.ntmps24
          go_wp2_with (first | ((with_reducible refine gate_dst (N := 1) rfl ?_); (try (refine gate_guard (by rfl) ?_; dsimp only)); refine box_event ?hg (N := 1) ?hd (cs := #[.int .u8 a0_0, .int .u8 a0_1, .int .u8 a0_2, .int .u8 a0_3, .int .u64 a0_4, .int .u64 a0_5, .int .u32 a0_6, .int .u32 a0_7, .int .u32 a0_8, .int .u64 a0_9, .int .u64 a0_10, .slice A0_11 l0_11.length c0_11, .slice A0_12 l0_12.length c0_12, .slice A0_13 l0_13.length c0_13, .slice A0_14 l0_14.length c0_14, .slice A0_15 l0_15.length c0_15]) (t := 37) ?hr ?_; (case hd => rfl); (case hg => rfl); (case hr => first | (go_simp; done) | (go_simp; rfl)); intro gb123 hg w12 hbox hb; have n0_ := Aside0.mk (below_step (by repeat (first | (with_reducible first | exact HB.out | apply below_alloc | apply pw_below_drewN | apply below_drew1) | exact HB.out)) hb); have n1_ := Aside0.mk (hbox); have n2_ := Aside0.mk ((by rw [hg]; exact (below_size (by repeat (first | (with_reducible first | exact HB.out | apply below_alloc | apply pw_below_drewN | apply below_drew1) | exact HB.out))) : w.heap.size ≤ gb123)); have n3_ := Aside0.mk ((by rw [hg]; exact (below_size (by repeat (first | (with_reducible first | exact HB.out | apply below_alloc | apply pw_below_drewN | apply below_drew1) | exact HB.out))) : w.heap.size ≤ gb123)); clear HB; have HB := n0_; have BK123 := n1_; have GW123 := n2_; have GE123 := n3_; clear n0_ n1_ n2_ n3_; clear hb hbox hg; have hcz13_0 : w12.cell? ⟨gb123, 0, none⟩ = some (.int .u8 a0_0) := (blk_cell BK123.out 0).trans rfl; have hcz13_1 : w12.cell? ⟨gb123, 1, none⟩ = some (.int .u8 a0_1) := (blk_cell BK123.out 1).trans rfl; have hcz13_2 : w12.cell? ⟨gb123, 2, none⟩ = some (.int .u8 a0_2) := (blk_cell BK123.out 2).trans rfl; have hcz13_3 : w12.cell? ⟨gb123, 3, none⟩ = some (.int .u8 a0_3) := (blk_cell BK123.out 3).trans rfl; have hcz13_4 : w12.cell? ⟨gb123, 4, none⟩ = some (.int .u64 a0_4) := (blk_cell BK123.out 4).trans rfl; have hcz13_5 : w12.cell? ⟨gb123, 5, none⟩ = some (.int .u64 a0_5) := (blk_cell BK123.out 5).trans rfl; have hcz13_6 : w12.cell? ⟨gb123, 6, none⟩ = some (.int .u32 a0_6) := (blk_cell BK123.out 6).trans rfl; have hcz13_7 : w12.cell? ⟨gb123, 7, none⟩ = some (.int .u32 a0_7) := (blk_cell BK123.out 7).trans rfl; have hcz13_8 : w12.cell? ⟨gb123, 8, none⟩ = some (.int .u32 a0_8) := (blk_cell BK123.out 8).trans rfl; have hcz13_9 : w12.cell? ⟨gb123, 9, none⟩ = some (.int .u64 a0_9) := (blk_cell BK123.out 9).trans rfl; have hcz13_10 : w12.cell? ⟨gb123, 10, none⟩ = some (.int .u64 a0_10) := (blk_cell BK123.out 10).trans rfl; have hcz13_11 : w12.cell? ⟨gb123, 11, none⟩ = some (.slice A0_11 l0_11.length c0_11) := (blk_cell BK123.out 11).trans rfl; have hcz13_12 : w12.cell? ⟨gb123, 12, none⟩ = some (.slice A0_12 l0_12.length c0_12) := (blk_cell BK123.out 12).trans rfl; have hcz13_13 : w12.cell? ⟨gb123, 13, none⟩ = some (.slice A0_13 l0_13.length c0_13) := (blk_cell BK123.out 13).trans rfl; have hcz13_14 : w12.cell? ⟨gb123, 14, none⟩ = some (.slice A0_14 l0_14.length c0_14) := (blk_cell BK123.out 14).trans rfl; have hcz13_15 : w12.cell? ⟨gb123, 15, none⟩ = some (.slice A0_15 l0_15.length c0_15) := (blk_cell BK123.out 15).trans rfl; have hfz13_0 := blk_frozen BK123.out 0; have hfz13_1 := blk_frozen BK123.out 1; have hfz13_2 := blk_frozen BK123.out 2; have hfz13_3 := blk_frozen BK123.out 3; have hfz13_4 := blk_frozen BK123.out 4; have hfz13_5 := blk_frozen BK123.out 5; have hfz13_6 := blk_frozen BK123.out 6; have hfz13_7 := blk_frozen BK123.out 7; have hfz13_8 := blk_frozen BK123.out 8; have hfz13_9 := blk_frozen BK123.out 9; have hfz13_10 := blk_frozen BK123.out 10; have hfz13_11 := blk_frozen BK123.out 11; have hfz13_12 := blk_frozen BK123.out 12; have hfz13_13 := blk_frozen BK123.out 13; have hfz13_14 := blk_frozen BK123.out 14; have hfz13_15 := blk_frozen BK123.out 15))
          go_ret
          exact ⟨by first | rfl | (simp [errW_none, errW_some] <;> rfl) | (simp [*, errW_none, errW_some] <;> rfl), by repeat (first | (with_reducible first | exact HB.out | apply below_alloc | apply pw_below_drewN | apply below_drew1 | refine below_set ?_ GE123.out) | exact HB.out)⟩
        · rw [if_neg c11] at H
          have c11b0 : decide (100 < (l0_14.length : Int)) = false := decide_eq_false c11
          have c11b1 : decide (100 < l0_14.length) = false := decide_eq_false (by omega)
          clear c11
          obtain rfl := Option.some.inj H
          go_enter Try.func24, Try.ntmps24
          go_wp2_with (first | ((with_reducible refine gate_dst (N := 1) rfl ?_); (try (refine gate_guard (by rfl) ?_; dsimp only)); refine box_event ?hg (N := 1) ?hd (cs := #[.int .u8 a0_0, .int .u8 a0_1, .int .u8 a0_2, .int .u8 a0_3, .int .u64 a0_4, .int .u64 a0_5, .int .u32 a0_6, .int .u32 a0_7, .int .u32 a0_8, .int .u64 a0_9, .int .u64 a0_10, .slice A0_11 l0_11.length c0_11, .slice A0_12 l0_12.length c0_12, .slice A0_13 l0_13.length c0_13, .slice A0_14 l0_14.length c0_14, .slice A0_15 l0_15.length c0_15]) (t := 37) ?hr ?_; (case hd => rfl); (case hg => rfl); (case hr => first | (go_simp; done) | (go_simp; rfl)); intro gb123 hg w14 hbox hb; have n0_ := Aside0.mk (below_step (by repeat (first | (with_reducible first | exact HB.out | apply below_alloc | apply pw_below_drewN | apply below_drew1) | exact HB.out)) hb); have n1_ := Aside0.mk (hbox); have n2_ := Aside0.mk ((by rw [hg]; exact (below_size (by repeat (first | (with_reducible first | exact HB.out | apply below_alloc | apply pw_below_drewN | apply below_drew1) | exact HB.out))) : w.heap.size ≤ gb123)); have n3_ := Aside0.mk ((by rw [hg]; exact (below_size (by repeat (first | (with_reducible first | exact HB.out | apply below_alloc | apply pw_below_drewN | apply below_drew1) | exact HB.out))) : w.heap.size ≤ gb123)); clear HB; have HB := n0_; have BK123 := n1_; have GW123 := n2_; have GE123 := n3_; clear n0_ n1_ n2_ n3_; clear hb hbox hg; have hcz15_0 : w14.cell? ⟨gb123, 0, none⟩ = some (.int .u8 a0_0) := (blk_cell BK123.out 0).trans rfl; have hcz15_1 : w14.cell? ⟨gb123, 1, none⟩ = some (.int .u8 a0_1) := (blk_cell BK123.out 1).trans rfl; have hcz15_2 : w14.cell? ⟨gb123, 2, none⟩ = some (.int .u8 a0_2) := (blk_cell BK123.out 2).trans rfl; have hcz15_3 : w14.cell? ⟨gb123, 3, none⟩ = some (.int .u8 a0_3) := (blk_cell BK123.out 3).trans rfl; have hcz15_4 : w14.cell? ⟨gb123, 4, none⟩ = some (.int .u64 a0_4) := (blk_cell BK123.out 4).trans rfl; have hcz15_5 : w14.cell? ⟨gb123, 5, none⟩ = some (.int .u64 a0_5) := (blk_cell BK123.out 5).trans rfl; have hcz15_6 : w14.cell? ⟨gb123, 6, none⟩ = some (.int .u32 a0_6) := (blk_cell BK123.out 6).trans rfl; have hcz15_7 : w14.cell? ⟨gb123, 7, none⟩ = some (.int .u32 a0_7) := (blk_cell BK123.out 7).trans rfl; have hcz15_8 : w14.cell? ⟨gb123, 8, none⟩ = some (.int .u32 a0_8) := (blk_cell BK123.out 8).trans rfl; have hcz15_9 : w14.cell? ⟨gb123, 9, none⟩ = some (.int .u64 a0_9) := (blk_cell BK123.out 9).trans rfl; have hcz15_10 : w14.cell? ⟨gb123, 10, none⟩ = some (.int .u64 a0_10) := (blk_cell BK123.out 10).trans rfl; have hcz15_11 : w14.cell? ⟨gb123, 11, none⟩ = some (.slice A0_11 l0_11.length c0_11) := (blk_cell BK123.out 11).trans rfl; have hcz15_12 : w14.cell? ⟨gb123, 12, none⟩ = some (.slice A0_12 l0_12.length c0_12) := (blk_cell BK123.out 12).trans rfl; have hcz15_13 : w14.cell? ⟨gb123, 13, none⟩ = some (.slice A0_13 l0_13.length c0_13) := (blk_cell BK123.out 13).trans rfl; have hcz15_14 : w14.cell? ⟨gb123, 14, none⟩ = some (.slice A0_14 l0_14.length c0_14) := (blk_cell BK123.out 14).trans rfl; have hcz15_15 : w14.cell? ⟨gb123, 15, none⟩ = some (.slice A0_15 l0_15.length c0_15) := (blk_cell BK123.out 15).trans rfl; have hfz15_0 := blk_frozen BK123.out 0; have hfz15_1 := blk_frozen BK123.out 1; have hfz15_2 := blk_frozen BK123.out 2; have hfz15_3 := blk_frozen BK123.out 3; have hfz15_4 := blk_frozen BK123.out 4; have hfz15_5 := blk_frozen BK123.out 5; have hfz15_6 := blk_frozen BK123.out 6; have hfz15_7 := blk_frozen BK123.out 7; have hfz15_8 := blk_frozen BK123.out 8; have hfz15_9 := blk_frozen BK123.out 9; have hfz15_10 := blk_frozen BK123.out 10; have hfz15_11 := blk_frozen BK123.out 11; have hfz15_12 := blk_frozen BK123.out 12; have hfz15_13 := blk_frozen BK123.out 13; have hfz15_14 := blk_frozen BK123.out 14; have hfz15_15 := blk_frozen BK123.out 15))
          go_ret
          exact ⟨by first | rfl | (simp [errW_none, errW_some] <;> rfl) | (simp [*, errW_none, errW_some] <;> rfl), by repeat (first | (with_reducible first | exact HB.out | apply below_alloc | apply pw_below_drewN | apply below_drew1 | refine below_set ?_ GE123.out) | exact HB.out)⟩

end Go.Proofs.Ytiiajenhjamjdaa.F
