/- What is proved: the Go functions that the law reaches come to what the Lean functions beside them tell, and (in the text of the law) the given statement follows. Conditions: none beyond each theorem's own. Written by a program (a turned copy of the kit's print.py), some walks by hand. -/
import Derived.Test.YtdeknknefjepnaaF0
import Derived.Test.YtdeknknefjepnaaF1
namespace Go.Proofs.Ytdeknknefjepnaa.F
open Go.RowKit Go.Proofs.YtdeknknefjepnaaW.PrintWords Go.Proofs.YtdeknknefjepnaaW.PrintLast Go.Proofs.YtdeknknefjepnaaW.PrintMore
attribute [local go_sem] max2_int min2_int max_two min_two max_three min_three max_four min_four   -- for this text's walks alone
set_option linter.unusedVariables false
set_option linter.unusedSimpArgs false

attribute [local go_sem high] eqA66
-- NOT PRINTED: function 18 (slide_Window_First)

/-! ### unisonref08_W_First: function 19 -/
def unisonref08_W_First.f (a0_0 : Int) (l0_1 : List (S36)) (a0_2 : Int) : Option (Int) := if (l0_1.length : Int) = 0 then (some (IntKind.u64.wrap (a0_2 + 1))) else (if 0 < (l0_1.length : Int) then (some ((rd_T36 l0_1 0).f2)) else (none))
set_option maxHeartbeats 8000000 in
set_option maxRecDepth 100000 in
theorem unisonref08_W_First.calls (a0_0 : Int) (A0_1 : Option Addr) (c0_1 : Nat) (l0_1 : List (S36)) (a0_2 : Int) (r : Int) (w : World) (hr0_1 : Kd.C k36 w A0_1 l0_1.length l0_1) (hc0_1 : l0_1.length ≤ c0_1) (h : unisonref08_W_First.f a0_0 l0_1 a0_2 = some r) :
    Calls Try.prog 19 #[.agg #[.int .i64 a0_0, .slice A0_1 l0_1.length c0_1, .int .u64 a0_2]] w fun e w' => e = .returned (.int .u64 r) ∧ Below w.heap.size w w' := by
  have hu42 := Try.underlying42
  have HR0_1 := Aside0.mk hr0_1
  have HC0_1 := Aside0.mk hc0_1
  clear hr0_1 hc0_1
  have HB := Aside0.mk (Below.refl w.heap.size w)
  have H : (if (l0_1.length : Int) = 0 then (some (IntKind.u64.wrap (a0_2 + 1))) else (if 0 < (l0_1.length : Int) then (some ((rd_T36 l0_1 0).f2)) else (none))) = some r := h
  clear h
  by_cases c2 : (l0_1.length : Int) = 0
  · rw [if_pos c2] at H
    have c2b0 : ((l0_1.length : Int) == 0) = true := beq_iff_eq.mpr c2
    have c2b1 : ((l0_1.length : Int) != 0) = false := bne_eq_false_iff_eq.mpr c2
    clear c2
    obtain rfl := Option.some.inj H
    go_enter Try.func19, Try.ntmps19
    go_wp2_with (first | ((with_reducible refine gate_dst (N := 1) rfl ?_); refine box_event ?hg (N := 1) ?hd (cs := #[.int .i64 a0_0, .slice A0_1 l0_1.length c0_1, .int .u64 a0_2]) (t := 42) ?hr ?_; (case hd => rfl); (case hg => rfl); (case hr => first | (go_simp; done) | (go_simp; rfl)); intro gb149 hg w3 hbox hb; have n0_ := Aside0.mk (below_step (by repeat (first | (with_reducible first | exact HB.out | apply below_alloc | apply pw_below_drewN | apply below_drew1) | exact HB.out)) hb); have n1_ := Aside0.mk (hbox); have n2_ := Aside0.mk ((by rw [hg]; exact (below_size (by repeat (first | (with_reducible first | exact HB.out | apply below_alloc | apply pw_below_drewN | apply below_drew1) | exact HB.out))) : w.heap.size ≤ gb149)); have n3_ := Aside0.mk ((by rw [hg]; exact (below_size (by repeat (first | (with_reducible first | exact HB.out | apply below_alloc | apply pw_below_drewN | apply below_drew1) | exact HB.out))) : w.heap.size ≤ gb149)); clear HB; have HB := n0_; have BK149 := n1_; have GW149 := n2_; have GE149 := n3_; clear n0_ n1_ n2_ n3_; clear hb hbox hg; have hcz4_0 : w3.cell? ⟨gb149, 0, none⟩ = some (.int .i64 a0_0) := (blk_cell BK149.out 0).trans rfl; have hcz4_1 : w3.cell? ⟨gb149, 1, none⟩ = some (.slice A0_1 l0_1.length c0_1) := (blk_cell BK149.out 1).trans rfl; have hcz4_2 : w3.cell? ⟨gb149, 2, none⟩ = some (.int .u64 a0_2) := (blk_cell BK149.out 2).trans rfl; have hfz4_0 := blk_frozen BK149.out 0; have hfz4_1 := blk_frozen BK149.out 1; have hfz4_2 := blk_frozen BK149.out 2))
    go_ret
    exact ⟨by first | rfl | (simp [errW_none, errW_some] <;> rfl) | (simp [*, errW_none, errW_some] <;> rfl), by repeat (first | (with_reducible first | exact HB.out | apply below_alloc | apply pw_below_drewN | apply below_drew1 | refine below_set ?_ GE149.out) | exact HB.out)⟩
  · rw [if_neg c2] at H
    have c2b0 : ((l0_1.length : Int) == 0) = false := beq_eq_false_iff_ne.mpr c2
    have c2b1 : ((l0_1.length : Int) != 0) = true := bne_iff_ne.mpr c2
    have c2b2 : ¬ (l0_1 = []) := fun h_ => c2 (by rw [h_]; rfl)
    by_cases c5 : 0 < (l0_1.length : Int)
    · rw [if_pos c5] at H
      have c5b0 : decide (0 < (l0_1.length : Int)) = true := decide_eq_true c5
      have c5b1 : decide (0 < l0_1.length) = true := decide_eq_true (by omega)
      clear c5
      obtain rfl := Option.some.inj H
      go_enter Try.func19, Try.ntmps19
      go_wp2_with (first | ((with_reducible refine gate_dst (N := 1) rfl ?_); refine box_event ?hg (N := 1) ?hd (cs := #[.int .i64 a0_0, .slice A0_1 l0_1.length c0_1, .int .u64 a0_2]) (t := 42) ?hr ?_; (case hd => rfl); (case hg => rfl); (case hr => first | (go_simp; done) | (go_simp; rfl)); intro gb149 hg w6 hbox hb; have n0_ := Aside0.mk (below_step (by repeat (first | (with_reducible first | exact HB.out | apply below_alloc | apply pw_below_drewN | apply below_drew1) | exact HB.out)) hb); have n1_ := Aside0.mk (hbox); have n2_ := Aside0.mk ((by rw [hg]; exact (below_size (by repeat (first | (with_reducible first | exact HB.out | apply below_alloc | apply pw_below_drewN | apply below_drew1) | exact HB.out))) : w.heap.size ≤ gb149)); have n3_ := Aside0.mk ((by rw [hg]; exact (below_size (by repeat (first | (with_reducible first | exact HB.out | apply below_alloc | apply pw_below_drewN | apply below_drew1) | exact HB.out))) : w.heap.size ≤ gb149)); clear HB; have HB := n0_; have BK149 := n1_; have GW149 := n2_; have GE149 := n3_; clear n0_ n1_ n2_ n3_; clear hb hbox hg; have hcz7_0 : w6.cell? ⟨gb149, 0, none⟩ = some (.int .i64 a0_0) := (blk_cell BK149.out 0).trans rfl; have hcz7_1 : w6.cell? ⟨gb149, 1, none⟩ = some (.slice A0_1 l0_1.length c0_1) := (blk_cell BK149.out 1).trans rfl; have hcz7_2 : w6.cell? ⟨gb149, 2, none⟩ = some (.int .u64 a0_2) := (blk_cell BK149.out 2).trans rfl; have hfz7_0 := blk_frozen BK149.out 0; have hfz7_1 := blk_frozen BK149.out 1; have hfz7_2 := blk_frozen BK149.out 2; have p150 : 0 ≤ (0 : Int) := (by omega); have q150 : 0 < (l0_1.length : Int) := of_decide_eq_true (by first | (with_reducible assumption) | assumption); obtain ⟨ad150, A150_11, c150_11, A150_12, c150_12, A150_13, c150_13, A150_14, c150_14, A150_15, c150_15, e150, hx150_0, hx150_1, hx150_2, hx150_3, hx150_4, hx150_5, hx150_6, hx150_7, hx150_8, hx150_9, hx150_10, hx150_11, hx150_12, hx150_13, hx150_14, hx150_15, hl150_11, hi150_11, hl150_12, hi150_12, hl150_13, hi150_13, hl150_14, hi150_14, hl150_15, hi150_15⟩ := at_T36 HR0_1.out 0 p150 q150; cases e150; have qi150 : (0 < l0_1.length) = True := eq_true (by omega); (try rw [show ((0 : Int)).toNat = 0 from rfl] at hx150_0); (try rw [show 0 * 16 = 0 from rfl] at hx150_0); (try rw [Addr.add_zero'] at hx150_0); (try rw [show ((0 : Int)).toNat = 0 from rfl] at hx150_1); (try rw [show 0 * 16 = 0 from rfl] at hx150_1); (try rw [Addr.add_zero'] at hx150_1); (try rw [show ((0 : Int)).toNat = 0 from rfl] at hx150_2); (try rw [show 0 * 16 = 0 from rfl] at hx150_2); (try rw [Addr.add_zero'] at hx150_2); (try rw [show ((0 : Int)).toNat = 0 from rfl] at hx150_3); (try rw [show 0 * 16 = 0 from rfl] at hx150_3); (try rw [Addr.add_zero'] at hx150_3); (try rw [show ((0 : Int)).toNat = 0 from rfl] at hx150_4); (try rw [show 0 * 16 = 0 from rfl] at hx150_4); (try rw [Addr.add_zero'] at hx150_4); (try rw [show ((0 : Int)).toNat = 0 from rfl] at hx150_5); (try rw [show 0 * 16 = 0 from rfl] at hx150_5); (try rw [Addr.add_zero'] at hx150_5); (try rw [show ((0 : Int)).toNat = 0 from rfl] at hx150_6); (try rw [show 0 * 16 = 0 from rfl] at hx150_6); (try rw [Addr.add_zero'] at hx150_6); (try rw [show ((0 : Int)).toNat = 0 from rfl] at hx150_7); (try rw [show 0 * 16 = 0 from rfl] at hx150_7); (try rw [Addr.add_zero'] at hx150_7); (try rw [show ((0 : Int)).toNat = 0 from rfl] at hx150_8); (try rw [show 0 * 16 = 0 from rfl] at hx150_8); (try rw [Addr.add_zero'] at hx150_8); (try rw [show ((0 : Int)).toNat = 0 from rfl] at hx150_9); (try rw [show 0 * 16 = 0 from rfl] at hx150_9); (try rw [Addr.add_zero'] at hx150_9); (try rw [show ((0 : Int)).toNat = 0 from rfl] at hx150_10); (try rw [show 0 * 16 = 0 from rfl] at hx150_10); (try rw [Addr.add_zero'] at hx150_10); (try rw [show ((0 : Int)).toNat = 0 from rfl] at hx150_11); (try rw [show 0 * 16 = 0 from rfl] at hx150_11); (try rw [Addr.add_zero'] at hx150_11); (try rw [show ((0 : Int)).toNat = 0 from rfl] at hx150_12); (try rw [show 0 * 16 = 0 from rfl] at hx150_12); (try rw [Addr.add_zero'] at hx150_12); (try rw [show ((0 : Int)).toNat = 0 from rfl] at hx150_13); (try rw [show 0 * 16 = 0 from rfl] at hx150_13); (try rw [Addr.add_zero'] at hx150_13); (try rw [show ((0 : Int)).toNat = 0 from rfl] at hx150_14); (try rw [show 0 * 16 = 0 from rfl] at hx150_14); (try rw [Addr.add_zero'] at hx150_14); (try rw [show ((0 : Int)).toNat = 0 from rfl] at hx150_15); (try rw [show 0 * 16 = 0 from rfl] at hx150_15); (try rw [Addr.add_zero'] at hx150_15); replace hx150_0 := (HB.out.cell (World.block_lt_of_cell? w _ hx150_0)).trans hx150_0; replace hx150_1 := (HB.out.cell (World.block_lt_of_cell? w _ hx150_1)).trans hx150_1; replace hx150_2 := (HB.out.cell (World.block_lt_of_cell? w _ hx150_2)).trans hx150_2; replace hx150_3 := (HB.out.cell (World.block_lt_of_cell? w _ hx150_3)).trans hx150_3; replace hx150_4 := (HB.out.cell (World.block_lt_of_cell? w _ hx150_4)).trans hx150_4; replace hx150_5 := (HB.out.cell (World.block_lt_of_cell? w _ hx150_5)).trans hx150_5; replace hx150_6 := (HB.out.cell (World.block_lt_of_cell? w _ hx150_6)).trans hx150_6; replace hx150_7 := (HB.out.cell (World.block_lt_of_cell? w _ hx150_7)).trans hx150_7; replace hx150_8 := (HB.out.cell (World.block_lt_of_cell? w _ hx150_8)).trans hx150_8; replace hx150_9 := (HB.out.cell (World.block_lt_of_cell? w _ hx150_9)).trans hx150_9; replace hx150_10 := (HB.out.cell (World.block_lt_of_cell? w _ hx150_10)).trans hx150_10; replace hx150_11 := (HB.out.cell (World.block_lt_of_cell? w _ hx150_11)).trans hx150_11; replace hx150_12 := (HB.out.cell (World.block_lt_of_cell? w _ hx150_12)).trans hx150_12; replace hx150_13 := (HB.out.cell (World.block_lt_of_cell? w _ hx150_13)).trans hx150_13; replace hx150_14 := (HB.out.cell (World.block_lt_of_cell? w _ hx150_14)).trans hx150_14; replace hx150_15 := (HB.out.cell (World.block_lt_of_cell? w _ hx150_15)).trans hx150_15; have HR150_11 := Aside0.mk hi150_11; have HC150_11 := Aside0.mk hl150_11; clear hi150_11 hl150_11; have HR150_12 := Aside0.mk hi150_12; have HC150_12 := Aside0.mk hl150_12; clear hi150_12 hl150_12; have HR150_13 := Aside0.mk hi150_13; have HC150_13 := Aside0.mk hl150_13; clear hi150_13 hl150_13; have HR150_14 := Aside0.mk hi150_14; have HC150_14 := Aside0.mk hl150_14; clear hi150_14 hl150_14; have HR150_15 := Aside0.mk hi150_15; have HC150_15 := Aside0.mk hl150_15; clear hi150_15 hl150_15; replace p150 := eq_true p150; replace q150 := eq_true q150))
      go_ret
      exact ⟨by first | rfl | (simp [errW_none, errW_some] <;> rfl) | (simp [*, errW_none, errW_some] <;> rfl), by repeat (first | (with_reducible first | exact HB.out | apply below_alloc | apply pw_below_drewN | apply below_drew1 | refine below_set ?_ GE149.out) | exact HB.out)⟩
    · rw [if_neg c5] at H
      exact absurd H (by simp)

-- NOT PRINTED: function 20 (slide_Window_Last)

/-! ### unisonref03_Same: function 29 -/
def unisonref03_Same.l0 : Nat → List (S66) → List (S66) → Int → Int → Option (Bool)
  | 0, _, _, _, _ => none
  | k + 1, x0, x1, x12, x13 => if x13 < x12 then (if 0 ≤ x13 then (if x13 < (x0.length : Int) then (if x13 < (x1.length : Int) then (if (!(((rd_T66 x0 x13).f0) == ((rd_T66 x1 x13).f0)) || (!(((rd_T66 x0 x13).f1) == ((rd_T66 x1 x13).f1)) || (!(((rd_T66 x0 x13).f2) == ((rd_T66 x1 x13).f2))))) = true then (some false) else (unisonref03_Same.l0 k x0 x1 x12 (wrap64 (x13 + 1)))) else (none)) else (none)) else (none)) else (some true)
def unisonref03_Same.f (k : Nat) (l0 : List (S66)) (l1 : List (S66)) : Option (Bool) := if (l0.length : Int) = (l1.length : Int) then (unisonref03_Same.l0 k l0 l1 (l0.length : Int) 0) else (some false)
theorem unisonref03_Same.mono_l : ∀ k, (∀ y0 y1 y2 y3, LeO (unisonref03_Same.l0 k y0 y1 y2 y3) (unisonref03_Same.l0 (k + 1) y0 y1 y2 y3))
  | 0 => fun _ _ _ _ r h => by simp [unisonref03_Same.l0] at h
  | k + 1 => by
    have ih0 := unisonref03_Same.mono_l k
    · intro y0 y1 y2 y3
      unfold unisonref03_Same.l0
      repeat' first
      | (with_reducible exact ih0 _ _ _ _)
      | (with_reducible exact LeO.refl _)
      | (with_reducible exact LeO.none _)
      | (with_reducible refine LeO.ite ?_ ?_)
      | (with_reducible refine LeO.bind ?_ (fun _ => ?_))
      | exact ih0 _ _ _ _
      | exact LeO.none _
      | refine LeO.ite ?_ ?_
      | refine LeO.bind ?_ (fun _ => ?_)
theorem unisonref03_Same.mono : ∀ a0 a1 k, LeO (unisonref03_Same.f k a0 a1) (unisonref03_Same.f (k + 1) a0 a1) := by
  intro a0 a1 k
  have ih0 := unisonref03_Same.mono_l k
  unfold unisonref03_Same.f
  repeat' first
      | (with_reducible exact ih0 _ _ _ _)
      | (with_reducible exact LeO.refl _)
      | (with_reducible exact LeO.none _)
      | (with_reducible refine LeO.ite ?_ ?_)
      | (with_reducible refine LeO.bind ?_ (fun _ => ?_))
      | exact ih0 _ _ _ _
      | exact LeO.none _
      | refine LeO.ite ?_ ?_
      | refine LeO.bind ?_ (fun _ => ?_)
set_option maxHeartbeats 8000000 in
set_option maxRecDepth 100000 in
theorem unisonref03_Same.calls (k : Nat) (A0 : Option Addr) (c0 : Nat) (l0 : List (S66)) (A1 : Option Addr) (c1 : Nat) (l1 : List (S66)) (r : Bool) (w : World) (hr0 : Kd.C k66 w A0 l0.length l0) (hc0 : l0.length ≤ c0) (hr1 : Kd.C k66 w A1 l1.length l1) (hc1 : l1.length ≤ c1) (h : unisonref03_Same.f k l0 l1 = some r) :
    Calls Try.prog 29 #[.slice A0 l0.length c0, .slice A1 l1.length c1] w fun e w' => e = .returned (.bool r) ∧ Drawn0 w w' := by
  have hu66 := Try.underlying66
  have HR0 := Aside0.mk hr0
  have HC0 := Aside0.mk hc0
  clear hr0 hc0
  have HR1 := Aside0.mk hr1
  have HC1 := Aside0.mk hc1
  clear hr1 hc1
  have H : (if (l0.length : Int) = (l1.length : Int) then (unisonref03_Same.l0 k l0 l1 (l0.length : Int) 0) else (some false)) = some r := h
  clear h
  by_cases c3 : (l0.length : Int) = (l1.length : Int)
  · rw [if_pos c3] at H
    have c3b0 : ((l0.length : Int) == (l1.length : Int)) = true := beq_iff_eq.mpr c3
    have c3b1 : ((l0.length : Int) != (l1.length : Int)) = false := bne_eq_false_iff_eq.mpr c3
    have c3b2 : (l0.length == l1.length) = true := by first | simpa using c3 | (simp at c3 ⊢; omega)
    clear c3
    have H' := Aside0.mk H
    clear H
    go_enter Try.func29, Try.ntmps29
    go_wp2
    repeat (go_quiet (fail); try go_wp2)
    go_loopg [13] k (fun kq v13 w' => ∃ (x13_1 : Int), v13 = .int .i64 x13_1 ∧ Aside0 (unisonref03_Same.l0 kq l0 l1 (l0.length : Int) x13_1 = some r) ∧ Aside0 (kq ≤ k) ∧ Drawn0 w w')
    case atStart => exact ⟨(0), (by first | rfl | (simp; done) | (simp [*]; done)), H', ⟨Nat.le_refl _⟩, by repeat (first | exact Drawn0.refl _ | apply Drawn0.step)⟩
    case round =>
      clear H'
      try clear c1
      try clear c2
      try clear p2
      try clear c3
      try clear c3b0
      try clear c3b1
      try clear c3b2
      obtain ⟨x13_1, rfl, HA, HK1, ⟨m1, rfl⟩⟩ := hrel
      cases gk with
      | zero => exact absurd HA.out (by simp [unisonref03_Same.l0])
      | succ k1 =>
        have H := HA.out
        clear HA
        simp only [unisonref03_Same.l0] at H
        by_cases c4 : x13_1 < (l0.length : Int)
        · rw [if_pos c4] at H
          have c4b0 : decide (x13_1 < (l0.length : Int)) = true := decide_eq_true c4
          clear c4
          by_cases c5 : 0 ≤ x13_1
          · rw [if_pos c5] at H
            have c5b0 : decide (0 ≤ x13_1) = true := decide_eq_true c5
            clear c5
            by_cases c6 : x13_1 < (l0.length : Int)
            · rw [if_pos c6] at H
              have c6b0 : decide (x13_1 < (l0.length : Int)) = true := decide_eq_true c6
              clear c6
              by_cases c7 : x13_1 < (l1.length : Int)
              · rw [if_pos c7] at H
                have c7b0 : decide (x13_1 < (l1.length : Int)) = true := decide_eq_true c7
                clear c7
                by_cases c8 : (!(((rd_T66 l0 x13_1).f0) == ((rd_T66 l1 x13_1).f0)) || (!(((rd_T66 l0 x13_1).f1) == ((rd_T66 l1 x13_1).f1)) || (!(((rd_T66 l0 x13_1).f2) == ((rd_T66 l1 x13_1).f2))))) = true
                · rw [if_pos c8] at H
                  have c8b0 : (!(((rd_T66 l0 x13_1).f0) == ((rd_T66 l1 x13_1).f0)) || (!(((rd_T66 l0 x13_1).f1) == ((rd_T66 l1 x13_1).f1)) || (!(((rd_T66 l0 x13_1).f2) == ((rd_T66 l1 x13_1).f2))))) = true := c8
                  clear c8
                  obtain rfl := Option.some.inj H
                  have p151 : 0 ≤ (x13_1 : Int) := of_decide_eq_true (by first | (with_reducible assumption) | assumption)
                  have q151 : x13_1 < (l0.length : Int) := of_decide_eq_true (by first | (with_reducible assumption) | assumption)
                  obtain ⟨ad151, e151, hx151_0, hx151_1, hx151_2⟩ := at_T66 HR0.out x13_1 p151 q151
                  cases e151
                  replace p151 := eq_true p151
                  replace q151 := eq_true q151
                  have p152 : 0 ≤ (x13_1 : Int) := of_decide_eq_true (by first | (with_reducible assumption) | assumption)
                  have q152 : x13_1 < (l1.length : Int) := of_decide_eq_true (by first | (with_reducible assumption) | assumption)
                  obtain ⟨ad152, e152, hx152_0, hx152_1, hx152_2⟩ := at_T66 HR1.out x13_1 p152 q152
                  cases e152
                  replace p152 := eq_true p152
                  replace q152 := eq_true q152
                  go_wp2
                  repeat (go_quiet (fail); try go_wp2)
                  go_ret
                  exact ⟨by first | rfl | (simp; done) | (simp [*]; done), by repeat (first | exact Drawn0.refl _ | apply Drawn0.step)⟩
                · rw [if_neg c8] at H
                  have c8b0 : (!(((rd_T66 l0 x13_1).f0) == ((rd_T66 l1 x13_1).f0)) || (!(((rd_T66 l0 x13_1).f1) == ((rd_T66 l1 x13_1).f1)) || (!(((rd_T66 l0 x13_1).f2) == ((rd_T66 l1 x13_1).f2))))) = false := by simpa using c8
                  clear c8
                  have H' := Aside0.mk H
                  clear H
                  have p151 : 0 ≤ (x13_1 : Int) := of_decide_eq_true (by first | (with_reducible assumption) | assumption)
                  have q151 : x13_1 < (l0.length : Int) := of_decide_eq_true (by first | (with_reducible assumption) | assumption)
                  obtain ⟨ad151, e151, hx151_0, hx151_1, hx151_2⟩ := at_T66 HR0.out x13_1 p151 q151
                  cases e151
                  replace p151 := eq_true p151
                  replace q151 := eq_true q151
                  have p152 : 0 ≤ (x13_1 : Int) := of_decide_eq_true (by first | (with_reducible assumption) | assumption)
                  have q152 : x13_1 < (l1.length : Int) := of_decide_eq_true (by first | (with_reducible assumption) | assumption)
                  obtain ⟨ad152, e152, hx152_0, hx152_1, hx152_2⟩ := at_T66 HR1.out x13_1 p152 q152
                  cases e152
                  replace p152 := eq_true p152
                  replace q152 := eq_true q152
                  go_wp2
                  repeat (go_quiet (fail); try go_wp2)
                  go_roundg k1
                  case measure => have := HK1.out; omega
                  case rel => exact ⟨(wrap64 (x13_1 + 1)), (by first | rfl | (simp; done) | (simp [*]; done)), H', ⟨by have := HK1.out; omega⟩, by repeat (first | exact Drawn0.refl _ | apply Drawn0.step)⟩
              · rw [if_neg c7] at H
                exact absurd H (by simp)
            · rw [if_neg c6] at H
              exact absurd H (by simp)
          · rw [if_neg c5] at H
            exact absurd H (by simp)
        · rw [if_neg c4] at H
          have c4b0 : decide (x13_1 < (l0.length : Int)) = false := decide_eq_false c4
          clear c4
          obtain rfl := Option.some.inj H
          go_wp2
          repeat (go_quiet (fail); try go_wp2)
          go_ret
          exact ⟨by first | rfl | (simp; done) | (simp [*]; done), by repeat (first | exact Drawn0.refl _ | apply Drawn0.step)⟩
  · rw [if_neg c3] at H
    have c3b0 : ((l0.length : Int) == (l1.length : Int)) = false := beq_eq_false_iff_ne.mpr c3
    have c3b1 : ((l0.length : Int) != (l1.length : Int)) = true := bne_iff_ne.mpr c3
    have c3b2 : (l0.length == l1.length) = false := by first | simpa using c3 | (simp at c3 ⊢; omega)
    obtain rfl := Option.some.inj H
    go_enter Try.func29, Try.ntmps29
    go_wp2
    repeat (go_quiet (fail); try go_wp2)
    go_ret
    exact ⟨by first | rfl | (simp; done) | (simp [*]; done), by repeat (first | exact Drawn0.refl _ | apply Drawn0.step)⟩

end Go.Proofs.Ytdeknknefjepnaa.F
