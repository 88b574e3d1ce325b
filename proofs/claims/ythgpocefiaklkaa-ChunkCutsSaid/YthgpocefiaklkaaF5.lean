/- What is proved: the Go functions that the law reaches come to what the Lean functions beside them tell, and (in the text of the law) the given statement follows. Conditions: none beyond each theorem's own. Written by a program (a turned copy of the kit's print.py), some walks by hand. -/
import Derived.Test.YthgpocefiaklkaaF0
import Derived.Test.YthgpocefiaklkaaF2
namespace Go.Proofs.Ythgpocefiaklkaa.F
open Go.RowKit Go.Proofs.YthgpocefiaklkaaW.PrintWords Go.Proofs.YthgpocefiaklkaaW.PrintLast Go.Proofs.YthgpocefiaklkaaW.PrintMore
attribute [local go_sem] max2_int min2_int max_two min_two max_three min_three max_four min_four   -- for this text's walks alone
set_option linter.unusedVariables false
set_option linter.unusedSimpArgs false

/-! ### unisonref06_Great: function 13 -/
def unisonref06_Great.f (a0_0 : Int) (a0_1 : Int) (a0_2 : Int) (a0_3 : Int) (a0_4 : Int) (a0_5 : Int) (a0_6 : Int) (a0_7 : Int) (a0_8 : Int) (a0_9 : Int) (a0_10 : Int) (l0_11 : List (S53)) (l0_12 : List (S53)) (l0_13 : List Int) (l0_14 : List Int) (l0_15 : List Int) : Option (Bool) := if (l0_11.length : Int) > 100 then (some true) else (if (l0_12.length : Int) > 100 then (some true) else (if (l0_13.length : Int) > 100 then (some true) else (if (l0_14.length : Int) > 100 then (some true) else (some (decide ((l0_15.length : Int) > 2000))))))
set_option maxHeartbeats 8000000 in
set_option maxRecDepth 100000 in
theorem unisonref06_Great.calls (a0_0 : Int) (a0_1 : Int) (a0_2 : Int) (a0_3 : Int) (a0_4 : Int) (a0_5 : Int) (a0_6 : Int) (a0_7 : Int) (a0_8 : Int) (a0_9 : Int) (a0_10 : Int) (A0_11 : Option Addr) (c0_11 : Nat) (l0_11 : List (S53)) (A0_12 : Option Addr) (c0_12 : Nat) (l0_12 : List (S53)) (A0_13 : Option Addr) (c0_13 : Nat) (l0_13 : List Int) (A0_14 : Option Addr) (c0_14 : Nat) (l0_14 : List Int) (A0_15 : Option Addr) (c0_15 : Nat) (l0_15 : List Int) (r : Bool) (w : World) (hr0_11 : Kd.C k53 w A0_11 l0_11.length l0_11) (hc0_11 : l0_11.length ≤ c0_11) (hr0_12 : Kd.C k53 w A0_12 l0_12.length l0_12) (hc0_12 : l0_12.length ≤ c0_12) (hr0_13 : Kd.C (Kd.int .u64) w A0_13 l0_13.length l0_13) (hc0_13 : l0_13.length ≤ c0_13) (hr0_14 : Kd.C (Kd.int .u64) w A0_14 l0_14.length l0_14) (hc0_14 : l0_14.length ≤ c0_14) (hr0_15 : Kd.C (Kd.int .u8) w A0_15 l0_15.length l0_15) (hc0_15 : l0_15.length ≤ c0_15) (h : unisonref06_Great.f a0_0 a0_1 a0_2 a0_3 a0_4 a0_5 a0_6 a0_7 a0_8 a0_9 a0_10 l0_11 l0_12 l0_13 l0_14 l0_15 = some r) :
    Calls Try.prog 13 #[.agg #[.int .u8 a0_0, .int .u8 a0_1, .int .u8 a0_2, .int .u8 a0_3, .int .u64 a0_4, .int .u64 a0_5, .int .u32 a0_6, .int .u32 a0_7, .int .u32 a0_8, .int .u64 a0_9, .int .u64 a0_10, .slice A0_11 l0_11.length c0_11, .slice A0_12 l0_12.length c0_12, .slice A0_13 l0_13.length c0_13, .slice A0_14 l0_14.length c0_14, .slice A0_15 l0_15.length c0_15]] w fun e w' => e = .returned (.bool r) ∧ Below w.heap.size w w' := by
  have hu36 := Try.underlying36
  have HR0_11 := Aside0.mk hr0_11
  have HC0_11 := Aside0.mk hc0_11
  clear hr0_11 hc0_11
  have HR0_12 := Aside0.mk hr0_12
  have HC0_12 := Aside0.mk hc0_12
  clear hr0_12 hc0_12
  have HR0_13 := Aside0.mk hr0_13
  have HC0_13 := Aside0.mk hc0_13
  clear hr0_13 hc0_13
  have HR0_14 := Aside0.mk hr0_14
  have HC0_14 := Aside0.mk hc0_14
  clear hr0_14 hc0_14
  have HR0_15 := Aside0.mk hr0_15
  have HC0_15 := Aside0.mk hc0_15
  clear hr0_15 hc0_15
  have HB := Aside0.mk (Below.refl w.heap.size w)
  have H : (if (l0_11.length : Int) > 100 then (some true) else (if (l0_12.length : Int) > 100 then (some true) else (if (l0_13.length : Int) > 100 then (some true) else (if (l0_14.length : Int) > 100 then (some true) else (some (decide ((l0_15.length : Int) > 2000))))))) = some r := h
  clear h
  by_cases c2 : (l0_11.length : Int) > 100
  · rw [if_pos c2] at H
    have c2b0 : decide (100 < (l0_11.length : Int)) = true := decide_eq_true c2
    have c2b1 : decide (100 < l0_11.length) = true := decide_eq_true (by omega)
    clear c2
    obtain rfl := Option.some.inj H
    go_enter Try.func13, Try.ntmps13
    go_wp2_with (first | ((with_reducible refine gate_dst (N := 1) rfl ?_); (try (refine gate_guard (by rfl) ?_; dsimp only)); refine box_event ?hg (N := 1) ?hd (cs := #[.int .u8 a0_0, .int .u8 a0_1, .int .u8 a0_2, .int .u8 a0_3, .int .u64 a0_4, .int .u64 a0_5, .int .u32 a0_6, .int .u32 a0_7, .int .u32 a0_8, .int .u64 a0_9, .int .u64 a0_10, .slice A0_11 l0_11.length c0_11, .slice A0_12 l0_12.length c0_12, .slice A0_13 l0_13.length c0_13, .slice A0_14 l0_14.length c0_14, .slice A0_15 l0_15.length c0_15]) (t := 36) ?hr ?_; (case hd => rfl); (case hg => rfl); (case hr => first | (go_simp; done) | (go_simp; rfl)); intro gb116 hg w3 hbox hb; have n0_ := Aside0.mk (below_step (by repeat (first | (with_reducible first | exact HB.out | apply below_alloc | apply pw_below_drewN | apply below_drew1) | exact HB.out)) hb); have n1_ := Aside0.mk (hbox); have n2_ := Aside0.mk ((by rw [hg]; exact (below_size (by repeat (first | (with_reducible first | exact HB.out | apply below_alloc | apply pw_below_drewN | apply below_drew1) | exact HB.out))) : w.heap.size ≤ gb116)); have n3_ := Aside0.mk ((by rw [hg]; exact (below_size (by repeat (first | (with_reducible first | exact HB.out | apply below_alloc | apply pw_below_drewN | apply below_drew1) | exact HB.out))) : w.heap.size ≤ gb116)); clear HB; have HB := n0_; have BK116 := n1_; have GW116 := n2_; have GE116 := n3_; clear n0_ n1_ n2_ n3_; clear hb hbox hg; have hcz4_0 : w3.cell? ⟨gb116, 0, none⟩ = some (.int .u8 a0_0) := (blk_cell BK116.out 0).trans rfl; have hcz4_1 : w3.cell? ⟨gb116, 1, none⟩ = some (.int .u8 a0_1) := (blk_cell BK116.out 1).trans rfl; have hcz4_2 : w3.cell? ⟨gb116, 2, none⟩ = some (.int .u8 a0_2) := (blk_cell BK116.out 2).trans rfl; have hcz4_3 : w3.cell? ⟨gb116, 3, none⟩ = some (.int .u8 a0_3) := (blk_cell BK116.out 3).trans rfl; have hcz4_4 : w3.cell? ⟨gb116, 4, none⟩ = some (.int .u64 a0_4) := (blk_cell BK116.out 4).trans rfl; have hcz4_5 : w3.cell? ⟨gb116, 5, none⟩ = some (.int .u64 a0_5) := (blk_cell BK116.out 5).trans rfl; have hcz4_6 : w3.cell? ⟨gb116, 6, none⟩ = some (.int .u32 a0_6) := (blk_cell BK116.out 6).trans rfl; have hcz4_7 : w3.cell? ⟨gb116, 7, none⟩ = some (.int .u32 a0_7) := (blk_cell BK116.out 7).trans rfl; have hcz4_8 : w3.cell? ⟨gb116, 8, none⟩ = some (.int .u32 a0_8) := (blk_cell BK116.out 8).trans rfl; have hcz4_9 : w3.cell? ⟨gb116, 9, none⟩ = some (.int .u64 a0_9) := (blk_cell BK116.out 9).trans rfl; have hcz4_10 : w3.cell? ⟨gb116, 10, none⟩ = some (.int .u64 a0_10) := (blk_cell BK116.out 10).trans rfl; have hcz4_11 : w3.cell? ⟨gb116, 11, none⟩ = some (.slice A0_11 l0_11.length c0_11) := (blk_cell BK116.out 11).trans rfl; have hcz4_12 : w3.cell? ⟨gb116, 12, none⟩ = some (.slice A0_12 l0_12.length c0_12) := (blk_cell BK116.out 12).trans rfl; have hcz4_13 : w3.cell? ⟨gb116, 13, none⟩ = some (.slice A0_13 l0_13.length c0_13) := (blk_cell BK116.out 13).trans rfl; have hcz4_14 : w3.cell? ⟨gb116, 14, none⟩ = some (.slice A0_14 l0_14.length c0_14) := (blk_cell BK116.out 14).trans rfl; have hcz4_15 : w3.cell? ⟨gb116, 15, none⟩ = some (.slice A0_15 l0_15.length c0_15) := (blk_cell BK116.out 15).trans rfl; have hfz4_0 := blk_frozen BK116.out 0; have hfz4_1 := blk_frozen BK116.out 1; have hfz4_2 := blk_frozen BK116.out 2; have hfz4_3 := blk_frozen BK116.out 3; have hfz4_4 := blk_frozen BK116.out 4; have hfz4_5 := blk_frozen BK116.out 5; have hfz4_6 := blk_frozen BK116.out 6; have hfz4_7 := blk_frozen BK116.out 7; have hfz4_8 := blk_frozen BK116.out 8; have hfz4_9 := blk_frozen BK116.out 9; have hfz4_10 := blk_frozen BK116.out 10; have hfz4_11 := blk_frozen BK116.out 11; have hfz4_12 := blk_frozen BK116.out 12; have hfz4_13 := blk_frozen BK116.out 13; have hfz4_14 := blk_frozen BK116.out 14; have hfz4_15 := blk_frozen BK116.out 15))
    go_ret
    exact ⟨by first | rfl | (simp [errW_none, errW_some] <;> rfl) | (simp [*, errW_none, errW_some] <;> rfl), by repeat (first | (with_reducible first | exact HB.out | apply below_alloc | apply pw_below_drewN | apply below_drew1 | refine below_set ?_ GE116.out) | exact HB.out)⟩
  · rw [if_neg c2] at H
    have c2b0 : decide (100 < (l0_11.length : Int)) = false := decide_eq_false c2
    have c2b1 : decide (100 < l0_11.length) = false := decide_eq_false (by omega)
    clear c2
    by_cases c5 : (l0_12.length : Int) > 100
    · rw [if_pos c5] at H
      have c5b0 : decide (100 < (l0_12.length : Int)) = true := decide_eq_true c5
      have c5b1 : decide (100 < l0_12.length) = true := decide_eq_true (by omega)
      clear c5
      obtain rfl := Option.some.inj H
      go_enter Try.func13, Try.ntmps13
      go_wp2_with (first | ((with_reducible refine gate_dst (N := 1) rfl ?_); (try (refine gate_guard (by rfl) ?_; dsimp only)); refine box_event ?hg (N := 1) ?hd (cs := #[.int .u8 a0_0, .int .u8 a0_1, .int .u8 a0_2, .int .u8 a0_3, .int .u64 a0_4, .int .u64 a0_5, .int .u32 a0_6, .int .u32 a0_7, .int .u32 a0_8, .int .u64 a0_9, .int .u64 a0_10, .slice A0_11 l0_11.length c0_11, .slice A0_12 l0_12.length c0_12, .slice A0_13 l0_13.length c0_13, .slice A0_14 l0_14.length c0_14, .slice A0_15 l0_15.length c0_15]) (t := 36) ?hr ?_; (case hd => rfl); (case hg => rfl); (case hr => first | (go_simp; done) | (go_simp; rfl)); intro gb116 hg w6 hbox hb; have n0_ := Aside0.mk (below_step (by repeat (first | (with_reducible first | exact HB.out | apply below_alloc | apply pw_below_drewN | apply below_drew1) | exact HB.out)) hb); have n1_ := Aside0.mk (hbox); have n2_ := Aside0.mk ((by rw [hg]; exact (below_size (by repeat (first | (with_reducible first | exact HB.out | apply below_alloc | apply pw_below_drewN | apply below_drew1) | exact HB.out))) : w.heap.size ≤ gb116)); have n3_ := Aside0.mk ((by rw [hg]; exact (below_size (by repeat (first | (with_reducible first | exact HB.out | apply below_alloc | apply pw_below_drewN | apply below_drew1) | exact HB.out))) : w.heap.size ≤ gb116)); clear HB; have HB := n0_; have BK116 := n1_; have GW116 := n2_; have GE116 := n3_; clear n0_ n1_ n2_ n3_; clear hb hbox hg; have hcz7_0 : w6.cell? ⟨gb116, 0, none⟩ = some (.int .u8 a0_0) := (blk_cell BK116.out 0).trans rfl; have hcz7_1 : w6.cell? ⟨gb116, 1, none⟩ = some (.int .u8 a0_1) := (blk_cell BK116.out 1).trans rfl; have hcz7_2 : w6.cell? ⟨gb116, 2, none⟩ = some (.int .u8 a0_2) := (blk_cell BK116.out 2).trans rfl; have hcz7_3 : w6.cell? ⟨gb116, 3, none⟩ = some (.int .u8 a0_3) := (blk_cell BK116.out 3).trans rfl; have hcz7_4 : w6.cell? ⟨gb116, 4, none⟩ = some (.int .u64 a0_4) := (blk_cell BK116.out 4).trans rfl; have hcz7_5 : w6.cell? ⟨gb116, 5, none⟩ = some (.int .u64 a0_5) := (blk_cell BK116.out 5).trans rfl; have hcz7_6 : w6.cell? ⟨gb116, 6, none⟩ = some (.int .u32 a0_6) := (blk_cell BK116.out 6).trans rfl; have hcz7_7 : w6.cell? ⟨gb116, 7, none⟩ = some (.int .u32 a0_7) := (blk_cell BK116.out 7).trans rfl; have hcz7_8 : w6.cell? ⟨gb116, 8, none⟩ = some (.int .u32 a0_8) := (blk_cell BK116.out 8).trans rfl; have hcz7_9 : w6.cell? ⟨gb116, 9, none⟩ = some (.int .u64 a0_9) := (blk_cell BK116.out 9).trans rfl; have hcz7_10 : w6.cell? ⟨gb116, 10, none⟩ = some (.int .u64 a0_10) := (blk_cell BK116.out 10).trans rfl; have hcz7_11 : w6.cell? ⟨gb116, 11, none⟩ = some (.slice A0_11 l0_11.length c0_11) := (blk_cell BK116.out 11).trans rfl; have hcz7_12 : w6.cell? ⟨gb116, 12, none⟩ = some (.slice A0_12 l0_12.length c0_12) := (blk_cell BK116.out 12).trans rfl; have hcz7_13 : w6.cell? ⟨gb116, 13, none⟩ = some (.slice A0_13 l0_13.length c0_13) := (blk_cell BK116.out 13).trans rfl; have hcz7_14 : w6.cell? ⟨gb116, 14, none⟩ = some (.slice A0_14 l0_14.length c0_14) := (blk_cell BK116.out 14).trans rfl; have hcz7_15 : w6.cell? ⟨gb116, 15, none⟩ = some (.slice A0_15 l0_15.length c0_15) := (blk_cell BK116.out 15).trans rfl; have hfz7_0 := blk_frozen BK116.out 0; have hfz7_1 := blk_frozen BK116.out 1; have hfz7_2 := blk_frozen BK116.out 2; have hfz7_3 := blk_frozen BK116.out 3; have hfz7_4 := blk_frozen BK116.out 4; have hfz7_5 := blk_frozen BK116.out 5; have hfz7_6 := blk_frozen BK116.out 6; have hfz7_7 := blk_frozen BK116.out 7; have hfz7_8 := blk_frozen BK116.out 8; have hfz7_9 := blk_frozen BK116.out 9; have hfz7_10 := blk_frozen BK116.out 10; have hfz7_11 := blk_frozen BK116.out 11; have hfz7_12 := blk_frozen BK116.out 12; have hfz7_13 := blk_frozen BK116.out 13; have hfz7_14 := blk_frozen BK116.out 14; have hfz7_15 := blk_frozen BK116.out 15))
      go_ret
      exact ⟨by first | rfl | (simp [errW_none, errW_some] <;> rfl) | (simp [*, errW_none, errW_some] <;> rfl), by repeat (first | (with_reducible first | exact HB.out | apply below_alloc | apply pw_below_drewN | apply below_drew1 | refine below_set ?_ GE116.out) | exact HB.out)⟩
    · rw [if_neg c5] at H
      have c5b0 : decide (100 < (l0_12.length : Int)) = false := decide_eq_false c5
      have c5b1 : decide (100 < l0_12.length) = false := decide_eq_false (by omega)
      clear c5
      by_cases c8 : (l0_13.length : Int) > 100
      · rw [if_pos c8] at H
        have c8b0 : decide (100 < (l0_13.length : Int)) = true := decide_eq_true c8
        have c8b1 : decide (100 < l0_13.length) = true := decide_eq_true (by omega)
        clear c8
        obtain rfl := Option.some.inj H
        go_enter Try.func13, Try.ntmps13
        go_wp2_with (first | ((with_reducible refine gate_dst (N := 1) rfl ?_); (try (refine gate_guard (by rfl) ?_; dsimp only)); refine box_event ?hg (N := 1) ?hd (cs := #[.int .u8 a0_0, .int .u8 a0_1, .int .u8 a0_2, .int .u8 a0_3, .int .u64 a0_4, .int .u64 a0_5, .int .u32 a0_6, .int .u32 a0_7, .int .u32 a0_8, .int .u64 a0_9, .int .u64 a0_10, .slice A0_11 l0_11.length c0_11, .slice A0_12 l0_12.length c0_12, .slice A0_13 l0_13.length c0_13, .slice A0_14 l0_14.length c0_14, .slice A0_15 l0_15.length c0_15]) (t := 36) ?hr ?_; (case hd => rfl); (case hg => rfl); (case hr => first | (go_simp; done) | (go_simp; rfl)); intro gb116 hg w9 hbox hb; have n0_ := Aside0.mk (below_step (by repeat (first | (with_reducible first | exact HB.out | apply below_alloc | apply pw_below_drewN | apply below_drew1) | exact HB.out)) hb); have n1_ := Aside0.mk (hbox); have n2_ := Aside0.mk ((by rw [hg]; exact (below_size (by repeat (first | (with_reducible first | exact HB.out | apply below_alloc | apply pw_below_drewN | apply below_drew1) | exact HB.out))) : w.heap.size ≤ gb116)); have n3_ := Aside0.mk ((by rw [hg]; exact (below_size (by repeat (first | (with_reducible first | exact HB.out | apply below_alloc | apply pw_below_drewN | apply below_drew1) | exact HB.out))) : w.heap.size ≤ gb116)); clear HB; have HB := n0_; have BK116 := n1_; have GW116 := n2_; have GE116 := n3_; clear n0_ n1_ n2_ n3_; clear hb hbox hg; have hcz10_0 : w9.cell? ⟨gb116, 0, none⟩ = some (.int .u8 a0_0) := (blk_cell BK116.out 0).trans rfl; have hcz10_1 : w9.cell? ⟨gb116, 1, none⟩ = some (.int .u8 a0_1) := (blk_cell BK116.out 1).trans rfl; have hcz10_2 : w9.cell? ⟨gb116, 2, none⟩ = some (.int .u8 a0_2) := (blk_cell BK116.out 2).trans rfl; have hcz10_3 : w9.cell? ⟨gb116, 3, none⟩ = some (.int .u8 a0_3) := (blk_cell BK116.out 3).trans rfl; have hcz10_4 : w9.cell? ⟨gb116, 4, none⟩ = some (.int .u64 a0_4) := (blk_cell BK116.out 4).trans rfl; have hcz10_5 : w9.cell? ⟨gb116, 5, none⟩ = some (.int .u64 a0_5) := (blk_cell BK116.out 5).trans rfl; have hcz10_6 : w9.cell? ⟨gb116, 6, none⟩ = some (.int .u32 a0_6) := (blk_cell BK116.out 6).trans rfl; have hcz10_7 : w9.cell? ⟨gb116, 7, none⟩ = some (.int .u32 a0_7) := (blk_cell BK116.out 7).trans rfl; have hcz10_8 : w9.cell? ⟨gb116, 8, none⟩ = some (.int .u32 a0_8) := (blk_cell BK116.out 8).trans rfl; have hcz10_9 : w9.cell? ⟨gb116, 9, none⟩ = some (.int .u64 a0_9) := (blk_cell BK116.out 9).trans rfl; have hcz10_10 : w9.cell? ⟨gb116, 10, none⟩ = some (.int .u64 a0_10) := (blk_cell BK116.out 10).trans rfl; have hcz10_11 : w9.cell? ⟨gb116, 11, none⟩ = some (.slice A0_11 l0_11.length c0_11) := (blk_cell BK116.out 11).trans rfl; have hcz10_12 : w9.cell? ⟨gb116, 12, none⟩ = some (.slice A0_12 l0_12.length c0_12) := (blk_cell BK116.out 12).trans rfl; have hcz10_13 : w9.cell? ⟨gb116, 13, none⟩ = some (.slice A0_13 l0_13.length c0_13) := (blk_cell BK116.out 13).trans rfl; have hcz10_14 : w9.cell? ⟨gb116, 14, none⟩ = some (.slice A0_14 l0_14.length c0_14) := (blk_cell BK116.out 14).trans rfl; have hcz10_15 : w9.cell? ⟨gb116, 15, none⟩ = some (.slice A0_15 l0_15.length c0_15) := (blk_cell BK116.out 15).trans rfl; have hfz10_0 := blk_frozen BK116.out 0; have hfz10_1 := blk_frozen BK116.out 1; have hfz10_2 := blk_frozen BK116.out 2; have hfz10_3 := blk_frozen BK116.out 3; have hfz10_4 := blk_frozen BK116.out 4; have hfz10_5 := blk_frozen BK116.out 5; have hfz10_6 := blk_frozen BK116.out 6; have hfz10_7 := blk_frozen BK116.out 7; have hfz10_8 := blk_frozen BK116.out 8; have hfz10_9 := blk_frozen BK116.out 9; have hfz10_10 := blk_frozen BK116.out 10; have hfz10_11 := blk_frozen BK116.out 11; have hfz10_12 := blk_frozen BK116.out 12; have hfz10_13 := blk_frozen BK116.out 13; have hfz10_14 := blk_frozen BK116.out 14; have hfz10_15 := blk_frozen BK116.out 15))
        go_ret
        exact ⟨by first | rfl | (simp [errW_none, errW_some] <;> rfl) | (simp [*, errW_none, errW_some] <;> rfl), by repeat (first | (with_reducible first | exact HB.out | apply below_alloc | apply pw_below_drewN | apply below_drew1 | refine below_set ?_ GE116.out) | exact HB.out)⟩
      · rw [if_neg c8] at H
        have c8b0 : decide (100 < (l0_13.length : Int)) = false := decide_eq_false c8
        have c8b1 : decide (100 < l0_13.length) = false := decide_eq_false (by omega)
        clear c8
        by_cases c11 : (l0_14.length : Int) > 100
        · rw [if_pos c11] at H
          have c11b0 : decide (100 < (l0_14.length : Int)) = true := decide_eq_true c11
          have c11b1 : decide (100 < l0_14.length) = true := decide_eq_true (by omega)
          clear c11
          obtain rfl := Option.some.inj H
          go_enter Try.func13, Try.ntmps13
          go_wp2_with (first | ((with_reducible refine gate_dst (N := 1) rfl ?_); (try (refine gate_guard (by rfl) ?_; dsimp only)); refine box_event ?hg (N := 1) ?hd (cs := #[.int .u8 a0_0, .int .u8 a0_1, .int .u8 a0_2, .int .u8 a0_3, .int .u64 a0_4, .int .u64 a0_5, .int .u32 a0_6, .int .u32 a0_7, .int .u32 a0_8, .int .u64 a0_9, .int .u64 a0_10, .slice A0_11 l0_11.length c0_11, .slice A0_12 l0_12.length c0_12, .slice A0_13 l0_13.length c0_13, .slice A0_14 l0_14.length c0_14, .slice A0_15 l0_15.length c0_15]) (t := 36) ?hr ?_; (case hd => rfl); (case hg => rfl); (case hr => first | (go_simp; done) | (go_simp; rfl)); intro gb116 hg w12 hbox hb; have n0_ := Aside0.mk (below_step (by repeat (first | (with_reducible first | exact HB.out | apply below_alloc | apply pw_below_drewN | apply below_drew1) | exact HB.out)) hb); have n1_ := Aside0.mk (hbox); have n2_ := Aside0.mk ((by rw [hg]; exact (below_size (by repeat (first | (with_reducible first | exact HB.out | apply below_alloc | apply pw_below_drewN | apply below_drew1) | exact HB.out))) : w.heap.size ≤ gb116)); have n3_ := Aside0.mk ((by rw [hg]; exact (below_size (by repeat (first | (with_reducible first | exact HB.out | apply below_alloc | apply pw_below_drewN | apply below_drew1) | exact HB.out))) : w.heap.size ≤ gb116)); clear HB; have HB := n0_; have BK116 := n1_; have GW116 := n2_; have GE116 := n3_; clear n0_ n1_ n2_ n3_; clear hb hbox hg; have hcz13_0 : w12.cell? ⟨gb116, 0, none⟩ = some (.int .u8 a0_0) := (blk_cell BK116.out 0).trans rfl; have hcz13_1 : w12.cell? ⟨gb116, 1, none⟩ = some (.int .u8 a0_1) := (blk_cell BK116.out 1).trans rfl; have hcz13_2 : w12.cell? ⟨gb116, 2, none⟩ = some (.int .u8 a0_2) := (blk_cell BK116.out 2).trans rfl; have hcz13_3 : w12.cell? ⟨gb116, 3, none⟩ = some (.int .u8 a0_3) := (blk_cell BK116.out 3).trans rfl; have hcz13_4 : w12.cell? ⟨gb116, 4, none⟩ = some (.int .u64 a0_4) := (blk_cell BK116.out 4).trans rfl; have hcz13_5 : w12.cell? ⟨gb116, 5, none⟩ = some (.int .u64 a0_5) := (blk_cell BK116.out 5).trans rfl; have hcz13_6 : w12.cell? ⟨gb116, 6, none⟩ = some (.int .u32 a0_6) := (blk_cell BK116.out 6).trans rfl; have hcz13_7 : w12.cell? ⟨gb116, 7, none⟩ = some (.int .u32 a0_7) := (blk_cell BK116.out 7).trans rfl; have hcz13_8 : w12.cell? ⟨gb116, 8, none⟩ = some (.int .u32 a0_8) := (blk_cell BK116.out 8).trans rfl; have hcz13_9 : w12.cell? ⟨gb116, 9, none⟩ = some (.int .u64 a0_9) := (blk_cell BK116.out 9).trans rfl; have hcz13_10 : w12.cell? ⟨gb116, 10, none⟩ = some (.int .u64 a0_10) := (blk_cell BK116.out 10).trans rfl; have hcz13_11 : w12.cell? ⟨gb116, 11, none⟩ = some (.slice A0_11 l0_11.length c0_11) := (blk_cell BK116.out 11).trans rfl; have hcz13_12 : w12.cell? ⟨gb116, 12, none⟩ = some (.slice A0_12 l0_12.length c0_12) := (blk_cell BK116.out 12).trans rfl; have hcz13_13 : w12.cell? ⟨gb116, 13, none⟩ = some (.slice A0_13 l0_13.length c0_13) := (blk_cell BK116.out 13).trans rfl; have hcz13_14 : w12.cell? ⟨gb116, 14, none⟩ = some (.slice A0_14 l0_14.length c0_14) := (blk_cell BK116.out 14).trans rfl; have hcz13_15 : w12.cell? ⟨gb116, 15, none⟩ = some (.slice A0_15 l0_15.length c0_15) := (blk_cell BK116.out 15).trans rfl; have hfz13_0 := blk_frozen BK116.out 0; have hfz13_1 := blk_frozen BK116.out 1; have hfz13_2 := blk_frozen BK116.out 2; have hfz13_3 := blk_frozen BK116.out 3; have hfz13_4 := blk_frozen BK116.out 4; have hfz13_5 := blk_frozen BK116.out 5; have hfz13_6 := blk_frozen BK116.out 6; have hfz13_7 := blk_frozen BK116.out 7; have hfz13_8 := blk_frozen BK116.out 8; have hfz13_9 := blk_frozen BK116.out 9; have hfz13_10 := blk_frozen BK116.out 10; have hfz13_11 := blk_frozen BK116.out 11; have hfz13_12 := blk_frozen BK116.out 12; have hfz13_13 := blk_frozen BK116.out 13; have hfz13_14 := blk_frozen BK116.out 14; have hfz13_15 := blk_frozen BK116.out 15))
          go_ret
          exact ⟨by first | rfl | (simp [errW_none, errW_some] <;> rfl) | (simp [*, errW_none, errW_some] <;> rfl), by repeat (first | (with_reducible first | exact HB.out | apply below_alloc | apply pw_below_drewN | apply below_drew1 | refine below_set ?_ GE116.out) | exact HB.out)⟩
        · rw [if_neg c11] at H
          have c11b0 : decide (100 < (l0_14.length : Int)) = false := decide_eq_false c11
          have c11b1 : decide (100 < l0_14.length) = false := decide_eq_false (by omega)
          clear c11
          obtain rfl := Option.some.inj H
          go_enter Try.func13, Try.ntmps13
          go_wp2_with (first | ((with_reducible refine gate_dst (N := 1) rfl ?_); (try (refine gate_guard (by rfl) ?_; dsimp only)); refine box_event ?hg (N := 1) ?hd (cs := #[.int .u8 a0_0, .int .u8 a0_1, .int .u8 a0_2, .int .u8 a0_3, .int .u64 a0_4, .int .u64 a0_5, .int .u32 a0_6, .int .u32 a0_7, .int .u32 a0_8, .int .u64 a0_9, .int .u64 a0_10, .slice A0_11 l0_11.length c0_11, .slice A0_12 l0_12.length c0_12, .slice A0_13 l0_13.length c0_13, .slice A0_14 l0_14.length c0_14, .slice A0_15 l0_15.length c0_15]) (t := 36) ?hr ?_; (case hd => rfl); (case hg => rfl); (case hr => first | (go_simp; done) | (go_simp; rfl)); intro gb116 hg w14 hbox hb; have n0_ := Aside0.mk (below_step (by repeat (first | (with_reducible first | exact HB.out | apply below_alloc | apply pw_below_drewN | apply below_drew1) | exact HB.out)) hb); have n1_ := Aside0.mk (hbox); have n2_ := Aside0.mk ((by rw [hg]; exact (below_size (by repeat (first | (with_reducible first | exact HB.out | apply below_alloc | apply pw_below_drewN | apply below_drew1) | exact HB.out))) : w.heap.size ≤ gb116)); have n3_ := Aside0.mk ((by rw [hg]; exact (below_size (by repeat (first | (with_reducible first | exact HB.out | apply below_alloc | apply pw_below_drewN | apply below_drew1) | exact HB.out))) : w.heap.size ≤ gb116)); clear HB; have HB := n0_; have BK116 := n1_; have GW116 := n2_; have GE116 := n3_; clear n0_ n1_ n2_ n3_; clear hb hbox hg; have hcz15_0 : w14.cell? ⟨gb116, 0, none⟩ = some (.int .u8 a0_0) := (blk_cell BK116.out 0).trans rfl; have hcz15_1 : w14.cell? ⟨gb116, 1, none⟩ = some (.int .u8 a0_1) := (blk_cell BK116.out 1).trans rfl; have hcz15_2 : w14.cell? ⟨gb116, 2, none⟩ = some (.int .u8 a0_2) := (blk_cell BK116.out 2).trans rfl; have hcz15_3 : w14.cell? ⟨gb116, 3, none⟩ = some (.int .u8 a0_3) := (blk_cell BK116.out 3).trans rfl; have hcz15_4 : w14.cell? ⟨gb116, 4, none⟩ = some (.int .u64 a0_4) := (blk_cell BK116.out 4).trans rfl; have hcz15_5 : w14.cell? ⟨gb116, 5, none⟩ = some (.int .u64 a0_5) := (blk_cell BK116.out 5).trans rfl; have hcz15_6 : w14.cell? ⟨gb116, 6, none⟩ = some (.int .u32 a0_6) := (blk_cell BK116.out 6).trans rfl; have hcz15_7 : w14.cell? ⟨gb116, 7, none⟩ = some (.int .u32 a0_7) := (blk_cell BK116.out 7).trans rfl; have hcz15_8 : w14.cell? ⟨gb116, 8, none⟩ = some (.int .u32 a0_8) := (blk_cell BK116.out 8).trans rfl; have hcz15_9 : w14.cell? ⟨gb116, 9, none⟩ = some (.int .u64 a0_9) := (blk_cell BK116.out 9).trans rfl; have hcz15_10 : w14.cell? ⟨gb116, 10, none⟩ = some (.int .u64 a0_10) := (blk_cell BK116.out 10).trans rfl; have hcz15_11 : w14.cell? ⟨gb116, 11, none⟩ = some (.slice A0_11 l0_11.length c0_11) := (blk_cell BK116.out 11).trans rfl; have hcz15_12 : w14.cell? ⟨gb116, 12, none⟩ = some (.slice A0_12 l0_12.length c0_12) := (blk_cell BK116.out 12).trans rfl; have hcz15_13 : w14.cell? ⟨gb116, 13, none⟩ = some (.slice A0_13 l0_13.length c0_13) := (blk_cell BK116.out 13).trans rfl; have hcz15_14 : w14.cell? ⟨gb116, 14, none⟩ = some (.slice A0_14 l0_14.length c0_14) := (blk_cell BK116.out 14).trans rfl; have hcz15_15 : w14.cell? ⟨gb116, 15, none⟩ = some (.slice A0_15 l0_15.length c0_15) := (blk_cell BK116.out 15).trans rfl; have hfz15_0 := blk_frozen BK116.out 0; have hfz15_1 := blk_frozen BK116.out 1; have hfz15_2 := blk_frozen BK116.out 2; have hfz15_3 := blk_frozen BK116.out 3; have hfz15_4 := blk_frozen BK116.out 4; have hfz15_5 := blk_frozen BK116.out 5; have hfz15_6 := blk_frozen BK116.out 6; have hfz15_7 := blk_frozen BK116.out 7; have hfz15_8 := blk_frozen BK116.out 8; have hfz15_9 := blk_frozen BK116.out 9; have hfz15_10 := blk_frozen BK116.out 10; have hfz15_11 := blk_frozen BK116.out 11; have hfz15_12 := blk_frozen BK116.out 12; have hfz15_13 := blk_frozen BK116.out 13; have hfz15_14 := blk_frozen BK116.out 14; have hfz15_15 := blk_frozen BK116.out 15))
          go_ret
          exact ⟨by first | rfl | (simp [errW_none, errW_some] <;> rfl) | (simp [*, errW_none, errW_some] <;> rfl), by repeat (first | (with_reducible first | exact HB.out | apply below_alloc | apply pw_below_drewN | apply below_drew1 | refine below_set ?_ GE116.out) | exact HB.out)⟩

/-! ### chunk_Right: function 14 -/
def chunk_Right.f (a0_0 : Int) (a0_1 : Int) (a0_2 : Int) (a0_3 : Int) (a0_4 : Int) (a0_5 : Int) (a0_6 : Int) (a0_7 : Int) (a0_8 : Int) (a0_9 : Int) (a0_10 : Int) (l0_11 : List (S53)) (l0_12 : List (S53)) (l0_13 : List Int) (l0_14 : List Int) (l0_15 : List Int) (a1 : Int) (a2 : Int) : Option (Bool) := (chunk_Count.f (wrap64 (a0_8)) a1).bind fun t118 => (if (wrap64 (a0_8)) ≤ a2 then (if t118 > 0 then (if a0_7 = ((t118) % 4294967296) then (if a0_6 < a0_7 then ((chunk_Length.f (wrap64 (a0_8)) a1 (wrap64 (a0_6))).bind fun t119 => (some ((l0_15.length : Int) == t119))) else (some false)) else (some false)) else (some false)) else (some false))
def chunk_Right.T3 : Bool × List (List Nat × List Nat) := (true, [([], []), ([], []), ([0, 1], [0, 1]), ([2], [2]), ([3], [3]), ([4, 3], [3, 4]), ([3, 5], [3, 5]), ([6, 3], [6]), ([7], [7]), ([8, 7], [7, 8]), ([7], [7]), ([10, 7], [7, 10]), ([9, 11, 7], [7, 9, 11]), ([7, 12], [7, 12]), ([13, 7], [13]), ([14], [14]), ([15, 14], [14, 15]), ([14], [14]), ([17, 14], [14, 17]), ([16, 18, 14], [14, 16, 18]), ([14, 19], [14, 19]), ([20, 14], [20]), ([21], [21]), ([22, 21], [21, 22]), ([23, 21], [21, 23]), ([21], [21]), ([21], [21]), ([21], [21]), ([27, 21], [21, 27]), ([28, 21], [21, 28]), ([25, 26, 29, 21, 21], [21, 25, 26, 29]), ([24, 30, 21], [21, 24, 30]), ([21, 31], [21, 31]), ([32, 30, 0, 1, 2, 3, 4, 5, 6, 7, 8, 9, 10, 11, 12, 13, 14, 15, 16, 17, 18, 19, 20, 21, 22, 23, 24, 25, 26, 27, 28, 29, 30, 31, 32], [32])])
def chunk_Right.B3 : List Nat := [0, 0, 3, 7, 15, 31, 63, 127, 255, 511, 255, 1279, 4095, 8191, 16383, 32767, 65535, 32767, 163839, 524287, 1048575, 2097151, 4194303, 8388607, 16777215, 4194303, 4194303, 4194303, 138412031, 406847487, 1044381695, 2147483647, 4294967295, 8589934591]
theorem chunk_Right.tab3 : rtab .any (opsOf Try.f14 3) = chunk_Right.T3 := by kernel_rfl
theorem chunk_Right.bits3 : waitsOk chunk_Right.T3.2 chunk_Right.B3 = true := by kernel_rfl
-- by hand: the printed walk of this function falls
open Go.Sort (grow) in
set_option maxHeartbeats 4000000 in
set_option maxRecDepth 100000 in
theorem chunk_Right.calls (a0_0 : Int) (a0_1 : Int) (a0_2 : Int) (a0_3 : Int) (a0_4 : Int) (a0_5 : Int) (a0_6 : Int) (a0_7 : Int) (a0_8 : Int) (a0_9 : Int) (a0_10 : Int) (A0_11 : Option Addr) (c0_11 : Nat) (l0_11 : List (S53)) (A0_12 : Option Addr) (c0_12 : Nat) (l0_12 : List (S53)) (A0_13 : Option Addr) (c0_13 : Nat) (l0_13 : List Int) (A0_14 : Option Addr) (c0_14 : Nat) (l0_14 : List Int) (A0_15 : Option Addr) (c0_15 : Nat) (l0_15 : List Int) (a1 : Int) (a2 : Int) (r : Bool) (w : World) (hr0_11 : Kd.C k53 w A0_11 l0_11.length l0_11) (hc0_11 : l0_11.length ≤ c0_11) (hr0_12 : Kd.C k53 w A0_12 l0_12.length l0_12) (hc0_12 : l0_12.length ≤ c0_12) (hr0_13 : Kd.C (Kd.int .u64) w A0_13 l0_13.length l0_13) (hc0_13 : l0_13.length ≤ c0_13) (hr0_14 : Kd.C (Kd.int .u64) w A0_14 l0_14.length l0_14) (hc0_14 : l0_14.length ≤ c0_14) (hr0_15 : Kd.C (Kd.int .u8) w A0_15 l0_15.length l0_15) (hc0_15 : l0_15.length ≤ c0_15) (h : chunk_Right.f a0_0 a0_1 a0_2 a0_3 a0_4 a0_5 a0_6 a0_7 a0_8 a0_9 a0_10 l0_11 l0_12 l0_13 l0_14 l0_15 a1 a2 = some r) :
    Calls Try.prog 14 #[.agg #[.int .u8 a0_0, .int .u8 a0_1, .int .u8 a0_2, .int .u8 a0_3, .int .u64 a0_4, .int .u64 a0_5, .int .u32 a0_6, .int .u32 a0_7, .int .u32 a0_8, .int .u64 a0_9, .int .u64 a0_10, .slice A0_11 l0_11.length c0_11, .slice A0_12 l0_12.length c0_12, .slice A0_13 l0_13.length c0_13, .slice A0_14 l0_14.length c0_14, .slice A0_15 l0_15.length c0_15], .int .i64 a1, .int .i64 a2] w fun e w' => e = .returned (.bool r) ∧ Below w.heap.size w w' := by
  clear hr0_11 hc0_11 hr0_12 hc0_12 hr0_13 hc0_13 hr0_14 hc0_14 hr0_15 hc0_15
  unfold chunk_Right.f at h
  obtain ⟨n, h1, h⟩ := Option.bind_eq_some_iff.mp h
  have A1 := Aside0.mk h1
  clear h1
  by_cases c1 : wrap64 a0_8 ≤ a2
  · rw [if_pos c1] at h
    by_cases c2 : n > 0
    · rw [if_pos c2] at h
      by_cases c3 : a0_7 = n % 4294967296
      · rw [if_pos c3] at h
        by_cases c4 : a0_6 < a0_7
        · rw [if_pos c4] at h
          obtain ⟨m, h2, h⟩ := Option.bind_eq_some_iff.mp h
          have A2 := Aside0.mk h2
          clear h2
          obtain rfl := Option.some.inj h
          clear h
          have c1' : decide (wrap64 a0_8 ≤ a2) = true := decide_eq_true c1
          have c2' : decide (0 < n) = true := decide_eq_true c2
          have c3' : (a0_7 == n % 4294967296) = true := beq_iff_eq.mpr c3
          have c4' : decide (a0_6 < a0_7) = true := decide_eq_true c4
          clear c1 c2 c3 c4
          go_enter Try.func14, Try.ntmps14
          go_wp2_with fail
          refine (chunk_Count.calls _ _ n _ A1.out).mono ?_
          rintro e w1 ⟨rfl, hb⟩
          have BK := blk_below (blk_new w _) hb
          have B1 := Aside0.mk (below_step (below_alloc (Below.refl _ _) _) hb)
          clear hb
          have k6 : ∀ d os, (grow (redrawn w1 d) os).cell? ⟨w.heap.size, 6, none⟩ = some (.int .u32 a0_6) := cell_regrown ((blk_cell BK 6).trans rfl)
          have k7 : ∀ d os, (grow (redrawn w1 d) os).cell? ⟨w.heap.size, 7, none⟩ = some (.int .u32 a0_7) := cell_regrown ((blk_cell BK 7).trans rfl)
          have k8 : w1.cell? ⟨w.heap.size, 8, none⟩ = some (.int .u32 a0_8) := ((blk_cell BK 8).trans rfl)
          have k15 : ∀ d os, (grow (redrawn w1 d) os).cell? ⟨w.heap.size, 15, none⟩ = some (.slice A0_15 l0_15.length c0_15) := cell_regrown ((blk_cell BK 15).trans rfl)
          clear BK
          have w6 := i64_w a0_6
          go_wp2_with fail
          refine wp_region_quiet_below (by kernel_rfl) (by kernel_rfl) ?_
          repeat (go_big_quiet_step ((go_at_call 11; exact Calls.regrown_of (chunk_Length.calls _ _ _ m _ A2.out))))
          refine wpQuiet_nil ?_
          intro _ hw'
          obtain ⟨⟨dq, osq⟩, hw''⟩ := hw'
          subst hw''
          go_wp2
          go_ret
          exact ⟨by first | rfl | simp, below_step B1.out (below_regrown w1 dq osq)⟩
        · rw [if_neg c4] at h
          obtain rfl := Option.some.inj h
          clear h
          have c1' : decide (wrap64 a0_8 ≤ a2) = true := decide_eq_true c1
          have c2' : decide (0 < n) = true := decide_eq_true c2
          have c3' : (a0_7 == n % 4294967296) = true := beq_iff_eq.mpr c3
          have c4' : decide (a0_6 < a0_7) = false := decide_eq_false c4
          clear c1 c2 c3 c4
          go_enter Try.func14, Try.ntmps14
          go_wp2_with fail
          refine (chunk_Count.calls _ _ n _ A1.out).mono ?_
          rintro e w1 ⟨rfl, hb⟩
          have BK := blk_below (blk_new w _) hb
          have B1 := Aside0.mk (below_step (below_alloc (Below.refl _ _) _) hb)
          clear hb
          have k6 : ∀ d os, (grow (redrawn w1 d) os).cell? ⟨w.heap.size, 6, none⟩ = some (.int .u32 a0_6) := cell_regrown ((blk_cell BK 6).trans rfl)
          have k7 : ∀ d os, (grow (redrawn w1 d) os).cell? ⟨w.heap.size, 7, none⟩ = some (.int .u32 a0_7) := cell_regrown ((blk_cell BK 7).trans rfl)
          have k8 : w1.cell? ⟨w.heap.size, 8, none⟩ = some (.int .u32 a0_8) := ((blk_cell BK 8).trans rfl)
          have k15 : ∀ d os, (grow (redrawn w1 d) os).cell? ⟨w.heap.size, 15, none⟩ = some (.slice A0_15 l0_15.length c0_15) := cell_regrown ((blk_cell BK 15).trans rfl)
          clear BK
          have w6 := i64_w a0_6
          go_wp2_with fail
          refine wp_region_quiet_below (by kernel_rfl) (by kernel_rfl) ?_
          repeat (go_big_quiet_step ((fail)))
          refine wpQuiet_nil ?_
          intro _ hw'
          obtain ⟨⟨dq, osq⟩, hw''⟩ := hw'
          subst hw''
          go_wp2
          go_ret
          exact ⟨by first | rfl | simp, below_step B1.out (below_regrown w1 dq osq)⟩
      · rw [if_neg c3] at h
        obtain rfl := Option.some.inj h
        clear h
        have c1' : decide (wrap64 a0_8 ≤ a2) = true := decide_eq_true c1
        have c2' : decide (0 < n) = true := decide_eq_true c2
        have c3' : (a0_7 == n % 4294967296) = false := beq_eq_false_iff_ne.mpr c3
        clear c1 c2 c3
        go_enter Try.func14, Try.ntmps14
        go_wp2_with fail
        refine (chunk_Count.calls _ _ n _ A1.out).mono ?_
        rintro e w1 ⟨rfl, hb⟩
        have BK := blk_below (blk_new w _) hb
        have B1 := Aside0.mk (below_step (below_alloc (Below.refl _ _) _) hb)
        clear hb
        have k6 : ∀ d os, (grow (redrawn w1 d) os).cell? ⟨w.heap.size, 6, none⟩ = some (.int .u32 a0_6) := cell_regrown ((blk_cell BK 6).trans rfl)
        have k7 : ∀ d os, (grow (redrawn w1 d) os).cell? ⟨w.heap.size, 7, none⟩ = some (.int .u32 a0_7) := cell_regrown ((blk_cell BK 7).trans rfl)
        have k8 : w1.cell? ⟨w.heap.size, 8, none⟩ = some (.int .u32 a0_8) := ((blk_cell BK 8).trans rfl)
        have k15 : ∀ d os, (grow (redrawn w1 d) os).cell? ⟨w.heap.size, 15, none⟩ = some (.slice A0_15 l0_15.length c0_15) := cell_regrown ((blk_cell BK 15).trans rfl)
        clear BK
        have w6 := i64_w a0_6
        go_wp2_with fail
        refine wp_region_quiet_below (by kernel_rfl) (by kernel_rfl) ?_
        repeat (go_big_quiet_step ((fail)))
        refine wpQuiet_nil ?_
        intro _ hw'
        obtain ⟨⟨dq, osq⟩, hw''⟩ := hw'
        subst hw''
        go_wp2
        go_ret
        exact ⟨by first | rfl | simp, below_step B1.out (below_regrown w1 dq osq)⟩
    · rw [if_neg c2] at h
      obtain rfl := Option.some.inj h
      clear h
      have c1' : decide (wrap64 a0_8 ≤ a2) = true := decide_eq_true c1
      have c2' : decide (0 < n) = false := decide_eq_false c2
      clear c1 c2
      go_enter Try.func14, Try.ntmps14
      go_wp2_with fail
      refine (chunk_Count.calls _ _ n _ A1.out).mono ?_
      rintro e w1 ⟨rfl, hb⟩
      have BK := blk_below (blk_new w _) hb
      have B1 := Aside0.mk (below_step (below_alloc (Below.refl _ _) _) hb)
      clear hb
      have k6 : ∀ d os, (grow (redrawn w1 d) os).cell? ⟨w.heap.size, 6, none⟩ = some (.int .u32 a0_6) := cell_regrown ((blk_cell BK 6).trans rfl)
      have k7 : ∀ d os, (grow (redrawn w1 d) os).cell? ⟨w.heap.size, 7, none⟩ = some (.int .u32 a0_7) := cell_regrown ((blk_cell BK 7).trans rfl)
      have k8 : w1.cell? ⟨w.heap.size, 8, none⟩ = some (.int .u32 a0_8) := ((blk_cell BK 8).trans rfl)
      have k15 : ∀ d os, (grow (redrawn w1 d) os).cell? ⟨w.heap.size, 15, none⟩ = some (.slice A0_15 l0_15.length c0_15) := cell_regrown ((blk_cell BK 15).trans rfl)
      clear BK
      have w6 := i64_w a0_6
      go_wp2_with fail
      refine wp_region_quiet_below (by kernel_rfl) (by kernel_rfl) ?_
      repeat (go_big_quiet_step ((fail)))
      refine wpQuiet_nil ?_
      intro _ hw'
      obtain ⟨⟨dq, osq⟩, hw''⟩ := hw'
      subst hw''
      go_wp2
      go_ret
      exact ⟨by first | rfl | simp, below_step B1.out (below_regrown w1 dq osq)⟩
  · rw [if_neg c1] at h
    obtain rfl := Option.some.inj h
    clear h
    have c1' : decide (wrap64 a0_8 ≤ a2) = false := decide_eq_false c1
    clear c1
    go_enter Try.func14, Try.ntmps14
    go_wp2_with fail
    refine (chunk_Count.calls _ _ n _ A1.out).mono ?_
    rintro e w1 ⟨rfl, hb⟩
    have BK := blk_below (blk_new w _) hb
    have B1 := Aside0.mk (below_step (below_alloc (Below.refl _ _) _) hb)
    clear hb
    have k6 : ∀ d os, (grow (redrawn w1 d) os).cell? ⟨w.heap.size, 6, none⟩ = some (.int .u32 a0_6) := cell_regrown ((blk_cell BK 6).trans rfl)
    have k7 : ∀ d os, (grow (redrawn w1 d) os).cell? ⟨w.heap.size, 7, none⟩ = some (.int .u32 a0_7) := cell_regrown ((blk_cell BK 7).trans rfl)
    have k8 : w1.cell? ⟨w.heap.size, 8, none⟩ = some (.int .u32 a0_8) := ((blk_cell BK 8).trans rfl)
    have k15 : ∀ d os, (grow (redrawn w1 d) os).cell? ⟨w.heap.size, 15, none⟩ = some (.slice A0_15 l0_15.length c0_15) := cell_regrown ((blk_cell BK 15).trans rfl)
    clear BK
    have w6 := i64_w a0_6
    go_wp2_with fail
    refine wp_region_quiet_below (by kernel_rfl) (by kernel_rfl) ?_
    repeat (go_big_quiet_step ((fail)))
    refine wpQuiet_nil ?_
    intro _ hw'
    obtain ⟨⟨dq, osq⟩, hw''⟩ := hw'
    subst hw''
    go_wp2
    go_ret
    exact ⟨by first | rfl | simp, below_step B1.out (below_regrown w1 dq osq)⟩


end Go.Proofs.Ythgpocefiaklkaa.F
