/- What is proved: the Go functions that the law reaches come to what the Lean functions beside them tell, and (in the text of the law) the given statement follows. Conditions: none beyond each theorem's own. Written by a program (a turned copy of the kit's print.py), some walks by hand. -/
import Derived.Test.YtiiajenhjamjdaaF0
namespace Go.Proofs.Ytiiajenhjamjdaa.F
open Go.RowKit Go.Proofs.YtiiajenhjamjdaaW.PrintWords Go.Proofs.YtiiajenhjamjdaaW.PrintLast Go.Proofs.YtiiajenhjamjdaaW.PrintMore
attribute [local go_sem] max2_int min2_int max_two min_two max_three min_three max_four min_four   -- for this text's walks alone
set_option linter.unusedVariables false
set_option linter.unusedSimpArgs false

-- NOT PRINTED: function 8 (relay_New)

/-! ### relay_of: function 20 -/
def relay_of.f (a0_0 : Int) (a0_1 : Int) (a0_2 : Int) (a0_3 : Int) (a0_4 : Int) (a0_5 : Int) (a0_6 : Int) (a0_7 : Int) (a0_8 : Int) (a0_9 : Int) (a0_10 : Int) (l0_11 : List (S78)) (l0_12 : List (S78)) (l0_13 : List Int) (l0_14 : List Int) (l0_15 : List Int) : Option (Int × Int × Int) := some (a0_3, a0_4, a0_6)
set_option maxHeartbeats 8000000 in
set_option maxRecDepth 100000 in
theorem relay_of.calls (a0_0 : Int) (a0_1 : Int) (a0_2 : Int) (a0_3 : Int) (a0_4 : Int) (a0_5 : Int) (a0_6 : Int) (a0_7 : Int) (a0_8 : Int) (a0_9 : Int) (a0_10 : Int) (A0_11 : Option Addr) (c0_11 : Nat) (l0_11 : List (S78)) (A0_12 : Option Addr) (c0_12 : Nat) (l0_12 : List (S78)) (A0_13 : Option Addr) (c0_13 : Nat) (l0_13 : List Int) (A0_14 : Option Addr) (c0_14 : Nat) (l0_14 : List Int) (A0_15 : Option Addr) (c0_15 : Nat) (l0_15 : List Int) (r1 : Int) (r2 : Int) (r3 : Int) (w : World) (hr0_11 : Kd.C k78 w A0_11 l0_11.length l0_11) (hc0_11 : l0_11.length ≤ c0_11) (hr0_12 : Kd.C k78 w A0_12 l0_12.length l0_12) (hc0_12 : l0_12.length ≤ c0_12) (hr0_13 : Kd.C (Kd.int .u64) w A0_13 l0_13.length l0_13) (hc0_13 : l0_13.length ≤ c0_13) (hr0_14 : Kd.C (Kd.int .u64) w A0_14 l0_14.length l0_14) (hc0_14 : l0_14.length ≤ c0_14) (hr0_15 : Kd.C (Kd.int .u8) w A0_15 l0_15.length l0_15) (hc0_15 : l0_15.length ≤ c0_15) (h : relay_of.f a0_0 a0_1 a0_2 a0_3 a0_4 a0_5 a0_6 a0_7 a0_8 a0_9 a0_10 l0_11 l0_12 l0_13 l0_14 l0_15 = some (r1, r2, r3)) :
    Calls Try.prog 20 #[.agg #[.int .u8 a0_0, .int .u8 a0_1, .int .u8 a0_2, .int .u8 a0_3, .int .u64 a0_4, .int .u64 a0_5, .int .u32 a0_6, .int .u32 a0_7, .int .u32 a0_8, .int .u64 a0_9, .int .u64 a0_10, .slice A0_11 l0_11.length c0_11, .slice A0_12 l0_12.length c0_12, .slice A0_13 l0_13.length c0_13, .slice A0_14 l0_14.length c0_14, .slice A0_15 l0_15.length c0_15]] w fun e w' => e = .returned (.agg #[.int .u8 r1, .int .u64 r2, .int .u32 r3]) ∧ Below w.heap.size w w' := by
  have hu37 := Try.underlying37
  have hu66 := Try.underlying66
  have hu33 := Try.underlying33
  have HR0_11 := Aside0.mk hr0_11
  have HC0_11 := Aside0.mk hc0_11
  clear hr0_11 hc0_11
  have HR0_12 := Aside0.mk hr0_12
  have HC0_12 := Aside0.mk hc0_12
  clear hr0_12 hc0_12
  have HR0_13 := Aside0.mk hr0_13
  have HC0_13 := Aside0.mk hc0_13
  clear hr0_13 hc0_13
  have HR0_14 := Aside0.mk hr0_14
  have HC0_14 := Aside0.mk hc0_14
  clear hr0_14 hc0_14
  have HR0_15 := Aside0.mk hr0_15
  have HC0_15 := Aside0.mk hc0_15
  clear hr0_15 hc0_15
  have HB := Aside0.mk (Below.refl w.heap.size w)
  have H : (some (a0_3, a0_4, a0_6)) = some (r1, r2, r3) := h
  clear h
  simp only [Option.some.injEq, Prod.mk.injEq] at H
  obtain ⟨rfl, rfl, rfl⟩ := H
  go_enter Try.func20, Try.ntmps20
  go_wp2_with (first | ((with_reducible refine gate_dst (N := 1) rfl ?_); refine box_event ?hg (N := 1) ?hd (cs := #[.int .u8 a0_0, .int .u8 a0_1, .int .u8 a0_2, .int .u8 a0_3, .int .u64 a0_4, .int .u64 a0_5, .int .u32 a0_6, .int .u32 a0_7, .int .u32 a0_8, .int .u64 a0_9, .int .u64 a0_10, .slice A0_11 l0_11.length c0_11, .slice A0_12 l0_12.length c0_12, .slice A0_13 l0_13.length c0_13, .slice A0_14 l0_14.length c0_14, .slice A0_15 l0_15.length c0_15]) (t := 37) ?hr ?_; (case hd => rfl); (case hg => rfl); (case hr => first | (go_simp; done) | (go_simp; rfl)); intro gb101 hg w2 hbox hb; have n0_ := Aside0.mk (below_step (by repeat (first | (with_reducible first | exact HB.out | apply below_alloc | apply pw_below_drewN | apply below_drew1) | exact HB.out)) hb); have n1_ := Aside0.mk (hbox); have n2_ := Aside0.mk ((by rw [hg]; exact (below_size (by repeat (first | (with_reducible first | exact HB.out | apply below_alloc | apply pw_below_drewN | apply below_drew1) | exact HB.out))) : w.heap.size ≤ gb101)); have n3_ := Aside0.mk ((by rw [hg]; exact (below_size (by repeat (first | (with_reducible first | exact HB.out | apply below_alloc | apply pw_below_drewN | apply below_drew1) | exact HB.out))) : w.heap.size ≤ gb101)); clear HB; have HB := n0_; have BK101 := n1_; have GW101 := n2_; have GE101 := n3_; clear n0_ n1_ n2_ n3_; clear hb hbox hg) | ((with_reducible refine gate_dst (N := 2) rfl ?_); refine box_event ?hg (N := 2) ?hd (cs := #[.int .u8 0, .int .u64 0, .int .u32 0]) (t := 66) ?hr ?_; (case hd => rfl); (case hg => rfl); (case hr => first | (go_simp; done) | (go_simp; rfl)); intro gb102 hg w3 hbox hb; have n0_ := Aside0.mk (blk_below (g := gb101) (o := .cells #[.int .u8 a0_0, .int .u8 a0_1, .int .u8 a0_2, .int .u8 a0_3, .int .u64 a0_4, .int .u64 a0_5, .int .u32 a0_6, .int .u32 a0_7, .int .u32 a0_8, .int .u64 a0_9, .int .u64 a0_10, .slice A0_11 l0_11.length c0_11, .slice A0_12 l0_12.length c0_12, .slice A0_13 l0_13.length c0_13, .slice A0_14 l0_14.length c0_14, .slice A0_15 l0_15.length c0_15] 37 (0, 0)) (by (with_reducible repeat (first | refine blk_drewN ?_ _ | refine blk_drew ?_ | refine blk_alloc ?_ _)); exact BK101.out) hb); have n1_ := Aside0.mk (below_step (by repeat (first | (with_reducible first | exact HB.out | apply below_alloc | apply pw_below_drewN | apply below_drew1 | refine below_set ?_ GE101.out) | exact HB.out)) hb); have n2_ := Aside0.mk (hbox); have n3_ := Aside0.mk ((by rw [hg]; exact (below_size (by repeat (first | (with_reducible first | exact HB.out | apply below_alloc | apply pw_below_drewN | apply below_drew1 | refine below_set ?_ GE101.out) | exact HB.out))) : w.heap.size ≤ gb102)); have n4_ := Aside0.mk ((by rw [hg]; exact (below_size (by repeat (first | (with_reducible first | exact HB.out | apply below_alloc | apply pw_below_drewN | apply below_drew1 | refine below_set ?_ GE101.out) | exact HB.out))) : w.heap.size ≤ gb102)); have n5_ := Aside0.mk ((by rw [hg]; exact Nat.ne_of_lt (blk_lt (g := gb101) (o := .cells #[.int .u8 a0_0, .int .u8 a0_1, .int .u8 a0_2, .int .u8 a0_3, .int .u64 a0_4, .int .u64 a0_5, .int .u32 a0_6, .int .u32 a0_7, .int .u32 a0_8, .int .u64 a0_9, .int .u64 a0_10, .slice A0_11 l0_11.length c0_11, .slice A0_12 l0_12.length c0_12, .slice A0_13 l0_13.length c0_13, .slice A0_14 l0_14.length c0_14, .slice A0_15 l0_15.length c0_15] 37 (0, 0)) (by (with_reducible repeat (first | refine blk_drewN ?_ _ | refine blk_drew ?_ | refine blk_alloc ?_ _)); exact BK101.out)) : gb101 ≠ gb102)); have n6_ := Aside0.mk ((by rw [hg]; exact Nat.ne_of_gt (blk_lt (g := gb101) (o := .cells #[.int .u8 a0_0, .int .u8 a0_1, .int .u8 a0_2, .int .u8 a0_3, .int .u64 a0_4, .int .u64 a0_5, .int .u32 a0_6, .int .u32 a0_7, .int .u32 a0_8, .int .u64 a0_9, .int .u64 a0_10, .slice A0_11 l0_11.length c0_11, .slice A0_12 l0_12.length c0_12, .slice A0_13 l0_13.length c0_13, .slice A0_14 l0_14.length c0_14, .slice A0_15 l0_15.length c0_15] 37 (0, 0)) (by (with_reducible repeat (first | refine blk_drewN ?_ _ | refine blk_drew ?_ | refine blk_alloc ?_ _)); exact BK101.out)) : gb102 ≠ gb101)); clear BK101; clear HB; have BK101 := n0_; have HB := n1_; have BK102 := n2_; have GW102 := n3_; have GE102 := n4_; have NB101_102 := n5_; have NB102_101 := n6_; clear n0_ n1_ n2_ n3_ n4_ n5_ n6_; clear hb hbox hg; have hnb4 := NB101_102.out; have hnc4 := NB102_101.out; have hcz5_0 : w3.cell? ⟨gb101, 0, none⟩ = some (.int .u8 a0_0) := (blk_cell BK101.out 0).trans rfl; have hcz5_1 : w3.cell? ⟨gb101, 1, none⟩ = some (.int .u8 a0_1) := (blk_cell BK101.out 1).trans rfl; have hcz5_2 : w3.cell? ⟨gb101, 2, none⟩ = some (.int .u8 a0_2) := (blk_cell BK101.out 2).trans rfl; have hcz5_3 : w3.cell? ⟨gb101, 3, none⟩ = some (.int .u8 a0_3) := (blk_cell BK101.out 3).trans rfl; have hcz5_4 : w3.cell? ⟨gb101, 4, none⟩ = some (.int .u64 a0_4) := (blk_cell BK101.out 4).trans rfl; have hcz5_5 : w3.cell? ⟨gb101, 5, none⟩ = some (.int .u64 a0_5) := (blk_cell BK101.out 5).trans rfl; have hcz5_6 : w3.cell? ⟨gb101, 6, none⟩ = some (.int .u32 a0_6) := (blk_cell BK101.out 6).trans rfl; have hcz5_7 : w3.cell? ⟨gb101, 7, none⟩ = some (.int .u32 a0_7) := (blk_cell BK101.out 7).trans rfl; have hcz5_8 : w3.cell? ⟨gb101, 8, none⟩ = some (.int .u32 a0_8) := (blk_cell BK101.out 8).trans rfl; have hcz5_9 : w3.cell? ⟨gb101, 9, none⟩ = some (.int .u64 a0_9) := (blk_cell BK101.out 9).trans rfl; have hcz5_10 : w3.cell? ⟨gb101, 10, none⟩ = some (.int .u64 a0_10) := (blk_cell BK101.out 10).trans rfl; have hcz5_11 : w3.cell? ⟨gb101, 11, none⟩ = some (.slice A0_11 l0_11.length c0_11) := (blk_cell BK101.out 11).trans rfl; have hcz5_12 : w3.cell? ⟨gb101, 12, none⟩ = some (.slice A0_12 l0_12.length c0_12) := (blk_cell BK101.out 12).trans rfl; have hcz5_13 : w3.cell? ⟨gb101, 13, none⟩ = some (.slice A0_13 l0_13.length c0_13) := (blk_cell BK101.out 13).trans rfl; have hcz5_14 : w3.cell? ⟨gb101, 14, none⟩ = some (.slice A0_14 l0_14.length c0_14) := (blk_cell BK101.out 14).trans rfl; have hcz5_15 : w3.cell? ⟨gb101, 15, none⟩ = some (.slice A0_15 l0_15.length c0_15) := (blk_cell BK101.out 15).trans rfl; have hfz5_0 := blk_frozen BK101.out 0; have hfz5_1 := blk_frozen BK101.out 1; have hfz5_2 := blk_frozen BK101.out 2; have hfz5_3 := blk_frozen BK101.out 3; have hfz5_4 := blk_frozen BK101.out 4; have hfz5_5 := blk_frozen BK101.out 5; have hfz5_6 := blk_frozen BK101.out 6; have hfz5_7 := blk_frozen BK101.out 7; have hfz5_8 := blk_frozen BK101.out 8; have hfz5_9 := blk_frozen BK101.out 9; have hfz5_10 := blk_frozen BK101.out 10; have hfz5_11 := blk_frozen BK101.out 11; have hfz5_12 := blk_frozen BK101.out 12; have hfz5_13 := blk_frozen BK101.out 13; have hfz5_14 := blk_frozen BK101.out 14; have hfz5_15 := blk_frozen BK101.out 15; have hcz6_0 : w3.cell? ⟨gb102, 0, none⟩ = some (.int .u8 0) := (blk_cell BK102.out 0).trans rfl; have hcz6_1 : w3.cell? ⟨gb102, 1, none⟩ = some (.int .u64 0) := (blk_cell BK102.out 1).trans rfl; have hcz6_2 : w3.cell? ⟨gb102, 2, none⟩ = some (.int .u32 0) := (blk_cell BK102.out 2).trans rfl; have hfz6_0 := blk_frozen BK102.out 0; have hfz6_1 := blk_frozen BK102.out 1; have hfz6_2 := blk_frozen BK102.out 2))
  refine bodyPost_ret (results_cell_row rfl _ _ gb102 66 #[.int .u8 a0_3, .int .u64 a0_4, .int .u32 a0_6] (0, 0) _ rfl (by (with_reducible repeat (first | refine blk_drewN ?_ _ | refine blk_drew ?_ | refine blk_alloc ?_ _)); refine blk_put (cs := #[.int .u8 a0_3, .int .u64 a0_4, .int .u32 0]) ?_ 2 _ rfl; (with_reducible repeat (first | refine blk_drewN ?_ _ | refine blk_drew ?_ | refine blk_alloc ?_ _)); refine blk_put (cs := #[.int .u8 a0_3, .int .u64 0, .int .u32 0]) ?_ 1 _ rfl; (with_reducible repeat (first | refine blk_drewN ?_ _ | refine blk_drew ?_ | refine blk_alloc ?_ _)); refine blk_put (cs := #[.int .u8 0, .int .u64 0, .int .u32 0]) ?_ 0 _ rfl; (with_reducible repeat (first | refine blk_drewN ?_ _ | refine blk_drew ?_ | refine blk_alloc ?_ _)); exact BK102.out) Try.underlying66 rfl (by kernel_rfl)) rfl ?_
  exact ⟨by first | rfl | (simp [errW_none, errW_some] <;> rfl) | (simp [*, errW_none, errW_some] <;> rfl), by repeat (first | (with_reducible first | exact HB.out | apply below_alloc | apply pw_below_drewN | apply below_drew1 | refine below_set ?_ GE101.out | refine below_set ?_ GE102.out) | exact HB.out)⟩

/-! ### api_Run: function 32 -/
/-- slices.Clone: the same elements, in new memory (or nil). By hand. -/
def api_Run.f (l0 : List S78) : Option (List S78) := if l0.length < 5864062014805 then some l0 else none
set_option maxHeartbeats 1000000 in
theorem api_Run.calls (A0 : Option Addr) (c0 : Nat) (l0 : List S78) (r : List S78) (w : World) (hr0 : Kd.C k78 w A0 l0.length l0) (hc0 : l0.length ≤ c0) (h : api_Run.f l0 = some r) :
    Calls Try.prog 32 #[.slice A0 l0.length c0] w fun e w' => ∃ v0_ : Value, e = .returned v0_ ∧ Kd.R k78 78 w' w.heap.size (fun _ => True) v0_ r ∧ Below w.heap.size w w' := by
  unfold api_Run.f at h
  by_cases hl : l0.length < 5864062014805
  · rw [if_pos hl] at h
    obtain rfl := Option.some.inj h
    have HR := Aside0.mk hr0
    have HL := Aside0.mk hl
    clear hr0 hl h
    have hq : ∀ (w : World) (a : Option Addr) (n c n' c' : Nat), (binOp .eql 34 (.slice a n c) (.slice none n' c')).run Try.prog w = .ok (.bool a.isNone) w := fun w a n c n' c' => Lib.run_eql_slice_nil w 34 78 a n c n' c' Try.underlying34
    cases A0 with
    | none =>
      have h0 : l0 = [] := by
        obtain ⟨h1, _, h3⟩ := HR.out
        by_cases h : 0 < l0.length
        · exact absurd (h3 h) (by simp)
        · exact List.eq_nil_of_length_eq_zero (by omega)
      subst h0
      go_enter Try.func32, Try.ntmps32
      go_wp2
      go_ret
      exact ⟨_, rfl, Kd.R_nil _ _ _ _ _, Below.refl _ _⟩
    | some ad =>
      have hm : Kd.R k78 78 (w.alloc (.cells #[] 78)) w.heap.size (fun _ => True) (.slice (some ⟨w.heap.size, 0, none⟩) 0 0) [] :=
        ⟨fun _ _ => trivial, [], World.ownsRow_made w #[] 0 (Nat.le_refl _) (by simp) (by simp), Reps.none _ _⟩
      have HM := Aside0.mk hm
      clear hm
      go_enter Try.func32, Try.ntmps32
      go_wp2_with ((with_reducible refine gate_dst (N := 7) rfl ?_); refine Kd.R_append_rows k78 (Rr := fun x cs => Kd.K k78 (w.alloc (.cells #[] 78)) x cs) (w0 := w) w.heap.size rfl (.tmp 5) (.tmp 6) 34 78 (.agg #[.int .u8 0, .int .u64 0, .int .u64 0]) 24 rfl Try.underlying34 info78 rfl (by decide) (by decide) _ [] l0 (some ad) l0.length c0 (fun _ => True) (fun _ => False) rfl rfl HM.out (Kd.C_alloc HR.out _) (fun x cs hx => by obtain rfl := k78_open hx; exact k78_mkM _ _ _ x) (fun _ hf => hf.elim) (fun _ _ => trivial) (below_alloc (Below.refl _ _) _) (by simp) (by have := HL.out; simp only [List.length_nil, Nat.zero_add]; omega) ?_; intro v1 w1 ho1 hb1 _ _; have HO := Aside0.mk ho1; have HB := Aside0.mk hb1; clear ho1 hb1)
      go_ret
      exact ⟨_, rfl, HO.out, HB.out⟩
  · rw [if_neg hl] at h
    cases h

/-! ### slices_Clone_uint64_uint64: function 33 -/
/-- slices.Clone: the same elements, in new memory (or nil). By hand. -/
def slices_Clone_uint64_uint64.f (l0 : List Int) : Option (List Int) := if l0.length < 17592186044416 then some l0 else none
set_option maxHeartbeats 1000000 in
theorem slices_Clone_uint64_uint64.calls (A0 : Option Addr) (c0 : Nat) (l0 : List Int) (r : List Int) (w : World) (hr0 : Kd.C (Kd.int .u64) w A0 l0.length l0) (hc0 : l0.length ≤ c0) (h : slices_Clone_uint64_uint64.f l0 = some r) :
    Calls Try.prog 33 #[.slice A0 l0.length c0] w fun e w' => ∃ v0_ : Value, e = .returned v0_ ∧ Kd.R (Kd.int .u64) 31 w' w.heap.size (fun _ => True) v0_ r ∧ Below w.heap.size w w' := by
  unfold slices_Clone_uint64_uint64.f at h
  by_cases hl : l0.length < 17592186044416
  · rw [if_pos hl] at h
    obtain rfl := Option.some.inj h
    have HR := Aside0.mk hr0
    have HL := Aside0.mk hl
    clear hr0 hl h
    have hq : ∀ (w : World) (a : Option Addr) (n c n' c' : Nat), (binOp .eql 35 (.slice a n c) (.slice none n' c')).run Try.prog w = .ok (.bool a.isNone) w := fun w a n c n' c' => Lib.run_eql_slice_nil w 35 31 a n c n' c' Try.underlying35
    cases A0 with
    | none =>
      have h0 : l0 = [] := by
        obtain ⟨h1, _, h3⟩ := HR.out
        by_cases h : 0 < l0.length
        · exact absurd (h3 h) (by simp)
        · exact List.eq_nil_of_length_eq_zero (by omega)
      subst h0
      go_enter Try.func33, Try.ntmps33
      go_wp2
      go_ret
      exact ⟨_, rfl, Kd.R_nil _ _ _ _ _, Below.refl _ _⟩
    | some ad =>
      have hm : Kd.R (Kd.int .u64) 31 (w.alloc (.cells #[] 31)) w.heap.size (fun _ => True) (.slice (some ⟨w.heap.size, 0, none⟩) 0 0) [] :=
        ⟨fun _ _ => trivial, [], World.ownsRow_made w #[] 0 (Nat.le_refl _) (by simp) (by simp), Reps.none _ _⟩
      have HM := Aside0.mk hm
      clear hm
      go_enter Try.func33, Try.ntmps33
      go_wp2_with ((with_reducible refine gate_dst (N := 7) rfl ?_); refine Kd.R_append_rows (Kd.int .u64) (Rr := fun x cs => Kd.K (Kd.int .u64) (w.alloc (.cells #[] 31)) x cs) (w0 := w) w.heap.size rfl (.tmp 5) (.tmp 6) 35 31 (.int .u64 0) 8 rfl Try.underlying35 info31 rfl (by decide) (by decide) _ [] l0 (some ad) l0.length c0 (fun _ => True) (fun _ => False) rfl rfl HM.out (Kd.C_alloc HR.out _) (fun x cs hx => hx) (fun _ hf => hf.elim) (fun _ _ => trivial) (below_alloc (Below.refl _ _) _) (by simp) (by have := HL.out; simp only [List.length_nil, Nat.zero_add]; omega) ?_; intro v1 w1 ho1 hb1 _ _; have HO := Aside0.mk ho1; have HB := Aside0.mk hb1; clear ho1 hb1)
      go_ret
      exact ⟨_, rfl, HO.out, HB.out⟩
  · rw [if_neg hl] at h
    cases h

/-! ### slices_Clone_byte_byte: function 34 -/
/-- slices.Clone: the same elements, in new memory (or nil). By hand. -/
def slices_Clone_byte_byte.f (l0 : List Int) : Option (List Int) := if l0.length < 140737488355328 then some l0 else none
set_option maxHeartbeats 1000000 in
theorem slices_Clone_byte_byte.calls (A0 : Option Addr) (c0 : Nat) (l0 : List Int) (r : List Int) (w : World) (hr0 : Kd.C (Kd.int .u8) w A0 l0.length l0) (hc0 : l0.length ≤ c0) (h : slices_Clone_byte_byte.f l0 = some r) :
    Calls Try.prog 34 #[.slice A0 l0.length c0] w fun e w' => ∃ v0_ : Value, e = .returned v0_ ∧ Kd.R (Kd.int .u8) 5 w' w.heap.size (fun _ => True) v0_ r ∧ Below w.heap.size w w' := by
  unfold slices_Clone_byte_byte.f at h
  by_cases hl : l0.length < 140737488355328
  · rw [if_pos hl] at h
    obtain rfl := Option.some.inj h
    have HR := Aside0.mk hr0
    have HL := Aside0.mk hl
    clear hr0 hl h
    have hq : ∀ (w : World) (a : Option Addr) (n c n' c' : Nat), (binOp .eql 23 (.slice a n c) (.slice none n' c')).run Try.prog w = .ok (.bool a.isNone) w := fun w a n c n' c' => Lib.run_eql_slice_nil w 23 5 a n c n' c' Try.underlying23
    cases A0 with
    | none =>
      have h0 : l0 = [] := by
        obtain ⟨h1, _, h3⟩ := HR.out
        by_cases h : 0 < l0.length
        · exact absurd (h3 h) (by simp)
        · exact List.eq_nil_of_length_eq_zero (by omega)
      subst h0
      go_enter Try.func34, Try.ntmps34
      go_wp2
      go_ret
      exact ⟨_, rfl, Kd.R_nil _ _ _ _ _, Below.refl _ _⟩
    | some ad =>
      have hm : Kd.R (Kd.int .u8) 5 (w.alloc (.cells #[] 5)) w.heap.size (fun _ => True) (.slice (some ⟨w.heap.size, 0, none⟩) 0 0) [] :=
        ⟨fun _ _ => trivial, [], World.ownsRow_made w #[] 0 (Nat.le_refl _) (by simp) (by simp), Reps.none _ _⟩
      have HM := Aside0.mk hm
      clear hm
      go_enter Try.func34, Try.ntmps34
      go_wp2_with ((with_reducible refine gate_dst (N := 7) rfl ?_); refine Kd.R_append_rows (Kd.int .u8) (Rr := fun x cs => Kd.K (Kd.int .u8) (w.alloc (.cells #[] 5)) x cs) (w0 := w) w.heap.size rfl (.tmp 5) (.tmp 6) 23 5 (.int .u8 0) 1 rfl Try.underlying23 info5 rfl (by decide) (by decide) _ [] l0 (some ad) l0.length c0 (fun _ => True) (fun _ => False) rfl rfl HM.out (Kd.C_alloc HR.out _) (fun x cs hx => hx) (fun _ hf => hf.elim) (fun _ _ => trivial) (below_alloc (Below.refl _ _) _) (by simp) (by have := HL.out; simp only [List.length_nil, Nat.zero_add]; omega) ?_; intro v1 w1 ho1 hb1 _ _; have HO := Aside0.mk ho1; have HB := Aside0.mk hb1; clear ho1 hb1)
      go_ret
      exact ⟨_, rfl, HO.out, HB.out⟩
  · rw [if_neg hl] at h
    cases h

end Go.Proofs.Ytiiajenhjamjdaa.F
