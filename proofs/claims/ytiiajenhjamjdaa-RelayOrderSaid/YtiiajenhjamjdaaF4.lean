/- What is proved: the Go functions that the law reaches come to what the Lean functions beside them tell, and (in the text of the law) the given statement follows. Conditions: none beyond each theorem's own. Written by a program (a turned copy of the kit's print.py), some walks by hand. -/
import Derived.Test.YtiiajenhjamjdaaF0
import Derived.Test.YtiiajenhjamjdaaF3
namespace Go.Proofs.Ytiiajenhjamjdaa.F
open Go.RowKit Go.Proofs.YtiiajenhjamjdaaW.PrintWords Go.Proofs.YtiiajenhjamjdaaW.PrintLast Go.Proofs.YtiiajenhjamjdaaW.PrintMore
attribute [local go_sem] max2_int min2_int max_two min_two max_three min_three max_four min_four   -- for this text's walks alone
set_option linter.unusedVariables false
set_option linter.unusedSimpArgs false

/-! ### relay_own: function 21 -/
def relay_own.f (a0_0 : Int) (a0_1 : Int) (a0_2 : Int) (a0_3 : Int) (a0_4 : Int) (a0_5 : Int) (a0_6 : Int) (a0_7 : Int) (a0_8 : Int) (a0_9 : Int) (a0_10 : Int) (l0_11 : List (S78)) (l0_12 : List (S78)) (l0_13 : List Int) (l0_14 : List Int) (l0_15 : List Int) : Option (Int × Int × Int × Int × Int × Int × Int × Int × Int × Int × Int × (List (S78)) × (List (S78)) × List Int × List Int × List Int) := (api_Run.f l0_11).bind fun t105 => ((api_Run.f l0_12).bind fun t108 => ((slices_Clone_uint64_uint64.f l0_13).bind fun t111 => ((slices_Clone_uint64_uint64.f l0_14).bind fun t114 => ((slices_Clone_byte_byte.f l0_15).bind fun t117 => (some (a0_0, a0_1, a0_2, a0_3, a0_4, a0_5, a0_6, a0_7, a0_8, a0_9, a0_10, t105, t108, t111, t114, t117))))))
def relay_own.T1 : Bool × List (List Nat × List Nat) := (true, [([], []), ([0], [0]), ([1], [1]), ([], []), ([3], [3]), ([4, 2], [4]), ([0, 1, 2, 3, 4], []), ([6, 2, 5, 0, 1, 2, 3, 4], [2, 6]), ([0, 1, 2, 3, 4, 5, 6, 7], []), ([8, 5, 7, 0, 1, 2, 3, 4, 5, 6, 7], [5, 8])])
def relay_own.B1 : List Nat := [0, 1, 3, 0, 8, 31, 31, 127, 255, 511]
theorem relay_own.tab1 : rtab .any (opsOf Try.f21 1) = relay_own.T1 := by kernel_rfl
theorem relay_own.bits1 : waitsOk relay_own.T1.2 relay_own.B1 = true := by kernel_rfl
def relay_own.T2 : Bool × List (List Nat × List Nat) := (true, [([], []), ([0], [0]), ([1], [1]), ([], []), ([3], [3]), ([4, 2], [4]), ([0, 1, 2, 3, 4], []), ([6, 2, 5, 0, 1, 2, 3, 4], [2, 6]), ([0, 1, 2, 3, 4, 5, 6, 7], []), ([8, 5, 7, 0, 1, 2, 3, 4, 5, 6, 7], [5, 8])])
def relay_own.B2 : List Nat := [0, 1, 3, 0, 8, 31, 31, 127, 255, 511]
theorem relay_own.tab2 : rtab .any (opsOf Try.f21 2) = relay_own.T2 := by kernel_rfl
theorem relay_own.bits2 : waitsOk relay_own.T2.2 relay_own.B2 = true := by kernel_rfl
set_option maxHeartbeats 8000000 in
set_option maxRecDepth 100000 in
theorem relay_own.calls (a0_0 : Int) (a0_1 : Int) (a0_2 : Int) (a0_3 : Int) (a0_4 : Int) (a0_5 : Int) (a0_6 : Int) (a0_7 : Int) (a0_8 : Int) (a0_9 : Int) (a0_10 : Int) (A0_11 : Option Addr) (c0_11 : Nat) (l0_11 : List (S78)) (A0_12 : Option Addr) (c0_12 : Nat) (l0_12 : List (S78)) (A0_13 : Option Addr) (c0_13 : Nat) (l0_13 : List Int) (A0_14 : Option Addr) (c0_14 : Nat) (l0_14 : List Int) (A0_15 : Option Addr) (c0_15 : Nat) (l0_15 : List Int) (r1 : Int) (r2 : Int) (r3 : Int) (r4 : Int) (r5 : Int) (r6 : Int) (r7 : Int) (r8 : Int) (r9 : Int) (r10 : Int) (r11 : Int) (r12 : List (S78)) (r13 : List (S78)) (r14 : List Int) (r15 : List Int) (r16 : List Int) (w : World) (hr0_11 : Kd.C k78 w A0_11 l0_11.length l0_11) (hc0_11 : l0_11.length ≤ c0_11) (hr0_12 : Kd.C k78 w A0_12 l0_12.length l0_12) (hc0_12 : l0_12.length ≤ c0_12) (hr0_13 : Kd.C (Kd.int .u64) w A0_13 l0_13.length l0_13) (hc0_13 : l0_13.length ≤ c0_13) (hr0_14 : Kd.C (Kd.int .u64) w A0_14 l0_14.length l0_14) (hc0_14 : l0_14.length ≤ c0_14) (hr0_15 : Kd.C (Kd.int .u8) w A0_15 l0_15.length l0_15) (hc0_15 : l0_15.length ≤ c0_15) (h : relay_own.f a0_0 a0_1 a0_2 a0_3 a0_4 a0_5 a0_6 a0_7 a0_8 a0_9 a0_10 l0_11 l0_12 l0_13 l0_14 l0_15 = some (r1, r2, r3, r4, r5, r6, r7, r8, r9, r10, r11, r12, r13, r14, r15, r16)) :
    Calls Try.prog 21 #[.agg #[.int .u8 a0_0, .int .u8 a0_1, .int .u8 a0_2, .int .u8 a0_3, .int .u64 a0_4, .int .u64 a0_5, .int .u32 a0_6, .int .u32 a0_7, .int .u32 a0_8, .int .u64 a0_9, .int .u64 a0_10, .slice A0_11 l0_11.length c0_11, .slice A0_12 l0_12.length c0_12, .slice A0_13 l0_13.length c0_13, .slice A0_14 l0_14.length c0_14, .slice A0_15 l0_15.length c0_15]] w fun e w' => ∃ v11_ v12_ v13_ v14_ v15_ : Value, e = .returned (.agg #[.int .u8 r1, .int .u8 r2, .int .u8 r3, .int .u8 r4, .int .u64 r5, .int .u64 r6, .int .u32 r7, .int .u32 r8, .int .u32 r9, .int .u64 r10, .int .u64 r11, v11_, v12_, v13_, v14_, v15_]) ∧ Kd.R k78 78 w' w.heap.size (fun k_ => some k_ ≠ (v12_ : Value).ownBlock) v11_ r12 ∧ Kd.R k78 78 w' w.heap.size (fun k_ => some k_ ≠ (v11_ : Value).ownBlock) v12_ r13 ∧ Kd.R (Kd.int .u64) 31 w' w.heap.size (fun k_ => some k_ ≠ (v14_ : Value).ownBlock) v13_ r14 ∧ Kd.R (Kd.int .u64) 31 w' w.heap.size (fun k_ => some k_ ≠ (v13_ : Value).ownBlock) v14_ r15 ∧ Kd.R (Kd.int .u8) 5 w' w.heap.size (fun _ => True) v15_ r16 ∧ Below w.heap.size w w' := by
  have hu37 := Try.underlying37
  have HR0_11 := Aside0.mk hr0_11
  have HC0_11 := Aside0.mk hc0_11
  clear hr0_11 hc0_11
  have HR0_12 := Aside0.mk hr0_12
  have HC0_12 := Aside0.mk hc0_12
  clear hr0_12 hc0_12
  have HR0_13 := Aside0.mk hr0_13
  have HC0_13 := Aside0.mk hc0_13
  clear hr0_13 hc0_13
  have HR0_14 := Aside0.mk hr0_14
  have HC0_14 := Aside0.mk hc0_14
  clear hr0_14 hc0_14
  have HR0_15 := Aside0.mk hr0_15
  have HC0_15 := Aside0.mk hc0_15
  clear hr0_15 hc0_15
  have HB := Aside0.mk (Below.refl w.heap.size w)
  have H : ((api_Run.f l0_11).bind fun t105 => ((api_Run.f l0_12).bind fun t108 => ((slices_Clone_uint64_uint64.f l0_13).bind fun t111 => ((slices_Clone_uint64_uint64.f l0_14).bind fun t114 => ((slices_Clone_byte_byte.f l0_15).bind fun t117 => (some (a0_0, a0_1, a0_2, a0_3, a0_4, a0_5, a0_6, a0_7, a0_8, a0_9, a0_10, t105, t108, t111, t114, t117))))))) = some (r1, r2, r3, r4, r5, r6, r7, r8, r9, r10, r11, r12, r13, r14, r15, r16) := h
  clear h
  replace H := Option.bind_eq_some_iff.mp H
  obtain ⟨t105, A20, H⟩ := H
  replace H : ((api_Run.f l0_12).bind fun t108 => ((slices_Clone_uint64_uint64.f l0_13).bind fun t111 => ((slices_Clone_uint64_uint64.f l0_14).bind fun t114 => ((slices_Clone_byte_byte.f l0_15).bind fun t117 => (some (a0_0, a0_1, a0_2, a0_3, a0_4, a0_5, a0_6, a0_7, a0_8, a0_9, a0_10, t105, t108, t111, t114, t117)))))) = some (r1, r2, r3, r4, r5, r6, r7, r8, r9, r10, r11, r12, r13, r14, r15, r16) := H
  have A2 := Aside0.mk A20
  clear A20
  replace H := Option.bind_eq_some_iff.mp H
  obtain ⟨t108, A30, H⟩ := H
  replace H : ((slices_Clone_uint64_uint64.f l0_13).bind fun t111 => ((slices_Clone_uint64_uint64.f l0_14).bind fun t114 => ((slices_Clone_byte_byte.f l0_15).bind fun t117 => (some (a0_0, a0_1, a0_2, a0_3, a0_4, a0_5, a0_6, a0_7, a0_8, a0_9, a0_10, t105, t108, t111, t114, t117))))) = some (r1, r2, r3, r4, r5, r6, r7, r8, r9, r10, r11, r12, r13, r14, r15, r16) := H
  have A3 := Aside0.mk A30
  clear A30
  replace H := Option.bind_eq_some_iff.mp H
  obtain ⟨t111, A40, H⟩ := H
  replace H : ((slices_Clone_uint64_uint64.f l0_14).bind fun t114 => ((slices_Clone_byte_byte.f l0_15).bind fun t117 => (some (a0_0, a0_1, a0_2, a0_3, a0_4, a0_5, a0_6, a0_7, a0_8, a0_9, a0_10, t105, t108, t111, t114, t117)))) = some (r1, r2, r3, r4, r5, r6, r7, r8, r9, r10, r11, r12, r13, r14, r15, r16) := H
  have A4 := Aside0.mk A40
  clear A40
  replace H := Option.bind_eq_some_iff.mp H
  obtain ⟨t114, A50, H⟩ := H
  replace H : ((slices_Clone_byte_byte.f l0_15).bind fun t117 => (some (a0_0, a0_1, a0_2, a0_3, a0_4, a0_5, a0_6, a0_7, a0_8, a0_9, a0_10, t105, t108, t111, t114, t117))) = some (r1, r2, r3, r4, r5, r6, r7, r8, r9, r10, r11, r12, r13, r14, r15, r16) := H
  have A5 := Aside0.mk A50
  clear A50
  replace H := Option.bind_eq_some_iff.mp H
  obtain ⟨t117, A60, H⟩ := H
  replace H : (some (a0_0, a0_1, a0_2, a0_3, a0_4, a0_5, a0_6, a0_7, a0_8, a0_9, a0_10, t105, t108, t111, t114, t117)) = some (r1, r2, r3, r4, r5, r6, r7, r8, r9, r10, r11, r12, r13, r14, r15, r16) := H
  have A6 := Aside0.mk A60
  clear A60
  simp only [Option.some.injEq, Prod.mk.injEq] at H
  obtain ⟨rfl, rfl, rfl, rfl, rfl, rfl, rfl, rfl, rfl, rfl, rfl, rfl, rfl, rfl, rfl, rfl⟩ := H
  go_enter Try.func21, Try.ntmps21
  try go_wp2_with (first | ((with_reducible refine gate_dst (N := 1) rfl ?_); refine box_event ?hg (N := 1) ?hd (cs := #[.int .u8 a0_0, .int .u8 a0_1, .int .u8 a0_2, .int .u8 a0_3, .int .u64 a0_4, .int .u64 a0_5, .int .u32 a0_6, .int .u32 a0_7, .int .u32 a0_8, .int .u64 a0_9, .int .u64 a0_10, .slice A0_11 l0_11.length c0_11, .slice A0_12 l0_12.length c0_12, .slice A0_13 l0_13.length c0_13, .slice A0_14 l0_14.length c0_14, .slice A0_15 l0_15.length c0_15]) (t := 37) ?hr ?_; (case hd => rfl); (case hg => rfl); (case hr => first | (go_simp; done) | (go_simp; rfl)); intro gb103 hg w7 hbox hb; have n0_ := Aside0.mk (below_step (by repeat (first | (with_reducible first | exact HB.out | apply below_alloc | apply pw_below_drewN | apply below_drew1) | exact HB.out)) hb); have n1_ := Aside0.mk (hbox); have n2_ := Aside0.mk ((by rw [hg]; exact (below_size (by repeat (first | (with_reducible first | exact HB.out | apply below_alloc | apply pw_below_drewN | apply below_drew1) | exact HB.out))) : w.heap.size ≤ gb103)); have n3_ := Aside0.mk ((by rw [hg]; exact (below_size (by repeat (first | (with_reducible first | exact HB.out | apply below_alloc | apply pw_below_drewN | apply below_drew1) | exact HB.out))) : w.heap.size ≤ gb103)); clear HB; have HB := n0_; have BK103 := n1_; have GW103 := n2_; have GE103 := n3_; clear n0_ n1_ n2_ n3_; clear hb hbox hg) | ((with_reducible refine gate_dst (N := 2) rfl ?_); refine box_event ?hg (N := 2) ?hd (cs := #[.int .u8 0, .int .u8 0, .int .u8 0, .int .u8 0, .int .u64 0, .int .u64 0, .int .u32 0, .int .u32 0, .int .u32 0, .int .u64 0, .int .u64 0, .slice none 0 0, .slice none 0 0, .slice none 0 0, .slice none 0 0, .slice none 0 0]) (t := 37) ?hr ?_; (case hd => rfl); (case hg => rfl); (case hr => first | (go_simp; done) | (go_simp; rfl)); intro gb104 hg w8 hbox hb; have n0_ := Aside0.mk (blk_below (g := gb103) (o := .cells #[.int .u8 a0_0, .int .u8 a0_1, .int .u8 a0_2, .int .u8 a0_3, .int .u64 a0_4, .int .u64 a0_5, .int .u32 a0_6, .int .u32 a0_7, .int .u32 a0_8, .int .u64 a0_9, .int .u64 a0_10, .slice A0_11 l0_11.length c0_11, .slice A0_12 l0_12.length c0_12, .slice A0_13 l0_13.length c0_13, .slice A0_14 l0_14.length c0_14, .slice A0_15 l0_15.length c0_15] 37 (0, 0)) (by (with_reducible repeat (first | refine blk_drewN ?_ _ | refine blk_drew ?_ | refine blk_alloc ?_ _)); exact BK103.out) hb); have n1_ := Aside0.mk (below_step (by repeat (first | (with_reducible first | exact HB.out | apply below_alloc | apply pw_below_drewN | apply below_drew1 | refine below_set ?_ GE103.out) | exact HB.out)) hb); have n2_ := Aside0.mk (hbox); have n3_ := Aside0.mk ((by rw [hg]; exact (below_size (by repeat (first | (with_reducible first | exact HB.out | apply below_alloc | apply pw_below_drewN | apply below_drew1 | refine below_set ?_ GE103.out) | exact HB.out))) : w.heap.size ≤ gb104)); have n4_ := Aside0.mk ((by rw [hg]; exact (below_size (by repeat (first | (with_reducible first | exact HB.out | apply below_alloc | apply pw_below_drewN | apply below_drew1 | refine below_set ?_ GE103.out) | exact HB.out))) : w.heap.size ≤ gb104)); have n5_ := Aside0.mk ((by rw [hg]; exact Nat.ne_of_lt (blk_lt (g := gb103) (o := .cells #[.int .u8 a0_0, .int .u8 a0_1, .int .u8 a0_2, .int .u8 a0_3, .int .u64 a0_4, .int .u64 a0_5, .int .u32 a0_6, .int .u32 a0_7, .int .u32 a0_8, .int .u64 a0_9, .int .u64 a0_10, .slice A0_11 l0_11.length c0_11, .slice A0_12 l0_12.length c0_12, .slice A0_13 l0_13.length c0_13, .slice A0_14 l0_14.length c0_14, .slice A0_15 l0_15.length c0_15] 37 (0, 0)) (by (with_reducible repeat (first | refine blk_drewN ?_ _ | refine blk_drew ?_ | refine blk_alloc ?_ _)); exact BK103.out)) : gb103 ≠ gb104)); have n6_ := Aside0.mk ((by rw [hg]; exact Nat.ne_of_gt (blk_lt (g := gb103) (o := .cells #[.int .u8 a0_0, .int .u8 a0_1, .int .u8 a0_2, .int .u8 a0_3, .int .u64 a0_4, .int .u64 a0_5, .int .u32 a0_6, .int .u32 a0_7, .int .u32 a0_8, .int .u64 a0_9, .int .u64 a0_10, .slice A0_11 l0_11.length c0_11, .slice A0_12 l0_12.length c0_12, .slice A0_13 l0_13.length c0_13, .slice A0_14 l0_14.length c0_14, .slice A0_15 l0_15.length c0_15] 37 (0, 0)) (by (with_reducible repeat (first | refine blk_drewN ?_ _ | refine blk_drew ?_ | refine blk_alloc ?_ _)); exact BK103.out)) : gb104 ≠ gb103)); clear BK103; clear HB; have BK103 := n0_; have HB := n1_; have BK104 := n2_; have GW104 := n3_; have GE104 := n4_; have NB103_104 := n5_; have NB104_103 := n6_; clear n0_ n1_ n2_ n3_ n4_ n5_ n6_; clear hb hbox hg))
  have n0_ := Aside0.mk (blk_drew BK103.out)
  have n1_ := Aside0.mk (blk_drew BK104.out)
  have n2_ := Aside0.mk (below_drew1 HB.out)
  clear BK103
  clear BK104
  clear HB
  have BK103 := n0_
  have BK104 := n1_
  have HB := n2_
  clear n0_ n1_ n2_
  refine start_ (n := 10) (S := fun w' => w'.cell? ⟨gb103, 0, none⟩ = some (.int .u8 a0_0) ∧ w'.cell? ⟨gb103, 1, none⟩ = some (.int .u8 a0_1) ∧ w'.cell? ⟨gb103, 2, none⟩ = some (.int .u8 a0_2) ∧ w'.cell? ⟨gb103, 3, none⟩ = some (.int .u8 a0_3) ∧ w'.cell? ⟨gb103, 4, none⟩ = some (.int .u64 a0_4) ∧ w'.cell? ⟨gb103, 5, none⟩ = some (.int .u64 a0_5) ∧ w'.cell? ⟨gb103, 6, none⟩ = some (.int .u32 a0_6) ∧ w'.cell? ⟨gb103, 7, none⟩ = some (.int .u32 a0_7) ∧ w'.cell? ⟨gb103, 8, none⟩ = some (.int .u32 a0_8) ∧ w'.cell? ⟨gb103, 9, none⟩ = some (.int .u64 a0_9) ∧ w'.cell? ⟨gb103, 10, none⟩ = some (.int .u64 a0_10) ∧ w'.cell? ⟨gb103, 11, none⟩ = some (.slice A0_11 l0_11.length c0_11) ∧ w'.cell? ⟨gb103, 12, none⟩ = some (.slice A0_12 l0_12.length c0_12) ∧ w'.cell? ⟨gb103, 13, none⟩ = some (.slice A0_13 l0_13.length c0_13) ∧ w'.cell? ⟨gb103, 14, none⟩ = some (.slice A0_14 l0_14.length c0_14) ∧ w'.cell? ⟨gb103, 15, none⟩ = some (.slice A0_15 l0_15.length c0_15)) (ds := [7, 9]) #[false, false, false, false, false, false, false, false, false, false] (by kernel_rfl) rfl rfl ⟨(blk_cell BK103.out 0).trans rfl, (blk_cell BK103.out 1).trans rfl, (blk_cell BK103.out 2).trans rfl, (blk_cell BK103.out 3).trans rfl, (blk_cell BK103.out 4).trans rfl, (blk_cell BK103.out 5).trans rfl, (blk_cell BK103.out 6).trans rfl, (blk_cell BK103.out 7).trans rfl, (blk_cell BK103.out 8).trans rfl, (blk_cell BK103.out 9).trans rfl, (blk_cell BK103.out 10).trans rfl, (blk_cell BK103.out 11).trans rfl, (blk_cell BK103.out 12).trans rfl, (blk_cell BK103.out 13).trans rfl, (blk_cell BK103.out 14).trans rfl, (blk_cell BK103.out 15).trans rfl⟩ (fun hHeld => ?_); refine with_tabW relay_own.tab1 relay_own.bits1 (fun HT_ HW_ => ?_)
  generalize w8.drew = w9 at BK103 BK104 HB hHeld ⊢
  refine pure_ (i := 0) (N := some 3) (v := ?_) (a' := ?_) #[true, false, false, false, false, false, false, false, false, false] rfl rfl (any_of HT_.out (by kernel_rfl)) (fun _ _ _ h => h) (Or.inl ⟨by rfl, ?_⟩) ?_ ?_
  rotate_left
  · intro w'
    go_simp
    with_reducible rfl
  rotate_left
  · simp only [Act.put, List.setIfInBounds_toArray, List.set_cons_zero, List.set_cons_succ, i64_w, i32_w]
    rfl
  refine pure_ (i := 3) (N := some 6) (v := ?_) (a' := ?_) #[true, false, false, true, false, false, false, false, false, false] rfl rfl (any_of HT_.out (by kernel_rfl)) (fun _ _ _ h => h) (Or.inl ⟨by rfl, ?_⟩) ?_ ?_
  rotate_left
  · intro w'
    go_simp
    with_reducible rfl
  rotate_left
  · simp only [Act.put, List.setIfInBounds_toArray, List.set_cons_zero, List.set_cons_succ, i64_w, i32_w]
    rfl
  refine take_ (i := 1) (N := some 4) (v := ?_) (a' := ?_) #[true, true, false, true, false, false, false, false, false, false] rfl rfl (take_ofW HT_.out HW_.out (by kernel_rfl)) (fun _ _ _ h => h) (Or.inl ⟨by rfl, ?_⟩) hHeld ?_ ?_
  rotate_left
  · rintro w' ⟨s0, s1, s2, s3, s4, s5, s6, s7, s8, s9, s10, s11, s12, s13, s14, s15⟩
    go_simp
    with_reducible rfl
  rotate_left
  · simp only [Act.put, List.setIfInBounds_toArray, List.set_cons_zero, List.set_cons_succ, i64_w, i32_w]
    rfl
  refine take_ (i := 4) (N := some 7) (v := ?_) (a' := ?_) #[true, true, false, true, true, false, false, false, false, false] rfl rfl (take_ofW HT_.out HW_.out (by kernel_rfl)) (fun _ _ _ h => h) (Or.inl ⟨by rfl, ?_⟩) hHeld ?_ ?_
  rotate_left
  · rintro w' ⟨s0, s1, s2, s3, s4, s5, s6, s7, s8, s9, s10, s11, s12, s13, s14, s15⟩
    go_simp
    with_reducible rfl
  rotate_left
  · simp only [Act.put, List.setIfInBounds_toArray, List.set_cons_zero, List.set_cons_succ, i64_w, i32_w]
    rfl
  refine one_ (i := 2) (N := some 5) #[true, true, true, true, true, false, false, false, false, false] rfl rfl (one_of HT_.out (by kernel_rfl)) (by decide) (fun K hK => ?_)
  refine goes_ Try.func32 (by kernel_rfl) rfl #[.slice A0_11 l0_11.length c0_11] (by rfl) rfl rfl (by (try simp only [List.map_toArray, List.map_cons, List.map_nil]); first | done | rfl | (simp only [List.length_drop, List.length_take]; rfl)) ?_
  with_reducible refine (api_Run.calls _ _ l0_11 t105 _ ?side1 ?side2 A2.out).mono ?_
  (case side1 => repeat (first | exact (Kd.C_below HR0_11.out HB.out) | (with_reducible refine Kd.C_alloc ?_ _) | (with_reducible refine Kd.C_drewN ?_ _) | (with_reducible refine Kd.C_drew ?_)))
  (case side2 => exact HC0_11.out)
  rintro e w10 ⟨v106, rfl, ho0, hb⟩
  refine ⟨_, rfl, ?_⟩
  have n0_ := Aside0.mk (Kd.R_lower ho0 (below_size (by repeat (first | (with_reducible first | exact HB.out | apply below_alloc | apply pw_below_drewN | apply below_drew1 | refine below_set ?_ GE103.out | refine below_set ?_ GE104.out) | exact HB.out))))
  have n1_ := Aside0.mk (blk_below (g := gb103) (o := .cells #[.int .u8 a0_0, .int .u8 a0_1, .int .u8 a0_2, .int .u8 a0_3, .int .u64 a0_4, .int .u64 a0_5, .int .u32 a0_6, .int .u32 a0_7, .int .u32 a0_8, .int .u64 a0_9, .int .u64 a0_10, .slice A0_11 l0_11.length c0_11, .slice A0_12 l0_12.length c0_12, .slice A0_13 l0_13.length c0_13, .slice A0_14 l0_14.length c0_14, .slice A0_15 l0_15.length c0_15] 37 (0, 0)) (by (with_reducible repeat (first | refine blk_drewN ?_ _ | refine blk_drew ?_ | refine blk_alloc ?_ _)); exact BK103.out) hb)
  have n2_ := Aside0.mk (blk_below (g := gb104) (o := .cells #[.int .u8 0, .int .u8 0, .int .u8 0, .int .u8 0, .int .u64 0, .int .u64 0, .int .u32 0, .int .u32 0, .int .u32 0, .int .u64 0, .int .u64 0, .slice none 0 0, .slice none 0 0, .slice none 0 0, .slice none 0 0, .slice none 0 0] 37 (0, 0)) (by (with_reducible repeat (first | refine blk_drewN ?_ _ | refine blk_drew ?_ | refine blk_alloc ?_ _)); exact BK104.out) hb)
  have n3_ := Aside0.mk (below_step (by repeat (first | (with_reducible first | exact HB.out | apply below_alloc | apply pw_below_drewN | apply below_drew1 | refine below_set ?_ GE103.out | refine below_set ?_ GE104.out) | exact HB.out)) hb)
  clear BK103
  clear BK104
  clear HB
  have HO107 := n0_
  have BK103 := n1_
  have BK104 := n2_
  have HB := n3_
  clear n0_ n1_ n2_ n3_
  (try clear hb)
  (try clear hb2)
  (try clear hk)
  (try clear hi)
  (try clear ho0)
  refine hK.out _ _ ⟨(blk_cell BK103.out 0).trans rfl, (blk_cell BK103.out 1).trans rfl, (blk_cell BK103.out 2).trans rfl, (blk_cell BK103.out 3).trans rfl, (blk_cell BK103.out 4).trans rfl, (blk_cell BK103.out 5).trans rfl, (blk_cell BK103.out 6).trans rfl, (blk_cell BK103.out 7).trans rfl, (blk_cell BK103.out 8).trans rfl, (blk_cell BK103.out 9).trans rfl, (blk_cell BK103.out 10).trans rfl, (blk_cell BK103.out 11).trans rfl, (blk_cell BK103.out 12).trans rfl, (blk_cell BK103.out 13).trans rfl, (blk_cell BK103.out 14).trans rfl, (blk_cell BK103.out 15).trans rfl⟩ (fun hHeld => ?_)
  clear hK K
  refine norm_ (a' := ?_) ?_ ?_
  rotate_left
  · show Act.put _ (some 5) _ = _
    simp only [Act.put, List.setIfInBounds_toArray, List.set_cons_zero, List.set_cons_succ, i64_w, i32_w]
    rfl
  refine pure_ (i := 6) (N := some 9) (v := ?_) (a' := ?_) #[true, true, true, true, true, false, true, false, false, false] rfl rfl (any_of HT_.out (by kernel_rfl)) (fun _ _ _ h => h) (Or.inl ⟨by rfl, ?_⟩) ?_ ?_
  rotate_left
  · intro w'
    go_simp
    with_reducible rfl
  rotate_left
  · simp only [Act.put, List.setIfInBounds_toArray, List.set_cons_zero, List.set_cons_succ, i64_w, i32_w]
    rfl
  refine one_ (i := 5) (N := some 8) #[true, true, true, true, true, true, true, false, false, false] rfl rfl (one_of HT_.out (by kernel_rfl)) (by decide) (fun K hK => ?_)
  refine goes_ Try.func32 (by kernel_rfl) rfl #[.slice A0_12 l0_12.length c0_12] (by rfl) rfl rfl (by (try simp only [List.map_toArray, List.map_cons, List.map_nil]); first | done | rfl | (simp only [List.length_drop, List.length_take]; rfl)) ?_
  with_reducible refine (api_Run.calls _ _ l0_12 t108 _ ?side1 ?side2 A3.out).mono ?_
  (case side1 => repeat (first | exact (Kd.C_below HR0_12.out HB.out) | (with_reducible refine Kd.C_alloc ?_ _) | (with_reducible refine Kd.C_drewN ?_ _) | (with_reducible refine Kd.C_drew ?_)))
  (case side2 => exact HC0_12.out)
  rintro e w11 ⟨v109, rfl, ho0, hb⟩
  refine ⟨_, rfl, ?_⟩
  have n0_ := Aside0.mk (Kd.R_elder' (by (with_reducible repeat (first | apply Kd.R_alloc | apply Kd.R_drewN | apply Kd.R_drew)); exact HO107.out) (Kd.R_base ho0) hb)
  have n1_ := Aside0.mk (Kd.R_lower (Kd.R_new' ho0 (Kd.R_lt (by (with_reducible repeat (first | apply Kd.R_alloc | apply Kd.R_drewN | apply Kd.R_drew)); exact HO107.out))) (below_size (by repeat (first | (with_reducible first | exact HB.out | apply below_alloc | apply pw_below_drewN | apply below_drew1 | refine below_set ?_ GE103.out | refine below_set ?_ GE104.out) | exact HB.out))))
  have n2_ := Aside0.mk (blk_below (g := gb103) (o := .cells #[.int .u8 a0_0, .int .u8 a0_1, .int .u8 a0_2, .int .u8 a0_3, .int .u64 a0_4, .int .u64 a0_5, .int .u32 a0_6, .int .u32 a0_7, .int .u32 a0_8, .int .u64 a0_9, .int .u64 a0_10, .slice A0_11 l0_11.length c0_11, .slice A0_12 l0_12.length c0_12, .slice A0_13 l0_13.length c0_13, .slice A0_14 l0_14.length c0_14, .slice A0_15 l0_15.length c0_15] 37 (0, 0)) (by (with_reducible repeat (first | refine blk_drewN ?_ _ | refine blk_drew ?_ | refine blk_alloc ?_ _)); exact BK103.out) hb)
  have n3_ := Aside0.mk (blk_below (g := gb104) (o := .cells #[.int .u8 0, .int .u8 0, .int .u8 0, .int .u8 0, .int .u64 0, .int .u64 0, .int .u32 0, .int .u32 0, .int .u32 0, .int .u64 0, .int .u64 0, .slice none 0 0, .slice none 0 0, .slice none 0 0, .slice none 0 0, .slice none 0 0] 37 (0, 0)) (by (with_reducible repeat (first | refine blk_drewN ?_ _ | refine blk_drew ?_ | refine blk_alloc ?_ _)); exact BK104.out) hb)
  have n4_ := Aside0.mk (below_step (by repeat (first | (with_reducible first | exact HB.out | apply below_alloc | apply pw_below_drewN | apply below_drew1 | refine below_set ?_ GE103.out | refine below_set ?_ GE104.out) | exact HB.out)) hb)
  clear HO107
  clear BK103
  clear BK104
  clear HB
  have HO107 := n0_
  have HO110 := n1_
  have BK103 := n2_
  have BK104 := n3_
  have HB := n4_
  clear n0_ n1_ n2_ n3_ n4_
  (try clear hb)
  (try clear hb2)
  (try clear hk)
  (try clear hi)
  (try clear ho0)
  obtain ⟨Ao12, co12, eo12⟩ := Kd.R_slice HO107.out
  (first | subst eo12 | (injection eo12 with f1_ f2_ f3_; have f4_ := f1_.symm; have f5_ := f3_.symm; clear f1_ f2_ f3_; subst f4_; subst f5_))
  obtain ⟨Ao14, co14, eo14⟩ := Kd.R_slice HO110.out
  (first | subst eo14 | (injection eo14 with f1_ f2_ f3_; have f4_ := f1_.symm; have f5_ := f3_.symm; clear f1_ f2_ f3_; subst f4_; subst f5_))
  refine hK.out _ _ ⟨(blk_cell BK103.out 0).trans rfl, (blk_cell BK103.out 1).trans rfl, (blk_cell BK103.out 2).trans rfl, (blk_cell BK103.out 3).trans rfl, (blk_cell BK103.out 4).trans rfl, (blk_cell BK103.out 5).trans rfl, (blk_cell BK103.out 6).trans rfl, (blk_cell BK103.out 7).trans rfl, (blk_cell BK103.out 8).trans rfl, (blk_cell BK103.out 9).trans rfl, (blk_cell BK103.out 10).trans rfl, (blk_cell BK103.out 11).trans rfl, (blk_cell BK103.out 12).trans rfl, (blk_cell BK103.out 13).trans rfl, (blk_cell BK103.out 14).trans rfl, (blk_cell BK103.out 15).trans rfl⟩ (fun hHeld => ?_)
  clear hK K
  refine norm_ (a' := ?_) ?_ ?_
  rotate_left
  · show Act.put _ (some 8) _ = _
    simp only [Act.put, List.setIfInBounds_toArray, List.set_cons_zero, List.set_cons_succ, i64_w, i32_w]
    rfl
  refine last_ (i := 7) (N := none) #[true, true, true, true, true, true, true, true, false, false] rfl rfl (one_of HT_.out (by kernel_rfl)) (by decide) (fun K hK => ?_)
  have hs13 : w11.cell? ⟨gb103, 11, none⟩ = some (.slice A0_11 l0_11.length c0_11) := (blk_cell BK103.out 11).trans rfl
  have hfs13 := blk_frozen BK103.out 11
  have hns13_1 := NB104_103.out
  have hms13_1 := NB103_104.out
  refine skip_ (w1 := ?_) (by rfl) rfl ?_ ?_
  rotate_left
  · go_simp
    rfl
  refine hK.out _ _ ?_
  clear hK K
  refine pure_ (i := 8) (N := some 10) (v := ?_) (a' := ?_) #[true, true, true, true, true, true, true, true, true, false] rfl rfl (any_of HT_.out (by kernel_rfl)) (fun _ _ _ h => h) (Or.inl ⟨by rfl, ?_⟩) ?_ ?_
  rotate_left
  · intro w'
    go_simp
    with_reducible rfl
  rotate_left
  · simp only [Act.put, List.setIfInBounds_toArray, List.set_cons_zero, List.set_cons_succ, i64_w, i32_w]
    rfl
  refine last_ (i := 9) (N := none) #[true, true, true, true, true, true, true, true, true, true] rfl rfl (one_of HT_.out (by kernel_rfl)) (by decide) (fun K hK => ?_)
  have hs15 : w11.cell? ⟨gb103, 12, none⟩ = some (.slice A0_12 l0_12.length c0_12) := (blk_cell BK103.out 12).trans rfl
  have hfs15 := blk_frozen BK103.out 12
  have hns15_1 := NB104_103.out
  have hms15_1 := NB103_104.out
  refine skip_ (w1 := ?_) (by rfl) rfl ?_ ?_
  rotate_left
  · go_simp
    rfl
  refine hK.out _ _ ?_
  clear hK K
  refine done_ (done_of HT_.out (by kernel_rfl)) ?_
  try go_wp2
  have n0_ : Aside0 (Kd.R k78 78 ((w11.setCell ⟨gb103, 11, none⟩ (.slice Ao12 t105.length co12)).setCell ⟨gb103, 12, none⟩ (.slice Ao14 t108.length co14)) w.heap.size (fun k_ => some k_ ≠ (.slice Ao14 t108.length co14 : Value).ownBlock) (.slice Ao12 t105.length co12) t105) := ⟨by (with_reducible repeat (first | apply Kd.R_alloc | apply Kd.R_drewN | apply Kd.R_drew)); exact Kd.R_mono (Kd.R_far (p := ⟨gb103, 12, none⟩) (Kd.R_far (p := ⟨gb103, 11, none⟩) (Kd.R_types HO107.out BK103.out (by decide)) (fun _ hk => hk.2) (.slice Ao12 t105.length co12)) (fun _ hk => hk.2) (.slice Ao14 t108.length co14)) (fun _ hk => hk.1.2)⟩
  have n1_ : Aside0 (Kd.R k78 78 ((w11.setCell ⟨gb103, 11, none⟩ (.slice Ao12 t105.length co12)).setCell ⟨gb103, 12, none⟩ (.slice Ao14 t108.length co14)) w.heap.size (fun k_ => some k_ ≠ (.slice Ao12 t105.length co12 : Value).ownBlock) (.slice Ao14 t108.length co14) t108) := ⟨by (with_reducible repeat (first | apply Kd.R_alloc | apply Kd.R_drewN | apply Kd.R_drew)); exact Kd.R_mono (Kd.R_far (p := ⟨gb103, 12, none⟩) (Kd.R_far (p := ⟨gb103, 11, none⟩) (Kd.R_types HO110.out BK103.out (by decide)) (fun _ hk => hk.2) (.slice Ao12 t105.length co12)) (fun _ hk => hk.2) (.slice Ao14 t108.length co14)) (fun _ hk => hk.1.2)⟩
  have n2_ : Aside0 (((w11.setCell ⟨gb103, 11, none⟩ (.slice Ao12 t105.length co12)).setCell ⟨gb103, 12, none⟩ (.slice Ao14 t108.length co14)).heap[gb103]? = some (.cells #[.int .u8 a0_0, .int .u8 a0_1, .int .u8 a0_2, .int .u8 a0_3, .int .u64 a0_4, .int .u64 a0_5, .int .u32 a0_6, .int .u32 a0_7, .int .u32 a0_8, .int .u64 a0_9, .int .u64 a0_10, .slice Ao12 t105.length co12, .slice Ao14 t108.length co14, .slice A0_13 l0_13.length c0_13, .slice A0_14 l0_14.length c0_14, .slice A0_15 l0_15.length c0_15] 37 (0, 0))) := ⟨by (with_reducible repeat (first | refine blk_drewN ?_ _ | refine blk_drew ?_ | refine blk_alloc ?_ _)); refine blk_put (cs := #[.int .u8 a0_0, .int .u8 a0_1, .int .u8 a0_2, .int .u8 a0_3, .int .u64 a0_4, .int .u64 a0_5, .int .u32 a0_6, .int .u32 a0_7, .int .u32 a0_8, .int .u64 a0_9, .int .u64 a0_10, .slice Ao12 t105.length co12, .slice A0_12 l0_12.length c0_12, .slice A0_13 l0_13.length c0_13, .slice A0_14 l0_14.length c0_14, .slice A0_15 l0_15.length c0_15]) ?_ 12 _ rfl; (with_reducible repeat (first | refine blk_drewN ?_ _ | refine blk_drew ?_ | refine blk_alloc ?_ _)); refine blk_put (cs := #[.int .u8 a0_0, .int .u8 a0_1, .int .u8 a0_2, .int .u8 a0_3, .int .u64 a0_4, .int .u64 a0_5, .int .u32 a0_6, .int .u32 a0_7, .int .u32 a0_8, .int .u64 a0_9, .int .u64 a0_10, .slice A0_11 l0_11.length c0_11, .slice A0_12 l0_12.length c0_12, .slice A0_13 l0_13.length c0_13, .slice A0_14 l0_14.length c0_14, .slice A0_15 l0_15.length c0_15]) ?_ 11 _ rfl; (with_reducible repeat (first | refine blk_drewN ?_ _ | refine blk_drew ?_ | refine blk_alloc ?_ _)); exact BK103.out⟩
  have n3_ : Aside0 (((w11.setCell ⟨gb103, 11, none⟩ (.slice Ao12 t105.length co12)).setCell ⟨gb103, 12, none⟩ (.slice Ao14 t108.length co14)).heap[gb104]? = some (.cells #[.int .u8 0, .int .u8 0, .int .u8 0, .int .u8 0, .int .u64 0, .int .u64 0, .int .u32 0, .int .u32 0, .int .u32 0, .int .u64 0, .int .u64 0, .slice none 0 0, .slice none 0 0, .slice none 0 0, .slice none 0 0, .slice none 0 0] 37 (0, 0))) := ⟨by (with_reducible repeat (first | refine blk_drewN ?_ _ | refine blk_drew ?_ | refine blk_alloc ?_ _)); refine blk_far ?_ NB104_103.out _; (with_reducible repeat (first | refine blk_drewN ?_ _ | refine blk_drew ?_ | refine blk_alloc ?_ _)); refine blk_far ?_ NB104_103.out _; (with_reducible repeat (first | refine blk_drewN ?_ _ | refine blk_drew ?_ | refine blk_alloc ?_ _)); exact BK104.out⟩
  have n4_ : Aside0 (Below w.heap.size w ((w11.setCell ⟨gb103, 11, none⟩ (.slice Ao12 t105.length co12)).setCell ⟨gb103, 12, none⟩ (.slice Ao14 t108.length co14))) := ⟨by repeat (first | (with_reducible first | exact HB.out | apply below_alloc | apply pw_below_drewN | apply below_drew1 | refine below_set ?_ GE103.out | refine below_set ?_ GE104.out) | exact HB.out)⟩
  (try clear HO107)
  (try clear HO110)
  (try clear BK103)
  (try clear BK104)
  (try clear HB)
  generalize ((w11.setCell ⟨gb103, 11, none⟩ (.slice Ao12 t105.length co12)).setCell ⟨gb103, 12, none⟩ (.slice Ao14 t108.length co14)) = w16 at n0_ n1_ n2_ n3_ n4_ ⊢
  have HO107 := n0_
  have HO110 := n1_
  have BK103 := n2_
  have BK104 := n3_
  have HB := n4_
  clear n0_ n1_ n2_ n3_ n4_
  have n0_ := Aside0.mk (Kd.R_drew HO107.out)
  have n1_ := Aside0.mk (Kd.R_drew HO110.out)
  have n2_ := Aside0.mk (blk_drew BK103.out)
  have n3_ := Aside0.mk (blk_drew BK104.out)
  have n4_ := Aside0.mk (below_drew1 HB.out)
  clear HO107
  clear HO110
  clear BK103
  clear BK104
  clear HB
  have HO107 := n0_
  have HO110 := n1_
  have BK103 := n2_
  have BK104 := n3_
  have HB := n4_
  clear n0_ n1_ n2_ n3_ n4_
  refine start_ (n := 10) (S := fun w' => w'.cell? ⟨gb103, 0, none⟩ = some (.int .u8 a0_0) ∧ w'.cell? ⟨gb103, 1, none⟩ = some (.int .u8 a0_1) ∧ w'.cell? ⟨gb103, 2, none⟩ = some (.int .u8 a0_2) ∧ w'.cell? ⟨gb103, 3, none⟩ = some (.int .u8 a0_3) ∧ w'.cell? ⟨gb103, 4, none⟩ = some (.int .u64 a0_4) ∧ w'.cell? ⟨gb103, 5, none⟩ = some (.int .u64 a0_5) ∧ w'.cell? ⟨gb103, 6, none⟩ = some (.int .u32 a0_6) ∧ w'.cell? ⟨gb103, 7, none⟩ = some (.int .u32 a0_7) ∧ w'.cell? ⟨gb103, 8, none⟩ = some (.int .u32 a0_8) ∧ w'.cell? ⟨gb103, 9, none⟩ = some (.int .u64 a0_9) ∧ w'.cell? ⟨gb103, 10, none⟩ = some (.int .u64 a0_10) ∧ w'.cell? ⟨gb103, 11, none⟩ = some (.slice Ao12 t105.length co12) ∧ w'.cell? ⟨gb103, 12, none⟩ = some (.slice Ao14 t108.length co14) ∧ w'.cell? ⟨gb103, 13, none⟩ = some (.slice A0_13 l0_13.length c0_13) ∧ w'.cell? ⟨gb103, 14, none⟩ = some (.slice A0_14 l0_14.length c0_14) ∧ w'.cell? ⟨gb103, 15, none⟩ = some (.slice A0_15 l0_15.length c0_15)) (ds := [7, 9]) #[false, false, false, false, false, false, false, false, false, false] (by kernel_rfl) rfl rfl ⟨(blk_cell BK103.out 0).trans rfl, (blk_cell BK103.out 1).trans rfl, (blk_cell BK103.out 2).trans rfl, (blk_cell BK103.out 3).trans rfl, (blk_cell BK103.out 4).trans rfl, (blk_cell BK103.out 5).trans rfl, (blk_cell BK103.out 6).trans rfl, (blk_cell BK103.out 7).trans rfl, (blk_cell BK103.out 8).trans rfl, (blk_cell BK103.out 9).trans rfl, (blk_cell BK103.out 10).trans rfl, (blk_cell BK103.out 11).trans rfl, (blk_cell BK103.out 12).trans rfl, (blk_cell BK103.out 13).trans rfl, (blk_cell BK103.out 14).trans rfl, (blk_cell BK103.out 15).trans rfl⟩ (fun hHeld => ?_); refine with_tabW relay_own.tab2 relay_own.bits2 (fun HT_ HW_ => ?_)
  generalize w16.drew = w17 at HO107 HO110 BK103 BK104 HB hHeld ⊢
  refine pure_ (i := 0) (N := some 11) (v := ?_) (a' := ?_) #[true, false, false, false, false, false, false, false, false, false] rfl rfl (any_of HT_.out (by kernel_rfl)) (fun _ _ _ h => h) (Or.inl ⟨by rfl, ?_⟩) ?_ ?_
  rotate_left
  · intro w'
    go_simp
    with_reducible rfl
  rotate_left
  · simp only [Act.put, List.setIfInBounds_toArray, List.set_cons_zero, List.set_cons_succ, i64_w, i32_w]
    rfl
  refine pure_ (i := 3) (N := some 14) (v := ?_) (a' := ?_) #[true, false, false, true, false, false, false, false, false, false] rfl rfl (any_of HT_.out (by kernel_rfl)) (fun _ _ _ h => h) (Or.inl ⟨by rfl, ?_⟩) ?_ ?_
  rotate_left
  · intro w'
    go_simp
    with_reducible rfl
  rotate_left
  · simp only [Act.put, List.setIfInBounds_toArray, List.set_cons_zero, List.set_cons_succ, i64_w, i32_w]
    rfl
  refine take_ (i := 1) (N := some 12) (v := ?_) (a' := ?_) #[true, true, false, true, false, false, false, false, false, false] rfl rfl (take_ofW HT_.out HW_.out (by kernel_rfl)) (fun _ _ _ h => h) (Or.inl ⟨by rfl, ?_⟩) hHeld ?_ ?_
  rotate_left
  · rintro w' ⟨s0, s1, s2, s3, s4, s5, s6, s7, s8, s9, s10, s11, s12, s13, s14, s15⟩
    go_simp
    with_reducible rfl
  rotate_left
  · simp only [Act.put, List.setIfInBounds_toArray, List.set_cons_zero, List.set_cons_succ, i64_w, i32_w]
    rfl
  refine take_ (i := 4) (N := some 15) (v := ?_) (a' := ?_) #[true, true, false, true, true, false, false, false, false, false] rfl rfl (take_ofW HT_.out HW_.out (by kernel_rfl)) (fun _ _ _ h => h) (Or.inl ⟨by rfl, ?_⟩) hHeld ?_ ?_
  rotate_left
  · rintro w' ⟨s0, s1, s2, s3, s4, s5, s6, s7, s8, s9, s10, s11, s12, s13, s14, s15⟩
    go_simp
    with_reducible rfl
  rotate_left
  · simp only [Act.put, List.setIfInBounds_toArray, List.set_cons_zero, List.set_cons_succ, i64_w, i32_w]
    rfl
  refine one_ (i := 2) (N := some 13) #[true, true, true, true, true, false, false, false, false, false] rfl rfl (one_of HT_.out (by kernel_rfl)) (by decide) (fun K hK => ?_)
  refine goes_ Try.func33 (by kernel_rfl) rfl #[.slice A0_13 l0_13.length c0_13] (by rfl) rfl rfl (by (try simp only [List.map_toArray, List.map_cons, List.map_nil]); first | done | rfl | (simp only [List.length_drop, List.length_take]; rfl)) ?_
  with_reducible refine (slices_Clone_uint64_uint64.calls _ _ l0_13 t111 _ ?side1 ?side2 A4.out).mono ?_
  (case side1 => repeat (first | exact (Kd.C_below HR0_13.out HB.out) | (with_reducible refine Kd.C_alloc ?_ _) | (with_reducible refine Kd.C_drewN ?_ _) | (with_reducible refine Kd.C_drew ?_)))
  (case side2 => exact HC0_13.out)
  rintro e w18 ⟨v112, rfl, ho0, hb⟩
  refine ⟨_, rfl, ?_⟩
  have n0_ := Aside0.mk (Kd.R_below (by (with_reducible repeat (first | apply Kd.R_alloc | apply Kd.R_drewN | apply Kd.R_drew)); exact HO107.out) hb)
  have n1_ := Aside0.mk (Kd.R_below (by (with_reducible repeat (first | apply Kd.R_alloc | apply Kd.R_drewN | apply Kd.R_drew)); exact HO110.out) hb)
  have n2_ := Aside0.mk (Kd.R_lower ho0 (below_size (by repeat (first | (with_reducible first | exact HB.out | apply below_alloc | apply pw_below_drewN | apply below_drew1 | refine below_set ?_ GE103.out | refine below_set ?_ GE104.out) | exact HB.out))))
  have n3_ := Aside0.mk (blk_below (g := gb103) (o := .cells #[.int .u8 a0_0, .int .u8 a0_1, .int .u8 a0_2, .int .u8 a0_3, .int .u64 a0_4, .int .u64 a0_5, .int .u32 a0_6, .int .u32 a0_7, .int .u32 a0_8, .int .u64 a0_9, .int .u64 a0_10, .slice Ao12 t105.length co12, .slice Ao14 t108.length co14, .slice A0_13 l0_13.length c0_13, .slice A0_14 l0_14.length c0_14, .slice A0_15 l0_15.length c0_15] 37 (0, 0)) (by (with_reducible repeat (first | refine blk_drewN ?_ _ | refine blk_drew ?_ | refine blk_alloc ?_ _)); exact BK103.out) hb)
  have n4_ := Aside0.mk (blk_below (g := gb104) (o := .cells #[.int .u8 0, .int .u8 0, .int .u8 0, .int .u8 0, .int .u64 0, .int .u64 0, .int .u32 0, .int .u32 0, .int .u32 0, .int .u64 0, .int .u64 0, .slice none 0 0, .slice none 0 0, .slice none 0 0, .slice none 0 0, .slice none 0 0] 37 (0, 0)) (by (with_reducible repeat (first | refine blk_drewN ?_ _ | refine blk_drew ?_ | refine blk_alloc ?_ _)); exact BK104.out) hb)
  have n5_ := Aside0.mk (below_step (by repeat (first | (with_reducible first | exact HB.out | apply below_alloc | apply pw_below_drewN | apply below_drew1 | refine below_set ?_ GE103.out | refine below_set ?_ GE104.out) | exact HB.out)) hb)
  clear HO107
  clear HO110
  clear BK103
  clear BK104
  clear HB
  have HO107 := n0_
  have HO110 := n1_
  have HO113 := n2_
  have BK103 := n3_
  have BK104 := n4_
  have HB := n5_
  clear n0_ n1_ n2_ n3_ n4_ n5_
  (try clear hb)
  (try clear hb2)
  (try clear hk)
  (try clear hi)
  (try clear ho0)
  refine hK.out _ _ ⟨(blk_cell BK103.out 0).trans rfl, (blk_cell BK103.out 1).trans rfl, (blk_cell BK103.out 2).trans rfl, (blk_cell BK103.out 3).trans rfl, (blk_cell BK103.out 4).trans rfl, (blk_cell BK103.out 5).trans rfl, (blk_cell BK103.out 6).trans rfl, (blk_cell BK103.out 7).trans rfl, (blk_cell BK103.out 8).trans rfl, (blk_cell BK103.out 9).trans rfl, (blk_cell BK103.out 10).trans rfl, (blk_cell BK103.out 11).trans rfl, (blk_cell BK103.out 12).trans rfl, (blk_cell BK103.out 13).trans rfl, (blk_cell BK103.out 14).trans rfl, (blk_cell BK103.out 15).trans rfl⟩ (fun hHeld => ?_)
  clear hK K
  refine norm_ (a' := ?_) ?_ ?_
  rotate_left
  · show Act.put _ (some 13) _ = _
    simp only [Act.put, List.setIfInBounds_toArray, List.set_cons_zero, List.set_cons_succ, i64_w, i32_w]
    rfl
  refine pure_ (i := 6) (N := some 17) (v := ?_) (a' := ?_) #[true, true, true, true, true, false, true, false, false, false] rfl rfl (any_of HT_.out (by kernel_rfl)) (fun _ _ _ h => h) (Or.inl ⟨by rfl, ?_⟩) ?_ ?_
  rotate_left
  · intro w'
    go_simp
    with_reducible rfl
  rotate_left
  · simp only [Act.put, List.setIfInBounds_toArray, List.set_cons_zero, List.set_cons_succ, i64_w, i32_w]
    rfl
  refine one_ (i := 5) (N := some 16) #[true, true, true, true, true, true, true, false, false, false] rfl rfl (one_of HT_.out (by kernel_rfl)) (by decide) (fun K hK => ?_)
  refine goes_ Try.func33 (by kernel_rfl) rfl #[.slice A0_14 l0_14.length c0_14] (by rfl) rfl rfl (by (try simp only [List.map_toArray, List.map_cons, List.map_nil]); first | done | rfl | (simp only [List.length_drop, List.length_take]; rfl)) ?_
  with_reducible refine (slices_Clone_uint64_uint64.calls _ _ l0_14 t114 _ ?side1 ?side2 A5.out).mono ?_
  (case side1 => repeat (first | exact (Kd.C_below HR0_14.out HB.out) | (with_reducible refine Kd.C_alloc ?_ _) | (with_reducible refine Kd.C_drewN ?_ _) | (with_reducible refine Kd.C_drew ?_)))
  (case side2 => exact HC0_14.out)
  rintro e w19 ⟨v115, rfl, ho0, hb⟩
  refine ⟨_, rfl, ?_⟩
  have n0_ := Aside0.mk (Kd.R_below (by (with_reducible repeat (first | apply Kd.R_alloc | apply Kd.R_drewN | apply Kd.R_drew)); exact HO107.out) hb)
  have n1_ := Aside0.mk (Kd.R_below (by (with_reducible repeat (first | apply Kd.R_alloc | apply Kd.R_drewN | apply Kd.R_drew)); exact HO110.out) hb)
  have n2_ := Aside0.mk (Kd.R_elder' (by (with_reducible repeat (first | apply Kd.R_alloc | apply Kd.R_drewN | apply Kd.R_drew)); exact HO113.out) (Kd.R_base ho0) hb)
  have n3_ := Aside0.mk (Kd.R_lower (Kd.R_new' ho0 (Kd.R_lt (by (with_reducible repeat (first | apply Kd.R_alloc | apply Kd.R_drewN | apply Kd.R_drew)); exact HO113.out))) (below_size (by repeat (first | (with_reducible first | exact HB.out | apply below_alloc | apply pw_below_drewN | apply below_drew1 | refine below_set ?_ GE103.out | refine below_set ?_ GE104.out) | exact HB.out))))
  have n4_ := Aside0.mk (blk_below (g := gb103) (o := .cells #[.int .u8 a0_0, .int .u8 a0_1, .int .u8 a0_2, .int .u8 a0_3, .int .u64 a0_4, .int .u64 a0_5, .int .u32 a0_6, .int .u32 a0_7, .int .u32 a0_8, .int .u64 a0_9, .int .u64 a0_10, .slice Ao12 t105.length co12, .slice Ao14 t108.length co14, .slice A0_13 l0_13.length c0_13, .slice A0_14 l0_14.length c0_14, .slice A0_15 l0_15.length c0_15] 37 (0, 0)) (by (with_reducible repeat (first | refine blk_drewN ?_ _ | refine blk_drew ?_ | refine blk_alloc ?_ _)); exact BK103.out) hb)
  have n5_ := Aside0.mk (blk_below (g := gb104) (o := .cells #[.int .u8 0, .int .u8 0, .int .u8 0, .int .u8 0, .int .u64 0, .int .u64 0, .int .u32 0, .int .u32 0, .int .u32 0, .int .u64 0, .int .u64 0, .slice none 0 0, .slice none 0 0, .slice none 0 0, .slice none 0 0, .slice none 0 0] 37 (0, 0)) (by (with_reducible repeat (first | refine blk_drewN ?_ _ | refine blk_drew ?_ | refine blk_alloc ?_ _)); exact BK104.out) hb)
  have n6_ := Aside0.mk (below_step (by repeat (first | (with_reducible first | exact HB.out | apply below_alloc | apply pw_below_drewN | apply below_drew1 | refine below_set ?_ GE103.out | refine below_set ?_ GE104.out) | exact HB.out)) hb)
  clear HO107
  clear HO110
  clear HO113
  clear BK103
  clear BK104
  clear HB
  have HO107 := n0_
  have HO110 := n1_
  have HO113 := n2_
  have HO116 := n3_
  have BK103 := n4_
  have BK104 := n5_
  have HB := n6_
  clear n0_ n1_ n2_ n3_ n4_ n5_ n6_
  (try clear hb)
  (try clear hb2)
  (try clear hk)
  (try clear hi)
  (try clear ho0)
  obtain ⟨Ao20, co20, eo20⟩ := Kd.R_slice HO113.out
  (first | subst eo20 | (injection eo20 with f1_ f2_ f3_; have f4_ := f1_.symm; have f5_ := f3_.symm; clear f1_ f2_ f3_; subst f4_; subst f5_))
  obtain ⟨Ao22, co22, eo22⟩ := Kd.R_slice HO116.out
  (first | subst eo22 | (injection eo22 with f1_ f2_ f3_; have f4_ := f1_.symm; have f5_ := f3_.symm; clear f1_ f2_ f3_; subst f4_; subst f5_))
  refine hK.out _ _ ⟨(blk_cell BK103.out 0).trans rfl, (blk_cell BK103.out 1).trans rfl, (blk_cell BK103.out 2).trans rfl, (blk_cell BK103.out 3).trans rfl, (blk_cell BK103.out 4).trans rfl, (blk_cell BK103.out 5).trans rfl, (blk_cell BK103.out 6).trans rfl, (blk_cell BK103.out 7).trans rfl, (blk_cell BK103.out 8).trans rfl, (blk_cell BK103.out 9).trans rfl, (blk_cell BK103.out 10).trans rfl, (blk_cell BK103.out 11).trans rfl, (blk_cell BK103.out 12).trans rfl, (blk_cell BK103.out 13).trans rfl, (blk_cell BK103.out 14).trans rfl, (blk_cell BK103.out 15).trans rfl⟩ (fun hHeld => ?_)
  clear hK K
  refine norm_ (a' := ?_) ?_ ?_
  rotate_left
  · show Act.put _ (some 16) _ = _
    simp only [Act.put, List.setIfInBounds_toArray, List.set_cons_zero, List.set_cons_succ, i64_w, i32_w]
    rfl
  refine last_ (i := 7) (N := none) #[true, true, true, true, true, true, true, true, false, false] rfl rfl (one_of HT_.out (by kernel_rfl)) (by decide) (fun K hK => ?_)
  have hs21 : w19.cell? ⟨gb103, 13, none⟩ = some (.slice A0_13 l0_13.length c0_13) := (blk_cell BK103.out 13).trans rfl
  have hfs21 := blk_frozen BK103.out 13
  have hns21_1 := NB104_103.out
  have hms21_1 := NB103_104.out
  refine skip_ (w1 := ?_) (by rfl) rfl ?_ ?_
  rotate_left
  · go_simp
    rfl
  refine hK.out _ _ ?_
  clear hK K
  refine pure_ (i := 8) (N := some 18) (v := ?_) (a' := ?_) #[true, true, true, true, true, true, true, true, true, false] rfl rfl (any_of HT_.out (by kernel_rfl)) (fun _ _ _ h => h) (Or.inl ⟨by rfl, ?_⟩) ?_ ?_
  rotate_left
  · intro w'
    go_simp
    with_reducible rfl
  rotate_left
  · simp only [Act.put, List.setIfInBounds_toArray, List.set_cons_zero, List.set_cons_succ, i64_w, i32_w]
    rfl
  refine last_ (i := 9) (N := none) #[true, true, true, true, true, true, true, true, true, true] rfl rfl (one_of HT_.out (by kernel_rfl)) (by decide) (fun K hK => ?_)
  have hs23 : w19.cell? ⟨gb103, 14, none⟩ = some (.slice A0_14 l0_14.length c0_14) := (blk_cell BK103.out 14).trans rfl
  have hfs23 := blk_frozen BK103.out 14
  have hns23_1 := NB104_103.out
  have hms23_1 := NB103_104.out
  refine skip_ (w1 := ?_) (by rfl) rfl ?_ ?_
  rotate_left
  · go_simp
    rfl
  refine hK.out _ _ ?_
  clear hK K
  refine done_ (done_of HT_.out (by kernel_rfl)) ?_
  have hnb24 := NB103_104.out
  have hnc24 := NB104_103.out
  have hcz25_0 : w19.cell? ⟨gb103, 0, none⟩ = some (.int .u8 a0_0) := (blk_cell BK103.out 0).trans rfl
  have hcz25_1 : w19.cell? ⟨gb103, 1, none⟩ = some (.int .u8 a0_1) := (blk_cell BK103.out 1).trans rfl
  have hcz25_2 : w19.cell? ⟨gb103, 2, none⟩ = some (.int .u8 a0_2) := (blk_cell BK103.out 2).trans rfl
  have hcz25_3 : w19.cell? ⟨gb103, 3, none⟩ = some (.int .u8 a0_3) := (blk_cell BK103.out 3).trans rfl
  have hcz25_4 : w19.cell? ⟨gb103, 4, none⟩ = some (.int .u64 a0_4) := (blk_cell BK103.out 4).trans rfl
  have hcz25_5 : w19.cell? ⟨gb103, 5, none⟩ = some (.int .u64 a0_5) := (blk_cell BK103.out 5).trans rfl
  have hcz25_6 : w19.cell? ⟨gb103, 6, none⟩ = some (.int .u32 a0_6) := (blk_cell BK103.out 6).trans rfl
  have hcz25_7 : w19.cell? ⟨gb103, 7, none⟩ = some (.int .u32 a0_7) := (blk_cell BK103.out 7).trans rfl
  have hcz25_8 : w19.cell? ⟨gb103, 8, none⟩ = some (.int .u32 a0_8) := (blk_cell BK103.out 8).trans rfl
  have hcz25_9 : w19.cell? ⟨gb103, 9, none⟩ = some (.int .u64 a0_9) := (blk_cell BK103.out 9).trans rfl
  have hcz25_10 : w19.cell? ⟨gb103, 10, none⟩ = some (.int .u64 a0_10) := (blk_cell BK103.out 10).trans rfl
  have hcz25_11 : w19.cell? ⟨gb103, 11, none⟩ = some (.slice Ao12 t105.length co12) := (blk_cell BK103.out 11).trans rfl
  have hcz25_12 : w19.cell? ⟨gb103, 12, none⟩ = some (.slice Ao14 t108.length co14) := (blk_cell BK103.out 12).trans rfl
  have hcz25_13 : w19.cell? ⟨gb103, 13, none⟩ = some (.slice A0_13 l0_13.length c0_13) := (blk_cell BK103.out 13).trans rfl
  have hcz25_14 : w19.cell? ⟨gb103, 14, none⟩ = some (.slice A0_14 l0_14.length c0_14) := (blk_cell BK103.out 14).trans rfl
  have hcz25_15 : w19.cell? ⟨gb103, 15, none⟩ = some (.slice A0_15 l0_15.length c0_15) := (blk_cell BK103.out 15).trans rfl
  have hfz25_0 := blk_frozen BK103.out 0
  have hfz25_1 := blk_frozen BK103.out 1
  have hfz25_2 := blk_frozen BK103.out 2
  have hfz25_3 := blk_frozen BK103.out 3
  have hfz25_4 := blk_frozen BK103.out 4
  have hfz25_5 := blk_frozen BK103.out 5
  have hfz25_6 := blk_frozen BK103.out 6
  have hfz25_7 := blk_frozen BK103.out 7
  have hfz25_8 := blk_frozen BK103.out 8
  have hfz25_9 := blk_frozen BK103.out 9
  have hfz25_10 := blk_frozen BK103.out 10
  have hfz25_11 := blk_frozen BK103.out 11
  have hfz25_12 := blk_frozen BK103.out 12
  have hfz25_13 := blk_frozen BK103.out 13
  have hfz25_14 := blk_frozen BK103.out 14
  have hfz25_15 := blk_frozen BK103.out 15
  try go_wp2_with (first | ((with_reducible refine gate_callee (f := 34) rfl ?_); refine goesL_ (some 21) rfl rfl Try.func34 (by kernel_rfl) rfl #[.slice A0_15 l0_15.length c0_15] rfl (by (try simp only [List.map_toArray, List.map_cons, List.map_nil]); first | done | rfl | (simp only [List.length_drop, List.length_take]; rfl)) ?_; (with_reducible refine (slices_Clone_byte_byte.calls _ _ l0_15 t117 _ ?side1 ?side2 A6.out).mono ?_); (case side1 => exact Kd.C_below HR0_15.out (by repeat (first | (with_reducible first | exact HB.out | apply below_alloc | apply pw_below_drewN | apply below_drew1 | refine below_set ?_ GE103.out | refine below_set ?_ GE104.out) | exact HB.out))); (case side2 => exact HC0_15.out); rintro e w26 ⟨v118, rfl, ho0, hb⟩; refine ⟨_, rfl, ?_⟩; have n0_ := Aside0.mk (Kd.R_below (by (with_reducible repeat (first | apply Kd.R_alloc | apply Kd.R_drewN | apply Kd.R_drew)); exact (Kd.R_mono (Kd.R_far (p := ⟨gb103, 14, none⟩) (Kd.R_far (p := ⟨gb103, 13, none⟩) (Kd.R_types HO107.out BK103.out (by decide)) (fun _ hk => hk.2) (.slice Ao20 t111.length co20)) (fun _ hk => hk.2) (.slice Ao22 t114.length co22)) (fun _ h_ => h_.1))) hb); have n1_ := Aside0.mk (Kd.R_below (by (with_reducible repeat (first | apply Kd.R_alloc | apply Kd.R_drewN | apply Kd.R_drew)); exact (Kd.R_mono (Kd.R_far (p := ⟨gb103, 14, none⟩) (Kd.R_far (p := ⟨gb103, 13, none⟩) (Kd.R_types HO110.out BK103.out (by decide)) (fun _ hk => hk.2) (.slice Ao20 t111.length co20)) (fun _ hk => hk.2) (.slice Ao22 t114.length co22)) (fun _ h_ => h_.1))) hb); have n2_ := Aside0.mk (Kd.R_below (by (with_reducible repeat (first | apply Kd.R_alloc | apply Kd.R_drewN | apply Kd.R_drew)); exact (Kd.R_mono (Kd.R_far (p := ⟨gb103, 14, none⟩) (Kd.R_far (p := ⟨gb103, 13, none⟩) (Kd.R_types HO113.out BK103.out (by decide)) (fun _ hk => hk.2) (.slice Ao20 t111.length co20)) (fun _ hk => hk.2) (.slice Ao22 t114.length co22)) (fun _ h_ => h_.1))) hb); have n3_ := Aside0.mk (Kd.R_below (by (with_reducible repeat (first | apply Kd.R_alloc | apply Kd.R_drewN | apply Kd.R_drew)); exact (Kd.R_mono (Kd.R_far (p := ⟨gb103, 14, none⟩) (Kd.R_far (p := ⟨gb103, 13, none⟩) (Kd.R_types HO116.out BK103.out (by decide)) (fun _ hk => hk.2) (.slice Ao20 t111.length co20)) (fun _ hk => hk.2) (.slice Ao22 t114.length co22)) (fun _ h_ => h_.1))) hb); have n4_ := Aside0.mk (Kd.R_lower ho0 (below_size (by repeat (first | (with_reducible first | exact HB.out | apply below_alloc | apply pw_below_drewN | apply below_drew1 | refine below_set ?_ GE103.out | refine below_set ?_ GE104.out) | exact HB.out)))); have n5_ := Aside0.mk (blk_below (g := gb103) (o := .cells #[.int .u8 a0_0, .int .u8 a0_1, .int .u8 a0_2, .int .u8 a0_3, .int .u64 a0_4, .int .u64 a0_5, .int .u32 a0_6, .int .u32 a0_7, .int .u32 a0_8, .int .u64 a0_9, .int .u64 a0_10, .slice Ao12 t105.length co12, .slice Ao14 t108.length co14, .slice Ao20 t111.length co20, .slice Ao22 t114.length co22, .slice A0_15 l0_15.length c0_15] 37 (0, 0)) (by (with_reducible repeat (first | refine blk_drewN ?_ _ | refine blk_drew ?_ | refine blk_alloc ?_ _)); refine blk_put (cs := #[.int .u8 a0_0, .int .u8 a0_1, .int .u8 a0_2, .int .u8 a0_3, .int .u64 a0_4, .int .u64 a0_5, .int .u32 a0_6, .int .u32 a0_7, .int .u32 a0_8, .int .u64 a0_9, .int .u64 a0_10, .slice Ao12 t105.length co12, .slice Ao14 t108.length co14, .slice Ao20 t111.length co20, .slice A0_14 l0_14.length c0_14, .slice A0_15 l0_15.length c0_15]) ?_ 14 _ rfl; (with_reducible repeat (first | refine blk_drewN ?_ _ | refine blk_drew ?_ | refine blk_alloc ?_ _)); refine blk_put (cs := #[.int .u8 a0_0, .int .u8 a0_1, .int .u8 a0_2, .int .u8 a0_3, .int .u64 a0_4, .int .u64 a0_5, .int .u32 a0_6, .int .u32 a0_7, .int .u32 a0_8, .int .u64 a0_9, .int .u64 a0_10, .slice Ao12 t105.length co12, .slice Ao14 t108.length co14, .slice A0_13 l0_13.length c0_13, .slice A0_14 l0_14.length c0_14, .slice A0_15 l0_15.length c0_15]) ?_ 13 _ rfl; (with_reducible repeat (first | refine blk_drewN ?_ _ | refine blk_drew ?_ | refine blk_alloc ?_ _)); exact BK103.out) hb); have n6_ := Aside0.mk (blk_below (g := gb104) (o := .cells #[.int .u8 0, .int .u8 0, .int .u8 0, .int .u8 0, .int .u64 0, .int .u64 0, .int .u32 0, .int .u32 0, .int .u32 0, .int .u64 0, .int .u64 0, .slice none 0 0, .slice none 0 0, .slice none 0 0, .slice none 0 0, .slice none 0 0] 37 (0, 0)) (by (with_reducible repeat (first | refine blk_drewN ?_ _ | refine blk_drew ?_ | refine blk_alloc ?_ _)); refine blk_far ?_ NB104_103.out _; (with_reducible repeat (first | refine blk_drewN ?_ _ | refine blk_drew ?_ | refine blk_alloc ?_ _)); refine blk_far ?_ NB104_103.out _; (with_reducible repeat (first | refine blk_drewN ?_ _ | refine blk_drew ?_ | refine blk_alloc ?_ _)); exact BK104.out) hb); have n7_ := Aside0.mk (below_step (by repeat (first | (with_reducible first | exact HB.out | apply below_alloc | apply pw_below_drewN | apply below_drew1 | refine below_set ?_ GE103.out | refine below_set ?_ GE104.out) | exact HB.out)) hb); clear HO107; clear HO110; clear HO113; clear HO116; clear BK103; clear BK104; clear HB; have HO107 := n0_; have HO110 := n1_; have HO113 := n2_; have HO116 := n3_; have HO119 := n4_; have BK103 := n5_; have BK104 := n6_; have HB := n7_; clear n0_ n1_ n2_ n3_ n4_ n5_ n6_ n7_; (try clear hb); (try clear hb2); (try clear hk); (try clear hi); (try clear ho0); obtain ⟨Ao27, co27, eo27⟩ := Kd.R_slice HO119.out; subst eo27; have hcz28_0 : w26.cell? ⟨gb103, 0, none⟩ = some (.int .u8 a0_0) := (blk_cell BK103.out 0).trans rfl; have hcz28_1 : w26.cell? ⟨gb103, 1, none⟩ = some (.int .u8 a0_1) := (blk_cell BK103.out 1).trans rfl; have hcz28_2 : w26.cell? ⟨gb103, 2, none⟩ = some (.int .u8 a0_2) := (blk_cell BK103.out 2).trans rfl; have hcz28_3 : w26.cell? ⟨gb103, 3, none⟩ = some (.int .u8 a0_3) := (blk_cell BK103.out 3).trans rfl; have hcz28_4 : w26.cell? ⟨gb103, 4, none⟩ = some (.int .u64 a0_4) := (blk_cell BK103.out 4).trans rfl; have hcz28_5 : w26.cell? ⟨gb103, 5, none⟩ = some (.int .u64 a0_5) := (blk_cell BK103.out 5).trans rfl; have hcz28_6 : w26.cell? ⟨gb103, 6, none⟩ = some (.int .u32 a0_6) := (blk_cell BK103.out 6).trans rfl; have hcz28_7 : w26.cell? ⟨gb103, 7, none⟩ = some (.int .u32 a0_7) := (blk_cell BK103.out 7).trans rfl; have hcz28_8 : w26.cell? ⟨gb103, 8, none⟩ = some (.int .u32 a0_8) := (blk_cell BK103.out 8).trans rfl; have hcz28_9 : w26.cell? ⟨gb103, 9, none⟩ = some (.int .u64 a0_9) := (blk_cell BK103.out 9).trans rfl; have hcz28_10 : w26.cell? ⟨gb103, 10, none⟩ = some (.int .u64 a0_10) := (blk_cell BK103.out 10).trans rfl; have hcz28_11 : w26.cell? ⟨gb103, 11, none⟩ = some (.slice Ao12 t105.length co12) := (blk_cell BK103.out 11).trans rfl; have hcz28_12 : w26.cell? ⟨gb103, 12, none⟩ = some (.slice Ao14 t108.length co14) := (blk_cell BK103.out 12).trans rfl; have hcz28_13 : w26.cell? ⟨gb103, 13, none⟩ = some (.slice Ao20 t111.length co20) := (blk_cell BK103.out 13).trans rfl; have hcz28_14 : w26.cell? ⟨gb103, 14, none⟩ = some (.slice Ao22 t114.length co22) := (blk_cell BK103.out 14).trans rfl; have hcz28_15 : w26.cell? ⟨gb103, 15, none⟩ = some (.slice A0_15 l0_15.length c0_15) := (blk_cell BK103.out 15).trans rfl; have hfz28_0 := blk_frozen BK103.out 0; have hfz28_1 := blk_frozen BK103.out 1; have hfz28_2 := blk_frozen BK103.out 2; have hfz28_3 := blk_frozen BK103.out 3; have hfz28_4 := blk_frozen BK103.out 4; have hfz28_5 := blk_frozen BK103.out 5; have hfz28_6 := blk_frozen BK103.out 6; have hfz28_7 := blk_frozen BK103.out 7; have hfz28_8 := blk_frozen BK103.out 8; have hfz28_9 := blk_frozen BK103.out 9; have hfz28_10 := blk_frozen BK103.out 10; have hfz28_11 := blk_frozen BK103.out 11; have hfz28_12 := blk_frozen BK103.out 12; have hfz28_13 := blk_frozen BK103.out 13; have hfz28_14 := blk_frozen BK103.out 14; have hfz28_15 := blk_frozen BK103.out 15; have hcz29_0 : w26.cell? ⟨gb104, 0, none⟩ = some (.int .u8 0) := (blk_cell BK104.out 0).trans rfl; have hcz29_1 : w26.cell? ⟨gb104, 1, none⟩ = some (.int .u8 0) := (blk_cell BK104.out 1).trans rfl; have hcz29_2 : w26.cell? ⟨gb104, 2, none⟩ = some (.int .u8 0) := (blk_cell BK104.out 2).trans rfl; have hcz29_3 : w26.cell? ⟨gb104, 3, none⟩ = some (.int .u8 0) := (blk_cell BK104.out 3).trans rfl; have hcz29_4 : w26.cell? ⟨gb104, 4, none⟩ = some (.int .u64 0) := (blk_cell BK104.out 4).trans rfl; have hcz29_5 : w26.cell? ⟨gb104, 5, none⟩ = some (.int .u64 0) := (blk_cell BK104.out 5).trans rfl; have hcz29_6 : w26.cell? ⟨gb104, 6, none⟩ = some (.int .u32 0) := (blk_cell BK104.out 6).trans rfl; have hcz29_7 : w26.cell? ⟨gb104, 7, none⟩ = some (.int .u32 0) := (blk_cell BK104.out 7).trans rfl; have hcz29_8 : w26.cell? ⟨gb104, 8, none⟩ = some (.int .u32 0) := (blk_cell BK104.out 8).trans rfl; have hcz29_9 : w26.cell? ⟨gb104, 9, none⟩ = some (.int .u64 0) := (blk_cell BK104.out 9).trans rfl; have hcz29_10 : w26.cell? ⟨gb104, 10, none⟩ = some (.int .u64 0) := (blk_cell BK104.out 10).trans rfl; have hcz29_11 : w26.cell? ⟨gb104, 11, none⟩ = some (.slice none 0 0) := (blk_cell BK104.out 11).trans rfl; have hcz29_12 : w26.cell? ⟨gb104, 12, none⟩ = some (.slice none 0 0) := (blk_cell BK104.out 12).trans rfl; have hcz29_13 : w26.cell? ⟨gb104, 13, none⟩ = some (.slice none 0 0) := (blk_cell BK104.out 13).trans rfl; have hcz29_14 : w26.cell? ⟨gb104, 14, none⟩ = some (.slice none 0 0) := (blk_cell BK104.out 14).trans rfl; have hcz29_15 : w26.cell? ⟨gb104, 15, none⟩ = some (.slice none 0 0) := (blk_cell BK104.out 15).trans rfl; have hfz29_0 := blk_frozen BK104.out 0; have hfz29_1 := blk_frozen BK104.out 1; have hfz29_2 := blk_frozen BK104.out 2; have hfz29_3 := blk_frozen BK104.out 3; have hfz29_4 := blk_frozen BK104.out 4; have hfz29_5 := blk_frozen BK104.out 5; have hfz29_6 := blk_frozen BK104.out 6; have hfz29_7 := blk_frozen BK104.out 7; have hfz29_8 := blk_frozen BK104.out 8; have hfz29_9 := blk_frozen BK104.out 9; have hfz29_10 := blk_frozen BK104.out 10; have hfz29_11 := blk_frozen BK104.out 11; have hfz29_12 := blk_frozen BK104.out 12; have hfz29_13 := blk_frozen BK104.out 13; have hfz29_14 := blk_frozen BK104.out 14; have hfz29_15 := blk_frozen BK104.out 15))
  refine bodyPost_ret (results_cell_row rfl _ _ gb104 37 #[.int .u8 a0_0, .int .u8 a0_1, .int .u8 a0_2, .int .u8 a0_3, .int .u64 a0_4, .int .u64 a0_5, .int .u32 a0_6, .int .u32 a0_7, .int .u32 a0_8, .int .u64 a0_9, .int .u64 a0_10, .slice Ao12 t105.length co12, .slice Ao14 t108.length co14, .slice Ao20 t111.length co20, .slice Ao22 t114.length co22, .slice Ao27 t117.length co27] (0, 0) _ rfl (by (with_reducible repeat (first | refine blk_drewN ?_ _ | refine blk_drew ?_ | refine blk_alloc ?_ _)); refine blk_put (cs := #[.int .u8 a0_0, .int .u8 a0_1, .int .u8 a0_2, .int .u8 a0_3, .int .u64 a0_4, .int .u64 a0_5, .int .u32 a0_6, .int .u32 a0_7, .int .u32 a0_8, .int .u64 a0_9, .int .u64 a0_10, .slice Ao12 t105.length co12, .slice Ao14 t108.length co14, .slice Ao20 t111.length co20, .slice Ao22 t114.length co22, .slice none 0 0]) ?_ 15 _ rfl; (with_reducible repeat (first | refine blk_drewN ?_ _ | refine blk_drew ?_ | refine blk_alloc ?_ _)); refine blk_put (cs := #[.int .u8 a0_0, .int .u8 a0_1, .int .u8 a0_2, .int .u8 a0_3, .int .u64 a0_4, .int .u64 a0_5, .int .u32 a0_6, .int .u32 a0_7, .int .u32 a0_8, .int .u64 a0_9, .int .u64 a0_10, .slice Ao12 t105.length co12, .slice Ao14 t108.length co14, .slice Ao20 t111.length co20, .slice none 0 0, .slice none 0 0]) ?_ 14 _ rfl; (with_reducible repeat (first | refine blk_drewN ?_ _ | refine blk_drew ?_ | refine blk_alloc ?_ _)); refine blk_put (cs := #[.int .u8 a0_0, .int .u8 a0_1, .int .u8 a0_2, .int .u8 a0_3, .int .u64 a0_4, .int .u64 a0_5, .int .u32 a0_6, .int .u32 a0_7, .int .u32 a0_8, .int .u64 a0_9, .int .u64 a0_10, .slice Ao12 t105.length co12, .slice Ao14 t108.length co14, .slice none 0 0, .slice none 0 0, .slice none 0 0]) ?_ 13 _ rfl; (with_reducible repeat (first | refine blk_drewN ?_ _ | refine blk_drew ?_ | refine blk_alloc ?_ _)); refine blk_put (cs := #[.int .u8 a0_0, .int .u8 a0_1, .int .u8 a0_2, .int .u8 a0_3, .int .u64 a0_4, .int .u64 a0_5, .int .u32 a0_6, .int .u32 a0_7, .int .u32 a0_8, .int .u64 a0_9, .int .u64 a0_10, .slice Ao12 t105.length co12, .slice none 0 0, .slice none 0 0, .slice none 0 0, .slice none 0 0]) ?_ 12 _ rfl; (with_reducible repeat (first | refine blk_drewN ?_ _ | refine blk_drew ?_ | refine blk_alloc ?_ _)); refine blk_put (cs := #[.int .u8 a0_0, .int .u8 a0_1, .int .u8 a0_2, .int .u8 a0_3, .int .u64 a0_4, .int .u64 a0_5, .int .u32 a0_6, .int .u32 a0_7, .int .u32 a0_8, .int .u64 a0_9, .int .u64 a0_10, .slice none 0 0, .slice none 0 0, .slice none 0 0, .slice none 0 0, .slice none 0 0]) ?_ 11 _ rfl; (with_reducible repeat (first | refine blk_drewN ?_ _ | refine blk_drew ?_ | refine blk_alloc ?_ _)); refine blk_put (cs := #[.int .u8 a0_0, .int .u8 a0_1, .int .u8 a0_2, .int .u8 a0_3, .int .u64 a0_4, .int .u64 a0_5, .int .u32 a0_6, .int .u32 a0_7, .int .u32 a0_8, .int .u64 a0_9, .int .u64 0, .slice none 0 0, .slice none 0 0, .slice none 0 0, .slice none 0 0, .slice none 0 0]) ?_ 10 _ rfl; (with_reducible repeat (first | refine blk_drewN ?_ _ | refine blk_drew ?_ | refine blk_alloc ?_ _)); refine blk_put (cs := #[.int .u8 a0_0, .int .u8 a0_1, .int .u8 a0_2, .int .u8 a0_3, .int .u64 a0_4, .int .u64 a0_5, .int .u32 a0_6, .int .u32 a0_7, .int .u32 a0_8, .int .u64 0, .int .u64 0, .slice none 0 0, .slice none 0 0, .slice none 0 0, .slice none 0 0, .slice none 0 0]) ?_ 9 _ rfl; (with_reducible repeat (first | refine blk_drewN ?_ _ | refine blk_drew ?_ | refine blk_alloc ?_ _)); refine blk_put (cs := #[.int .u8 a0_0, .int .u8 a0_1, .int .u8 a0_2, .int .u8 a0_3, .int .u64 a0_4, .int .u64 a0_5, .int .u32 a0_6, .int .u32 a0_7, .int .u32 0, .int .u64 0, .int .u64 0, .slice none 0 0, .slice none 0 0, .slice none 0 0, .slice none 0 0, .slice none 0 0]) ?_ 8 _ rfl; (with_reducible repeat (first | refine blk_drewN ?_ _ | refine blk_drew ?_ | refine blk_alloc ?_ _)); refine blk_put (cs := #[.int .u8 a0_0, .int .u8 a0_1, .int .u8 a0_2, .int .u8 a0_3, .int .u64 a0_4, .int .u64 a0_5, .int .u32 a0_6, .int .u32 0, .int .u32 0, .int .u64 0, .int .u64 0, .slice none 0 0, .slice none 0 0, .slice none 0 0, .slice none 0 0, .slice none 0 0]) ?_ 7 _ rfl; (with_reducible repeat (first | refine blk_drewN ?_ _ | refine blk_drew ?_ | refine blk_alloc ?_ _)); refine blk_put (cs := #[.int .u8 a0_0, .int .u8 a0_1, .int .u8 a0_2, .int .u8 a0_3, .int .u64 a0_4, .int .u64 a0_5, .int .u32 0, .int .u32 0, .int .u32 0, .int .u64 0, .int .u64 0, .slice none 0 0, .slice none 0 0, .slice none 0 0, .slice none 0 0, .slice none 0 0]) ?_ 6 _ rfl; (with_reducible repeat (first | refine blk_drewN ?_ _ | refine blk_drew ?_ | refine blk_alloc ?_ _)); refine blk_put (cs := #[.int .u8 a0_0, .int .u8 a0_1, .int .u8 a0_2, .int .u8 a0_3, .int .u64 a0_4, .int .u64 0, .int .u32 0, .int .u32 0, .int .u32 0, .int .u64 0, .int .u64 0, .slice none 0 0, .slice none 0 0, .slice none 0 0, .slice none 0 0, .slice none 0 0]) ?_ 5 _ rfl; (with_reducible repeat (first | refine blk_drewN ?_ _ | refine blk_drew ?_ | refine blk_alloc ?_ _)); refine blk_put (cs := #[.int .u8 a0_0, .int .u8 a0_1, .int .u8 a0_2, .int .u8 a0_3, .int .u64 0, .int .u64 0, .int .u32 0, .int .u32 0, .int .u32 0, .int .u64 0, .int .u64 0, .slice none 0 0, .slice none 0 0, .slice none 0 0, .slice none 0 0, .slice none 0 0]) ?_ 4 _ rfl; (with_reducible repeat (first | refine blk_drewN ?_ _ | refine blk_drew ?_ | refine blk_alloc ?_ _)); refine blk_put (cs := #[.int .u8 a0_0, .int .u8 a0_1, .int .u8 a0_2, .int .u8 0, .int .u64 0, .int .u64 0, .int .u32 0, .int .u32 0, .int .u32 0, .int .u64 0, .int .u64 0, .slice none 0 0, .slice none 0 0, .slice none 0 0, .slice none 0 0, .slice none 0 0]) ?_ 3 _ rfl; (with_reducible repeat (first | refine blk_drewN ?_ _ | refine blk_drew ?_ | refine blk_alloc ?_ _)); refine blk_put (cs := #[.int .u8 a0_0, .int .u8 a0_1, .int .u8 0, .int .u8 0, .int .u64 0, .int .u64 0, .int .u32 0, .int .u32 0, .int .u32 0, .int .u64 0, .int .u64 0, .slice none 0 0, .slice none 0 0, .slice none 0 0, .slice none 0 0, .slice none 0 0]) ?_ 2 _ rfl; (with_reducible repeat (first | refine blk_drewN ?_ _ | refine blk_drew ?_ | refine blk_alloc ?_ _)); refine blk_put (cs := #[.int .u8 a0_0, .int .u8 0, .int .u8 0, .int .u8 0, .int .u64 0, .int .u64 0, .int .u32 0, .int .u32 0, .int .u32 0, .int .u64 0, .int .u64 0, .slice none 0 0, .slice none 0 0, .slice none 0 0, .slice none 0 0, .slice none 0 0]) ?_ 1 _ rfl; (with_reducible repeat (first | refine blk_drewN ?_ _ | refine blk_drew ?_ | refine blk_alloc ?_ _)); refine blk_put (cs := #[.int .u8 0, .int .u8 0, .int .u8 0, .int .u8 0, .int .u64 0, .int .u64 0, .int .u32 0, .int .u32 0, .int .u32 0, .int .u64 0, .int .u64 0, .slice none 0 0, .slice none 0 0, .slice none 0 0, .slice none 0 0, .slice none 0 0]) ?_ 0 _ rfl; (with_reducible repeat (first | refine blk_drewN ?_ _ | refine blk_drew ?_ | refine blk_alloc ?_ _)); refine blk_far ?_ NB104_103.out _; (with_reducible repeat (first | refine blk_drewN ?_ _ | refine blk_drew ?_ | refine blk_alloc ?_ _)); exact BK104.out) Try.underlying37 rfl (by kernel_rfl)) rfl ?_
  exact ⟨_, _, _, _, _, by first | rfl | (simp [errW_none, errW_some] <;> rfl) | (simp [*, errW_none, errW_some] <;> rfl), by (with_reducible repeat (first | apply Kd.R_alloc | apply Kd.R_drewN | apply Kd.R_drew)); exact Kd.R_mono (Kd.R_far (p := ⟨gb104, 15, none⟩) (Kd.R_far (p := ⟨gb104, 14, none⟩) (Kd.R_far (p := ⟨gb104, 13, none⟩) (Kd.R_far (p := ⟨gb104, 12, none⟩) (Kd.R_far (p := ⟨gb104, 11, none⟩) (Kd.R_far (p := ⟨gb104, 10, none⟩) (Kd.R_far (p := ⟨gb104, 9, none⟩) (Kd.R_far (p := ⟨gb104, 8, none⟩) (Kd.R_far (p := ⟨gb104, 7, none⟩) (Kd.R_far (p := ⟨gb104, 6, none⟩) (Kd.R_far (p := ⟨gb104, 5, none⟩) (Kd.R_far (p := ⟨gb104, 4, none⟩) (Kd.R_far (p := ⟨gb104, 3, none⟩) (Kd.R_far (p := ⟨gb104, 2, none⟩) (Kd.R_far (p := ⟨gb104, 1, none⟩) (Kd.R_far (p := ⟨gb104, 0, none⟩) (Kd.R_far (p := ⟨gb103, 15, none⟩) (Kd.R_types (Kd.R_types HO107.out BK103.out (by decide)) BK104.out (by decide)) (fun _ hk => hk.1.2) (.slice Ao27 t117.length co27)) (fun _ hk => hk.2) (.int .u8 a0_0)) (fun _ hk => hk.2) (.int .u8 a0_1)) (fun _ hk => hk.2) (.int .u8 a0_2)) (fun _ hk => hk.2) (.int .u8 a0_3)) (fun _ hk => hk.2) (.int .u64 a0_4)) (fun _ hk => hk.2) (.int .u64 a0_5)) (fun _ hk => hk.2) (.int .u32 a0_6)) (fun _ hk => hk.2) (.int .u32 a0_7)) (fun _ hk => hk.2) (.int .u32 a0_8)) (fun _ hk => hk.2) (.int .u64 a0_9)) (fun _ hk => hk.2) (.int .u64 a0_10)) (fun _ hk => hk.2) (.slice Ao12 t105.length co12)) (fun _ hk => hk.2) (.slice Ao14 t108.length co14)) (fun _ hk => hk.2) (.slice Ao20 t111.length co20)) (fun _ hk => hk.2) (.slice Ao22 t114.length co22)) (fun _ hk => hk.2) (.slice Ao27 t117.length co27)) (fun _ hk => hk.1.1), by (with_reducible repeat (first | apply Kd.R_alloc | apply Kd.R_drewN | apply Kd.R_drew)); exact Kd.R_mono (Kd.R_far (p := ⟨gb104, 15, none⟩) (Kd.R_far (p := ⟨gb104, 14, none⟩) (Kd.R_far (p := ⟨gb104, 13, none⟩) (Kd.R_far (p := ⟨gb104, 12, none⟩) (Kd.R_far (p := ⟨gb104, 11, none⟩) (Kd.R_far (p := ⟨gb104, 10, none⟩) (Kd.R_far (p := ⟨gb104, 9, none⟩) (Kd.R_far (p := ⟨gb104, 8, none⟩) (Kd.R_far (p := ⟨gb104, 7, none⟩) (Kd.R_far (p := ⟨gb104, 6, none⟩) (Kd.R_far (p := ⟨gb104, 5, none⟩) (Kd.R_far (p := ⟨gb104, 4, none⟩) (Kd.R_far (p := ⟨gb104, 3, none⟩) (Kd.R_far (p := ⟨gb104, 2, none⟩) (Kd.R_far (p := ⟨gb104, 1, none⟩) (Kd.R_far (p := ⟨gb104, 0, none⟩) (Kd.R_far (p := ⟨gb103, 15, none⟩) (Kd.R_types (Kd.R_types HO110.out BK103.out (by decide)) BK104.out (by decide)) (fun _ hk => hk.1.2) (.slice Ao27 t117.length co27)) (fun _ hk => hk.2) (.int .u8 a0_0)) (fun _ hk => hk.2) (.int .u8 a0_1)) (fun _ hk => hk.2) (.int .u8 a0_2)) (fun _ hk => hk.2) (.int .u8 a0_3)) (fun _ hk => hk.2) (.int .u64 a0_4)) (fun _ hk => hk.2) (.int .u64 a0_5)) (fun _ hk => hk.2) (.int .u32 a0_6)) (fun _ hk => hk.2) (.int .u32 a0_7)) (fun _ hk => hk.2) (.int .u32 a0_8)) (fun _ hk => hk.2) (.int .u64 a0_9)) (fun _ hk => hk.2) (.int .u64 a0_10)) (fun _ hk => hk.2) (.slice Ao12 t105.length co12)) (fun _ hk => hk.2) (.slice Ao14 t108.length co14)) (fun _ hk => hk.2) (.slice Ao20 t111.length co20)) (fun _ hk => hk.2) (.slice Ao22 t114.length co22)) (fun _ hk => hk.2) (.slice Ao27 t117.length co27)) (fun _ hk => hk.1.1), by (with_reducible repeat (first | apply Kd.R_alloc | apply Kd.R_drewN | apply Kd.R_drew)); exact Kd.R_mono (Kd.R_far (p := ⟨gb104, 15, none⟩) (Kd.R_far (p := ⟨gb104, 14, none⟩) (Kd.R_far (p := ⟨gb104, 13, none⟩) (Kd.R_far (p := ⟨gb104, 12, none⟩) (Kd.R_far (p := ⟨gb104, 11, none⟩) (Kd.R_far (p := ⟨gb104, 10, none⟩) (Kd.R_far (p := ⟨gb104, 9, none⟩) (Kd.R_far (p := ⟨gb104, 8, none⟩) (Kd.R_far (p := ⟨gb104, 7, none⟩) (Kd.R_far (p := ⟨gb104, 6, none⟩) (Kd.R_far (p := ⟨gb104, 5, none⟩) (Kd.R_far (p := ⟨gb104, 4, none⟩) (Kd.R_far (p := ⟨gb104, 3, none⟩) (Kd.R_far (p := ⟨gb104, 2, none⟩) (Kd.R_far (p := ⟨gb104, 1, none⟩) (Kd.R_far (p := ⟨gb104, 0, none⟩) (Kd.R_far (p := ⟨gb103, 15, none⟩) (Kd.R_types (Kd.R_types HO113.out BK103.out (by decide)) BK104.out (by decide)) (fun _ hk => hk.1.2) (.slice Ao27 t117.length co27)) (fun _ hk => hk.2) (.int .u8 a0_0)) (fun _ hk => hk.2) (.int .u8 a0_1)) (fun _ hk => hk.2) (.int .u8 a0_2)) (fun _ hk => hk.2) (.int .u8 a0_3)) (fun _ hk => hk.2) (.int .u64 a0_4)) (fun _ hk => hk.2) (.int .u64 a0_5)) (fun _ hk => hk.2) (.int .u32 a0_6)) (fun _ hk => hk.2) (.int .u32 a0_7)) (fun _ hk => hk.2) (.int .u32 a0_8)) (fun _ hk => hk.2) (.int .u64 a0_9)) (fun _ hk => hk.2) (.int .u64 a0_10)) (fun _ hk => hk.2) (.slice Ao12 t105.length co12)) (fun _ hk => hk.2) (.slice Ao14 t108.length co14)) (fun _ hk => hk.2) (.slice Ao20 t111.length co20)) (fun _ hk => hk.2) (.slice Ao22 t114.length co22)) (fun _ hk => hk.2) (.slice Ao27 t117.length co27)) (fun _ hk => hk.1.1.2), by (with_reducible repeat (first | apply Kd.R_alloc | apply Kd.R_drewN | apply Kd.R_drew)); exact Kd.R_mono (Kd.R_far (p := ⟨gb104, 15, none⟩) (Kd.R_far (p := ⟨gb104, 14, none⟩) (Kd.R_far (p := ⟨gb104, 13, none⟩) (Kd.R_far (p := ⟨gb104, 12, none⟩) (Kd.R_far (p := ⟨gb104, 11, none⟩) (Kd.R_far (p := ⟨gb104, 10, none⟩) (Kd.R_far (p := ⟨gb104, 9, none⟩) (Kd.R_far (p := ⟨gb104, 8, none⟩) (Kd.R_far (p := ⟨gb104, 7, none⟩) (Kd.R_far (p := ⟨gb104, 6, none⟩) (Kd.R_far (p := ⟨gb104, 5, none⟩) (Kd.R_far (p := ⟨gb104, 4, none⟩) (Kd.R_far (p := ⟨gb104, 3, none⟩) (Kd.R_far (p := ⟨gb104, 2, none⟩) (Kd.R_far (p := ⟨gb104, 1, none⟩) (Kd.R_far (p := ⟨gb104, 0, none⟩) (Kd.R_far (p := ⟨gb103, 15, none⟩) (Kd.R_types (Kd.R_types HO116.out BK103.out (by decide)) BK104.out (by decide)) (fun _ hk => hk.1.2) (.slice Ao27 t117.length co27)) (fun _ hk => hk.2) (.int .u8 a0_0)) (fun _ hk => hk.2) (.int .u8 a0_1)) (fun _ hk => hk.2) (.int .u8 a0_2)) (fun _ hk => hk.2) (.int .u8 a0_3)) (fun _ hk => hk.2) (.int .u64 a0_4)) (fun _ hk => hk.2) (.int .u64 a0_5)) (fun _ hk => hk.2) (.int .u32 a0_6)) (fun _ hk => hk.2) (.int .u32 a0_7)) (fun _ hk => hk.2) (.int .u32 a0_8)) (fun _ hk => hk.2) (.int .u64 a0_9)) (fun _ hk => hk.2) (.int .u64 a0_10)) (fun _ hk => hk.2) (.slice Ao12 t105.length co12)) (fun _ hk => hk.2) (.slice Ao14 t108.length co14)) (fun _ hk => hk.2) (.slice Ao20 t111.length co20)) (fun _ hk => hk.2) (.slice Ao22 t114.length co22)) (fun _ hk => hk.2) (.slice Ao27 t117.length co27)) (fun _ hk => hk.1.1.2), by (with_reducible repeat (first | apply Kd.R_alloc | apply Kd.R_drewN | apply Kd.R_drew)); exact Kd.R_mono (Kd.R_far (p := ⟨gb104, 15, none⟩) (Kd.R_far (p := ⟨gb104, 14, none⟩) (Kd.R_far (p := ⟨gb104, 13, none⟩) (Kd.R_far (p := ⟨gb104, 12, none⟩) (Kd.R_far (p := ⟨gb104, 11, none⟩) (Kd.R_far (p := ⟨gb104, 10, none⟩) (Kd.R_far (p := ⟨gb104, 9, none⟩) (Kd.R_far (p := ⟨gb104, 8, none⟩) (Kd.R_far (p := ⟨gb104, 7, none⟩) (Kd.R_far (p := ⟨gb104, 6, none⟩) (Kd.R_far (p := ⟨gb104, 5, none⟩) (Kd.R_far (p := ⟨gb104, 4, none⟩) (Kd.R_far (p := ⟨gb104, 3, none⟩) (Kd.R_far (p := ⟨gb104, 2, none⟩) (Kd.R_far (p := ⟨gb104, 1, none⟩) (Kd.R_far (p := ⟨gb104, 0, none⟩) (Kd.R_far (p := ⟨gb103, 15, none⟩) (Kd.R_types (Kd.R_types HO119.out BK103.out (by decide)) BK104.out (by decide)) (fun _ hk => hk.1.2) (.slice Ao27 t117.length co27)) (fun _ hk => hk.2) (.int .u8 a0_0)) (fun _ hk => hk.2) (.int .u8 a0_1)) (fun _ hk => hk.2) (.int .u8 a0_2)) (fun _ hk => hk.2) (.int .u8 a0_3)) (fun _ hk => hk.2) (.int .u64 a0_4)) (fun _ hk => hk.2) (.int .u64 a0_5)) (fun _ hk => hk.2) (.int .u32 a0_6)) (fun _ hk => hk.2) (.int .u32 a0_7)) (fun _ hk => hk.2) (.int .u32 a0_8)) (fun _ hk => hk.2) (.int .u64 a0_9)) (fun _ hk => hk.2) (.int .u64 a0_10)) (fun _ hk => hk.2) (.slice Ao12 t105.length co12)) (fun _ hk => hk.2) (.slice Ao14 t108.length co14)) (fun _ hk => hk.2) (.slice Ao20 t111.length co20)) (fun _ hk => hk.2) (.slice Ao22 t114.length co22)) (fun _ hk => hk.2) (.slice Ao27 t117.length co27)) (fun _ hk => trivial), by repeat (first | (with_reducible first | exact HB.out | apply below_alloc | apply pw_below_drewN | apply below_drew1 | refine below_set ?_ GE103.out | refine below_set ?_ GE104.out) | exact HB.out)⟩

end Go.Proofs.Ytiiajenhjamjdaa.F
