/- What is proved: the Go functions that the law reaches come to what the Lean functions beside them tell, and (in the text of the law) the given statement follows. Conditions: none beyond each theorem's own. Written by a program (a turned copy of the kit's print.py), some walks by hand. -/
import Derived.Test.YthgpocefiaklkaaF0
import Derived.Test.YthgpocefiaklkaaF2
import Derived.Test.YthgpocefiaklkaaF5
import Derived.Test.YthgpocefiaklkaaF6
namespace Go.Proofs.Ythgpocefiaklkaa.F
open Go.RowKit Go.Proofs.YthgpocefiaklkaaW.PrintWords Go.Proofs.YthgpocefiaklkaaW.PrintLast Go.Proofs.YthgpocefiaklkaaW.PrintMore
attribute [local go_sem] max2_int min2_int max_two min_two max_three min_three max_four min_four   -- for this text's walks alone
set_option linter.unusedVariables false
set_option linter.unusedSimpArgs false

/-! ### unisonlaw12_ChunkRight: function 4 -/
def unisonlaw12_ChunkRight.j0 : Nat → Int → Int → Bool → Int → Int → Int → Int → Int → Int → Int → Int → Int → Int → Int → List (S53) → List (S53) → List Int → List Int → List Int → Option (Bool)
  | 0, _, _, _, _, _, _, _, _, _, _, _, _, _, _, _, _, _, _, _ => none
  | k + 1, x1, x2, x18, x124000, x124001, x124002, x124003, x124004, x124005, x124006, x124007, x124008, x124009, x124010, x124011, x124012, x124013, x124014, x124015 => if x18 = true then ((unisonlaw12_awake.f).bind fun t125 => (some t125)) else ((chunk_Right.f x124000 x124001 x124002 x124003 x124004 x124005 x124006 x124007 x124008 x124009 x124010 x124011 x124012 x124013 x124014 x124015 x1 x2).bind fun t126 => ((unisonref12_Right.f k x124000 x124001 x124002 x124003 x124004 x124005 x124006 x124007 x124008 x124009 x124010 x124011 x124012 x124013 x124014 x124015 x1 x2).bind fun t127 => (if (t126 == t127) = true then ((unisonlaw12_awake.f).bind fun t128 => (some t128)) else (some false))))
def unisonlaw12_ChunkRight.f (k : Nat) (a0_0 : Int) (a0_1 : Int) (a0_2 : Int) (a0_3 : Int) (a0_4 : Int) (a0_5 : Int) (a0_6 : Int) (a0_7 : Int) (a0_8 : Int) (a0_9 : Int) (a0_10 : Int) (l0_11 : List (S53)) (l0_12 : List (S53)) (l0_13 : List Int) (l0_14 : List Int) (l0_15 : List Int) (a1 : Int) (a2 : Int) : Option (Bool) := (unisonref06_Great.f a0_0 a0_1 a0_2 a0_3 a0_4 a0_5 a0_6 a0_7 a0_8 a0_9 a0_10 l0_11 l0_12 l0_13 l0_14 l0_15).bind fun t124 => (if t124 = true then (unisonlaw12_ChunkRight.j0 k a1 a2 true a0_0 a0_1 a0_2 a0_3 a0_4 a0_5 a0_6 a0_7 a0_8 a0_9 a0_10 l0_11 l0_12 l0_13 l0_14 l0_15) else (if a0_8 > 5000 then (unisonlaw12_ChunkRight.j0 k a1 a2 (decide (a0_8 ≤ 1048576)) a0_0 a0_1 a0_2 a0_3 a0_4 a0_5 a0_6 a0_7 a0_8 a0_9 a0_10 l0_11 l0_12 l0_13 l0_14 l0_15) else (unisonlaw12_ChunkRight.j0 k a1 a2 false a0_0 a0_1 a0_2 a0_3 a0_4 a0_5 a0_6 a0_7 a0_8 a0_9 a0_10 l0_11 l0_12 l0_13 l0_14 l0_15)))
theorem unisonlaw12_ChunkRight.mono_l : ∀ k, (∀ y0 y1 y2 y3 y4 y5 y6 y7 y8 y9 y10 y11 y12 y13 y14 y15 y16 y17 y18, LeO (unisonlaw12_ChunkRight.j0 k y0 y1 y2 y3 y4 y5 y6 y7 y8 y9 y10 y11 y12 y13 y14 y15 y16 y17 y18) (unisonlaw12_ChunkRight.j0 (k + 1) y0 y1 y2 y3 y4 y5 y6 y7 y8 y9 y10 y11 y12 y13 y14 y15 y16 y17 y18))
  | 0 => fun _ _ _ _ _ _ _ _ _ _ _ _ _ _ _ _ _ _ _ r h => by simp [unisonlaw12_ChunkRight.j0] at h
  | k + 1 => by
    have ih0 := unisonlaw12_ChunkRight.mono_l k
    · intro y0 y1 y2 y3 y4 y5 y6 y7 y8 y9 y10 y11 y12 y13 y14 y15 y16 y17 y18
      unfold unisonlaw12_ChunkRight.j0
      repeat' first
      | (with_reducible exact ih0 _ _ _ _ _ _ _ _ _ _ _ _ _ _ _ _ _ _ _)
      | (with_reducible exact unisonref12_Right.mono _ _ _ _ _ _ _ _ _ _ _ _ _ _ _ _ _ _ _)
      | (with_reducible exact LeO.refl _)
      | (with_reducible exact LeO.none _)
      | (with_reducible refine LeO.ite ?_ ?_)
      | (with_reducible refine LeO.bind ?_ (fun _ => ?_))
      | exact ih0 _ _ _ _ _ _ _ _ _ _ _ _ _ _ _ _ _ _ _
      | exact unisonref12_Right.mono _ _ _ _ _ _ _ _ _ _ _ _ _ _ _ _ _ _ _
      | exact LeO.none _
      | refine LeO.ite ?_ ?_
      | refine LeO.bind ?_ (fun _ => ?_)
theorem unisonlaw12_ChunkRight.mono : ∀ a0 a1 a2 a3 a4 a5 a6 a7 a8 a9 a10 a11 a12 a13 a14 a15 a16 a17 k, LeO (unisonlaw12_ChunkRight.f k a0 a1 a2 a3 a4 a5 a6 a7 a8 a9 a10 a11 a12 a13 a14 a15 a16 a17) (unisonlaw12_ChunkRight.f (k + 1) a0 a1 a2 a3 a4 a5 a6 a7 a8 a9 a10 a11 a12 a13 a14 a15 a16 a17) := by
  intro a0 a1 a2 a3 a4 a5 a6 a7 a8 a9 a10 a11 a12 a13 a14 a15 a16 a17 k
  have ih0 := unisonlaw12_ChunkRight.mono_l k
  unfold unisonlaw12_ChunkRight.f
  repeat' first
      | (with_reducible exact ih0 _ _ _ _ _ _ _ _ _ _ _ _ _ _ _ _ _ _ _)
      | (with_reducible exact unisonref12_Right.mono _ _ _ _ _ _ _ _ _ _ _ _ _ _ _ _ _ _ _)
      | (with_reducible exact LeO.refl _)
      | (with_reducible exact LeO.none _)
      | (with_reducible refine LeO.ite ?_ ?_)
      | (with_reducible refine LeO.bind ?_ (fun _ => ?_))
      | exact ih0 _ _ _ _ _ _ _ _ _ _ _ _ _ _ _ _ _ _ _
      | exact unisonref12_Right.mono _ _ _ _ _ _ _ _ _ _ _ _ _ _ _ _ _ _ _
      | exact LeO.none _
      | refine LeO.ite ?_ ?_
      | refine LeO.bind ?_ (fun _ => ?_)
def unisonlaw12_ChunkRight.T3 : Bool × List (List Nat × List Nat) := (true, [([], []), ([], []), ([], []), ([0, 1, 2], [0, 1, 2]), ([], []), ([], []), ([], []), ([4, 5, 6, 3], [4, 5, 6]), ([3, 7], [3, 7]), ([8, 7], [8]), ([9, 9], [9]), ([9, 10], [9, 10]), ([11, 10, 0, 1, 2, 3, 4, 5, 6, 7, 8, 9, 10, 11], [11])])
def unisonlaw12_ChunkRight.B3 : List Nat := [0, 0, 0, 7, 0, 0, 0, 127, 255, 511, 1023, 2047, 4095]
theorem unisonlaw12_ChunkRight.tab3 : rtab .any (opsOf Try.f4 3) = unisonlaw12_ChunkRight.T3 := by kernel_rfl
theorem unisonlaw12_ChunkRight.bits3 : waitsOk unisonlaw12_ChunkRight.T3.2 unisonlaw12_ChunkRight.B3 = true := by kernel_rfl
set_option maxHeartbeats 8000000 in
set_option maxRecDepth 100000 in
theorem unisonlaw12_ChunkRight.calls (k : Nat) (a0_0 : Int) (a0_1 : Int) (a0_2 : Int) (a0_3 : Int) (a0_4 : Int) (a0_5 : Int) (a0_6 : Int) (a0_7 : Int) (a0_8 : Int) (a0_9 : Int) (a0_10 : Int) (A0_11 : Option Addr) (c0_11 : Nat) (l0_11 : List (S53)) (A0_12 : Option Addr) (c0_12 : Nat) (l0_12 : List (S53)) (A0_13 : Option Addr) (c0_13 : Nat) (l0_13 : List Int) (A0_14 : Option Addr) (c0_14 : Nat) (l0_14 : List Int) (A0_15 : Option Addr) (c0_15 : Nat) (l0_15 : List Int) (a1 : Int) (a2 : Int) (r : Bool) (w : World) (hr0_11 : Kd.C k53 w A0_11 l0_11.length l0_11) (hc0_11 : l0_11.length ≤ c0_11) (hr0_12 : Kd.C k53 w A0_12 l0_12.length l0_12) (hc0_12 : l0_12.length ≤ c0_12) (hr0_13 : Kd.C (Kd.int .u64) w A0_13 l0_13.length l0_13) (hc0_13 : l0_13.length ≤ c0_13) (hr0_14 : Kd.C (Kd.int .u64) w A0_14 l0_14.length l0_14) (hc0_14 : l0_14.length ≤ c0_14) (hr0_15 : Kd.C (Kd.int .u8) w A0_15 l0_15.length l0_15) (hc0_15 : l0_15.length ≤ c0_15) (h : unisonlaw12_ChunkRight.f k a0_0 a0_1 a0_2 a0_3 a0_4 a0_5 a0_6 a0_7 a0_8 a0_9 a0_10 l0_11 l0_12 l0_13 l0_14 l0_15 a1 a2 = some r) :
    Calls Try.prog 4 #[.agg #[.int .u8 a0_0, .int .u8 a0_1, .int .u8 a0_2, .int .u8 a0_3, .int .u64 a0_4, .int .u64 a0_5, .int .u32 a0_6, .int .u32 a0_7, .int .u32 a0_8, .int .u64 a0_9, .int .u64 a0_10, .slice A0_11 l0_11.length c0_11, .slice A0_12 l0_12.length c0_12, .slice A0_13 l0_13.length c0_13, .slice A0_14 l0_14.length c0_14, .slice A0_15 l0_15.length c0_15], .int .i64 a1, .int .i64 a2] w fun e w' => e = .returned (.bool r) ∧ Below w.heap.size w w' := by
  have hu36 := Try.underlying36
  have HR0_11 := Aside0.mk hr0_11
  have HC0_11 := Aside0.mk hc0_11
  clear hr0_11 hc0_11
  have HR0_12 := Aside0.mk hr0_12
  have HC0_12 := Aside0.mk hc0_12
  clear hr0_12 hc0_12
  have HR0_13 := Aside0.mk hr0_13
  have HC0_13 := Aside0.mk hc0_13
  clear hr0_13 hc0_13
  have HR0_14 := Aside0.mk hr0_14
  have HC0_14 := Aside0.mk hc0_14
  clear hr0_14 hc0_14
  have HR0_15 := Aside0.mk hr0_15
  have HC0_15 := Aside0.mk hc0_15
  clear hr0_15 hc0_15
  have HB := Aside0.mk (Below.refl w.heap.size w)
  have H : ((unisonref06_Great.f a0_0 a0_1 a0_2 a0_3 a0_4 a0_5 a0_6 a0_7 a0_8 a0_9 a0_10 l0_11 l0_12 l0_13 l0_14 l0_15).bind fun t124 => (if t124 = true then (unisonlaw12_ChunkRight.j0 k a1 a2 true a0_0 a0_1 a0_2 a0_3 a0_4 a0_5 a0_6 a0_7 a0_8 a0_9 a0_10 l0_11 l0_12 l0_13 l0_14 l0_15) else (if a0_8 > 5000 then (unisonlaw12_ChunkRight.j0 k a1 a2 (decide (a0_8 ≤ 1048576)) a0_0 a0_1 a0_2 a0_3 a0_4 a0_5 a0_6 a0_7 a0_8 a0_9 a0_10 l0_11 l0_12 l0_13 l0_14 l0_15) else (unisonlaw12_ChunkRight.j0 k a1 a2 false a0_0 a0_1 a0_2 a0_3 a0_4 a0_5 a0_6 a0_7 a0_8 a0_9 a0_10 l0_11 l0_12 l0_13 l0_14 l0_15)))) = some r := h
  clear h
  have HC4 := Aside0.mk H
  clear H
  go_enter Try.func4, Try.ntmps4
  go_upto_region 1 with (first | ((with_reducible refine gate_dst (N := 3) rfl ?_); refine box_event ?hg (N := 3) ?hd (cs := #[.int .u8 a0_0, .int .u8 a0_1, .int .u8 a0_2, .int .u8 a0_3, .int .u64 a0_4, .int .u64 a0_5, .int .u32 a0_6, .int .u32 a0_7, .int .u32 a0_8, .int .u64 a0_9, .int .u64 a0_10, .slice A0_11 l0_11.length c0_11, .slice A0_12 l0_12.length c0_12, .slice A0_13 l0_13.length c0_13, .slice A0_14 l0_14.length c0_14, .slice A0_15 l0_15.length c0_15]) (t := 36) ?hr ?_; (case hd => rfl); (case hg => rfl); (case hr => first | (go_simp; done) | (go_simp; rfl)); intro gb123 hg w5 hbox hb; have n0_ := Aside0.mk (below_step (by repeat (first | (with_reducible first | exact HB.out | apply below_alloc | apply pw_below_drewN | apply below_drew1) | exact HB.out)) hb); have n1_ := Aside0.mk (hbox); have n2_ := Aside0.mk ((by rw [hg]; exact (below_size (by repeat (first | (with_reducible first | exact HB.out | apply below_alloc | apply pw_below_drewN | apply below_drew1) | exact HB.out))) : w.heap.size ≤ gb123)); have n3_ := Aside0.mk ((by rw [hg]; exact (below_size (by repeat (first | (with_reducible first | exact HB.out | apply below_alloc | apply pw_below_drewN | apply below_drew1) | exact HB.out))) : w.heap.size ≤ gb123)); clear HB; have HB := n0_; have BK123 := n1_; have GW123 := n2_; have GE123 := n3_; clear n0_ n1_ n2_ n3_; clear hb hbox hg))
  (try simp only [Act.put, List.setIfInBounds_toArray, List.set_cons_zero, List.set_cons_succ])
  go_cut [18] (fun v18 wc => ∃ (kq : Nat) (x18_3 : Bool), v18 = .bool x18_3 ∧ Aside0 (unisonlaw12_ChunkRight.j0 kq a1 a2 x18_3 a0_0 a0_1 a0_2 a0_3 a0_4 a0_5 a0_6 a0_7 a0_8 a0_9 a0_10 l0_11 l0_12 l0_13 l0_14 l0_15 = some r) ∧ Aside0 (kq ≤ k) ∧ Aside0 (wc.heap[gb123]? = some (.cells #[.int .u8 a0_0, .int .u8 a0_1, .int .u8 a0_2, .int .u8 a0_3, .int .u64 a0_4, .int .u64 a0_5, .int .u32 a0_6, .int .u32 a0_7, .int .u32 a0_8, .int .u64 a0_9, .int .u64 a0_10, (.slice A0_11 l0_11.length c0_11), (.slice A0_12 l0_12.length c0_12), (.slice A0_13 l0_13.length c0_13), (.slice A0_14 l0_14.length c0_14), (.slice A0_15 l0_15.length c0_15)] 36 (0, 0))) ∧ Aside0 (Below w.heap.size w wc))
  case first =>
    have H := HC4.out
    clear HC4
    replace H := Option.bind_eq_some_iff.mp H
    obtain ⟨t124, A60, H⟩ := H
    replace H : (if t124 = true then (unisonlaw12_ChunkRight.j0 k a1 a2 true a0_0 a0_1 a0_2 a0_3 a0_4 a0_5 a0_6 a0_7 a0_8 a0_9 a0_10 l0_11 l0_12 l0_13 l0_14 l0_15) else (if a0_8 > 5000 then (unisonlaw12_ChunkRight.j0 k a1 a2 (decide (a0_8 ≤ 1048576)) a0_0 a0_1 a0_2 a0_3 a0_4 a0_5 a0_6 a0_7 a0_8 a0_9 a0_10 l0_11 l0_12 l0_13 l0_14 l0_15) else (unisonlaw12_ChunkRight.j0 k a1 a2 false a0_0 a0_1 a0_2 a0_3 a0_4 a0_5 a0_6 a0_7 a0_8 a0_9 a0_10 l0_11 l0_12 l0_13 l0_14 l0_15))) = some r := H
    have A6 := Aside0.mk A60
    clear A60
    by_cases c7 : t124 = true
    · subst c7
      have H1 : (unisonlaw12_ChunkRight.j0 k a1 a2 true a0_0 a0_1 a0_2 a0_3 a0_4 a0_5 a0_6 a0_7 a0_8 a0_9 a0_10 l0_11 l0_12 l0_13 l0_14 l0_15) = some r := by rw [if_pos rfl] at H; exact H
      clear H
      have H := H1
      clear H1
      have H' := Aside0.mk H
      clear H
      have hcz8_0 : w5.cell? ⟨gb123, 0, none⟩ = some (.int .u8 a0_0) := (blk_cell BK123.out 0).trans rfl
      have hcz8_1 : w5.cell? ⟨gb123, 1, none⟩ = some (.int .u8 a0_1) := (blk_cell BK123.out 1).trans rfl
      have hcz8_2 : w5.cell? ⟨gb123, 2, none⟩ = some (.int .u8 a0_2) := (blk_cell BK123.out 2).trans rfl
      have hcz8_3 : w5.cell? ⟨gb123, 3, none⟩ = some (.int .u8 a0_3) := (blk_cell BK123.out 3).trans rfl
      have hcz8_4 : w5.cell? ⟨gb123, 4, none⟩ = some (.int .u64 a0_4) := (blk_cell BK123.out 4).trans rfl
      have hcz8_5 : w5.cell? ⟨gb123, 5, none⟩ = some (.int .u64 a0_5) := (blk_cell BK123.out 5).trans rfl
      have hcz8_6 : w5.cell? ⟨gb123, 6, none⟩ = some (.int .u32 a0_6) := (blk_cell BK123.out 6).trans rfl
      have hcz8_7 : w5.cell? ⟨gb123, 7, none⟩ = some (.int .u32 a0_7) := (blk_cell BK123.out 7).trans rfl
      have hcz8_8 : w5.cell? ⟨gb123, 8, none⟩ = some (.int .u32 a0_8) := (blk_cell BK123.out 8).trans rfl
      have hcz8_9 : w5.cell? ⟨gb123, 9, none⟩ = some (.int .u64 a0_9) := (blk_cell BK123.out 9).trans rfl
      have hcz8_10 : w5.cell? ⟨gb123, 10, none⟩ = some (.int .u64 a0_10) := (blk_cell BK123.out 10).trans rfl
      have hcz8_11 : w5.cell? ⟨gb123, 11, none⟩ = some (.slice A0_11 l0_11.length c0_11) := (blk_cell BK123.out 11).trans rfl
      have hcz8_12 : w5.cell? ⟨gb123, 12, none⟩ = some (.slice A0_12 l0_12.length c0_12) := (blk_cell BK123.out 12).trans rfl
      have hcz8_13 : w5.cell? ⟨gb123, 13, none⟩ = some (.slice A0_13 l0_13.length c0_13) := (blk_cell BK123.out 13).trans rfl
      have hcz8_14 : w5.cell? ⟨gb123, 14, none⟩ = some (.slice A0_14 l0_14.length c0_14) := (blk_cell BK123.out 14).trans rfl
      have hcz8_15 : w5.cell? ⟨gb123, 15, none⟩ = some (.slice A0_15 l0_15.length c0_15) := (blk_cell BK123.out 15).trans rfl
      have hfz8_0 := blk_frozen BK123.out 0
      have hfz8_1 := blk_frozen BK123.out 1
      have hfz8_2 := blk_frozen BK123.out 2
      have hfz8_3 := blk_frozen BK123.out 3
      have hfz8_4 := blk_frozen BK123.out 4
      have hfz8_5 := blk_frozen BK123.out 5
      have hfz8_6 := blk_frozen BK123.out 6
      have hfz8_7 := blk_frozen BK123.out 7
      have hfz8_8 := blk_frozen BK123.out 8
      have hfz8_9 := blk_frozen BK123.out 9
      have hfz8_10 := blk_frozen BK123.out 10
      have hfz8_11 := blk_frozen BK123.out 11
      have hfz8_12 := blk_frozen BK123.out 12
      have hfz8_13 := blk_frozen BK123.out 13
      have hfz8_14 := blk_frozen BK123.out 14
      have hfz8_15 := blk_frozen BK123.out 15
      go_wp2_with (first | ((with_reducible refine gate_callee (f := 13) rfl ?_); refine goesL_ (some 8) rfl rfl Try.func13 (by kernel_rfl) rfl #[.agg #[.int .u8 a0_0, .int .u8 a0_1, .int .u8 a0_2, .int .u8 a0_3, .int .u64 a0_4, .int .u64 a0_5, .int .u32 a0_6, .int .u32 a0_7, .int .u32 a0_8, .int .u64 a0_9, .int .u64 a0_10, .slice A0_11 l0_11.length c0_11, .slice A0_12 l0_12.length c0_12, .slice A0_13 l0_13.length c0_13, .slice A0_14 l0_14.length c0_14, .slice A0_15 l0_15.length c0_15]] rfl (by (try simp only [List.map_toArray, List.map_cons, List.map_nil]); first | done | rfl | (simp only [List.length_drop, List.length_take]; rfl)) ?_; (with_reducible refine (unisonref06_Great.calls a0_0 a0_1 a0_2 a0_3 a0_4 a0_5 a0_6 a0_7 a0_8 a0_9 a0_10 _ _ l0_11 _ _ l0_12 _ _ l0_13 _ _ l0_14 _ _ l0_15 true _ ?side1 ?side2 ?side3 ?side4 ?side5 ?side6 ?side7 ?side8 ?side9 ?side10 A6.out).mono ?_); (case side1 => repeat (first | exact (Kd.C_below HR0_11.out HB.out) | (with_reducible refine Kd.C_alloc ?_ _) | (with_reducible refine Kd.C_drewN ?_ _) | (with_reducible refine Kd.C_drew ?_))); (case side2 => exact HC0_11.out); (case side3 => repeat (first | exact (Kd.C_below HR0_12.out HB.out) | (with_reducible refine Kd.C_alloc ?_ _) | (with_reducible refine Kd.C_drewN ?_ _) | (with_reducible refine Kd.C_drew ?_))); (case side4 => exact HC0_12.out); (case side5 => repeat (first | exact (Kd.C_below HR0_13.out HB.out) | (with_reducible refine Kd.C_alloc ?_ _) | (with_reducible refine Kd.C_drewN ?_ _) | (with_reducible refine Kd.C_drew ?_))); (case side6 => exact HC0_13.out); (case side7 => repeat (first | exact (Kd.C_below HR0_14.out HB.out) | (with_reducible refine Kd.C_alloc ?_ _) | (with_reducible refine Kd.C_drewN ?_ _) | (with_reducible refine Kd.C_drew ?_))); (case side8 => exact HC0_14.out); (case side9 => repeat (first | exact (Kd.C_below HR0_15.out HB.out) | (with_reducible refine Kd.C_alloc ?_ _) | (with_reducible refine Kd.C_drewN ?_ _) | (with_reducible refine Kd.C_drew ?_))); (case side10 => exact HC0_15.out); rintro e w9 ⟨rfl, hb⟩; refine ⟨_, rfl, ?_⟩; have n0_ := Aside0.mk (blk_below (g := gb123) (o := .cells #[.int .u8 a0_0, .int .u8 a0_1, .int .u8 a0_2, .int .u8 a0_3, .int .u64 a0_4, .int .u64 a0_5, .int .u32 a0_6, .int .u32 a0_7, .int .u32 a0_8, .int .u64 a0_9, .int .u64 a0_10, .slice A0_11 l0_11.length c0_11, .slice A0_12 l0_12.length c0_12, .slice A0_13 l0_13.length c0_13, .slice A0_14 l0_14.length c0_14, .slice A0_15 l0_15.length c0_15] 36 (0, 0)) (by (with_reducible repeat (first | refine blk_drewN ?_ _ | refine blk_drew ?_ | refine blk_alloc ?_ _)); exact BK123.out) hb); have n1_ := Aside0.mk (below_step (by repeat (first | (with_reducible first | exact HB.out | apply below_alloc | apply pw_below_drewN | apply below_drew1 | refine below_set ?_ GE123.out) | exact HB.out)) hb); clear BK123; clear HB; have BK123 := n0_; have HB := n1_; clear n0_ n1_; (try clear hb); (try clear hb2); (try clear hk); (try clear hi)))
      go_meet
      case rel => exact ⟨_, (true), (by first | rfl | (simp; done) | (simp [*]; done)), H', ⟨by first | omega | exact Nat.le_refl _⟩, ⟨by (with_reducible repeat (first | refine blk_drewN ?_ _ | refine blk_drew ?_ | refine blk_alloc ?_ _)); exact BK123.out⟩, ⟨by repeat (first | (with_reducible first | exact HB.out | apply below_alloc | apply pw_below_drewN | apply below_drew1 | refine below_set ?_ GE123.out) | exact HB.out)⟩⟩
    · replace c7 := Bool.eq_false_iff.mpr c7
      subst c7
      have H1 : (if a0_8 > 5000 then (unisonlaw12_ChunkRight.j0 k a1 a2 (decide (a0_8 ≤ 1048576)) a0_0 a0_1 a0_2 a0_3 a0_4 a0_5 a0_6 a0_7 a0_8 a0_9 a0_10 l0_11 l0_12 l0_13 l0_14 l0_15) else (unisonlaw12_ChunkRight.j0 k a1 a2 false a0_0 a0_1 a0_2 a0_3 a0_4 a0_5 a0_6 a0_7 a0_8 a0_9 a0_10 l0_11 l0_12 l0_13 l0_14 l0_15)) = some r := by rw [if_neg (show ¬ (false = true) by decide)] at H; exact H
      clear H
      have H := H1
      clear H1
      by_cases c10 : a0_8 > 5000
      · rw [if_pos c10] at H
        have c10b0 : decide (5000 < a0_8) = true := decide_eq_true c10
        clear c10
        (first | rw [c10b0] | (simp only [i64_w, i32_w]; rw [c10b0]) | skip)
        have H' := Aside0.mk H
        clear H
        have hcz11_0 : w5.cell? ⟨gb123, 0, none⟩ = some (.int .u8 a0_0) := (blk_cell BK123.out 0).trans rfl
        have hcz11_1 : w5.cell? ⟨gb123, 1, none⟩ = some (.int .u8 a0_1) := (blk_cell BK123.out 1).trans rfl
        have hcz11_2 : w5.cell? ⟨gb123, 2, none⟩ = some (.int .u8 a0_2) := (blk_cell BK123.out 2).trans rfl
        have hcz11_3 : w5.cell? ⟨gb123, 3, none⟩ = some (.int .u8 a0_3) := (blk_cell BK123.out 3).trans rfl
        have hcz11_4 : w5.cell? ⟨gb123, 4, none⟩ = some (.int .u64 a0_4) := (blk_cell BK123.out 4).trans rfl
        have hcz11_5 : w5.cell? ⟨gb123, 5, none⟩ = some (.int .u64 a0_5) := (blk_cell BK123.out 5).trans rfl
        have hcz11_6 : w5.cell? ⟨gb123, 6, none⟩ = some (.int .u32 a0_6) := (blk_cell BK123.out 6).trans rfl
        have hcz11_7 : w5.cell? ⟨gb123, 7, none⟩ = some (.int .u32 a0_7) := (blk_cell BK123.out 7).trans rfl
        have hcz11_8 : w5.cell? ⟨gb123, 8, none⟩ = some (.int .u32 a0_8) := (blk_cell BK123.out 8).trans rfl
        have hcz11_9 : w5.cell? ⟨gb123, 9, none⟩ = some (.int .u64 a0_9) := (blk_cell BK123.out 9).trans rfl
        have hcz11_10 : w5.cell? ⟨gb123, 10, none⟩ = some (.int .u64 a0_10) := (blk_cell BK123.out 10).trans rfl
        have hcz11_11 : w5.cell? ⟨gb123, 11, none⟩ = some (.slice A0_11 l0_11.length c0_11) := (blk_cell BK123.out 11).trans rfl
        have hcz11_12 : w5.cell? ⟨gb123, 12, none⟩ = some (.slice A0_12 l0_12.length c0_12) := (blk_cell BK123.out 12).trans rfl
        have hcz11_13 : w5.cell? ⟨gb123, 13, none⟩ = some (.slice A0_13 l0_13.length c0_13) := (blk_cell BK123.out 13).trans rfl
        have hcz11_14 : w5.cell? ⟨gb123, 14, none⟩ = some (.slice A0_14 l0_14.length c0_14) := (blk_cell BK123.out 14).trans rfl
        have hcz11_15 : w5.cell? ⟨gb123, 15, none⟩ = some (.slice A0_15 l0_15.length c0_15) := (blk_cell BK123.out 15).trans rfl
        have hfz11_0 := blk_frozen BK123.out 0
        have hfz11_1 := blk_frozen BK123.out 1
        have hfz11_2 := blk_frozen BK123.out 2
        have hfz11_3 := blk_frozen BK123.out 3
        have hfz11_4 := blk_frozen BK123.out 4
        have hfz11_5 := blk_frozen BK123.out 5
        have hfz11_6 := blk_frozen BK123.out 6
        have hfz11_7 := blk_frozen BK123.out 7
        have hfz11_8 := blk_frozen BK123.out 8
        have hfz11_9 := blk_frozen BK123.out 9
        have hfz11_10 := blk_frozen BK123.out 10
        have hfz11_11 := blk_frozen BK123.out 11
        have hfz11_12 := blk_frozen BK123.out 12
        have hfz11_13 := blk_frozen BK123.out 13
        have hfz11_14 := blk_frozen BK123.out 14
        have hfz11_15 := blk_frozen BK123.out 15
        go_wp2_with (first | ((with_reducible refine gate_callee (f := 13) rfl ?_); refine goesL_ (some 8) rfl rfl Try.func13 (by kernel_rfl) rfl #[.agg #[.int .u8 a0_0, .int .u8 a0_1, .int .u8 a0_2, .int .u8 a0_3, .int .u64 a0_4, .int .u64 a0_5, .int .u32 a0_6, .int .u32 a0_7, .int .u32 a0_8, .int .u64 a0_9, .int .u64 a0_10, .slice A0_11 l0_11.length c0_11, .slice A0_12 l0_12.length c0_12, .slice A0_13 l0_13.length c0_13, .slice A0_14 l0_14.length c0_14, .slice A0_15 l0_15.length c0_15]] rfl (by (try simp only [List.map_toArray, List.map_cons, List.map_nil]); first | done | rfl | (simp only [List.length_drop, List.length_take]; rfl)) ?_; (with_reducible refine (unisonref06_Great.calls a0_0 a0_1 a0_2 a0_3 a0_4 a0_5 a0_6 a0_7 a0_8 a0_9 a0_10 _ _ l0_11 _ _ l0_12 _ _ l0_13 _ _ l0_14 _ _ l0_15 false _ ?side1 ?side2 ?side3 ?side4 ?side5 ?side6 ?side7 ?side8 ?side9 ?side10 A6.out).mono ?_); (case side1 => repeat (first | exact (Kd.C_below HR0_11.out HB.out) | (with_reducible refine Kd.C_alloc ?_ _) | (with_reducible refine Kd.C_drewN ?_ _) | (with_reducible refine Kd.C_drew ?_))); (case side2 => exact HC0_11.out); (case side3 => repeat (first | exact (Kd.C_below HR0_12.out HB.out) | (with_reducible refine Kd.C_alloc ?_ _) | (with_reducible refine Kd.C_drewN ?_ _) | (with_reducible refine Kd.C_drew ?_))); (case side4 => exact HC0_12.out); (case side5 => repeat (first | exact (Kd.C_below HR0_13.out HB.out) | (with_reducible refine Kd.C_alloc ?_ _) | (with_reducible refine Kd.C_drewN ?_ _) | (with_reducible refine Kd.C_drew ?_))); (case side6 => exact HC0_13.out); (case side7 => repeat (first | exact (Kd.C_below HR0_14.out HB.out) | (with_reducible refine Kd.C_alloc ?_ _) | (with_reducible refine Kd.C_drewN ?_ _) | (with_reducible refine Kd.C_drew ?_))); (case side8 => exact HC0_14.out); (case side9 => repeat (first | exact (Kd.C_below HR0_15.out HB.out) | (with_reducible refine Kd.C_alloc ?_ _) | (with_reducible refine Kd.C_drewN ?_ _) | (with_reducible refine Kd.C_drew ?_))); (case side10 => exact HC0_15.out); rintro e w12 ⟨rfl, hb⟩; refine ⟨_, rfl, ?_⟩; have n0_ := Aside0.mk (blk_below (g := gb123) (o := .cells #[.int .u8 a0_0, .int .u8 a0_1, .int .u8 a0_2, .int .u8 a0_3, .int .u64 a0_4, .int .u64 a0_5, .int .u32 a0_6, .int .u32 a0_7, .int .u32 a0_8, .int .u64 a0_9, .int .u64 a0_10, .slice A0_11 l0_11.length c0_11, .slice A0_12 l0_12.length c0_12, .slice A0_13 l0_13.length c0_13, .slice A0_14 l0_14.length c0_14, .slice A0_15 l0_15.length c0_15] 36 (0, 0)) (by (with_reducible repeat (first | refine blk_drewN ?_ _ | refine blk_drew ?_ | refine blk_alloc ?_ _)); exact BK123.out) hb); have n1_ := Aside0.mk (below_step (by repeat (first | (with_reducible first | exact HB.out | apply below_alloc | apply pw_below_drewN | apply below_drew1 | refine below_set ?_ GE123.out) | exact HB.out)) hb); clear BK123; clear HB; have BK123 := n0_; have HB := n1_; clear n0_ n1_; (try clear hb); (try clear hb2); (try clear hk); (try clear hi); have hcz13_0 : w12.cell? ⟨gb123, 0, none⟩ = some (.int .u8 a0_0) := (blk_cell BK123.out 0).trans rfl; have hcz13_1 : w12.cell? ⟨gb123, 1, none⟩ = some (.int .u8 a0_1) := (blk_cell BK123.out 1).trans rfl; have hcz13_2 : w12.cell? ⟨gb123, 2, none⟩ = some (.int .u8 a0_2) := (blk_cell BK123.out 2).trans rfl; have hcz13_3 : w12.cell? ⟨gb123, 3, none⟩ = some (.int .u8 a0_3) := (blk_cell BK123.out 3).trans rfl; have hcz13_4 : w12.cell? ⟨gb123, 4, none⟩ = some (.int .u64 a0_4) := (blk_cell BK123.out 4).trans rfl; have hcz13_5 : w12.cell? ⟨gb123, 5, none⟩ = some (.int .u64 a0_5) := (blk_cell BK123.out 5).trans rfl; have hcz13_6 : w12.cell? ⟨gb123, 6, none⟩ = some (.int .u32 a0_6) := (blk_cell BK123.out 6).trans rfl; have hcz13_7 : w12.cell? ⟨gb123, 7, none⟩ = some (.int .u32 a0_7) := (blk_cell BK123.out 7).trans rfl; have hcz13_8 : w12.cell? ⟨gb123, 8, none⟩ = some (.int .u32 a0_8) := (blk_cell BK123.out 8).trans rfl; have hcz13_9 : w12.cell? ⟨gb123, 9, none⟩ = some (.int .u64 a0_9) := (blk_cell BK123.out 9).trans rfl; have hcz13_10 : w12.cell? ⟨gb123, 10, none⟩ = some (.int .u64 a0_10) := (blk_cell BK123.out 10).trans rfl; have hcz13_11 : w12.cell? ⟨gb123, 11, none⟩ = some (.slice A0_11 l0_11.length c0_11) := (blk_cell BK123.out 11).trans rfl; have hcz13_12 : w12.cell? ⟨gb123, 12, none⟩ = some (.slice A0_12 l0_12.length c0_12) := (blk_cell BK123.out 12).trans rfl; have hcz13_13 : w12.cell? ⟨gb123, 13, none⟩ = some (.slice A0_13 l0_13.length c0_13) := (blk_cell BK123.out 13).trans rfl; have hcz13_14 : w12.cell? ⟨gb123, 14, none⟩ = some (.slice A0_14 l0_14.length c0_14) := (blk_cell BK123.out 14).trans rfl; have hcz13_15 : w12.cell? ⟨gb123, 15, none⟩ = some (.slice A0_15 l0_15.length c0_15) := (blk_cell BK123.out 15).trans rfl; have hfz13_0 := blk_frozen BK123.out 0; have hfz13_1 := blk_frozen BK123.out 1; have hfz13_2 := blk_frozen BK123.out 2; have hfz13_3 := blk_frozen BK123.out 3; have hfz13_4 := blk_frozen BK123.out 4; have hfz13_5 := blk_frozen BK123.out 5; have hfz13_6 := blk_frozen BK123.out 6; have hfz13_7 := blk_frozen BK123.out 7; have hfz13_8 := blk_frozen BK123.out 8; have hfz13_9 := blk_frozen BK123.out 9; have hfz13_10 := blk_frozen BK123.out 10; have hfz13_11 := blk_frozen BK123.out 11; have hfz13_12 := blk_frozen BK123.out 12; have hfz13_13 := blk_frozen BK123.out 13; have hfz13_14 := blk_frozen BK123.out 14; have hfz13_15 := blk_frozen BK123.out 15))
        go_meet
        case rel => exact ⟨_, (decide (a0_8 ≤ 1048576)), (by first | rfl | (simp; done) | (simp [*]; done)), H', ⟨by first | omega | exact Nat.le_refl _⟩, ⟨by (with_reducible repeat (first | refine blk_drewN ?_ _ | refine blk_drew ?_ | refine blk_alloc ?_ _)); exact BK123.out⟩, ⟨by repeat (first | (with_reducible first | exact HB.out | apply below_alloc | apply pw_below_drewN | apply below_drew1 | refine below_set ?_ GE123.out) | exact HB.out)⟩⟩
      · rw [if_neg c10] at H
        have c10b0 : decide (5000 < a0_8) = false := decide_eq_false c10
        clear c10
        (first | rw [c10b0] | (simp only [i64_w, i32_w]; rw [c10b0]) | skip)
        have H' := Aside0.mk H
        clear H
        have hcz14_0 : w5.cell? ⟨gb123, 0, none⟩ = some (.int .u8 a0_0) := (blk_cell BK123.out 0).trans rfl
        have hcz14_1 : w5.cell? ⟨gb123, 1, none⟩ = some (.int .u8 a0_1) := (blk_cell BK123.out 1).trans rfl
        have hcz14_2 : w5.cell? ⟨gb123, 2, none⟩ = some (.int .u8 a0_2) := (blk_cell BK123.out 2).trans rfl
        have hcz14_3 : w5.cell? ⟨gb123, 3, none⟩ = some (.int .u8 a0_3) := (blk_cell BK123.out 3).trans rfl
        have hcz14_4 : w5.cell? ⟨gb123, 4, none⟩ = some (.int .u64 a0_4) := (blk_cell BK123.out 4).trans rfl
        have hcz14_5 : w5.cell? ⟨gb123, 5, none⟩ = some (.int .u64 a0_5) := (blk_cell BK123.out 5).trans rfl
        have hcz14_6 : w5.cell? ⟨gb123, 6, none⟩ = some (.int .u32 a0_6) := (blk_cell BK123.out 6).trans rfl
        have hcz14_7 : w5.cell? ⟨gb123, 7, none⟩ = some (.int .u32 a0_7) := (blk_cell BK123.out 7).trans rfl
        have hcz14_8 : w5.cell? ⟨gb123, 8, none⟩ = some (.int .u32 a0_8) := (blk_cell BK123.out 8).trans rfl
        have hcz14_9 : w5.cell? ⟨gb123, 9, none⟩ = some (.int .u64 a0_9) := (blk_cell BK123.out 9).trans rfl
        have hcz14_10 : w5.cell? ⟨gb123, 10, none⟩ = some (.int .u64 a0_10) := (blk_cell BK123.out 10).trans rfl
        have hcz14_11 : w5.cell? ⟨gb123, 11, none⟩ = some (.slice A0_11 l0_11.length c0_11) := (blk_cell BK123.out 11).trans rfl
        have hcz14_12 : w5.cell? ⟨gb123, 12, none⟩ = some (.slice A0_12 l0_12.length c0_12) := (blk_cell BK123.out 12).trans rfl
        have hcz14_13 : w5.cell? ⟨gb123, 13, none⟩ = some (.slice A0_13 l0_13.length c0_13) := (blk_cell BK123.out 13).trans rfl
        have hcz14_14 : w5.cell? ⟨gb123, 14, none⟩ = some (.slice A0_14 l0_14.length c0_14) := (blk_cell BK123.out 14).trans rfl
        have hcz14_15 : w5.cell? ⟨gb123, 15, none⟩ = some (.slice A0_15 l0_15.length c0_15) := (blk_cell BK123.out 15).trans rfl
        have hfz14_0 := blk_frozen BK123.out 0
        have hfz14_1 := blk_frozen BK123.out 1
        have hfz14_2 := blk_frozen BK123.out 2
        have hfz14_3 := blk_frozen BK123.out 3
        have hfz14_4 := blk_frozen BK123.out 4
        have hfz14_5 := blk_frozen BK123.out 5
        have hfz14_6 := blk_frozen BK123.out 6
        have hfz14_7 := blk_frozen BK123.out 7
        have hfz14_8 := blk_frozen BK123.out 8
        have hfz14_9 := blk_frozen BK123.out 9
        have hfz14_10 := blk_frozen BK123.out 10
        have hfz14_11 := blk_frozen BK123.out 11
        have hfz14_12 := blk_frozen BK123.out 12
        have hfz14_13 := blk_frozen BK123.out 13
        have hfz14_14 := blk_frozen BK123.out 14
        have hfz14_15 := blk_frozen BK123.out 15
        go_wp2_with (first | ((with_reducible refine gate_callee (f := 13) rfl ?_); refine goesL_ (some 8) rfl rfl Try.func13 (by kernel_rfl) rfl #[.agg #[.int .u8 a0_0, .int .u8 a0_1, .int .u8 a0_2, .int .u8 a0_3, .int .u64 a0_4, .int .u64 a0_5, .int .u32 a0_6, .int .u32 a0_7, .int .u32 a0_8, .int .u64 a0_9, .int .u64 a0_10, .slice A0_11 l0_11.length c0_11, .slice A0_12 l0_12.length c0_12, .slice A0_13 l0_13.length c0_13, .slice A0_14 l0_14.length c0_14, .slice A0_15 l0_15.length c0_15]] rfl (by (try simp only [List.map_toArray, List.map_cons, List.map_nil]); first | done | rfl | (simp only [List.length_drop, List.length_take]; rfl)) ?_; (with_reducible refine (unisonref06_Great.calls a0_0 a0_1 a0_2 a0_3 a0_4 a0_5 a0_6 a0_7 a0_8 a0_9 a0_10 _ _ l0_11 _ _ l0_12 _ _ l0_13 _ _ l0_14 _ _ l0_15 false _ ?side1 ?side2 ?side3 ?side4 ?side5 ?side6 ?side7 ?side8 ?side9 ?side10 A6.out).mono ?_); (case side1 => repeat (first | exact (Kd.C_below HR0_11.out HB.out) | (with_reducible refine Kd.C_alloc ?_ _) | (with_reducible refine Kd.C_drewN ?_ _) | (with_reducible refine Kd.C_drew ?_))); (case side2 => exact HC0_11.out); (case side3 => repeat (first | exact (Kd.C_below HR0_12.out HB.out) | (with_reducible refine Kd.C_alloc ?_ _) | (with_reducible refine Kd.C_drewN ?_ _) | (with_reducible refine Kd.C_drew ?_))); (case side4 => exact HC0_12.out); (case side5 => repeat (first | exact (Kd.C_below HR0_13.out HB.out) | (with_reducible refine Kd.C_alloc ?_ _) | (with_reducible refine Kd.C_drewN ?_ _) | (with_reducible refine Kd.C_drew ?_))); (case side6 => exact HC0_13.out); (case side7 => repeat (first | exact (Kd.C_below HR0_14.out HB.out) | (with_reducible refine Kd.C_alloc ?_ _) | (with_reducible refine Kd.C_drewN ?_ _) | (with_reducible refine Kd.C_drew ?_))); (case side8 => exact HC0_14.out); (case side9 => repeat (first | exact (Kd.C_below HR0_15.out HB.out) | (with_reducible refine Kd.C_alloc ?_ _) | (with_reducible refine Kd.C_drewN ?_ _) | (with_reducible refine Kd.C_drew ?_))); (case side10 => exact HC0_15.out); rintro e w15 ⟨rfl, hb⟩; refine ⟨_, rfl, ?_⟩; have n0_ := Aside0.mk (blk_below (g := gb123) (o := .cells #[.int .u8 a0_0, .int .u8 a0_1, .int .u8 a0_2, .int .u8 a0_3, .int .u64 a0_4, .int .u64 a0_5, .int .u32 a0_6, .int .u32 a0_7, .int .u32 a0_8, .int .u64 a0_9, .int .u64 a0_10, .slice A0_11 l0_11.length c0_11, .slice A0_12 l0_12.length c0_12, .slice A0_13 l0_13.length c0_13, .slice A0_14 l0_14.length c0_14, .slice A0_15 l0_15.length c0_15] 36 (0, 0)) (by (with_reducible repeat (first | refine blk_drewN ?_ _ | refine blk_drew ?_ | refine blk_alloc ?_ _)); exact BK123.out) hb); have n1_ := Aside0.mk (below_step (by repeat (first | (with_reducible first | exact HB.out | apply below_alloc | apply pw_below_drewN | apply below_drew1 | refine below_set ?_ GE123.out) | exact HB.out)) hb); clear BK123; clear HB; have BK123 := n0_; have HB := n1_; clear n0_ n1_; (try clear hb); (try clear hb2); (try clear hk); (try clear hi); have hcz16_0 : w15.cell? ⟨gb123, 0, none⟩ = some (.int .u8 a0_0) := (blk_cell BK123.out 0).trans rfl; have hcz16_1 : w15.cell? ⟨gb123, 1, none⟩ = some (.int .u8 a0_1) := (blk_cell BK123.out 1).trans rfl; have hcz16_2 : w15.cell? ⟨gb123, 2, none⟩ = some (.int .u8 a0_2) := (blk_cell BK123.out 2).trans rfl; have hcz16_3 : w15.cell? ⟨gb123, 3, none⟩ = some (.int .u8 a0_3) := (blk_cell BK123.out 3).trans rfl; have hcz16_4 : w15.cell? ⟨gb123, 4, none⟩ = some (.int .u64 a0_4) := (blk_cell BK123.out 4).trans rfl; have hcz16_5 : w15.cell? ⟨gb123, 5, none⟩ = some (.int .u64 a0_5) := (blk_cell BK123.out 5).trans rfl; have hcz16_6 : w15.cell? ⟨gb123, 6, none⟩ = some (.int .u32 a0_6) := (blk_cell BK123.out 6).trans rfl; have hcz16_7 : w15.cell? ⟨gb123, 7, none⟩ = some (.int .u32 a0_7) := (blk_cell BK123.out 7).trans rfl; have hcz16_8 : w15.cell? ⟨gb123, 8, none⟩ = some (.int .u32 a0_8) := (blk_cell BK123.out 8).trans rfl; have hcz16_9 : w15.cell? ⟨gb123, 9, none⟩ = some (.int .u64 a0_9) := (blk_cell BK123.out 9).trans rfl; have hcz16_10 : w15.cell? ⟨gb123, 10, none⟩ = some (.int .u64 a0_10) := (blk_cell BK123.out 10).trans rfl; have hcz16_11 : w15.cell? ⟨gb123, 11, none⟩ = some (.slice A0_11 l0_11.length c0_11) := (blk_cell BK123.out 11).trans rfl; have hcz16_12 : w15.cell? ⟨gb123, 12, none⟩ = some (.slice A0_12 l0_12.length c0_12) := (blk_cell BK123.out 12).trans rfl; have hcz16_13 : w15.cell? ⟨gb123, 13, none⟩ = some (.slice A0_13 l0_13.length c0_13) := (blk_cell BK123.out 13).trans rfl; have hcz16_14 : w15.cell? ⟨gb123, 14, none⟩ = some (.slice A0_14 l0_14.length c0_14) := (blk_cell BK123.out 14).trans rfl; have hcz16_15 : w15.cell? ⟨gb123, 15, none⟩ = some (.slice A0_15 l0_15.length c0_15) := (blk_cell BK123.out 15).trans rfl; have hfz16_0 := blk_frozen BK123.out 0; have hfz16_1 := blk_frozen BK123.out 1; have hfz16_2 := blk_frozen BK123.out 2; have hfz16_3 := blk_frozen BK123.out 3; have hfz16_4 := blk_frozen BK123.out 4; have hfz16_5 := blk_frozen BK123.out 5; have hfz16_6 := blk_frozen BK123.out 6; have hfz16_7 := blk_frozen BK123.out 7; have hfz16_8 := blk_frozen BK123.out 8; have hfz16_9 := blk_frozen BK123.out 9; have hfz16_10 := blk_frozen BK123.out 10; have hfz16_11 := blk_frozen BK123.out 11; have hfz16_12 := blk_frozen BK123.out 12; have hfz16_13 := blk_frozen BK123.out 13; have hfz16_14 := blk_frozen BK123.out 14; have hfz16_15 := blk_frozen BK123.out 15))
        go_meet
        case rel => exact ⟨_, (false), (by first | rfl | (simp; done) | (simp [*]; done)), H', ⟨by first | omega | exact Nat.le_refl _⟩, ⟨by (with_reducible repeat (first | refine blk_drewN ?_ _ | refine blk_drew ?_ | refine blk_alloc ?_ _)); exact BK123.out⟩, ⟨by repeat (first | (with_reducible first | exact HB.out | apply below_alloc | apply pw_below_drewN | apply below_drew1 | refine below_set ?_ GE123.out) | exact HB.out)⟩⟩
  case rest =>
    clear HC4
    try clear c1
    try clear p2
    try clear c4
    try clear c7
    try clear c10
    try clear c10b0
    try clear c13
    try clear hcz11_0
    try clear hcz11_1
    try clear hcz11_10
    try clear hcz11_11
    try clear hcz11_12
    try clear hcz11_13
    try clear hcz11_14
    try clear hcz11_15
    try clear hcz11_2
    try clear hcz11_3
    try clear hcz11_4
    try clear hcz11_5
    try clear hcz11_6
    try clear hcz11_7
    try clear hcz11_8
    try clear hcz11_9
    try clear hcz13_0
    try clear hcz13_1
    try clear hcz13_10
    try clear hcz13_11
    try clear hcz13_12
    try clear hcz13_13
    try clear hcz13_14
    try clear hcz13_15
    try clear hcz13_2
    try clear hcz13_3
    try clear hcz13_4
    try clear hcz13_5
    try clear hcz13_6
    try clear hcz13_7
    try clear hcz13_8
    try clear hcz13_9
    try clear hcz14_0
    try clear hcz14_1
    try clear hcz14_10
    try clear hcz14_11
    try clear hcz14_12
    try clear hcz14_13
    try clear hcz14_14
    try clear hcz14_15
    try clear hcz14_2
    try clear hcz14_3
    try clear hcz14_4
    try clear hcz14_5
    try clear hcz14_6
    try clear hcz14_7
    try clear hcz14_8
    try clear hcz14_9
    try clear hcz16_0
    try clear hcz16_1
    try clear hcz16_10
    try clear hcz16_11
    try clear hcz16_12
    try clear hcz16_13
    try clear hcz16_14
    try clear hcz16_15
    try clear hcz16_2
    try clear hcz16_3
    try clear hcz16_4
    try clear hcz16_5
    try clear hcz16_6
    try clear hcz16_7
    try clear hcz16_8
    try clear hcz16_9
    try clear hcz8_0
    try clear hcz8_1
    try clear hcz8_10
    try clear hcz8_11
    try clear hcz8_12
    try clear hcz8_13
    try clear hcz8_14
    try clear hcz8_15
    try clear hcz8_2
    try clear hcz8_3
    try clear hcz8_4
    try clear hcz8_5
    try clear hcz8_6
    try clear hcz8_7
    try clear hcz8_8
    try clear hcz8_9
    try clear hfz11_0
    try clear hfz11_1
    try clear hfz11_10
    try clear hfz11_11
    try clear hfz11_12
    try clear hfz11_13
    try clear hfz11_14
    try clear hfz11_15
    try clear hfz11_2
    try clear hfz11_3
    try clear hfz11_4
    try clear hfz11_5
    try clear hfz11_6
    try clear hfz11_7
    try clear hfz11_8
    try clear hfz11_9
    try clear hfz13_0
    try clear hfz13_1
    try clear hfz13_10
    try clear hfz13_11
    try clear hfz13_12
    try clear hfz13_13
    try clear hfz13_14
    try clear hfz13_15
    try clear hfz13_2
    try clear hfz13_3
    try clear hfz13_4
    try clear hfz13_5
    try clear hfz13_6
    try clear hfz13_7
    try clear hfz13_8
    try clear hfz13_9
    try clear hfz14_0
    try clear hfz14_1
    try clear hfz14_10
    try clear hfz14_11
    try clear hfz14_12
    try clear hfz14_13
    try clear hfz14_14
    try clear hfz14_15
    try clear hfz14_2
    try clear hfz14_3
    try clear hfz14_4
    try clear hfz14_5
    try clear hfz14_6
    try clear hfz14_7
    try clear hfz14_8
    try clear hfz14_9
    try clear hfz16_0
    try clear hfz16_1
    try clear hfz16_10
    try clear hfz16_11
    try clear hfz16_12
    try clear hfz16_13
    try clear hfz16_14
    try clear hfz16_15
    try clear hfz16_2
    try clear hfz16_3
    try clear hfz16_4
    try clear hfz16_5
    try clear hfz16_6
    try clear hfz16_7
    try clear hfz16_8
    try clear hfz16_9
    try clear hfz8_0
    try clear hfz8_1
    try clear hfz8_10
    try clear hfz8_11
    try clear hfz8_12
    try clear hfz8_13
    try clear hfz8_14
    try clear hfz8_15
    try clear hfz8_2
    try clear hfz8_3
    try clear hfz8_4
    try clear hfz8_5
    try clear hfz8_6
    try clear hfz8_7
    try clear hfz8_8
    try clear hfz8_9
    obtain ⟨kq, x18_3, rfl, HA, HJ3, BK123, HB⟩ := hcut
    cases kq with
    | zero => exact absurd HA.out (by simp [unisonlaw12_ChunkRight.j0])
    | succ kj3 =>
      have H := HA.out
      clear HA
      simp only [unisonlaw12_ChunkRight.j0] at H
      by_cases c17 : x18_3 = true
      · subst c17
        have H1 : ((unisonlaw12_awake.f).bind fun t125 => (some t125)) = some r := by rw [if_pos rfl] at H; exact H
        clear H
        have H := H1
        clear H1
        replace H := Option.bind_eq_some_iff.mp H
        obtain ⟨t125, A180, H⟩ := H
        replace H : (some t125) = some r := H
        have A18 := Aside0.mk A180
        clear A180
        obtain rfl := Option.some.inj H
        go_wp2_with (first | ((with_reducible refine gate_callee (f := 8) rfl ?_); refine goesL_ (some 19) rfl rfl Try.func8 (by kernel_rfl) rfl #[] rfl (by (try simp only [List.map_toArray, List.map_cons, List.map_nil]); first | done | rfl | (simp only [List.length_drop, List.length_take]; rfl)) ?_; (with_reducible refine (unisonlaw12_awake.calls  t125 _ A18.out).mono ?_); rintro e w19 ⟨rfl, hb⟩; refine ⟨_, rfl, ?_⟩; have n0_ := Aside0.mk (blk_below (g := gb123) (o := .cells #[.int .u8 a0_0, .int .u8 a0_1, .int .u8 a0_2, .int .u8 a0_3, .int .u64 a0_4, .int .u64 a0_5, .int .u32 a0_6, .int .u32 a0_7, .int .u32 a0_8, .int .u64 a0_9, .int .u64 a0_10, .slice A0_11 l0_11.length c0_11, .slice A0_12 l0_12.length c0_12, .slice A0_13 l0_13.length c0_13, .slice A0_14 l0_14.length c0_14, .slice A0_15 l0_15.length c0_15] 36 (0, 0)) (by (with_reducible repeat (first | refine blk_drewN ?_ _ | refine blk_drew ?_ | refine blk_alloc ?_ _)); exact BK123.out) hb); have n1_ := Aside0.mk (below_step (by repeat (first | (with_reducible first | exact HB.out | apply below_alloc | apply pw_below_drewN | apply below_drew1 | refine below_set ?_ GE123.out) | exact HB.out)) hb); clear BK123; clear HB; have BK123 := n0_; have HB := n1_; clear n0_ n1_; (try clear hb); (try clear hb2); (try clear hk); (try clear hi)))
        go_ret
        exact ⟨by first | rfl | (simp [errW_none, errW_some] <;> rfl) | (simp [*, errW_none, errW_some] <;> rfl), by repeat (first | (with_reducible first | exact HB.out | apply below_alloc | apply pw_below_drewN | apply below_drew1 | refine below_set ?_ GE123.out) | exact HB.out)⟩
      · replace c17 := Bool.eq_false_iff.mpr c17
        subst c17
        have H1 : ((chunk_Right.f a0_0 a0_1 a0_2 a0_3 a0_4 a0_5 a0_6 a0_7 a0_8 a0_9 a0_10 l0_11 l0_12 l0_13 l0_14 l0_15 a1 a2).bind fun t126 => ((unisonref12_Right.f kj3 a0_0 a0_1 a0_2 a0_3 a0_4 a0_5 a0_6 a0_7 a0_8 a0_9 a0_10 l0_11 l0_12 l0_13 l0_14 l0_15 a1 a2).bind fun t127 => (if (t126 == t127) = true then ((unisonlaw12_awake.f).bind fun t128 => (some t128)) else (some false)))) = some r := by rw [if_neg (show ¬ (false = true) by decide)] at H; exact H
        clear H
        have H := H1
        clear H1
        replace H := Option.bind_eq_some_iff.mp H
        obtain ⟨t126, A200, H⟩ := H
        replace H : ((unisonref12_Right.f kj3 a0_0 a0_1 a0_2 a0_3 a0_4 a0_5 a0_6 a0_7 a0_8 a0_9 a0_10 l0_11 l0_12 l0_13 l0_14 l0_15 a1 a2).bind fun t127 => (if (t126 == t127) = true then ((unisonlaw12_awake.f).bind fun t128 => (some t128)) else (some false))) = some r := H
        have A20 := Aside0.mk A200
        clear A200
        replace H := Option.bind_eq_some_iff.mp H
        obtain ⟨t127, A210, H⟩ := H
        replace H : (if (t126 == t127) = true then ((unisonlaw12_awake.f).bind fun t128 => (some t128)) else (some false)) = some r := H
        have A21 := Aside0.mk A210
        clear A210
        by_cases c22 : (t126 == t127) = true
        · rw [if_pos c22] at H
          have c22b0 : (t126 == t127) = true := c22
          (try (have c22b1 : decide (t126 = t127) = true := by simpa using c22))
          (try (have c22b2 : (t126 == t127) = true := by simpa using c22))
          clear c22
          replace H := Option.bind_eq_some_iff.mp H
          obtain ⟨t128, A230, H⟩ := H
          replace H : (some t128) = some r := H
          have A23 := Aside0.mk A230
          clear A230
          obtain rfl := Option.some.inj H
          try go_wp2
          have n0_ := Aside0.mk (blk_drew BK123.out)
          have n1_ := Aside0.mk (below_drew1 HB.out)
          clear BK123
          clear HB
          have BK123 := n0_
          have HB := n1_
          clear n0_ n1_
          refine start_ (n := 13) (S := fun w' => w'.cell? ⟨gb123, 0, none⟩ = some (.int .u8 a0_0) ∧ w'.cell? ⟨gb123, 1, none⟩ = some (.int .u8 a0_1) ∧ w'.cell? ⟨gb123, 2, none⟩ = some (.int .u8 a0_2) ∧ w'.cell? ⟨gb123, 3, none⟩ = some (.int .u8 a0_3) ∧ w'.cell? ⟨gb123, 4, none⟩ = some (.int .u64 a0_4) ∧ w'.cell? ⟨gb123, 5, none⟩ = some (.int .u64 a0_5) ∧ w'.cell? ⟨gb123, 6, none⟩ = some (.int .u32 a0_6) ∧ w'.cell? ⟨gb123, 7, none⟩ = some (.int .u32 a0_7) ∧ w'.cell? ⟨gb123, 8, none⟩ = some (.int .u32 a0_8) ∧ w'.cell? ⟨gb123, 9, none⟩ = some (.int .u64 a0_9) ∧ w'.cell? ⟨gb123, 10, none⟩ = some (.int .u64 a0_10) ∧ w'.cell? ⟨gb123, 11, none⟩ = some (.slice A0_11 l0_11.length c0_11) ∧ w'.cell? ⟨gb123, 12, none⟩ = some (.slice A0_12 l0_12.length c0_12) ∧ w'.cell? ⟨gb123, 13, none⟩ = some (.slice A0_13 l0_13.length c0_13) ∧ w'.cell? ⟨gb123, 14, none⟩ = some (.slice A0_14 l0_14.length c0_14) ∧ w'.cell? ⟨gb123, 15, none⟩ = some (.slice A0_15 l0_15.length c0_15)) (ds := []) #[false, false, false, false, false, false, false, false, false, false, false, false, false] (by kernel_rfl) rfl rfl ⟨(blk_cell BK123.out 0).trans rfl, (blk_cell BK123.out 1).trans rfl, (blk_cell BK123.out 2).trans rfl, (blk_cell BK123.out 3).trans rfl, (blk_cell BK123.out 4).trans rfl, (blk_cell BK123.out 5).trans rfl, (blk_cell BK123.out 6).trans rfl, (blk_cell BK123.out 7).trans rfl, (blk_cell BK123.out 8).trans rfl, (blk_cell BK123.out 9).trans rfl, (blk_cell BK123.out 10).trans rfl, (blk_cell BK123.out 11).trans rfl, (blk_cell BK123.out 12).trans rfl, (blk_cell BK123.out 13).trans rfl, (blk_cell BK123.out 14).trans rfl, (blk_cell BK123.out 15).trans rfl⟩ (fun hHeld => ?_); refine with_tabW unisonlaw12_ChunkRight.tab3 unisonlaw12_ChunkRight.bits3 (fun HT_ HW_ => ?_)
          generalize wc.drew = w24 at BK123 HB hHeld ⊢
          refine pure_ (i := 1) (N := some 21) (v := ?_) (a' := ?_) #[false, true, false, false, false, false, false, false, false, false, false, false, false] rfl rfl (any_of HT_.out (by kernel_rfl)) (fun _ _ _ h => h) (Or.inl ⟨by rfl, ?_⟩) ?_ ?_
          rotate_left
          · intro w'
            go_simp
            with_reducible rfl
          rotate_left
          · simp only [Act.put, List.setIfInBounds_toArray, List.set_cons_zero, List.set_cons_succ, i64_w, i32_w]
            rfl
          refine pure_ (i := 2) (N := some 22) (v := ?_) (a' := ?_) #[false, true, true, false, false, false, false, false, false, false, false, false, false] rfl rfl (any_of HT_.out (by kernel_rfl)) (fun _ _ _ h => h) (Or.inl ⟨by rfl, ?_⟩) ?_ ?_
          rotate_left
          · intro w'
            go_simp
            with_reducible rfl
          rotate_left
          · simp only [Act.put, List.setIfInBounds_toArray, List.set_cons_zero, List.set_cons_succ, i64_w, i32_w]
            rfl
          refine pure_ (i := 5) (N := some 25) (v := ?_) (a' := ?_) #[false, true, true, false, false, true, false, false, false, false, false, false, false] rfl rfl (any_of HT_.out (by kernel_rfl)) (fun _ _ _ h => h) (Or.inl ⟨by rfl, ?_⟩) ?_ ?_
          rotate_left
          · intro w'
            go_simp
            with_reducible rfl
          rotate_left
          · simp only [Act.put, List.setIfInBounds_toArray, List.set_cons_zero, List.set_cons_succ, i64_w, i32_w]
            rfl
          refine pure_ (i := 6) (N := some 26) (v := ?_) (a' := ?_) #[false, true, true, false, false, true, true, false, false, false, false, false, false] rfl rfl (any_of HT_.out (by kernel_rfl)) (fun _ _ _ h => h) (Or.inl ⟨by rfl, ?_⟩) ?_ ?_
          rotate_left
          · intro w'
            go_simp
            with_reducible rfl
          rotate_left
          · simp only [Act.put, List.setIfInBounds_toArray, List.set_cons_zero, List.set_cons_succ, i64_w, i32_w]
            rfl
          refine take_ (i := 0) (N := some 20) (v := ?_) (a' := ?_) #[true, true, true, false, false, true, true, false, false, false, false, false, false] rfl rfl (take_ofW HT_.out HW_.out (by kernel_rfl)) (fun _ _ _ h => h) (Or.inl ⟨by rfl, ?_⟩) hHeld ?_ ?_
          rotate_left
          · rintro w' ⟨s0, s1, s2, s3, s4, s5, s6, s7, s8, s9, s10, s11, s12, s13, s14, s15⟩
            go_simp
            with_reducible rfl
          rotate_left
          · simp only [Act.put, List.setIfInBounds_toArray, List.set_cons_zero, List.set_cons_succ, i64_w, i32_w]
            rfl
          refine take_ (i := 4) (N := some 24) (v := ?_) (a' := ?_) #[true, true, true, false, true, true, true, false, false, false, false, false, false] rfl rfl (take_ofW HT_.out HW_.out (by kernel_rfl)) (fun _ _ _ h => h) (Or.inl ⟨by rfl, ?_⟩) hHeld ?_ ?_
          rotate_left
          · rintro w' ⟨s0, s1, s2, s3, s4, s5, s6, s7, s8, s9, s10, s11, s12, s13, s14, s15⟩
            go_simp
            with_reducible rfl
          rotate_left
          · simp only [Act.put, List.setIfInBounds_toArray, List.set_cons_zero, List.set_cons_succ, i64_w, i32_w]
            rfl
          refine one_ (i := 3) (N := some 23) #[true, true, true, true, true, true, true, false, false, false, false, false, false] rfl rfl (one_of HT_.out (by kernel_rfl)) (by decide) (fun K hK => ?_)
          refine goes_ Try.func14 (by kernel_rfl) rfl #[.agg #[.int .u8 a0_0, .int .u8 a0_1, .int .u8 a0_2, .int .u8 a0_3, .int .u64 a0_4, .int .u64 a0_5, .int .u32 a0_6, .int .u32 a0_7, .int .u32 a0_8, .int .u64 a0_9, .int .u64 a0_10, .slice A0_11 l0_11.length c0_11, .slice A0_12 l0_12.length c0_12, .slice A0_13 l0_13.length c0_13, .slice A0_14 l0_14.length c0_14, .slice A0_15 l0_15.length c0_15], .int .i64 a1, .int .i64 a2] (by rfl) rfl rfl (by (try simp only [List.map_toArray, List.map_cons, List.map_nil]); first | done | rfl | (simp only [List.length_drop, List.length_take]; rfl)) ?_
          with_reducible refine (chunk_Right.calls a0_0 a0_1 a0_2 a0_3 a0_4 a0_5 a0_6 a0_7 a0_8 a0_9 a0_10 _ _ l0_11 _ _ l0_12 _ _ l0_13 _ _ l0_14 _ _ l0_15 a1 a2 t126 _ ?side1 ?side2 ?side3 ?side4 ?side5 ?side6 ?side7 ?side8 ?side9 ?side10 A20.out).mono ?_
          (case side1 => repeat (first | exact (Kd.C_below HR0_11.out HB.out) | (with_reducible refine Kd.C_alloc ?_ _) | (with_reducible refine Kd.C_drewN ?_ _) | (with_reducible refine Kd.C_drew ?_)))
          (case side2 => exact HC0_11.out)
          (case side3 => repeat (first | exact (Kd.C_below HR0_12.out HB.out) | (with_reducible refine Kd.C_alloc ?_ _) | (with_reducible refine Kd.C_drewN ?_ _) | (with_reducible refine Kd.C_drew ?_)))
          (case side4 => exact HC0_12.out)
          (case side5 => repeat (first | exact (Kd.C_below HR0_13.out HB.out) | (with_reducible refine Kd.C_alloc ?_ _) | (with_reducible refine Kd.C_drewN ?_ _) | (with_reducible refine Kd.C_drew ?_)))
          (case side6 => exact HC0_13.out)
          (case side7 => repeat (first | exact (Kd.C_below HR0_14.out HB.out) | (with_reducible refine Kd.C_alloc ?_ _) | (with_reducible refine Kd.C_drewN ?_ _) | (with_reducible refine Kd.C_drew ?_)))
          (case side8 => exact HC0_14.out)
          (case side9 => repeat (first | exact (Kd.C_below HR0_15.out HB.out) | (with_reducible refine Kd.C_alloc ?_ _) | (with_reducible refine Kd.C_drewN ?_ _) | (with_reducible refine Kd.C_drew ?_)))
          (case side10 => exact HC0_15.out)
          rintro e w25 ⟨rfl, hb⟩
          refine ⟨_, rfl, ?_⟩
          have n0_ := Aside0.mk (blk_below (g := gb123) (o := .cells #[.int .u8 a0_0, .int .u8 a0_1, .int .u8 a0_2, .int .u8 a0_3, .int .u64 a0_4, .int .u64 a0_5, .int .u32 a0_6, .int .u32 a0_7, .int .u32 a0_8, .int .u64 a0_9, .int .u64 a0_10, .slice A0_11 l0_11.length c0_11, .slice A0_12 l0_12.length c0_12, .slice A0_13 l0_13.length c0_13, .slice A0_14 l0_14.length c0_14, .slice A0_15 l0_15.length c0_15] 36 (0, 0)) (by (with_reducible repeat (first | refine blk_drewN ?_ _ | refine blk_drew ?_ | refine blk_alloc ?_ _)); exact BK123.out) hb)
          have n1_ := Aside0.mk (below_step (by repeat (first | (with_reducible first | exact HB.out | apply below_alloc | apply pw_below_drewN | apply below_drew1 | refine below_set ?_ GE123.out) | exact HB.out)) hb)
          clear BK123
          clear HB
          have BK123 := n0_
          have HB := n1_
          clear n0_ n1_
          (try clear hb)
          (try clear hb2)
          (try clear hk)
          (try clear hi)
          refine hK.out _ _ ⟨(blk_cell BK123.out 0).trans rfl, (blk_cell BK123.out 1).trans rfl, (blk_cell BK123.out 2).trans rfl, (blk_cell BK123.out 3).trans rfl, (blk_cell BK123.out 4).trans rfl, (blk_cell BK123.out 5).trans rfl, (blk_cell BK123.out 6).trans rfl, (blk_cell BK123.out 7).trans rfl, (blk_cell BK123.out 8).trans rfl, (blk_cell BK123.out 9).trans rfl, (blk_cell BK123.out 10).trans rfl, (blk_cell BK123.out 11).trans rfl, (blk_cell BK123.out 12).trans rfl, (blk_cell BK123.out 13).trans rfl, (blk_cell BK123.out 14).trans rfl, (blk_cell BK123.out 15).trans rfl⟩ (fun hHeld => ?_)
          clear hK K
          refine norm_ (a' := ?_) ?_ ?_
          rotate_left
          · show Act.put _ (some 23) _ = _
            simp only [Act.put, List.setIfInBounds_toArray, List.set_cons_zero, List.set_cons_succ, i64_w, i32_w]
            rfl
          refine one_ (i := 7) (N := some 27) #[true, true, true, true, true, true, true, true, false, false, false, false, false] rfl rfl (one_of HT_.out (by kernel_rfl)) (by decide) (fun K hK => ?_)
          refine goes_ Try.func15 (by kernel_rfl) rfl #[.agg #[.int .u8 a0_0, .int .u8 a0_1, .int .u8 a0_2, .int .u8 a0_3, .int .u64 a0_4, .int .u64 a0_5, .int .u32 a0_6, .int .u32 a0_7, .int .u32 a0_8, .int .u64 a0_9, .int .u64 a0_10, .slice A0_11 l0_11.length c0_11, .slice A0_12 l0_12.length c0_12, .slice A0_13 l0_13.length c0_13, .slice A0_14 l0_14.length c0_14, .slice A0_15 l0_15.length c0_15], .int .i64 a1, .int .i64 a2] (by rfl) rfl rfl (by (try simp only [List.map_toArray, List.map_cons, List.map_nil]); first | done | rfl | (simp only [List.length_drop, List.length_take]; rfl)) ?_
          with_reducible refine (unisonref12_Right.calls kj3 a0_0 a0_1 a0_2 a0_3 a0_4 a0_5 a0_6 a0_7 a0_8 a0_9 a0_10 _ _ l0_11 _ _ l0_12 _ _ l0_13 _ _ l0_14 _ _ l0_15 a1 a2 t127 _ ?side1 ?side2 ?side3 ?side4 ?side5 ?side6 ?side7 ?side8 ?side9 ?side10 A21.out).mono ?_
          (case side1 => repeat (first | exact (Kd.C_below HR0_11.out HB.out) | (with_reducible refine Kd.C_alloc ?_ _) | (with_reducible refine Kd.C_drewN ?_ _) | (with_reducible refine Kd.C_drew ?_)))
          (case side2 => exact HC0_11.out)
          (case side3 => repeat (first | exact (Kd.C_below HR0_12.out HB.out) | (with_reducible refine Kd.C_alloc ?_ _) | (with_reducible refine Kd.C_drewN ?_ _) | (with_reducible refine Kd.C_drew ?_)))
          (case side4 => exact HC0_12.out)
          (case side5 => repeat (first | exact (Kd.C_below HR0_13.out HB.out) | (with_reducible refine Kd.C_alloc ?_ _) | (with_reducible refine Kd.C_drewN ?_ _) | (with_reducible refine Kd.C_drew ?_)))
          (case side6 => exact HC0_13.out)
          (case side7 => repeat (first | exact (Kd.C_below HR0_14.out HB.out) | (with_reducible refine Kd.C_alloc ?_ _) | (with_reducible refine Kd.C_drewN ?_ _) | (with_reducible refine Kd.C_drew ?_)))
          (case side8 => exact HC0_14.out)
          (case side9 => repeat (first | exact (Kd.C_below HR0_15.out HB.out) | (with_reducible refine Kd.C_alloc ?_ _) | (with_reducible refine Kd.C_drewN ?_ _) | (with_reducible refine Kd.C_drew ?_)))
          (case side10 => exact HC0_15.out)
          rintro e w26 ⟨rfl, hb⟩
          refine ⟨_, rfl, ?_⟩
          have n0_ := Aside0.mk (blk_below (g := gb123) (o := .cells #[.int .u8 a0_0, .int .u8 a0_1, .int .u8 a0_2, .int .u8 a0_3, .int .u64 a0_4, .int .u64 a0_5, .int .u32 a0_6, .int .u32 a0_7, .int .u32 a0_8, .int .u64 a0_9, .int .u64 a0_10, .slice A0_11 l0_11.length c0_11, .slice A0_12 l0_12.length c0_12, .slice A0_13 l0_13.length c0_13, .slice A0_14 l0_14.length c0_14, .slice A0_15 l0_15.length c0_15] 36 (0, 0)) (by (with_reducible repeat (first | refine blk_drewN ?_ _ | refine blk_drew ?_ | refine blk_alloc ?_ _)); exact BK123.out) hb)
          have n1_ := Aside0.mk (below_step (by repeat (first | (with_reducible first | exact HB.out | apply below_alloc | apply pw_below_drewN | apply below_drew1 | refine below_set ?_ GE123.out) | exact HB.out)) hb)
          clear BK123
          clear HB
          have BK123 := n0_
          have HB := n1_
          clear n0_ n1_
          (try clear hb)
          (try clear hb2)
          (try clear hk)
          (try clear hi)
          refine hK.out _ _ ⟨(blk_cell BK123.out 0).trans rfl, (blk_cell BK123.out 1).trans rfl, (blk_cell BK123.out 2).trans rfl, (blk_cell BK123.out 3).trans rfl, (blk_cell BK123.out 4).trans rfl, (blk_cell BK123.out 5).trans rfl, (blk_cell BK123.out 6).trans rfl, (blk_cell BK123.out 7).trans rfl, (blk_cell BK123.out 8).trans rfl, (blk_cell BK123.out 9).trans rfl, (blk_cell BK123.out 10).trans rfl, (blk_cell BK123.out 11).trans rfl, (blk_cell BK123.out 12).trans rfl, (blk_cell BK123.out 13).trans rfl, (blk_cell BK123.out 14).trans rfl, (blk_cell BK123.out 15).trans rfl⟩ (fun hHeld => ?_)
          clear hK K
          refine norm_ (a' := ?_) ?_ ?_
          rotate_left
          · show Act.put _ (some 27) _ = _
            simp only [Act.put, List.setIfInBounds_toArray, List.set_cons_zero, List.set_cons_succ, i64_w, i32_w]
            rfl
          refine pure_ (i := 8) (N := some 28) (v := ?_) (a' := ?_) #[true, true, true, true, true, true, true, true, true, false, false, false, false] rfl rfl (any_of HT_.out (by kernel_rfl)) (fun _ _ _ h => h) (Or.inl ⟨by rfl, ?_⟩) ?_ ?_
          rotate_left
          · intro w'
            go_simp
            with_reducible rfl
          rotate_left
          · simp only [Act.put, List.setIfInBounds_toArray, List.set_cons_zero, List.set_cons_succ, i64_w, i32_w]
            rfl
          refine pure_ (i := 9) (N := some 29) (v := ?_) (a' := ?_) #[true, true, true, true, true, true, true, true, true, true, false, false, false] rfl rfl (any_of HT_.out (by kernel_rfl)) (fun _ _ _ h => h) (Or.inl ⟨by rfl, ?_⟩) ?_ ?_
          rotate_left
          · intro w'
            go_simp
            with_reducible rfl
          rotate_left
          · simp only [Act.put, List.setIfInBounds_toArray, List.set_cons_zero, List.set_cons_succ, i64_w, i32_w]
            rfl
          refine one_ (i := 10) (N := some 30) #[true, true, true, true, true, true, true, true, true, true, true, false, false] rfl rfl (one_of HT_.out (by kernel_rfl)) (by decide) (fun K hK => ?_)
          refine goes_ Try.func8 (by kernel_rfl) rfl #[] (by rfl) rfl rfl (by (try simp only [List.map_toArray, List.map_cons, List.map_nil]); first | done | rfl | (simp only [List.length_drop, List.length_take]; rfl)) ?_
          with_reducible refine (unisonlaw12_awake.calls  t128 _ A23.out).mono ?_
          rintro e w27 ⟨rfl, hb⟩
          refine ⟨_, rfl, ?_⟩
          have n0_ := Aside0.mk (blk_below (g := gb123) (o := .cells #[.int .u8 a0_0, .int .u8 a0_1, .int .u8 a0_2, .int .u8 a0_3, .int .u64 a0_4, .int .u64 a0_5, .int .u32 a0_6, .int .u32 a0_7, .int .u32 a0_8, .int .u64 a0_9, .int .u64 a0_10, .slice A0_11 l0_11.length c0_11, .slice A0_12 l0_12.length c0_12, .slice A0_13 l0_13.length c0_13, .slice A0_14 l0_14.length c0_14, .slice A0_15 l0_15.length c0_15] 36 (0, 0)) (by (with_reducible repeat (first | refine blk_drewN ?_ _ | refine blk_drew ?_ | refine blk_alloc ?_ _)); exact BK123.out) hb)
          have n1_ := Aside0.mk (below_step (by repeat (first | (with_reducible first | exact HB.out | apply below_alloc | apply pw_below_drewN | apply below_drew1 | refine below_set ?_ GE123.out) | exact HB.out)) hb)
          clear BK123
          clear HB
          have BK123 := n0_
          have HB := n1_
          clear n0_ n1_
          (try clear hb)
          (try clear hb2)
          (try clear hk)
          (try clear hi)
          refine hK.out _ _ ⟨(blk_cell BK123.out 0).trans rfl, (blk_cell BK123.out 1).trans rfl, (blk_cell BK123.out 2).trans rfl, (blk_cell BK123.out 3).trans rfl, (blk_cell BK123.out 4).trans rfl, (blk_cell BK123.out 5).trans rfl, (blk_cell BK123.out 6).trans rfl, (blk_cell BK123.out 7).trans rfl, (blk_cell BK123.out 8).trans rfl, (blk_cell BK123.out 9).trans rfl, (blk_cell BK123.out 10).trans rfl, (blk_cell BK123.out 11).trans rfl, (blk_cell BK123.out 12).trans rfl, (blk_cell BK123.out 13).trans rfl, (blk_cell BK123.out 14).trans rfl, (blk_cell BK123.out 15).trans rfl⟩ (fun hHeld => ?_)
          clear hK K
          refine norm_ (a' := ?_) ?_ ?_
          rotate_left
          · show Act.put _ (some 30) _ = _
            simp only [Act.put, List.setIfInBounds_toArray, List.set_cons_zero, List.set_cons_succ, i64_w, i32_w]
            rfl
          refine pure_ (i := 11) (N := some 31) (v := ?_) (a' := ?_) #[true, true, true, true, true, true, true, true, true, true, true, true, false] rfl rfl (any_of HT_.out (by kernel_rfl)) (fun _ _ _ h => h) (Or.inl ⟨by rfl, ?_⟩) ?_ ?_
          rotate_left
          · intro w'
            go_simp
            with_reducible rfl
          rotate_left
          · simp only [Act.put, List.setIfInBounds_toArray, List.set_cons_zero, List.set_cons_succ, i64_w, i32_w]
            rfl
          refine pure_ (i := 12) (N := some 6) (v := ?_) (a' := ?_) #[true, true, true, true, true, true, true, true, true, true, true, true, true] rfl rfl (any_of HT_.out (by kernel_rfl)) (fun _ _ _ h => h) (Or.inl ⟨by rfl, ?_⟩) ?_ ?_
          rotate_left
          · intro w'
            go_simp
            with_reducible rfl
          rotate_left
          · simp only [Act.put, List.setIfInBounds_toArray, List.set_cons_zero, List.set_cons_succ, i64_w, i32_w]
            rfl
          refine done_ (done_of HT_.out (by kernel_rfl)) ?_
          try go_wp2
          go_ret
          exact ⟨by first | rfl | (simp [errW_none, errW_some] <;> rfl) | (simp [*, errW_none, errW_some] <;> rfl), by repeat (first | (with_reducible first | exact HB.out | apply below_alloc | apply pw_below_drewN | apply below_drew1 | refine below_set ?_ GE123.out) | exact HB.out)⟩
        · rw [if_neg c22] at H
          have c22b0 : (t126 == t127) = false := by simpa using c22
          (try (have c22b1 : decide (t126 = t127) = false := by simpa using c22))
          (try (have c22b2 : (t126 == t127) = false := by simpa using c22))
          (try (have c22b3 : ¬ (t126 = t127) := by simpa using c22))
          clear c22
          obtain rfl := Option.some.inj H
          try go_wp2
          have n0_ := Aside0.mk (blk_drew BK123.out)
          have n1_ := Aside0.mk (below_drew1 HB.out)
          clear BK123
          clear HB
          have BK123 := n0_
          have HB := n1_
          clear n0_ n1_
          refine start_ (n := 13) (S := fun w' => w'.cell? ⟨gb123, 0, none⟩ = some (.int .u8 a0_0) ∧ w'.cell? ⟨gb123, 1, none⟩ = some (.int .u8 a0_1) ∧ w'.cell? ⟨gb123, 2, none⟩ = some (.int .u8 a0_2) ∧ w'.cell? ⟨gb123, 3, none⟩ = some (.int .u8 a0_3) ∧ w'.cell? ⟨gb123, 4, none⟩ = some (.int .u64 a0_4) ∧ w'.cell? ⟨gb123, 5, none⟩ = some (.int .u64 a0_5) ∧ w'.cell? ⟨gb123, 6, none⟩ = some (.int .u32 a0_6) ∧ w'.cell? ⟨gb123, 7, none⟩ = some (.int .u32 a0_7) ∧ w'.cell? ⟨gb123, 8, none⟩ = some (.int .u32 a0_8) ∧ w'.cell? ⟨gb123, 9, none⟩ = some (.int .u64 a0_9) ∧ w'.cell? ⟨gb123, 10, none⟩ = some (.int .u64 a0_10) ∧ w'.cell? ⟨gb123, 11, none⟩ = some (.slice A0_11 l0_11.length c0_11) ∧ w'.cell? ⟨gb123, 12, none⟩ = some (.slice A0_12 l0_12.length c0_12) ∧ w'.cell? ⟨gb123, 13, none⟩ = some (.slice A0_13 l0_13.length c0_13) ∧ w'.cell? ⟨gb123, 14, none⟩ = some (.slice A0_14 l0_14.length c0_14) ∧ w'.cell? ⟨gb123, 15, none⟩ = some (.slice A0_15 l0_15.length c0_15)) (ds := []) #[false, false, false, false, false, false, false, false, false, false, false, false, false] (by kernel_rfl) rfl rfl ⟨(blk_cell BK123.out 0).trans rfl, (blk_cell BK123.out 1).trans rfl, (blk_cell BK123.out 2).trans rfl, (blk_cell BK123.out 3).trans rfl, (blk_cell BK123.out 4).trans rfl, (blk_cell BK123.out 5).trans rfl, (blk_cell BK123.out 6).trans rfl, (blk_cell BK123.out 7).trans rfl, (blk_cell BK123.out 8).trans rfl, (blk_cell BK123.out 9).trans rfl, (blk_cell BK123.out 10).trans rfl, (blk_cell BK123.out 11).trans rfl, (blk_cell BK123.out 12).trans rfl, (blk_cell BK123.out 13).trans rfl, (blk_cell BK123.out 14).trans rfl, (blk_cell BK123.out 15).trans rfl⟩ (fun hHeld => ?_); refine with_tabW unisonlaw12_ChunkRight.tab3 unisonlaw12_ChunkRight.bits3 (fun HT_ HW_ => ?_)
          generalize wc.drew = w28 at BK123 HB hHeld ⊢
          refine pure_ (i := 1) (N := some 21) (v := ?_) (a' := ?_) #[false, true, false, false, false, false, false, false, false, false, false, false, false] rfl rfl (any_of HT_.out (by kernel_rfl)) (fun _ _ _ h => h) (Or.inl ⟨by rfl, ?_⟩) ?_ ?_
          rotate_left
          · intro w'
            go_simp
            with_reducible rfl
          rotate_left
          · simp only [Act.put, List.setIfInBounds_toArray, List.set_cons_zero, List.set_cons_succ, i64_w, i32_w]
            rfl
          refine pure_ (i := 2) (N := some 22) (v := ?_) (a' := ?_) #[false, true, true, false, false, false, false, false, false, false, false, false, false] rfl rfl (any_of HT_.out (by kernel_rfl)) (fun _ _ _ h => h) (Or.inl ⟨by rfl, ?_⟩) ?_ ?_
          rotate_left
          · intro w'
            go_simp
            with_reducible rfl
          rotate_left
          · simp only [Act.put, List.setIfInBounds_toArray, List.set_cons_zero, List.set_cons_succ, i64_w, i32_w]
            rfl
          refine pure_ (i := 5) (N := some 25) (v := ?_) (a' := ?_) #[false, true, true, false, false, true, false, false, false, false, false, false, false] rfl rfl (any_of HT_.out (by kernel_rfl)) (fun _ _ _ h => h) (Or.inl ⟨by rfl, ?_⟩) ?_ ?_
          rotate_left
          · intro w'
            go_simp
            with_reducible rfl
          rotate_left
          · simp only [Act.put, List.setIfInBounds_toArray, List.set_cons_zero, List.set_cons_succ, i64_w, i32_w]
            rfl
          refine pure_ (i := 6) (N := some 26) (v := ?_) (a' := ?_) #[false, true, true, false, false, true, true, false, false, false, false, false, false] rfl rfl (any_of HT_.out (by kernel_rfl)) (fun _ _ _ h => h) (Or.inl ⟨by rfl, ?_⟩) ?_ ?_
          rotate_left
          · intro w'
            go_simp
            with_reducible rfl
          rotate_left
          · simp only [Act.put, List.setIfInBounds_toArray, List.set_cons_zero, List.set_cons_succ, i64_w, i32_w]
            rfl
          refine take_ (i := 0) (N := some 20) (v := ?_) (a' := ?_) #[true, true, true, false, false, true, true, false, false, false, false, false, false] rfl rfl (take_ofW HT_.out HW_.out (by kernel_rfl)) (fun _ _ _ h => h) (Or.inl ⟨by rfl, ?_⟩) hHeld ?_ ?_
          rotate_left
          · rintro w' ⟨s0, s1, s2, s3, s4, s5, s6, s7, s8, s9, s10, s11, s12, s13, s14, s15⟩
            go_simp
            with_reducible rfl
          rotate_left
          · simp only [Act.put, List.setIfInBounds_toArray, List.set_cons_zero, List.set_cons_succ, i64_w, i32_w]
            rfl
          refine take_ (i := 4) (N := some 24) (v := ?_) (a' := ?_) #[true, true, true, false, true, true, true, false, false, false, false, false, false] rfl rfl (take_ofW HT_.out HW_.out (by kernel_rfl)) (fun _ _ _ h => h) (Or.inl ⟨by rfl, ?_⟩) hHeld ?_ ?_
          rotate_left
          · rintro w' ⟨s0, s1, s2, s3, s4, s5, s6, s7, s8, s9, s10, s11, s12, s13, s14, s15⟩
            go_simp
            with_reducible rfl
          rotate_left
          · simp only [Act.put, List.setIfInBounds_toArray, List.set_cons_zero, List.set_cons_succ, i64_w, i32_w]
            rfl
          refine one_ (i := 3) (N := some 23) #[true, true, true, true, true, true, true, false, false, false, false, false, false] rfl rfl (one_of HT_.out (by kernel_rfl)) (by decide) (fun K hK => ?_)
          refine goes_ Try.func14 (by kernel_rfl) rfl #[.agg #[.int .u8 a0_0, .int .u8 a0_1, .int .u8 a0_2, .int .u8 a0_3, .int .u64 a0_4, .int .u64 a0_5, .int .u32 a0_6, .int .u32 a0_7, .int .u32 a0_8, .int .u64 a0_9, .int .u64 a0_10, .slice A0_11 l0_11.length c0_11, .slice A0_12 l0_12.length c0_12, .slice A0_13 l0_13.length c0_13, .slice A0_14 l0_14.length c0_14, .slice A0_15 l0_15.length c0_15], .int .i64 a1, .int .i64 a2] (by rfl) rfl rfl (by (try simp only [List.map_toArray, List.map_cons, List.map_nil]); first | done | rfl | (simp only [List.length_drop, List.length_take]; rfl)) ?_
          with_reducible refine (chunk_Right.calls a0_0 a0_1 a0_2 a0_3 a0_4 a0_5 a0_6 a0_7 a0_8 a0_9 a0_10 _ _ l0_11 _ _ l0_12 _ _ l0_13 _ _ l0_14 _ _ l0_15 a1 a2 t126 _ ?side1 ?side2 ?side3 ?side4 ?side5 ?side6 ?side7 ?side8 ?side9 ?side10 A20.out).mono ?_
          (case side1 => repeat (first | exact (Kd.C_below HR0_11.out HB.out) | (with_reducible refine Kd.C_alloc ?_ _) | (with_reducible refine Kd.C_drewN ?_ _) | (with_reducible refine Kd.C_drew ?_)))
          (case side2 => exact HC0_11.out)
          (case side3 => repeat (first | exact (Kd.C_below HR0_12.out HB.out) | (with_reducible refine Kd.C_alloc ?_ _) | (with_reducible refine Kd.C_drewN ?_ _) | (with_reducible refine Kd.C_drew ?_)))
          (case side4 => exact HC0_12.out)
          (case side5 => repeat (first | exact (Kd.C_below HR0_13.out HB.out) | (with_reducible refine Kd.C_alloc ?_ _) | (with_reducible refine Kd.C_drewN ?_ _) | (with_reducible refine Kd.C_drew ?_)))
          (case side6 => exact HC0_13.out)
          (case side7 => repeat (first | exact (Kd.C_below HR0_14.out HB.out) | (with_reducible refine Kd.C_alloc ?_ _) | (with_reducible refine Kd.C_drewN ?_ _) | (with_reducible refine Kd.C_drew ?_)))
          (case side8 => exact HC0_14.out)
          (case side9 => repeat (first | exact (Kd.C_below HR0_15.out HB.out) | (with_reducible refine Kd.C_alloc ?_ _) | (with_reducible refine Kd.C_drewN ?_ _) | (with_reducible refine Kd.C_drew ?_)))
          (case side10 => exact HC0_15.out)
          rintro e w29 ⟨rfl, hb⟩
          refine ⟨_, rfl, ?_⟩
          have n0_ := Aside0.mk (blk_below (g := gb123) (o := .cells #[.int .u8 a0_0, .int .u8 a0_1, .int .u8 a0_2, .int .u8 a0_3, .int .u64 a0_4, .int .u64 a0_5, .int .u32 a0_6, .int .u32 a0_7, .int .u32 a0_8, .int .u64 a0_9, .int .u64 a0_10, .slice A0_11 l0_11.length c0_11, .slice A0_12 l0_12.length c0_12, .slice A0_13 l0_13.length c0_13, .slice A0_14 l0_14.length c0_14, .slice A0_15 l0_15.length c0_15] 36 (0, 0)) (by (with_reducible repeat (first | refine blk_drewN ?_ _ | refine blk_drew ?_ | refine blk_alloc ?_ _)); exact BK123.out) hb)
          have n1_ := Aside0.mk (below_step (by repeat (first | (with_reducible first | exact HB.out | apply below_alloc | apply pw_below_drewN | apply below_drew1 | refine below_set ?_ GE123.out) | exact HB.out)) hb)
          clear BK123
          clear HB
          have BK123 := n0_
          have HB := n1_
          clear n0_ n1_
          (try clear hb)
          (try clear hb2)
          (try clear hk)
          (try clear hi)
          refine hK.out _ _ ⟨(blk_cell BK123.out 0).trans rfl, (blk_cell BK123.out 1).trans rfl, (blk_cell BK123.out 2).trans rfl, (blk_cell BK123.out 3).trans rfl, (blk_cell BK123.out 4).trans rfl, (blk_cell BK123.out 5).trans rfl, (blk_cell BK123.out 6).trans rfl, (blk_cell BK123.out 7).trans rfl, (blk_cell BK123.out 8).trans rfl, (blk_cell BK123.out 9).trans rfl, (blk_cell BK123.out 10).trans rfl, (blk_cell BK123.out 11).trans rfl, (blk_cell BK123.out 12).trans rfl, (blk_cell BK123.out 13).trans rfl, (blk_cell BK123.out 14).trans rfl, (blk_cell BK123.out 15).trans rfl⟩ (fun hHeld => ?_)
          clear hK K
          refine norm_ (a' := ?_) ?_ ?_
          rotate_left
          · show Act.put _ (some 23) _ = _
            simp only [Act.put, List.setIfInBounds_toArray, List.set_cons_zero, List.set_cons_succ, i64_w, i32_w]
            rfl
          refine one_ (i := 7) (N := some 27) #[true, true, true, true, true, true, true, true, false, false, false, false, false] rfl rfl (one_of HT_.out (by kernel_rfl)) (by decide) (fun K hK => ?_)
          refine goes_ Try.func15 (by kernel_rfl) rfl #[.agg #[.int .u8 a0_0, .int .u8 a0_1, .int .u8 a0_2, .int .u8 a0_3, .int .u64 a0_4, .int .u64 a0_5, .int .u32 a0_6, .int .u32 a0_7, .int .u32 a0_8, .int .u64 a0_9, .int .u64 a0_10, .slice A0_11 l0_11.length c0_11, .slice A0_12 l0_12.length c0_12, .slice A0_13 l0_13.length c0_13, .slice A0_14 l0_14.length c0_14, .slice A0_15 l0_15.length c0_15], .int .i64 a1, .int .i64 a2] (by rfl) rfl rfl (by (try simp only [List.map_toArray, List.map_cons, List.map_nil]); first | done | rfl | (simp only [List.length_drop, List.length_take]; rfl)) ?_
          with_reducible refine (unisonref12_Right.calls kj3 a0_0 a0_1 a0_2 a0_3 a0_4 a0_5 a0_6 a0_7 a0_8 a0_9 a0_10 _ _ l0_11 _ _ l0_12 _ _ l0_13 _ _ l0_14 _ _ l0_15 a1 a2 t127 _ ?side1 ?side2 ?side3 ?side4 ?side5 ?side6 ?side7 ?side8 ?side9 ?side10 A21.out).mono ?_
          (case side1 => repeat (first | exact (Kd.C_below HR0_11.out HB.out) | (with_reducible refine Kd.C_alloc ?_ _) | (with_reducible refine Kd.C_drewN ?_ _) | (with_reducible refine Kd.C_drew ?_)))
          (case side2 => exact HC0_11.out)
          (case side3 => repeat (first | exact (Kd.C_below HR0_12.out HB.out) | (with_reducible refine Kd.C_alloc ?_ _) | (with_reducible refine Kd.C_drewN ?_ _) | (with_reducible refine Kd.C_drew ?_)))
          (case side4 => exact HC0_12.out)
          (case side5 => repeat (first | exact (Kd.C_below HR0_13.out HB.out) | (with_reducible refine Kd.C_alloc ?_ _) | (with_reducible refine Kd.C_drewN ?_ _) | (with_reducible refine Kd.C_drew ?_)))
          (case side6 => exact HC0_13.out)
          (case side7 => repeat (first | exact (Kd.C_below HR0_14.out HB.out) | (with_reducible refine Kd.C_alloc ?_ _) | (with_reducible refine Kd.C_drewN ?_ _) | (with_reducible refine Kd.C_drew ?_)))
          (case side8 => exact HC0_14.out)
          (case side9 => repeat (first | exact (Kd.C_below HR0_15.out HB.out) | (with_reducible refine Kd.C_alloc ?_ _) | (with_reducible refine Kd.C_drewN ?_ _) | (with_reducible refine Kd.C_drew ?_)))
          (case side10 => exact HC0_15.out)
          rintro e w30 ⟨rfl, hb⟩
          refine ⟨_, rfl, ?_⟩
          have n0_ := Aside0.mk (blk_below (g := gb123) (o := .cells #[.int .u8 a0_0, .int .u8 a0_1, .int .u8 a0_2, .int .u8 a0_3, .int .u64 a0_4, .int .u64 a0_5, .int .u32 a0_6, .int .u32 a0_7, .int .u32 a0_8, .int .u64 a0_9, .int .u64 a0_10, .slice A0_11 l0_11.length c0_11, .slice A0_12 l0_12.length c0_12, .slice A0_13 l0_13.length c0_13, .slice A0_14 l0_14.length c0_14, .slice A0_15 l0_15.length c0_15] 36 (0, 0)) (by (with_reducible repeat (first | refine blk_drewN ?_ _ | refine blk_drew ?_ | refine blk_alloc ?_ _)); exact BK123.out) hb)
          have n1_ := Aside0.mk (below_step (by repeat (first | (with_reducible first | exact HB.out | apply below_alloc | apply pw_below_drewN | apply below_drew1 | refine below_set ?_ GE123.out) | exact HB.out)) hb)
          clear BK123
          clear HB
          have BK123 := n0_
          have HB := n1_
          clear n0_ n1_
          (try clear hb)
          (try clear hb2)
          (try clear hk)
          (try clear hi)
          refine hK.out _ _ ⟨(blk_cell BK123.out 0).trans rfl, (blk_cell BK123.out 1).trans rfl, (blk_cell BK123.out 2).trans rfl, (blk_cell BK123.out 3).trans rfl, (blk_cell BK123.out 4).trans rfl, (blk_cell BK123.out 5).trans rfl, (blk_cell BK123.out 6).trans rfl, (blk_cell BK123.out 7).trans rfl, (blk_cell BK123.out 8).trans rfl, (blk_cell BK123.out 9).trans rfl, (blk_cell BK123.out 10).trans rfl, (blk_cell BK123.out 11).trans rfl, (blk_cell BK123.out 12).trans rfl, (blk_cell BK123.out 13).trans rfl, (blk_cell BK123.out 14).trans rfl, (blk_cell BK123.out 15).trans rfl⟩ (fun hHeld => ?_)
          clear hK K
          refine norm_ (a' := ?_) ?_ ?_
          rotate_left
          · show Act.put _ (some 27) _ = _
            simp only [Act.put, List.setIfInBounds_toArray, List.set_cons_zero, List.set_cons_succ, i64_w, i32_w]
            rfl
          refine pure_ (i := 8) (N := some 28) (v := ?_) (a' := ?_) #[true, true, true, true, true, true, true, true, true, false, false, false, false] rfl rfl (any_of HT_.out (by kernel_rfl)) (fun _ _ _ h => h) (Or.inl ⟨by rfl, ?_⟩) ?_ ?_
          rotate_left
          · intro w'
            go_simp
            with_reducible rfl
          rotate_left
          · simp only [Act.put, List.setIfInBounds_toArray, List.set_cons_zero, List.set_cons_succ, i64_w, i32_w]
            rfl
          refine pure_ (i := 9) (N := some 29) (v := ?_) (a' := ?_) #[true, true, true, true, true, true, true, true, true, true, false, false, false] rfl rfl (any_of HT_.out (by kernel_rfl)) (fun _ _ _ h => h) (Or.inl ⟨by rfl, ?_⟩) ?_ ?_
          rotate_left
          · intro w'
            go_simp
            with_reducible rfl
          rotate_left
          · simp only [Act.put, List.setIfInBounds_toArray, List.set_cons_zero, List.set_cons_succ, i64_w, i32_w]
            rfl
          refine pure_ (i := 10) (N := some 30) (v := undef) (a' := ?_) #[true, true, true, true, true, true, true, true, true, true, true, false, false] rfl rfl (any_of HT_.out (by kernel_rfl)) (fun _ _ _ h => h) (Or.inr ⟨by rfl, rfl⟩) ?_ ?_
          rotate_left
          · simp only [Act.put, List.setIfInBounds_toArray, List.set_cons_zero, List.set_cons_succ, i64_w, i32_w]
            rfl
          refine pure_ (i := 11) (N := some 31) (v := ?_) (a' := ?_) #[true, true, true, true, true, true, true, true, true, true, true, true, false] rfl rfl (any_of HT_.out (by kernel_rfl)) (fun _ _ _ h => h) (Or.inl ⟨by rfl, ?_⟩) ?_ ?_
          rotate_left
          · intro w'
            go_simp
            with_reducible rfl
          rotate_left
          · simp only [Act.put, List.setIfInBounds_toArray, List.set_cons_zero, List.set_cons_succ, i64_w, i32_w]
            rfl
          refine pure_ (i := 12) (N := some 6) (v := ?_) (a' := ?_) #[true, true, true, true, true, true, true, true, true, true, true, true, true] rfl rfl (any_of HT_.out (by kernel_rfl)) (fun _ _ _ h => h) (Or.inl ⟨by rfl, ?_⟩) ?_ ?_
          rotate_left
          · intro w'
            go_simp
            with_reducible rfl
          rotate_left
          · simp only [Act.put, List.setIfInBounds_toArray, List.set_cons_zero, List.set_cons_succ, i64_w, i32_w]
            rfl
          refine done_ (done_of HT_.out (by kernel_rfl)) ?_
          try go_wp2
          go_ret
          exact ⟨by first | rfl | (simp [errW_none, errW_some] <;> rfl) | (simp [*, errW_none, errW_some] <;> rfl), by repeat (first | (with_reducible first | exact HB.out | apply below_alloc | apply pw_below_drewN | apply below_drew1 | refine below_set ?_ GE123.out) | exact HB.out)⟩

end Go.Proofs.Ythgpocefiaklkaa.F
