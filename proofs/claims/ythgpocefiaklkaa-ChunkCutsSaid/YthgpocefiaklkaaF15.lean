/- What is proved: the Go functions that the law reaches come to what the Lean functions beside them tell, and (in the text of the law) the given statement follows. Conditions: none beyond each theorem's own. Written by a program (a turned copy of the kit's print.py), some walks by hand. -/
import Derived.Test.YthgpocefiaklkaaF0
import Derived.Test.YthgpocefiaklkaaF13
import Derived.Test.YthgpocefiaklkaaF14
namespace Go.Proofs.Ythgpocefiaklkaa.F
open Go.RowKit Go.Proofs.YthgpocefiaklkaaW.PrintWords Go.Proofs.YthgpocefiaklkaaW.PrintLast Go.Proofs.YthgpocefiaklkaaW.PrintMore
attribute [local go_sem] max2_int min2_int max_two min_two max_three min_three max_four min_four   -- for this text's walks alone
set_option linter.unusedVariables false
set_option linter.unusedSimpArgs false

/-! ### unisonref06_Same: function 19 -/
/-- unisonref06.Same: told where it says true alone. By hand. -/
def eqI (x y : Int) : Bool := decide (x = y)
def eqL (x y : List Int) : Bool := decide (x = y)
def unisonref06_Same.f (k : Nat) (a0_0 : Int) (a0_1 : Int) (a0_2 : Int) (a0_3 : Int) (a0_4 : Int) (a0_5 : Int) (a0_6 : Int) (a0_7 : Int) (a0_8 : Int) (a0_9 : Int) (a0_10 : Int) (l0_11 : List S53) (l0_12 : List S53) (l0_13 : List Int) (l0_14 : List Int) (l0_15 : List Int) (a1_0 : Int) (a1_1 : Int) (a1_2 : Int) (a1_3 : Int) (a1_4 : Int) (a1_5 : Int) (a1_6 : Int) (a1_7 : Int) (a1_8 : Int) (a1_9 : Int) (a1_10 : Int) (l1_11 : List S53) (l1_12 : List S53) (l1_13 : List Int) (l1_14 : List Int) (l1_15 : List Int) : Option Bool := if (eqI a0_0 a1_0 && eqI a0_1 a1_1 && eqI a0_2 a1_2 && eqI a0_3 a1_3 && eqI a0_4 a1_4 && eqI a0_5 a1_5 && eqI a0_6 a1_6 && eqI a0_7 a1_7 && eqI a0_8 a1_8 && eqI a0_9 a1_9 && eqI a0_10 a1_10 && eqL l0_13 l1_13 && eqL l0_14 l1_14 && eqL l0_15 l1_15) = true then ((unisonref03_Same.f k l0_11 l1_11).bind fun t1 => ((unisonref03_Same.f k l0_12 l1_12).bind fun t2 => ((unisonref06_nums.f k l0_13).bind fun _ => ((unisonref06_nums.f k l0_14).bind fun _ => (if (t1 && t2) = true then some true else none))))) else none
theorem unisonref06_Same.mono : ∀ a0_0 a0_1 a0_2 a0_3 a0_4 a0_5 a0_6 a0_7 a0_8 a0_9 a0_10 l0_11 l0_12 l0_13 l0_14 l0_15 a1_0 a1_1 a1_2 a1_3 a1_4 a1_5 a1_6 a1_7 a1_8 a1_9 a1_10 l1_11 l1_12 l1_13 l1_14 l1_15 k, LeO (unisonref06_Same.f k a0_0 a0_1 a0_2 a0_3 a0_4 a0_5 a0_6 a0_7 a0_8 a0_9 a0_10 l0_11 l0_12 l0_13 l0_14 l0_15 a1_0 a1_1 a1_2 a1_3 a1_4 a1_5 a1_6 a1_7 a1_8 a1_9 a1_10 l1_11 l1_12 l1_13 l1_14 l1_15) (unisonref06_Same.f (k + 1) a0_0 a0_1 a0_2 a0_3 a0_4 a0_5 a0_6 a0_7 a0_8 a0_9 a0_10 l0_11 l0_12 l0_13 l0_14 l0_15 a1_0 a1_1 a1_2 a1_3 a1_4 a1_5 a1_6 a1_7 a1_8 a1_9 a1_10 l1_11 l1_12 l1_13 l1_14 l1_15) := by
  intros
  unfold unisonref06_Same.f
  refine LeO.ite (LeO.bind (unisonref03_Same.mono _ _ _) fun _ => LeO.bind (unisonref03_Same.mono _ _ _) fun _ => LeO.bind (unisonref06_nums.mono _ _) fun _ => LeO.bind (unisonref06_nums.mono _ _) fun _ => LeO.refl _) (LeO.refl _)
def unisonref06_Same.T3 : Bool × List (List Nat × List Nat) := (true, [([], []), ([0], [0]), ([], []), ([2], [2]), ([1, 3], [1, 3]), ([4, 4], [4]), ([5], [5]), ([6, 5], [5, 6]), ([5], [5]), ([8, 5], [5, 8]), ([7, 9, 5, 5], [5, 7, 9]), ([5, 10], [5, 10]), ([11, 10], [11]), ([12], [12]), ([13, 12], [12, 13]), ([14, 12, 12], [12, 14]), ([15, 12], [12, 15]), ([12], [12]), ([17, 12], [12, 17]), ([18, 15, 12], [12, 18]), ([19, 12], [12, 19]), ([16, 20, 12], [12, 16, 20]), ([12, 21], [12, 21]), ([22, 19], [22]), ([23], [23]), ([24, 23], [23, 24]), ([25, 23, 23], [23, 25]), ([26, 23], [23, 26]), ([23], [23]), ([28, 23], [23, 28]), ([29, 26, 23], [23, 29]), ([30, 23], [23, 30]), ([27, 31, 23], [23, 27, 31]), ([23, 32], [23, 32]), ([33, 30], [33]), ([34], [34]), ([35, 34], [34, 35]), ([36, 34], [34, 36]), ([34], [34]), ([38, 34], [34, 38]), ([39, 34], [34, 39]), ([37, 40, 34], [34, 37, 40]), ([34, 41], [34, 41]), ([42, 34, 0, 1, 2, 3, 4, 5, 6, 7, 8, 9, 10, 11, 12, 13, 14, 15, 16, 17, 18, 19, 20, 21, 22, 23, 24, 25, 26, 27, 28, 29, 30, 31, 32, 33, 34, 35, 36, 37, 38, 39, 40, 41, 42], [42])])
def unisonref06_Same.B3 : List Nat := [0, 1, 0, 4, 15, 31, 63, 127, 63, 319, 1023, 2047, 4095, 8191, 16383, 32767, 65535, 8191, 139263, 458751, 983039, 2097151, 4194303, 8388607, 16777215, 33554431, 67108863, 134217727, 16777215, 285212671, 939524095, 2013265919, 4294967295, 8589934591, 17179869183, 34359738367, 68719476735, 137438953471, 34359738367, 309237645311, 858993459199, 2199023255551, 4398046511103, 8796093022207]
theorem unisonref06_Same.tab3 : rtab .any (opsOf Try.f19 3) = unisonref06_Same.T3 := by kernel_rfl
theorem unisonref06_Same.bits3 : waitsOk unisonref06_Same.T3.2 unisonref06_Same.B3 = true := by kernel_rfl
set_option maxHeartbeats 8000000 in
set_option maxRecDepth 100000 in
theorem unisonref06_Same.calls (k : Nat) (a0_0 : Int) (a0_1 : Int) (a0_2 : Int) (a0_3 : Int) (a0_4 : Int) (a0_5 : Int) (a0_6 : Int) (a0_7 : Int) (a0_8 : Int) (a0_9 : Int) (a0_10 : Int) (A0_11 : Option Addr) (c0_11 : Nat) (l0_11 : List S53) (A0_12 : Option Addr) (c0_12 : Nat) (l0_12 : List S53) (A0_13 : Option Addr) (c0_13 : Nat) (l0_13 : List Int) (A0_14 : Option Addr) (c0_14 : Nat) (l0_14 : List Int) (A0_15 : Option Addr) (c0_15 : Nat) (l0_15 : List Int) (a1_0 : Int) (a1_1 : Int) (a1_2 : Int) (a1_3 : Int) (a1_4 : Int) (a1_5 : Int) (a1_6 : Int) (a1_7 : Int) (a1_8 : Int) (a1_9 : Int) (a1_10 : Int) (A1_11 : Option Addr) (c1_11 : Nat) (l1_11 : List S53) (A1_12 : Option Addr) (c1_12 : Nat) (l1_12 : List S53) (A1_13 : Option Addr) (c1_13 : Nat) (l1_13 : List Int) (A1_14 : Option Addr) (c1_14 : Nat) (l1_14 : List Int) (A1_15 : Option Addr) (c1_15 : Nat) (l1_15 : List Int) (r : Bool) (w : World) (hr0_11 : Kd.C k53 w A0_11 l0_11.length l0_11) (hc0_11 : l0_11.length ≤ c0_11) (hr0_12 : Kd.C k53 w A0_12 l0_12.length l0_12) (hc0_12 : l0_12.length ≤ c0_12) (hr0_13 : Kd.C (Kd.int .u64) w A0_13 l0_13.length l0_13) (hc0_13 : l0_13.length ≤ c0_13) (hr0_14 : Kd.C (Kd.int .u64) w A0_14 l0_14.length l0_14) (hc0_14 : l0_14.length ≤ c0_14) (hr0_15 : Kd.C (Kd.int .u8) w A0_15 l0_15.length l0_15) (hc0_15 : l0_15.length ≤ c0_15) (hr1_11 : Kd.C k53 w A1_11 l1_11.length l1_11) (hc1_11 : l1_11.length ≤ c1_11) (hr1_12 : Kd.C k53 w A1_12 l1_12.length l1_12) (hc1_12 : l1_12.length ≤ c1_12) (hr1_13 : Kd.C (Kd.int .u64) w A1_13 l1_13.length l1_13) (hc1_13 : l1_13.length ≤ c1_13) (hr1_14 : Kd.C (Kd.int .u64) w A1_14 l1_14.length l1_14) (hc1_14 : l1_14.length ≤ c1_14) (hr1_15 : Kd.C (Kd.int .u8) w A1_15 l1_15.length l1_15) (hc1_15 : l1_15.length ≤ c1_15) (h : unisonref06_Same.f k a0_0 a0_1 a0_2 a0_3 a0_4 a0_5 a0_6 a0_7 a0_8 a0_9 a0_10 l0_11 l0_12 l0_13 l0_14 l0_15 a1_0 a1_1 a1_2 a1_3 a1_4 a1_5 a1_6 a1_7 a1_8 a1_9 a1_10 l1_11 l1_12 l1_13 l1_14 l1_15 = some r) :
    Calls Try.prog 19 #[.agg #[.int .u8 a0_0, .int .u8 a0_1, .int .u8 a0_2, .int .u8 a0_3, .int .u64 a0_4, .int .u64 a0_5, .int .u32 a0_6, .int .u32 a0_7, .int .u32 a0_8, .int .u64 a0_9, .int .u64 a0_10, .slice A0_11 l0_11.length c0_11, .slice A0_12 l0_12.length c0_12, .slice A0_13 l0_13.length c0_13, .slice A0_14 l0_14.length c0_14, .slice A0_15 l0_15.length c0_15], .agg #[.int .u8 a1_0, .int .u8 a1_1, .int .u8 a1_2, .int .u8 a1_3, .int .u64 a1_4, .int .u64 a1_5, .int .u32 a1_6, .int .u32 a1_7, .int .u32 a1_8, .int .u64 a1_9, .int .u64 a1_10, .slice A1_11 l1_11.length c1_11, .slice A1_12 l1_12.length c1_12, .slice A1_13 l1_13.length c1_13, .slice A1_14 l1_14.length c1_14, .slice A1_15 l1_15.length c1_15]] w fun e w' => e = .returned (.bool r) ∧ Below w.heap.size w w' := by
  unfold unisonref06_Same.f at h
  by_cases hc : (eqI a0_0 a1_0 && eqI a0_1 a1_1 && eqI a0_2 a1_2 && eqI a0_3 a1_3 && eqI a0_4 a1_4 && eqI a0_5 a1_5 && eqI a0_6 a1_6 && eqI a0_7 a1_7 && eqI a0_8 a1_8 && eqI a0_9 a1_9 && eqI a0_10 a1_10 && eqL l0_13 l1_13 && eqL l0_14 l1_14 && eqL l0_15 l1_15) = true
  rotate_left
  · rw [if_neg hc] at h; cases h
  rw [if_pos hc] at h
  simp only [Bool.and_eq_true, eqI, eqL, decide_eq_true_eq] at hc
  obtain ⟨⟨⟨⟨⟨⟨⟨⟨⟨⟨⟨⟨⟨rfl, rfl⟩, rfl⟩, rfl⟩, rfl⟩, rfl⟩, rfl⟩, rfl⟩, rfl⟩, rfl⟩, rfl⟩, rfl⟩, rfl⟩, rfl⟩ := hc
  obtain ⟨t1, h1, h⟩ := Option.bind_eq_some_iff.mp h
  obtain ⟨t2, h2, h⟩ := Option.bind_eq_some_iff.mp h
  obtain ⟨x, h3, h⟩ := Option.bind_eq_some_iff.mp h
  obtain ⟨y, h4, h⟩ := Option.bind_eq_some_iff.mp h
  by_cases ht : (t1 && t2) = true
  rotate_left
  · rw [if_neg ht] at h; cases h
  rw [if_pos ht] at h
  obtain rfl := Option.some.inj h
  clear h
  rw [Bool.and_eq_true] at ht
  obtain ⟨rfl, rfl⟩ := ht
  have A1 := Aside0.mk h1
  clear h1
  have A2 := Aside0.mk h2
  clear h2
  have A3 := Aside0.mk h3
  clear h3
  have A4 := Aside0.mk h4
  clear h4
  have R0_11 := Aside0.mk hr0_11
  have L0_11 := Aside0.mk hc0_11
  clear hr0_11 hc0_11
  have R0_12 := Aside0.mk hr0_12
  have L0_12 := Aside0.mk hc0_12
  clear hr0_12 hc0_12
  have R0_13 := Aside0.mk hr0_13
  have L0_13 := Aside0.mk hc0_13
  clear hr0_13 hc0_13
  have R0_14 := Aside0.mk hr0_14
  have L0_14 := Aside0.mk hc0_14
  clear hr0_14 hc0_14
  have R0_15 := Aside0.mk hr0_15
  have L0_15 := Aside0.mk hc0_15
  clear hr0_15 hc0_15
  have R1_11 := Aside0.mk hr1_11
  have L1_11 := Aside0.mk hc1_11
  clear hr1_11 hc1_11
  have R1_12 := Aside0.mk hr1_12
  have L1_12 := Aside0.mk hc1_12
  clear hr1_12 hc1_12
  have R1_13 := Aside0.mk hr1_13
  have L1_13 := Aside0.mk hc1_13
  clear hr1_13 hc1_13
  have R1_14 := Aside0.mk hr1_14
  have L1_14 := Aside0.mk hc1_14
  clear hr1_14 hc1_14
  have R1_15 := Aside0.mk hr1_15
  have L1_15 := Aside0.mk hc1_15
  clear hr1_15 hc1_15
  go_enter Try.func19, Try.ntmps19
  go_wp2_with fail
  obtain ⟨w1, hw1⟩ : ∃ w1, w1 = ((w.alloc (.cells #[.int .u8 a0_0, .int .u8 a0_1, .int .u8 a0_2, .int .u8 a0_3, .int .u64 a0_4, .int .u64 a0_5, .int .u32 a0_6, .int .u32 a0_7, .int .u32 a0_8, .int .u64 a0_9, .int .u64 a0_10, .slice A0_11 l0_11.length c0_11, .slice A0_12 l0_12.length c0_12, .slice A0_13 l0_13.length c0_13, .slice A0_14 l0_14.length c0_14, .slice A0_15 l0_15.length c0_15] 36)).alloc (.cells #[.int .u8 a0_0, .int .u8 a0_1, .int .u8 a0_2, .int .u8 a0_3, .int .u64 a0_4, .int .u64 a0_5, .int .u32 a0_6, .int .u32 a0_7, .int .u32 a0_8, .int .u64 a0_9, .int .u64 a0_10, .slice A1_11 l1_11.length c1_11, .slice A1_12 l1_12.length c1_12, .slice A1_13 l0_13.length c1_13, .slice A1_14 l0_14.length c1_14, .slice A1_15 l0_15.length c1_15] 36)) := ⟨_, rfl⟩
  rw [← hw1]
  have B1 := Aside0.mk (show Below w.heap.size w w1 by rw [hw1]; exact below_alloc (below_alloc (Below.refl _ _) _) _)
  have K0 : w1.heap[w.heap.size]? = some (.cells #[.int .u8 a0_0, .int .u8 a0_1, .int .u8 a0_2, .int .u8 a0_3, .int .u64 a0_4, .int .u64 a0_5, .int .u32 a0_6, .int .u32 a0_7, .int .u32 a0_8, .int .u64 a0_9, .int .u64 a0_10, .slice A0_11 l0_11.length c0_11, .slice A0_12 l0_12.length c0_12, .slice A0_13 l0_13.length c0_13, .slice A0_14 l0_14.length c0_14, .slice A0_15 l0_15.length c0_15] 36 (0, 0)) := by rw [hw1]; exact blk_alloc (blk_new w _) _
  have K1 : w1.heap[w.heap.size + 1]? = some (.cells #[.int .u8 a0_0, .int .u8 a0_1, .int .u8 a0_2, .int .u8 a0_3, .int .u64 a0_4, .int .u64 a0_5, .int .u32 a0_6, .int .u32 a0_7, .int .u32 a0_8, .int .u64 a0_9, .int .u64 a0_10, .slice A1_11 l1_11.length c1_11, .slice A1_12 l1_12.length c1_12, .slice A1_13 l0_13.length c1_13, .slice A1_14 l0_14.length c1_14, .slice A1_15 l0_15.length c1_15] 36 (0, 0)) := by rw [hw1]; simpa using blk_new (w.alloc (.cells #[.int .u8 a0_0, .int .u8 a0_1, .int .u8 a0_2, .int .u8 a0_3, .int .u64 a0_4, .int .u64 a0_5, .int .u32 a0_6, .int .u32 a0_7, .int .u32 a0_8, .int .u64 a0_9, .int .u64 a0_10, .slice A0_11 l0_11.length c0_11, .slice A0_12 l0_12.length c0_12, .slice A0_13 l0_13.length c0_13, .slice A0_14 l0_14.length c0_14, .slice A0_15 l0_15.length c0_15] 36)) (.cells #[.int .u8 a0_0, .int .u8 a0_1, .int .u8 a0_2, .int .u8 a0_3, .int .u64 a0_4, .int .u64 a0_5, .int .u32 a0_6, .int .u32 a0_7, .int .u32 a0_8, .int .u64 a0_9, .int .u64 a0_10, .slice A1_11 l1_11.length c1_11, .slice A1_12 l1_12.length c1_12, .slice A1_13 l0_13.length c1_13, .slice A1_14 l0_14.length c1_14, .slice A1_15 l0_15.length c1_15] 36)
  have k0_11 : w1.cell? ⟨w.heap.size, 11, none⟩ = some (.slice A0_11 l0_11.length c0_11) := (blk_cell K0 11).trans rfl
  have k0_12 : w1.cell? ⟨w.heap.size, 12, none⟩ = some (.slice A0_12 l0_12.length c0_12) := (blk_cell K0 12).trans rfl
  have k0_13 : w1.cell? ⟨w.heap.size, 13, none⟩ = some (.slice A0_13 l0_13.length c0_13) := (blk_cell K0 13).trans (by first | rfl | (simp; done))
  have k0_14 : w1.cell? ⟨w.heap.size, 14, none⟩ = some (.slice A0_14 l0_14.length c0_14) := (blk_cell K0 14).trans (by first | rfl | (simp; done))
  have k0_15 : w1.cell? ⟨w.heap.size, 15, none⟩ = some (.slice A0_15 l0_15.length c0_15) := (blk_cell K0 15).trans (by first | rfl | (simp; done))
  have k1_11 : w1.cell? ⟨w.heap.size + 1, 11, none⟩ = some (.slice A1_11 l1_11.length c1_11) := (blk_cell K1 11).trans rfl
  have k1_12 : w1.cell? ⟨w.heap.size + 1, 12, none⟩ = some (.slice A1_12 l1_12.length c1_12) := (blk_cell K1 12).trans rfl
  have k1_13 : w1.cell? ⟨w.heap.size + 1, 13, none⟩ = some (.slice A1_13 l0_13.length c1_13) := (blk_cell K1 13).trans (by first | rfl | (simp; done))
  have k1_14 : w1.cell? ⟨w.heap.size + 1, 14, none⟩ = some (.slice A1_14 l0_14.length c1_14) := (blk_cell K1 14).trans (by first | rfl | (simp; done))
  have k1_15 : w1.cell? ⟨w.heap.size + 1, 15, none⟩ = some (.slice A1_15 l0_15.length c1_15) := (blk_cell K1 15).trans (by first | rfl | (simp; done))
  clear K0 K1 hw1
  refine start_ (n := 44) (S := fun w' => Below w1.heap.size w1 w') (ds := []) #[false, false, false, false, false, false, false, false, false, false, false, false, false, false, false, false, false, false, false, false, false, false, false, false, false, false, false, false, false, false, false, false, false, false, false, false, false, false, false, false, false, false, false, false] (by kernel_rfl) rfl rfl (below_drew1 (Below.refl _ _)) (fun hHeld => ?_)
  refine with_tabW unisonref06_Same.tab3 unisonref06_Same.bits3 (fun HT_ HW_ => ?_)
  generalize w1.drew = wc at hHeld ⊢
  refine pure_ (i := 0) (N := some 79) (v := ?_) (a' := ?_) #[true, false, false, false, false, false, false, false, false, false, false, false, false, false, false, false, false, false, false, false, false, false, false, false, false, false, false, false, false, false, false, false, false, false, false, false, false, false, false, false, false, false, false, false] rfl rfl (any_of HT_.out (by kernel_rfl)) (fun _ _ _ h => h) (Or.inl ⟨by rfl, ?_⟩) ?_ ?_
  rotate_left
  · intro w'
    go_simp
    try with_reducible rfl
  rotate_left
  · simp only [Act.put, List.setIfInBounds_toArray, List.set_cons_zero, List.set_cons_succ, i64_w, i32_w]
    rfl
  refine take_ (i := 1) (N := some 80) (v := ?_) (a' := ?_) #[true, true, false, false, false, false, false, false, false, false, false, false, false, false, false, false, false, false, false, false, false, false, false, false, false, false, false, false, false, false, false, false, false, false, false, false, false, false, false, false, false, false, false, false] rfl rfl (take_ofW HT_.out HW_.out (by kernel_rfl)) (fun _ _ _ h => h) (Or.inl ⟨by rfl, ?_⟩) hHeld ?_ ?_
  rotate_left
  · intro w' s0
    have q := pw_cell_below s0 k0_11
    go_simp
    try with_reducible rfl
  rotate_left
  · simp only [Act.put, List.setIfInBounds_toArray, List.set_cons_zero, List.set_cons_succ, i64_w, i32_w]
    rfl
  refine pure_ (i := 2) (N := some 81) (v := ?_) (a' := ?_) #[true, true, true, false, false, false, false, false, false, false, false, false, false, false, false, false, false, false, false, false, false, false, false, false, false, false, false, false, false, false, false, false, false, false, false, false, false, false, false, false, false, false, false, false] rfl rfl (any_of HT_.out (by kernel_rfl)) (fun _ _ _ h => h) (Or.inl ⟨by rfl, ?_⟩) ?_ ?_
  rotate_left
  · intro w'
    go_simp
    try with_reducible rfl
  rotate_left
  · simp only [Act.put, List.setIfInBounds_toArray, List.set_cons_zero, List.set_cons_succ, i64_w, i32_w]
    rfl
  refine take_ (i := 3) (N := some 82) (v := ?_) (a' := ?_) #[true, true, true, true, false, false, false, false, false, false, false, false, false, false, false, false, false, false, false, false, false, false, false, false, false, false, false, false, false, false, false, false, false, false, false, false, false, false, false, false, false, false, false, false] rfl rfl (take_ofW HT_.out HW_.out (by kernel_rfl)) (fun _ _ _ h => h) (Or.inl ⟨by rfl, ?_⟩) hHeld ?_ ?_
  rotate_left
  · intro w' s0
    have q := pw_cell_below s0 k1_11
    go_simp
    try with_reducible rfl
  rotate_left
  · simp only [Act.put, List.setIfInBounds_toArray, List.set_cons_zero, List.set_cons_succ, i64_w, i32_w]
    rfl
  refine one_ (i := 4) (N := some 83) #[true, true, true, true, true, false, false, false, false, false, false, false, false, false, false, false, false, false, false, false, false, false, false, false, false, false, false, false, false, false, false, false, false, false, false, false, false, false, false, false, false, false, false, false] rfl rfl (one_of HT_.out (by kernel_rfl)) (by decide) (fun K hK => ?_)
  refine goes_ Try.func22 (by kernel_rfl) rfl #[.slice A0_11 l0_11.length c0_11, .slice A1_11 l1_11.length c1_11] (by rfl) rfl rfl (by (try simp only [List.map_toArray, List.map_cons, List.map_nil]); first | done | rfl) ?_
  with_reducible refine (unisonref03_Same.calls k _ _ l0_11 _ _ l1_11 true _ (Kd.C_below R0_11.out (below_step B1.out hHeld)) L0_11.out (Kd.C_below R1_11.out (below_step B1.out hHeld)) L1_11.out A1.out).mono ?_
  rintro e w2 ⟨rfl, hd⟩
  have hHeld := below_step hHeld hd.below
  clear hd
  refine ⟨_, rfl, ?_⟩
  refine hK.out _ _ hHeld (fun hHeld => ?_)
  clear hK K
  refine norm_ (a' := ?_) ?_ ?_
  rotate_left
  · show Act.put _ (some 83) _ = _
    simp only [Act.put, List.setIfInBounds_toArray, List.set_cons_zero, List.set_cons_succ, i64_w, i32_w]
    rfl
  refine pure_ (i := 5) (N := some 84) (v := ?_) (a' := ?_) #[true, true, true, true, true, true, false, false, false, false, false, false, false, false, false, false, false, false, false, false, false, false, false, false, false, false, false, false, false, false, false, false, false, false, false, false, false, false, false, false, false, false, false, false] rfl rfl (any_of HT_.out (by kernel_rfl)) (fun _ _ _ h => h) (Or.inl ⟨by rfl, ?_⟩) ?_ ?_
  rotate_left
  · intro w'
    go_simp
    try with_reducible rfl
  rotate_left
  · simp only [Act.put, List.setIfInBounds_toArray, List.set_cons_zero, List.set_cons_succ, i64_w, i32_w]
    rfl
  refine pure_ (i := 6) (N := some 85) (v := ?_) (a' := ?_) #[true, true, true, true, true, true, true, false, false, false, false, false, false, false, false, false, false, false, false, false, false, false, false, false, false, false, false, false, false, false, false, false, false, false, false, false, false, false, false, false, false, false, false, false] rfl rfl (any_of HT_.out (by kernel_rfl)) (fun _ _ _ h => h) (Or.inl ⟨by rfl, ?_⟩) ?_ ?_
  rotate_left
  · intro w'
    go_simp
    try with_reducible rfl
  rotate_left
  · simp only [Act.put, List.setIfInBounds_toArray, List.set_cons_zero, List.set_cons_succ, i64_w, i32_w]
    rfl
  refine take_ (i := 7) (N := some 86) (v := ?_) (a' := ?_) #[true, true, true, true, true, true, true, true, false, false, false, false, false, false, false, false, false, false, false, false, false, false, false, false, false, false, false, false, false, false, false, false, false, false, false, false, false, false, false, false, false, false, false, false] rfl rfl (take_ofW HT_.out HW_.out (by kernel_rfl)) (fun _ _ _ h => h) (Or.inl ⟨by rfl, ?_⟩) hHeld ?_ ?_
  rotate_left
  · intro w' s0
    have q := pw_cell_below s0 k0_12
    go_simp
    try with_reducible rfl
  rotate_left
  · simp only [Act.put, List.setIfInBounds_toArray, List.set_cons_zero, List.set_cons_succ, i64_w, i32_w]
    rfl
  refine pure_ (i := 8) (N := some 87) (v := ?_) (a' := ?_) #[true, true, true, true, true, true, true, true, true, false, false, false, false, false, false, false, false, false, false, false, false, false, false, false, false, false, false, false, false, false, false, false, false, false, false, false, false, false, false, false, false, false, false, false] rfl rfl (any_of HT_.out (by kernel_rfl)) (fun _ _ _ h => h) (Or.inl ⟨by rfl, ?_⟩) ?_ ?_
  rotate_left
  · intro w'
    go_simp
    try with_reducible rfl
  rotate_left
  · simp only [Act.put, List.setIfInBounds_toArray, List.set_cons_zero, List.set_cons_succ, i64_w, i32_w]
    rfl
  refine take_ (i := 9) (N := some 88) (v := ?_) (a' := ?_) #[true, true, true, true, true, true, true, true, true, true, false, false, false, false, false, false, false, false, false, false, false, false, false, false, false, false, false, false, false, false, false, false, false, false, false, false, false, false, false, false, false, false, false, false] rfl rfl (take_ofW HT_.out HW_.out (by kernel_rfl)) (fun _ _ _ h => h) (Or.inl ⟨by rfl, ?_⟩) hHeld ?_ ?_
  rotate_left
  · intro w' s0
    have q := pw_cell_below s0 k1_12
    go_simp
    try with_reducible rfl
  rotate_left
  · simp only [Act.put, List.setIfInBounds_toArray, List.set_cons_zero, List.set_cons_succ, i64_w, i32_w]
    rfl
  refine one_ (i := 10) (N := some 89) #[true, true, true, true, true, true, true, true, true, true, true, false, false, false, false, false, false, false, false, false, false, false, false, false, false, false, false, false, false, false, false, false, false, false, false, false, false, false, false, false, false, false, false, false] rfl rfl (one_of HT_.out (by kernel_rfl)) (by decide) (fun K hK => ?_)
  refine goes_ Try.func22 (by kernel_rfl) rfl #[.slice A0_12 l0_12.length c0_12, .slice A1_12 l1_12.length c1_12] (by rfl) rfl rfl (by (try simp only [List.map_toArray, List.map_cons, List.map_nil]); first | done | rfl) ?_
  with_reducible refine (unisonref03_Same.calls k _ _ l0_12 _ _ l1_12 true _ (Kd.C_below R0_12.out (below_step B1.out hHeld)) L0_12.out (Kd.C_below R1_12.out (below_step B1.out hHeld)) L1_12.out A2.out).mono ?_
  rintro e w2 ⟨rfl, hd⟩
  have hHeld := below_step hHeld hd.below
  clear hd
  refine ⟨_, rfl, ?_⟩
  refine hK.out _ _ hHeld (fun hHeld => ?_)
  clear hK K
  refine norm_ (a' := ?_) ?_ ?_
  rotate_left
  · show Act.put _ (some 89) _ = _
    simp only [Act.put, List.setIfInBounds_toArray, List.set_cons_zero, List.set_cons_succ, i64_w, i32_w]
    rfl
  refine pure_ (i := 11) (N := some 90) (v := ?_) (a' := ?_) #[true, true, true, true, true, true, true, true, true, true, true, true, false, false, false, false, false, false, false, false, false, false, false, false, false, false, false, false, false, false, false, false, false, false, false, false, false, false, false, false, false, false, false, false] rfl rfl (any_of HT_.out (by kernel_rfl)) (fun _ _ _ h => h) (Or.inl ⟨by rfl, ?_⟩) ?_ ?_
  rotate_left
  · intro w'
    go_simp
    try with_reducible rfl
  rotate_left
  · simp only [Act.put, List.setIfInBounds_toArray, List.set_cons_zero, List.set_cons_succ, i64_w, i32_w]
    rfl
  refine pure_ (i := 12) (N := some 91) (v := ?_) (a' := ?_) #[true, true, true, true, true, true, true, true, true, true, true, true, true, false, false, false, false, false, false, false, false, false, false, false, false, false, false, false, false, false, false, false, false, false, false, false, false, false, false, false, false, false, false, false] rfl rfl (any_of HT_.out (by kernel_rfl)) (fun _ _ _ h => h) (Or.inl ⟨by rfl, ?_⟩) ?_ ?_
  rotate_left
  · intro w'
    go_simp
    try with_reducible rfl
  rotate_left
  · simp only [Act.put, List.setIfInBounds_toArray, List.set_cons_zero, List.set_cons_succ, i64_w, i32_w]
    rfl
  refine pure_ (i := 13) (N := some 92) (v := ?_) (a' := ?_) #[true, true, true, true, true, true, true, true, true, true, true, true, true, true, false, false, false, false, false, false, false, false, false, false, false, false, false, false, false, false, false, false, false, false, false, false, false, false, false, false, false, false, false, false] rfl rfl (any_of HT_.out (by kernel_rfl)) (fun _ _ _ h => h) (Or.inl ⟨by rfl, ?_⟩) ?_ ?_
  rotate_left
  · intro w'
    go_simp
    try with_reducible rfl
  rotate_left
  · simp only [Act.put, List.setIfInBounds_toArray, List.set_cons_zero, List.set_cons_succ, i64_w, i32_w]
    rfl
  refine take_ (i := 14) (N := some 93) (v := ?_) (a' := ?_) #[true, true, true, true, true, true, true, true, true, true, true, true, true, true, true, false, false, false, false, false, false, false, false, false, false, false, false, false, false, false, false, false, false, false, false, false, false, false, false, false, false, false, false, false] rfl rfl (take_ofW HT_.out HW_.out (by kernel_rfl)) (fun _ _ _ h => h) (Or.inl ⟨by rfl, ?_⟩) hHeld ?_ ?_
  rotate_left
  · intro w' s0
    have q := pw_cell_below s0 k0_13
    go_simp
    try with_reducible rfl
  rotate_left
  · simp only [Act.put, List.setIfInBounds_toArray, List.set_cons_zero, List.set_cons_succ, i64_w, i32_w]
    rfl
  refine pure_ (i := 17) (N := some 96) (v := ?_) (a' := ?_) #[true, true, true, true, true, true, true, true, true, true, true, true, true, true, true, false, false, true, false, false, false, false, false, false, false, false, false, false, false, false, false, false, false, false, false, false, false, false, false, false, false, false, false, false] rfl rfl (any_of HT_.out (by kernel_rfl)) (fun _ _ _ h => h) (Or.inl ⟨by rfl, ?_⟩) ?_ ?_
  rotate_left
  · intro w'
    go_simp
    try with_reducible rfl
  rotate_left
  · simp only [Act.put, List.setIfInBounds_toArray, List.set_cons_zero, List.set_cons_succ, i64_w, i32_w]
    rfl
  refine take_ (i := 18) (N := some 97) (v := ?_) (a' := ?_) #[true, true, true, true, true, true, true, true, true, true, true, true, true, true, true, false, false, true, true, false, false, false, false, false, false, false, false, false, false, false, false, false, false, false, false, false, false, false, false, false, false, false, false, false] rfl rfl (take_ofW HT_.out HW_.out (by kernel_rfl)) (fun _ _ _ h => h) (Or.inl ⟨by rfl, ?_⟩) hHeld ?_ ?_
  rotate_left
  · intro w' s0
    have q := pw_cell_below s0 k1_13
    go_simp
    try with_reducible rfl
  rotate_left
  · simp only [Act.put, List.setIfInBounds_toArray, List.set_cons_zero, List.set_cons_succ, i64_w, i32_w]
    rfl
  refine one_ (i := 15) (N := some 94) #[true, true, true, true, true, true, true, true, true, true, true, true, true, true, true, true, false, true, true, false, false, false, false, false, false, false, false, false, false, false, false, false, false, false, false, false, false, false, false, false, false, false, false, false] rfl rfl (one_of HT_.out (by kernel_rfl)) (by decide) (fun K hK => ?_)
  refine goes_ Try.func23 (by kernel_rfl) rfl #[.slice A0_13 l0_13.length c0_13] (by rfl) rfl rfl (by (try simp only [List.map_toArray, List.map_cons, List.map_nil]); first | done | rfl) ?_
  with_reducible refine (unisonref06_nums.calls k _ _ l0_13 x _ (Kd.C_below R0_13.out (below_step B1.out hHeld)) L0_13.out A3.out).mono ?_
  rintro e w2_0 ⟨v, rfl, ho, hb⟩
  obtain ⟨An0, cn0, rfl⟩ := Kd.R_slice ho
  have ho0 := (Kd.R_reads' ho).2.2
  clear ho
  have hHeld := below_step hHeld hb
  clear hb
  refine ⟨_, rfl, ?_⟩
  refine hK.out _ _ hHeld (fun hHeld => ?_)
  clear hK K
  refine norm_ (a' := ?_) ?_ ?_
  rotate_left
  · show Act.put _ (some 94) _ = _
    simp only [Act.put, List.setIfInBounds_toArray, List.set_cons_zero, List.set_cons_succ, i64_w, i32_w]
    rfl
  refine restart_ (S' := fun w' => Below w2_0.heap.size w2_0 w') (fun w' h => below_step hHeld h) (Below.refl _ _) ?_
  replace k0_11 := pw_cell_below hHeld k0_11
  replace k0_12 := pw_cell_below hHeld k0_12
  replace k0_13 := pw_cell_below hHeld k0_13
  replace k0_14 := pw_cell_below hHeld k0_14
  replace k0_15 := pw_cell_below hHeld k0_15
  replace k1_11 := pw_cell_below hHeld k1_11
  replace k1_12 := pw_cell_below hHeld k1_12
  replace k1_13 := pw_cell_below hHeld k1_13
  replace k1_14 := pw_cell_below hHeld k1_14
  replace k1_15 := pw_cell_below hHeld k1_15
  have n1 := Aside0.mk (below_step B1.out hHeld)
  clear B1
  have B1 := n1
  clear n1
  replace hHeld := Below.refl w2_0.heap.size w2_0
  refine take_ (i := 16) (N := some 95) (v := ?_) (a' := ?_) #[true, true, true, true, true, true, true, true, true, true, true, true, true, true, true, true, true, true, true, false, false, false, false, false, false, false, false, false, false, false, false, false, false, false, false, false, false, false, false, false, false, false, false, false] rfl rfl (take_ofW HT_.out HW_.out (by kernel_rfl)) (fun _ _ _ h => h) (Or.inl ⟨by rfl, ?_⟩) hHeld ?_ ?_
  rotate_left
  · intro w' s0
    have q := fun c => Kd.C_string (P := Try.prog) (src := 34) (dst := 9) (c := c) Try.underlying34 Try.underlying5 Try.underlying9 (Kd.C_below ho0 s0)
    go_simp
    try with_reducible rfl
  rotate_left
  · simp only [Act.put, List.setIfInBounds_toArray, List.set_cons_zero, List.set_cons_succ, i64_w, i32_w]
    rfl
  refine one_ (i := 19) (N := some 98) #[true, true, true, true, true, true, true, true, true, true, true, true, true, true, true, true, true, true, true, true, false, false, false, false, false, false, false, false, false, false, false, false, false, false, false, false, false, false, false, false, false, false, false, false] rfl rfl (one_of HT_.out (by kernel_rfl)) (by decide) (fun K hK => ?_)
  refine goes_ Try.func23 (by kernel_rfl) rfl #[.slice A1_13 l0_13.length c1_13] (by rfl) rfl rfl (by (try simp only [List.map_toArray, List.map_cons, List.map_nil]); first | done | rfl) ?_
  with_reducible refine (unisonref06_nums.calls k _ _ l0_13 x _ (Kd.C_below R1_13.out (below_step B1.out hHeld)) L1_13.out A3.out).mono ?_
  rintro e w2_1 ⟨v, rfl, ho, hb⟩
  obtain ⟨An1, cn1, rfl⟩ := Kd.R_slice ho
  have ho1 := (Kd.R_reads' ho).2.2
  clear ho
  have hHeld := below_step hHeld hb
  clear hb
  refine ⟨_, rfl, ?_⟩
  refine hK.out _ _ hHeld (fun hHeld => ?_)
  clear hK K
  refine norm_ (a' := ?_) ?_ ?_
  rotate_left
  · show Act.put _ (some 98) _ = _
    simp only [Act.put, List.setIfInBounds_toArray, List.set_cons_zero, List.set_cons_succ, i64_w, i32_w]
    rfl
  refine restart_ (S' := fun w' => Below w2_1.heap.size w2_1 w') (fun w' h => below_step hHeld h) (Below.refl _ _) ?_
  replace k0_11 := pw_cell_below hHeld k0_11
  replace k0_12 := pw_cell_below hHeld k0_12
  replace k0_13 := pw_cell_below hHeld k0_13
  replace k0_14 := pw_cell_below hHeld k0_14
  replace k0_15 := pw_cell_below hHeld k0_15
  replace k1_11 := pw_cell_below hHeld k1_11
  replace k1_12 := pw_cell_below hHeld k1_12
  replace k1_13 := pw_cell_below hHeld k1_13
  replace k1_14 := pw_cell_below hHeld k1_14
  replace k1_15 := pw_cell_below hHeld k1_15
  have n1 := Aside0.mk (below_step B1.out hHeld)
  clear B1
  have B1 := n1
  clear n1
  replace ho0 := Kd.C_below ho0 hHeld
  replace hHeld := Below.refl w2_1.heap.size w2_1
  refine take_ (i := 20) (N := some 99) (v := ?_) (a' := ?_) #[true, true, true, true, true, true, true, true, true, true, true, true, true, true, true, true, true, true, true, true, true, false, false, false, false, false, false, false, false, false, false, false, false, false, false, false, false, false, false, false, false, false, false, false] rfl rfl (take_ofW HT_.out HW_.out (by kernel_rfl)) (fun _ _ _ h => h) (Or.inl ⟨by rfl, ?_⟩) hHeld ?_ ?_
  rotate_left
  · intro w' s0
    have q := fun c => Kd.C_string (P := Try.prog) (src := 34) (dst := 9) (c := c) Try.underlying34 Try.underlying5 Try.underlying9 (Kd.C_below ho1 s0)
    go_simp
    try with_reducible rfl
  rotate_left
  · simp only [Act.put, List.setIfInBounds_toArray, List.set_cons_zero, List.set_cons_succ, i64_w, i32_w]
    rfl
  refine pure_ (i := 21) (N := some 100) (v := ?_) (a' := ?_) #[true, true, true, true, true, true, true, true, true, true, true, true, true, true, true, true, true, true, true, true, true, true, false, false, false, false, false, false, false, false, false, false, false, false, false, false, false, false, false, false, false, false, false, false] rfl rfl (any_of HT_.out (by kernel_rfl)) (fun _ _ _ h => h) (Or.inl ⟨by rfl, ?_⟩) ?_ ?_
  rotate_left
  · intro w'
    go_simp
    try with_reducible rfl
  rotate_left
  · simp only [Act.put, List.setIfInBounds_toArray, List.set_cons_zero, List.set_cons_succ, i64_w, i32_w]
    rfl
  refine pure_ (i := 22) (N := some 101) (v := ?_) (a' := ?_) #[true, true, true, true, true, true, true, true, true, true, true, true, true, true, true, true, true, true, true, true, true, true, true, false, false, false, false, false, false, false, false, false, false, false, false, false, false, false, false, false, false, false, false, false] rfl rfl (any_of HT_.out (by kernel_rfl)) (fun _ _ _ h => h) (Or.inl ⟨by rfl, ?_⟩) ?_ ?_
  rotate_left
  · intro w'
    go_simp
    try with_reducible rfl
  rotate_left
  · simp only [Act.put, List.setIfInBounds_toArray, List.set_cons_zero, List.set_cons_succ, i64_w, i32_w]
    rfl
  refine pure_ (i := 23) (N := some 102) (v := ?_) (a' := ?_) #[true, true, true, true, true, true, true, true, true, true, true, true, true, true, true, true, true, true, true, true, true, true, true, true, false, false, false, false, false, false, false, false, false, false, false, false, false, false, false, false, false, false, false, false] rfl rfl (any_of HT_.out (by kernel_rfl)) (fun _ _ _ h => h) (Or.inl ⟨by rfl, ?_⟩) ?_ ?_
  rotate_left
  · intro w'
    go_simp
    try with_reducible rfl
  rotate_left
  · simp only [Act.put, List.setIfInBounds_toArray, List.set_cons_zero, List.set_cons_succ, i64_w, i32_w]
    rfl
  refine pure_ (i := 24) (N := some 103) (v := ?_) (a' := ?_) #[true, true, true, true, true, true, true, true, true, true, true, true, true, true, true, true, true, true, true, true, true, true, true, true, true, false, false, false, false, false, false, false, false, false, false, false, false, false, false, false, false, false, false, false] rfl rfl (any_of HT_.out (by kernel_rfl)) (fun _ _ _ h => h) (Or.inl ⟨by rfl, ?_⟩) ?_ ?_
  rotate_left
  · intro w'
    go_simp
    try with_reducible rfl
  rotate_left
  · simp only [Act.put, List.setIfInBounds_toArray, List.set_cons_zero, List.set_cons_succ, i64_w, i32_w]
    rfl
  refine take_ (i := 25) (N := some 104) (v := ?_) (a' := ?_) #[true, true, true, true, true, true, true, true, true, true, true, true, true, true, true, true, true, true, true, true, true, true, true, true, true, true, false, false, false, false, false, false, false, false, false, false, false, false, false, false, false, false, false, false] rfl rfl (take_ofW HT_.out HW_.out (by kernel_rfl)) (fun _ _ _ h => h) (Or.inl ⟨by rfl, ?_⟩) hHeld ?_ ?_
  rotate_left
  · intro w' s0
    have q := pw_cell_below s0 k0_14
    go_simp
    try with_reducible rfl
  rotate_left
  · simp only [Act.put, List.setIfInBounds_toArray, List.set_cons_zero, List.set_cons_succ, i64_w, i32_w]
    rfl
  refine pure_ (i := 28) (N := some 107) (v := ?_) (a' := ?_) #[true, true, true, true, true, true, true, true, true, true, true, true, true, true, true, true, true, true, true, true, true, true, true, true, true, true, false, false, true, false, false, false, false, false, false, false, false, false, false, false, false, false, false, false] rfl rfl (any_of HT_.out (by kernel_rfl)) (fun _ _ _ h => h) (Or.inl ⟨by rfl, ?_⟩) ?_ ?_
  rotate_left
  · intro w'
    go_simp
    try with_reducible rfl
  rotate_left
  · simp only [Act.put, List.setIfInBounds_toArray, List.set_cons_zero, List.set_cons_succ, i64_w, i32_w]
    rfl
  refine take_ (i := 29) (N := some 108) (v := ?_) (a' := ?_) #[true, true, true, true, true, true, true, true, true, true, true, true, true, true, true, true, true, true, true, true, true, true, true, true, true, true, false, false, true, true, false, false, false, false, false, false, false, false, false, false, false, false, false, false] rfl rfl (take_ofW HT_.out HW_.out (by kernel_rfl)) (fun _ _ _ h => h) (Or.inl ⟨by rfl, ?_⟩) hHeld ?_ ?_
  rotate_left
  · intro w' s0
    have q := pw_cell_below s0 k1_14
    go_simp
    try with_reducible rfl
  rotate_left
  · simp only [Act.put, List.setIfInBounds_toArray, List.set_cons_zero, List.set_cons_succ, i64_w, i32_w]
    rfl
  refine one_ (i := 26) (N := some 105) #[true, true, true, true, true, true, true, true, true, true, true, true, true, true, true, true, true, true, true, true, true, true, true, true, true, true, true, false, true, true, false, false, false, false, false, false, false, false, false, false, false, false, false, false] rfl rfl (one_of HT_.out (by kernel_rfl)) (by decide) (fun K hK => ?_)
  refine goes_ Try.func23 (by kernel_rfl) rfl #[.slice A0_14 l0_14.length c0_14] (by rfl) rfl rfl (by (try simp only [List.map_toArray, List.map_cons, List.map_nil]); first | done | rfl) ?_
  with_reducible refine (unisonref06_nums.calls k _ _ l0_14 y _ (Kd.C_below R0_14.out (below_step B1.out hHeld)) L0_14.out A4.out).mono ?_
  rintro e w2_2 ⟨v, rfl, ho, hb⟩
  obtain ⟨An2, cn2, rfl⟩ := Kd.R_slice ho
  have ho2 := (Kd.R_reads' ho).2.2
  clear ho
  have hHeld := below_step hHeld hb
  clear hb
  refine ⟨_, rfl, ?_⟩
  refine hK.out _ _ hHeld (fun hHeld => ?_)
  clear hK K
  refine norm_ (a' := ?_) ?_ ?_
  rotate_left
  · show Act.put _ (some 105) _ = _
    simp only [Act.put, List.setIfInBounds_toArray, List.set_cons_zero, List.set_cons_succ, i64_w, i32_w]
    rfl
  refine restart_ (S' := fun w' => Below w2_2.heap.size w2_2 w') (fun w' h => below_step hHeld h) (Below.refl _ _) ?_
  replace k0_11 := pw_cell_below hHeld k0_11
  replace k0_12 := pw_cell_below hHeld k0_12
  replace k0_13 := pw_cell_below hHeld k0_13
  replace k0_14 := pw_cell_below hHeld k0_14
  replace k0_15 := pw_cell_below hHeld k0_15
  replace k1_11 := pw_cell_below hHeld k1_11
  replace k1_12 := pw_cell_below hHeld k1_12
  replace k1_13 := pw_cell_below hHeld k1_13
  replace k1_14 := pw_cell_below hHeld k1_14
  replace k1_15 := pw_cell_below hHeld k1_15
  have n1 := Aside0.mk (below_step B1.out hHeld)
  clear B1
  have B1 := n1
  clear n1
  replace ho0 := Kd.C_below ho0 hHeld
  replace ho1 := Kd.C_below ho1 hHeld
  replace hHeld := Below.refl w2_2.heap.size w2_2
  refine take_ (i := 27) (N := some 106) (v := ?_) (a' := ?_) #[true, true, true, true, true, true, true, true, true, true, true, true, true, true, true, true, true, true, true, true, true, true, true, true, true, true, true, true, true, true, false, false, false, false, false, false, false, false, false, false, false, false, false, false] rfl rfl (take_ofW HT_.out HW_.out (by kernel_rfl)) (fun _ _ _ h => h) (Or.inl ⟨by rfl, ?_⟩) hHeld ?_ ?_
  rotate_left
  · intro w' s0
    have q := fun c => Kd.C_string (P := Try.prog) (src := 34) (dst := 9) (c := c) Try.underlying34 Try.underlying5 Try.underlying9 (Kd.C_below ho2 s0)
    go_simp
    try with_reducible rfl
  rotate_left
  · simp only [Act.put, List.setIfInBounds_toArray, List.set_cons_zero, List.set_cons_succ, i64_w, i32_w]
    rfl
  refine one_ (i := 30) (N := some 109) #[true, true, true, true, true, true, true, true, true, true, true, true, true, true, true, true, true, true, true, true, true, true, true, true, true, true, true, true, true, true, true, false, false, false, false, false, false, false, false, false, false, false, false, false] rfl rfl (one_of HT_.out (by kernel_rfl)) (by decide) (fun K hK => ?_)
  refine goes_ Try.func23 (by kernel_rfl) rfl #[.slice A1_14 l0_14.length c1_14] (by rfl) rfl rfl (by (try simp only [List.map_toArray, List.map_cons, List.map_nil]); first | done | rfl) ?_
  with_reducible refine (unisonref06_nums.calls k _ _ l0_14 y _ (Kd.C_below R1_14.out (below_step B1.out hHeld)) L1_14.out A4.out).mono ?_
  rintro e w2_3 ⟨v, rfl, ho, hb⟩
  obtain ⟨An3, cn3, rfl⟩ := Kd.R_slice ho
  have ho3 := (Kd.R_reads' ho).2.2
  clear ho
  have hHeld := below_step hHeld hb
  clear hb
  refine ⟨_, rfl, ?_⟩
  refine hK.out _ _ hHeld (fun hHeld => ?_)
  clear hK K
  refine norm_ (a' := ?_) ?_ ?_
  rotate_left
  · show Act.put _ (some 109) _ = _
    simp only [Act.put, List.setIfInBounds_toArray, List.set_cons_zero, List.set_cons_succ, i64_w, i32_w]
    rfl
  refine restart_ (S' := fun w' => Below w2_3.heap.size w2_3 w') (fun w' h => below_step hHeld h) (Below.refl _ _) ?_
  replace k0_11 := pw_cell_below hHeld k0_11
  replace k0_12 := pw_cell_below hHeld k0_12
  replace k0_13 := pw_cell_below hHeld k0_13
  replace k0_14 := pw_cell_below hHeld k0_14
  replace k0_15 := pw_cell_below hHeld k0_15
  replace k1_11 := pw_cell_below hHeld k1_11
  replace k1_12 := pw_cell_below hHeld k1_12
  replace k1_13 := pw_cell_below hHeld k1_13
  replace k1_14 := pw_cell_below hHeld k1_14
  replace k1_15 := pw_cell_below hHeld k1_15
  have n1 := Aside0.mk (below_step B1.out hHeld)
  clear B1
  have B1 := n1
  clear n1
  replace ho0 := Kd.C_below ho0 hHeld
  replace ho1 := Kd.C_below ho1 hHeld
  replace ho2 := Kd.C_below ho2 hHeld
  replace hHeld := Below.refl w2_3.heap.size w2_3
  refine take_ (i := 31) (N := some 110) (v := ?_) (a' := ?_) #[true, true, true, true, true, true, true, true, true, true, true, true, true, true, true, true, true, true, true, true, true, true, true, true, true, true, true, true, true, true, true, true, false, false, false, false, false, false, false, false, false, false, false, false] rfl rfl (take_ofW HT_.out HW_.out (by kernel_rfl)) (fun _ _ _ h => h) (Or.inl ⟨by rfl, ?_⟩) hHeld ?_ ?_
  rotate_left
  · intro w' s0
    have q := fun c => Kd.C_string (P := Try.prog) (src := 34) (dst := 9) (c := c) Try.underlying34 Try.underlying5 Try.underlying9 (Kd.C_below ho3 s0)
    go_simp
    try with_reducible rfl
  rotate_left
  · simp only [Act.put, List.setIfInBounds_toArray, List.set_cons_zero, List.set_cons_succ, i64_w, i32_w]
    rfl
  refine pure_ (i := 32) (N := some 111) (v := ?_) (a' := ?_) #[true, true, true, true, true, true, true, true, true, true, true, true, true, true, true, true, true, true, true, true, true, true, true, true, true, true, true, true, true, true, true, true, true, false, false, false, false, false, false, false, false, false, false, false] rfl rfl (any_of HT_.out (by kernel_rfl)) (fun _ _ _ h => h) (Or.inl ⟨by rfl, ?_⟩) ?_ ?_
  rotate_left
  · intro w'
    go_simp
    try with_reducible rfl
  rotate_left
  · simp only [Act.put, List.setIfInBounds_toArray, List.set_cons_zero, List.set_cons_succ, i64_w, i32_w]
    rfl
  refine pure_ (i := 33) (N := some 112) (v := ?_) (a' := ?_) #[true, true, true, true, true, true, true, true, true, true, true, true, true, true, true, true, true, true, true, true, true, true, true, true, true, true, true, true, true, true, true, true, true, true, false, false, false, false, false, false, false, false, false, false] rfl rfl (any_of HT_.out (by kernel_rfl)) (fun _ _ _ h => h) (Or.inl ⟨by rfl, ?_⟩) ?_ ?_
  rotate_left
  · intro w'
    go_simp
    try with_reducible rfl
  rotate_left
  · simp only [Act.put, List.setIfInBounds_toArray, List.set_cons_zero, List.set_cons_succ, i64_w, i32_w]
    rfl
  refine pure_ (i := 34) (N := some 113) (v := ?_) (a' := ?_) #[true, true, true, true, true, true, true, true, true, true, true, true, true, true, true, true, true, true, true, true, true, true, true, true, true, true, true, true, true, true, true, true, true, true, true, false, false, false, false, false, false, false, false, false] rfl rfl (any_of HT_.out (by kernel_rfl)) (fun _ _ _ h => h) (Or.inl ⟨by rfl, ?_⟩) ?_ ?_
  rotate_left
  · intro w'
    go_simp
    try with_reducible rfl
  rotate_left
  · simp only [Act.put, List.setIfInBounds_toArray, List.set_cons_zero, List.set_cons_succ, i64_w, i32_w]
    rfl
  refine pure_ (i := 35) (N := some 114) (v := ?_) (a' := ?_) #[true, true, true, true, true, true, true, true, true, true, true, true, true, true, true, true, true, true, true, true, true, true, true, true, true, true, true, true, true, true, true, true, true, true, true, true, false, false, false, false, false, false, false, false] rfl rfl (any_of HT_.out (by kernel_rfl)) (fun _ _ _ h => h) (Or.inl ⟨by rfl, ?_⟩) ?_ ?_
  rotate_left
  · intro w'
    go_simp
    try with_reducible rfl
  rotate_left
  · simp only [Act.put, List.setIfInBounds_toArray, List.set_cons_zero, List.set_cons_succ, i64_w, i32_w]
    rfl
  refine take_ (i := 36) (N := some 115) (v := ?_) (a' := ?_) #[true, true, true, true, true, true, true, true, true, true, true, true, true, true, true, true, true, true, true, true, true, true, true, true, true, true, true, true, true, true, true, true, true, true, true, true, true, false, false, false, false, false, false, false] rfl rfl (take_ofW HT_.out HW_.out (by kernel_rfl)) (fun _ _ _ h => h) (Or.inl ⟨by rfl, ?_⟩) hHeld ?_ ?_
  rotate_left
  · intro w' s0
    have q := pw_cell_below s0 k0_15
    go_simp
    try with_reducible rfl
  rotate_left
  · simp only [Act.put, List.setIfInBounds_toArray, List.set_cons_zero, List.set_cons_succ, i64_w, i32_w]
    rfl
  refine take_ (i := 37) (N := some 116) (v := ?_) (a' := ?_) #[true, true, true, true, true, true, true, true, true, true, true, true, true, true, true, true, true, true, true, true, true, true, true, true, true, true, true, true, true, true, true, true, true, true, true, true, true, true, false, false, false, false, false, false] rfl rfl (take_ofW HT_.out HW_.out (by kernel_rfl)) (fun _ _ _ h => h) (Or.inl ⟨by rfl, ?_⟩) hHeld ?_ ?_
  rotate_left
  · intro w' s0
    have q := fun c => Kd.C_string (P := Try.prog) (src := 34) (dst := 9) (c := c) Try.underlying34 Try.underlying5 Try.underlying9 (Kd.C_below (Kd.C_below R0_15.out B1.out) s0)
    go_simp
    try with_reducible rfl
  rotate_left
  · simp only [Act.put, List.setIfInBounds_toArray, List.set_cons_zero, List.set_cons_succ, i64_w, i32_w]
    rfl
  refine pure_ (i := 38) (N := some 117) (v := ?_) (a' := ?_) #[true, true, true, true, true, true, true, true, true, true, true, true, true, true, true, true, true, true, true, true, true, true, true, true, true, true, true, true, true, true, true, true, true, true, true, true, true, true, true, false, false, false, false, false] rfl rfl (any_of HT_.out (by kernel_rfl)) (fun _ _ _ h => h) (Or.inl ⟨by rfl, ?_⟩) ?_ ?_
  rotate_left
  · intro w'
    go_simp
    try with_reducible rfl
  rotate_left
  · simp only [Act.put, List.setIfInBounds_toArray, List.set_cons_zero, List.set_cons_succ, i64_w, i32_w]
    rfl
  refine take_ (i := 39) (N := some 118) (v := ?_) (a' := ?_) #[true, true, true, true, true, true, true, true, true, true, true, true, true, true, true, true, true, true, true, true, true, true, true, true, true, true, true, true, true, true, true, true, true, true, true, true, true, true, true, true, false, false, false, false] rfl rfl (take_ofW HT_.out HW_.out (by kernel_rfl)) (fun _ _ _ h => h) (Or.inl ⟨by rfl, ?_⟩) hHeld ?_ ?_
  rotate_left
  · intro w' s0
    have q := pw_cell_below s0 k1_15
    go_simp
    try with_reducible rfl
  rotate_left
  · simp only [Act.put, List.setIfInBounds_toArray, List.set_cons_zero, List.set_cons_succ, i64_w, i32_w]
    rfl
  refine take_ (i := 40) (N := some 119) (v := ?_) (a' := ?_) #[true, true, true, true, true, true, true, true, true, true, true, true, true, true, true, true, true, true, true, true, true, true, true, true, true, true, true, true, true, true, true, true, true, true, true, true, true, true, true, true, true, false, false, false] rfl rfl (take_ofW HT_.out HW_.out (by kernel_rfl)) (fun _ _ _ h => h) (Or.inl ⟨by rfl, ?_⟩) hHeld ?_ ?_
  rotate_left
  · intro w' s0
    have q := fun c => Kd.C_string (P := Try.prog) (src := 34) (dst := 9) (c := c) Try.underlying34 Try.underlying5 Try.underlying9 (Kd.C_below (Kd.C_below R1_15.out B1.out) s0)
    go_simp
    try with_reducible rfl
  rotate_left
  · simp only [Act.put, List.setIfInBounds_toArray, List.set_cons_zero, List.set_cons_succ, i64_w, i32_w]
    rfl
  refine pure_ (i := 41) (N := some 120) (v := ?_) (a' := ?_) #[true, true, true, true, true, true, true, true, true, true, true, true, true, true, true, true, true, true, true, true, true, true, true, true, true, true, true, true, true, true, true, true, true, true, true, true, true, true, true, true, true, true, false, false] rfl rfl (any_of HT_.out (by kernel_rfl)) (fun _ _ _ h => h) (Or.inl ⟨by rfl, ?_⟩) ?_ ?_
  rotate_left
  · intro w'
    go_simp
    try with_reducible rfl
  rotate_left
  · simp only [Act.put, List.setIfInBounds_toArray, List.set_cons_zero, List.set_cons_succ, i64_w, i32_w]
    rfl
  refine pure_ (i := 42) (N := some 121) (v := ?_) (a' := ?_) #[true, true, true, true, true, true, true, true, true, true, true, true, true, true, true, true, true, true, true, true, true, true, true, true, true, true, true, true, true, true, true, true, true, true, true, true, true, true, true, true, true, true, true, false] rfl rfl (any_of HT_.out (by kernel_rfl)) (fun _ _ _ h => h) (Or.inl ⟨by rfl, ?_⟩) ?_ ?_
  rotate_left
  · intro w'
    go_simp
    try with_reducible rfl
  rotate_left
  · simp only [Act.put, List.setIfInBounds_toArray, List.set_cons_zero, List.set_cons_succ, i64_w, i32_w]
    rfl
  refine pure_ (i := 43) (N := some 4) (v := ?_) (a' := ?_) #[true, true, true, true, true, true, true, true, true, true, true, true, true, true, true, true, true, true, true, true, true, true, true, true, true, true, true, true, true, true, true, true, true, true, true, true, true, true, true, true, true, true, true, true] rfl rfl (any_of HT_.out (by kernel_rfl)) (fun _ _ _ h => h) (Or.inl ⟨by rfl, ?_⟩) ?_ ?_
  rotate_left
  · intro w'
    go_simp
    try with_reducible rfl
  rotate_left
  · simp only [Act.put, List.setIfInBounds_toArray, List.set_cons_zero, List.set_cons_succ, i64_w, i32_w]
    rfl
  refine done_ (done_of HT_.out (by kernel_rfl)) ?_
  try go_wp2
  go_ret
  exact ⟨by first | rfl | (simp; done) | (simp [*]; done), below_step B1.out hHeld⟩

end Go.Proofs.Ythgpocefiaklkaa.F
