/- Literal rows, the example, the nil bag. Conditions: none beyond the statement's own. -/
import Derived.Test.YtemgfogpeogdeaaWalkPut
import Derived.Test.YtemgfogpeogdeaaArgs
import Derived.Deep.QuietTactic
import Derived.BigQuiet
import Derived.Lib.QuietBelow
import Derived.Outline
import Derived.Deep.RegionHeld3
import Derived.Deep.CutRange
import Derived.Lib.SlBytesConst
namespace Go.Proofs.Ytemgfogpeogdeaa.Walk
open Go.RowKit Go.Proofs.Ytemgfogpeogdeaa.F Go.Proofs.YtemgfogpeogdeaaW.PrintWords Go.Proofs.YtemgfogpeogdeaaW.PrintLast Go.Proofs.YtemgfogpeogdeaaW.PrintMore Go.Proofs.Ytemgfogpeogdeaa.Open
open Go.Sort (grow)
attribute [local go_sem] max2_int min2_int max_two min_two max_three min_three max_four min_four
set_option linter.unusedVariables false
set_option linter.unusedSimpArgs false

/-! ### Literal rows, the example, the nil bag -/
theorem flat_get {α : Type} {sz : Nat} : ∀ (rows : List (α × List Value)) (j i : Nat) (r : α × List Value), (∀ r ∈ rows, r.2.length = sz) → rows[j]? = some r → i < sz → (rows.flatMap (·.2))[j * sz + i]? = r.2[i]?
  | [], j, i, r, _, h, _ => by simp at h
  | a :: rows, 0, i, r, hs, h, hi => by
    obtain rfl : a = r := by simpa using h
    rw [List.flatMap_cons, Nat.zero_mul, Nat.zero_add, List.getElem?_append_left (by rw [hs a List.mem_cons_self]; exact hi)]
  | a :: rows, j + 1, i, r, hs, h, hi => by
    have hl := hs a List.mem_cons_self
    rw [List.flatMap_cons, List.getElem?_append_right (by rw [hl, Nat.succ_mul]; omega), hl]
    have e : (j + 1) * sz + i - sz = j * sz + i := by rw [Nat.succ_mul]; omega
    rw [e]
    exact flat_get rows j i r (fun r hr => hs r (List.mem_cons_of_mem _ hr)) (by simpa using h) hi
/-- A literal row: its block holds its elements' cells; what they lead to lies in ok. -/
theorem F_lit {α : Type} {d : Kd α} {w : World} {g t : Nat} {ok : Nat → Prop} (rows : List (α × List Value)) (hb : w.heap[g]? = some (.cells (rows.flatMap (·.2)).toArray t (0, 0))) (hm : rows.length ≤ 9223372036854775807) (h : ∀ r ∈ rows, Kd.FK d w ok r.1 r.2) :
    Kd.F d w (fun k => ok k ∨ k = g) (some ⟨g, 0, none⟩) rows.length (rows.map (·.1)) := by
  intro W' hW
  have hb' : W'.heap[g]? = some (.cells (rows.flatMap (·.2)).toArray t (0, 0)) := (hW g (Or.inr rfl) (blk_lt hb)).trans hb
  have hsz : ∀ r ∈ rows, r.2.length = d.sz := fun r hr => d.K_len (Kd.FK_now (h r hr))
  refine ⟨by simp, hm, fun _ => ⟨_, rfl, fun j p hj => ?_⟩⟩
  rw [List.getElem?_map] at hj
  obtain ⟨r, hr, rfl⟩ := Option.map_eq_some_iff.1 hj
  have hmem := List.mem_of_getElem? hr
  refine ⟨r.2, hsz r hmem, h r hmem W' (fun k hk hlt => hW k (Or.inl hk) hlt), fun i u hu => ?_⟩
  rw [add_plain]
  have hc := blk_cell hb' (j * d.sz + i)
  rw [hc]
  have hi : i < d.sz := by rw [← hsz r hmem]; exact (List.getElem?_eq_some_iff.1 hu).1
  rw [List.getElem?_toArray, flat_get rows j i r hsz hr hi]
  exact hu
theorem byte_F {w : World} {g t : Nat} {a : Int} {fz : Nat × Nat} (hb : w.heap[g]? = some (.cells #[.int .u8 a] t fz)) : Kd.F (Kd.int .u8) w (fun k => k = g) (some ⟨g, 0, none⟩) 1 [a] := by
  intro W' hW
  have hb' : W'.heap[g]? = some (.cells #[.int .u8 a] t fz) := (hW g rfl (blk_lt hb)).trans hb
  refine ⟨rfl, by omega, fun _ => ⟨_, rfl, fun j p hj => ?_⟩⟩
  obtain ⟨hl, rfl⟩ := List.getElem?_eq_some_iff.1 hj
  obtain rfl : j = 0 := by simpa using hl
  refine ⟨[.int .u8 a], rfl, rfl, fun i u hu => ?_⟩
  obtain ⟨hi, rfl⟩ := List.getElem?_eq_some_iff.1 hu
  obtain rfl : i = 0 := by simpa using hi
  rw [add_plain]
  exact cell_of_row W' g 0 #[.int .u8 a] t fz hb'
theorem row_FK {w : World} {ok : Nat → Prop} {A : Option Addr} {c : Nat} {xs : List Int} (hc : xs.length ≤ c) (h : Kd.F (Kd.int .u8) w ok A xs.length xs) : Kd.FK kL w ok xs [.slice A xs.length c] := fun W' hW => ⟨A, c, rfl, hc, h W' hW⟩
theorem str_run {w : World} {A : Option Addr} {n c : Nat} {xs : List Int} (h : (Kd.int .u8).C w A n xs) : (convert 24 9 (.slice A n c)).run Try.prog w = .ok (.string (strOfNums xs)) w :=
  Kd.C_string (P := Try.prog) Try.underlying24 Try.underlying5 Try.underlying9 h
set_option maxHeartbeats 2000000 in
theorem awake_calls (w : World) : Calls Try.prog 8 #[] w fun e w' => e = .returned (.bool true) ∧ Below w.heap.size w w' := by
  go_enter Try.func8, Try.ntmps8
  go_wp2_with fail
  refine (New_calls 1 _).mono ?_
  rintro e w1 ⟨g, rfl, hge, hW, hb⟩
  have W1 := Aside0.mk hW.bound
  have B1 := Aside0.mk hb
  have GE := Aside0.mk hge
  clear hge hW hb
  have cv1 : (convert 24 24 (.slice (some ⟨w1.heap.size, 0, none⟩) 1 1)).run Try.prog (w1.alloc (.cells #[.int .u8 120] 5)) = .ok (.slice (some ⟨w1.heap.size, 0, none⟩) 1 1) (w1.alloc (.cells #[.int .u8 120] 5 (1, 2))) := Lib.run_convert_bytes_const w1 _ _ _ 1 1 Try.underlying24 Try.underlying5
  have cv2 : (convert 24 24 (.slice (some ⟨w1.heap.size + 1, 0, none⟩) 1 1)).run Try.prog ((w1.alloc (.cells #[.int .u8 120] 5 (1, 2))).alloc (.cells #[.int .u8 121] 5)) = .ok (.slice (some ⟨w1.heap.size + 1, 0, none⟩) 1 1) ((w1.alloc (.cells #[.int .u8 120] 5 (1, 2))).alloc (.cells #[.int .u8 121] 5 (1, 2))) := by
    have h := Lib.run_convert_bytes_const (P := Try.prog) (w1.alloc (.cells #[.int .u8 120] 5 (1, 2))) 24 5 #[.int .u8 121] 1 1 Try.underlying24 Try.underlying5
    rw [show (w1.alloc (.cells #[.int .u8 120] 5 (1, 2))).heap.size = w1.heap.size + 1 by simp] at h
    exact h
  go_wp2_with fail
  clear cv1 cv2
  obtain ⟨w2, hw2⟩ : ∃ w2, w2 = ((w1.alloc (.cells #[.int .u8 120] 5 (1, 2))).alloc (.cells #[.int .u8 121] 5 (1, 2))).alloc (.cells #[.slice (some ⟨w1.heap.size, 0, none⟩) 1 1, .slice (some ⟨w1.heap.size + 1, 0, none⟩) 1 1] 24) := ⟨_, rfl⟩
  rw [← hw2]
  have b2 : Below w1.heap.size w1 w2 := by rw [hw2]; exact below_alloc (below_alloc (below_alloc (Below.refl _ _) _) _) _
  have x0 : w2.heap[w1.heap.size]? = some (.cells #[.int .u8 120] 5 (1, 2)) := by rw [hw2]; exact blk_alloc (blk_alloc (blk_new w1 _) _) _
  have x1 : w2.heap[w1.heap.size + 1]? = some (.cells #[.int .u8 121] 5 (1, 2)) := by
    rw [hw2]
    refine blk_alloc ?_ _
    have h := blk_new (w1.alloc (.cells #[.int .u8 120] 5 (1, 2))) (.cells #[.int .u8 121] 5 (1, 2))
    rwa [show (w1.alloc (.cells #[.int .u8 120] 5 (1, 2))).heap.size = w1.heap.size + 1 by simp] at h
  have x2 : w2.heap[w1.heap.size + 1 + 1]? = some (.cells #[.slice (some ⟨w1.heap.size, 0, none⟩) 1 1, .slice (some ⟨w1.heap.size + 1, 0, none⟩) 1 1] 24 (0, 0)) := by
    rw [hw2]
    have h := blk_new ((w1.alloc (.cells #[.int .u8 120] 5 (1, 2))).alloc (.cells #[.int .u8 121] 5 (1, 2))) (.cells #[.slice (some ⟨w1.heap.size, 0, none⟩) 1 1, .slice (some ⟨w1.heap.size + 1, 0, none⟩) 1 1] 24)
    rwa [show ((w1.alloc (.cells #[.int .u8 120] 5 (1, 2))).alloc (.cells #[.int .u8 121] 5 (1, 2))).heap.size = w1.heap.size + 1 + 1 by simp] at h
  have hF : Kd.F kL w2 (fun b => w1.heap.size ≤ b) (some ⟨w1.heap.size + 1 + 1, 0, none⟩) 2 [[120], [121]] := by
    refine Kd.F_mono (F_lit (d := kL) (g := w1.heap.size + 1 + 1) (ok := fun b => b = w1.heap.size ∨ b = w1.heap.size + 1) [([120], [.slice (some ⟨w1.heap.size, 0, none⟩) 1 1]), ([121], [.slice (some ⟨w1.heap.size + 1, 0, none⟩) 1 1])] x2 (by simp) (fun r hr => ?_)) (fun b hb => by omega)
    simp only [List.mem_cons, List.not_mem_nil, or_false] at hr
    rcases hr with rfl | rfl
    · exact row_FK (Nat.le_refl _) (Kd.F_mono (byte_F x0) (fun b hb => Or.inl hb))
    · exact row_FK (Nat.le_refl _) (Kd.F_mono (byte_F x1) (fun b hb => Or.inr hb))
  have W2 := W1.out.below b2
  have PP := Aside0.mk (Put_calls (c := 2) [[120], [121]] 1 W2 (fun w' hB => hF w' (fun b hb hlt => hB.block b hlt (fun h => by have := h.2; have h9 : w1.heap.size ≤ b := hb; omega))) (Nat.le_refl _) (fun x hx => by simp only [List.mem_cons, List.not_mem_nil, or_false] at hx; rcases hx with rfl | rfl <;> simp) (by simp) (by simp [rm]))
  have B2 := Aside0.mk (below_step B1.out b2)
  clear hF W2 x0 x1 x2 b2 hw2
  refine PP.out.mono ?_
  rintro e w3 ⟨rfl, hW, hb⟩
  have W3 := Aside0.mk hW
  have B3 := Aside0.mk (Beside.step B2.out hb (fun k hk => hk.1))
  clear hW hb PP
  go_wp2_with fail
  refine (Take_calls W3.out 0).mono ?_
  rintro e w4 ⟨v, rfl, ho, hW, hb⟩
  have hW' : Bag w4 _ g 1 [] 1 := hW
  have hl : has ([] ++ ([[120], [121]].take 1).map th) 0 = true := by decide
  have hk : lk ([] ++ ([[120], [121]].take 1).map th) 0 = [120] := by rfl
  rw [hk] at ho
  rw [hl]
  obtain ⟨A4, c4, rfl⟩ := Kd.R_slice ho
  have W4 := Aside0.mk hW'
  have s4 := Aside0.mk (str_run (c := c4) (Kd.R_reads' ho).2.2)
  have B4 := Aside0.mk (Beside.step B3.out hb (fun k hk => hk.elim (fun h => h.1) (fun h => Nat.le_trans B2.out.size h)))
  clear hW hW' hl hk ho hb
  go_wp2_with fail
  refine (Lost_calls W4.out).mono ?_
  rintro e w5 ⟨rfl, rfl⟩
  have s5 : (convert 24 9 (.slice A4 1 c4)).run Try.prog w5 = .ok (.string ⟨#[120]⟩) w5 := s4.out
  go_wp2_with fail
  go_ret
  exact ⟨rfl, B4.out⟩
theorem quiet_of0 {P : Program} {f : FuncId} {args : Array Value} {w : World} {n : Nat} {v : Value} (h : Calls P f args (w.drewN n) fun e w' => e = .returned v ∧ w' = w.drewN n) : Calls P f args (w.drewN n) fun e w'' => e = .returned v ∧ ∃ m, w'' = w.drewN m :=
  h.mono fun _ _ ⟨he, hq⟩ => ⟨he, n, hq⟩
theorem Twice_nil (i : Int) (w : World) : Calls Try.prog 14 #[.pointer none, .int .i64 i] w fun e w' => e = .returned (.bool false) ∧ Below w.heap.size w w' := by
  have TH := Aside0.mk (fun w => there_nil i w)
  go_enter Try.func14, Try.ntmps14
  go_wp2_with fail
  go_quiet ((go_at_call 23; exact quiet_of0 (TH.out _)))
  go_wp2_with fail
  go_ret
  exact ⟨rfl, pw_below_drewN (Below.refl _ _) _⟩
theorem Turn_nil (i at_ bits : Int) (w : World) : Calls Try.prog 16 #[.pointer none, .int .i64 i, .int .i64 at_, .int .u32 bits] w fun e w' => e = .returned (.bool false) ∧ Below w.heap.size w w' := by
  go_enter Try.func16, Try.ntmps16
  go_wp2_with fail
  refine (there_nil i _).mono ?_
  rintro e w1 ⟨rfl, rfl⟩
  go_wp2_with fail
  go_ret
  exact ⟨rfl, Below.refl _ _⟩

end Go.Proofs.Ytemgfogpeogdeaa.Walk
