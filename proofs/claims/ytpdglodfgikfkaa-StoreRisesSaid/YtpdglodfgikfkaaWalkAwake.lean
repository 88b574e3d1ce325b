/- The nil store, the example. Conditions: none beyond the statement's own. -/
import Derived.Test.YtpdglodfgikfkaaWalkPut
import Derived.Test.YtpdglodfgikfkaaF2
import Derived.Test.YtpdglodfgikfkaaArgs
import Derived.Deep.QuietTactic
import Derived.BigQuiet
import Derived.Lib.QuietBelow
import Derived.Outline
import Derived.Deep.RegionHeld3
import Derived.Deep.CutRange
import Derived.Lib.SlBytesConst
namespace Go.Proofs.Ytpdglodfgikfkaa.Walk
open Go.RowKit Go.Proofs.Ytpdglodfgikfkaa.F Go.Proofs.YtpdglodfgikfkaaW.PrintWords Go.Proofs.YtpdglodfgikfkaaW.PrintLast Go.Proofs.YtpdglodfgikfkaaW.PrintMore Go.Proofs.Ytpdglodfgikfkaa.Open
open Go.Sort (grow)
attribute [local go_sem] max2_int min2_int max_two min_two max_three min_three max_four min_four
set_option linter.unusedVariables false
set_option linter.unusedSimpArgs false

/-! ### The nil store, the example -/
theorem Get_nil (q s : Int) (w : World) : Calls Try.prog 24 #[.pointer none, .agg #[.int .u8 q, .int .u64 s]] w fun e w' => e = .returned (.tuple #[.slice none 0 0, .bool false]) ∧ Below w.heap.size w w' := by
  have hu := Try.underlying29
  have B1 := Aside0.mk (below_alloc (Below.refl w.heap.size w) (.cells #[.int .u8 q, .int .u64 s] tID))
  go_enter Try.func24, Try.ntmps24
  go_wp2
  refine bodyPost_ret (v := .tuple #[.slice none 0 0, .bool false]) (by simp [results, Try.results24, go_sem]) rfl ⟨rfl, ?_⟩
  exact B1.out
theorem Has_nil0 (w : World) : Calls Try.prog 12 #[.pointer none, .slice none 0 0] w fun e w' => e = .returned (.bool true) ∧ w' = w := by
  go_enter Try.func12, Try.ntmps12
  go_wp2_with fail
  go_loopg [11] 0 (fun gg s11 wr => s11 = .int .i64 0 ∧ wr = w)
  case atStart => exact ⟨rfl, rfl⟩
  case round =>
    obtain ⟨rfl, rfl⟩ := hrel
    go_wp2_with fail
    go_ret
    exact ⟨rfl, rfl⟩
theorem Has_nil1 {w : World} {b c t : Nat} {q s : Int} (hb : w.heap[b]? = some (.cells #[.int .u8 q, .int .u64 s] t (0, 0))) : Calls Try.prog 12 #[.pointer none, .slice (some ⟨b, 0, none⟩) 1 c] w fun e w' => e = .returned (.bool false) ∧ Below w.heap.size w w' := by
  have k0 : w.cell? ⟨b, 0, none⟩ = some (.int .u8 q) := (blk_cell hb 0).trans rfl
  have k1 : w.cell? ⟨b, 1, none⟩ = some (.int .u64 s) := (blk_cell hb 1).trans rfl
  have hu := Try.underlying29
  have B1 := Aside0.mk (below_alloc (Below.refl w.heap.size w) (.cells #[.int .u8 q, .int .u64 s] tID))
  clear hb
  go_enter Try.func12, Try.ntmps12
  go_wp2_with fail
  go_loopg [11] 0 (fun gg s11 wr => s11 = .int .i64 0 ∧ wr = w)
  case atStart => exact ⟨rfl, rfl⟩
  case round =>
    obtain ⟨rfl, rfl⟩ := hrel
    go_wp2_with fail
    go_ret
    exact ⟨rfl, B1.out⟩
theorem Drop_nil (v : Value) (w : World) : Calls Try.prog 18 #[.pointer none, v] w fun e w' => e = .returned (.int .i64 0) ∧ Below w.heap.size w w' := by
  have B1 := Aside0.mk (below_alloc (Below.refl w.heap.size w) (.cells #[.pointer none] 24))
  go_enter Try.func18, Try.ntmps18
  go_wp2
  go_ret
  exact ⟨rfl, B1.out⟩
theorem tops_one {E : Es} {f : Int} {H : List Int} (h : Tops E [f] H) (hl : H.length = 1) : ∃ t, H = [t] ∧ IsTop E 0 f t := by
  obtain ⟨t, rfl⟩ := List.length_eq_one_iff.1 hl
  exact ⟨t, rfl, h 0 f t rfl rfl⟩
theorem byte_F {w : World} {g t : Nat} {a : Int} {fz : Nat × Nat} (hb : w.heap[g]? = some (.cells #[.int .u8 a] t fz)) : (Kd.int .u8).C w (some ⟨g, 0, none⟩) 1 [a] := by
  refine ⟨rfl, by omega, fun _ => ⟨_, rfl, fun j p hj => ?_⟩⟩
  obtain ⟨hl, rfl⟩ := List.getElem?_eq_some_iff.1 hj
  obtain rfl : j = 0 := by simpa using hl
  refine ⟨[.int .u8 a], rfl, rfl, fun i u hu => ?_⟩
  obtain ⟨hi, rfl⟩ := List.getElem?_eq_some_iff.1 hu
  obtain rfl : i = 0 := by simpa using hi
  rw [add_plain]
  exact cell_of_row w g 0 #[.int .u8 a] t fz hb
set_option maxHeartbeats 2000000 in
theorem awake_calls (w : World) : Calls Try.prog 8 #[] w fun e w' => e = .returned (.bool true) ∧ Below w.heap.size w w' := by
  go_enter Try.func8, Try.ntmps8
  go_wp2_with fail
  refine (New_calls 1 9 (by omega) _).mono ?_
  rintro e w1 ⟨g, mb, fb, hb, rfl, hS, hbw⟩
  have S1 := Aside0.mk hS.bound
  have B1 := Aside0.mk hbw
  clear hS hbw
  have cv1 : (convert 30 30 (.slice (some ⟨w1.heap.size, 0, none⟩) 1 1)).run Try.prog (w1.alloc (.cells #[.int .u8 98] 5)) = .ok (.slice (some ⟨w1.heap.size, 0, none⟩) 1 1) (w1.alloc (.cells #[.int .u8 98] 5 (1, 2))) := Lib.run_convert_bytes_const w1 _ _ _ 1 1 Try.underlying30 Try.underlying5
  go_wp2_with fail
  clear cv1
  have X2 := Aside0.mk (blk_new w1 (.cells #[.int .u8 98] 5 (1, 2)))
  have b2 := below_alloc (Below.refl w1.heap.size w1) (.cells #[.int .u8 98] 5 (1, 2))
  have PC := Aside0.mk (Put_calls (c := 1) (S1.out.below b2) (Tops_new 1) 0 2 (by omega) (by omega) [98] (byte_F X2.out) (Nat.le_refl _) (by simp))
  have B2 := Aside0.mk (below_step B1.out b2)
  clear b2
  rw [show fits (nn 1) (rm 9) [] (List.replicate (nn 1) 0) (((0 : Nat) : Int), 2) [98] = true by decide] at PC
  refine PC.out.mono ?_
  rintro e w3 ⟨rfl, v, H3, hS, hT, hbw⟩
  obtain ⟨t3, rfl, hT3⟩ := tops_one hT (by rw [hS.lh]; rfl)
  have ht3 : t3 = 0 := hT3.uniq (f := 0) (h' := 0) (E' := putE true [] (((0 : Nat) : Int), 2) v [98]) ⟨Int.le_refl _, fun s h1 h2 => by omega, rfl⟩ (fun _ => rfl)
  subst ht3
  have S3 := Aside0.mk hS.bound
  have T3 := Aside0.mk hT
  have B3 := Aside0.mk (Beside.step B2.out hbw (fun k hk => hk.1))
  clear hS hT hT3 hbw PC X2
  go_wp2_with fail
  refine (Held_calls S3.out).mono ?_
  rintro e w4 ⟨v4, rfl, hR, hb4⟩
  obtain ⟨A4, c4, rfl⟩ := Kd.R_slice hR
  have R4 := Aside0.mk hR
  have S4 := Aside0.mk (S3.out.below hb4)
  have B4 := Aside0.mk (below_step B3.out hb4)
  clear hR hb4
  have cv1 : (convert 30 30 (.slice (some ⟨w4.heap.size, 0, none⟩) 1 1)).run Try.prog (w4.alloc (.cells #[.int .u8 97] 5)) = .ok (.slice (some ⟨w4.heap.size, 0, none⟩) 1 1) (w4.alloc (.cells #[.int .u8 97] 5 (1, 2))) := Lib.run_convert_bytes_const w4 _ _ _ 1 1 Try.underlying30 Try.underlying5
  go_wp2_with fail
  clear cv1
  have X5 := Aside0.mk (blk_new w4 (.cells #[.int .u8 97] 5 (1, 2)))
  have b5 := below_alloc (Below.refl w4.heap.size w4) (.cells #[.int .u8 97] 5 (1, 2))
  have PC := Aside0.mk (Put_calls (c := 1) (S4.out.below b5) T3.out 0 1 (by omega) (by omega) [97] (byte_F X5.out) (Nat.le_refl _) (by simp))
  have B5 := Aside0.mk (below_step B4.out b5)
  have R5 := Aside0.mk (Kd.R_below R4.out b5)
  clear b5 R4
  rw [show fits (nn 1) (rm 9) (putE true [] (((0 : Nat) : Int), 2) v [98]) (List.replicate (nn 1) 0) (((0 : Nat) : Int), 1) [97] = true from rfl] at PC
  refine PC.out.mono ?_
  rintro e w6 ⟨rfl, v6, H6, hS, hT, hbw⟩
  obtain ⟨t6, rfl, hT6⟩ := tops_one hT (by rw [hS.lh]; rfl)
  have ht6 : t6 = 2 := hT6.uniq (f := 0) (h' := 2) (E' := putE true (putE true [] (((0 : Nat) : Int), 2) v [98]) (((0 : Nat) : Int), 1) v6 [97]) ⟨by omega, fun s h1 h2 => by
    have : s = 1 ∨ s = 2 := by omega
    rcases this with rfl | rfl <;> rfl, rfl⟩ (fun _ => rfl)
  subst ht6
  have S6 := Aside0.mk hS
  have B6 := Aside0.mk (Beside.step B5.out hbw (fun k hk => by
    have := hk.1
    rcases this with h | h
    · exact h.1
    · exact Nat.le_trans B2.out.size h))
  have C6 := Aside0.mk (Kd.R_reads' (Kd.R_step (Kd.R_bound R5.out) (fun k hk hlt => hbw.block k hlt (fun h => by have := h.2; have := hk.2.1; omega)))).2
  clear hS hT hT6 hbw PC X5 R5
  go_wp2_with fail
  refine (unisonlaw14_vecIs.calls A4 c4 [0] 0 true w6 C6.out.2 C6.out.1 rfl).mono ?_
  rintro e w7 ⟨rfl, hd⟩
  have S7 := Aside0.mk (S6.out.below hd.below)
  have B7 := Aside0.mk (below_step B6.out hd.below)
  clear hd
  go_wp2_with fail
  refine (Held_calls S7.out).mono ?_
  rintro e w8 ⟨v8, rfl, hR, hb8⟩
  obtain ⟨A8, c8, rfl⟩ := Kd.R_slice hR
  have C8 := Aside0.mk (Kd.R_reads' hR).2
  have B8 := Aside0.mk (below_step B7.out hb8)
  clear hR hb8
  go_wp2_with fail
  refine (unisonlaw14_vecIs.calls A8 c8 [2] 2 true w8 C8.out.2 C8.out.1 rfl).mono ?_
  rintro e w9 ⟨rfl, hd⟩
  have B9 := Aside0.mk (below_step B8.out hd.below)
  clear hd
  go_wp2_with fail
  go_ret
  exact ⟨rfl, B9.out⟩

end Go.Proofs.Ytpdglodfgikfkaa.Walk
