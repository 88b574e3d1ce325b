/- A nil puller wants nothing. Conditions: none beyond the statement's own. -/
import Derived.Test.YtncofecfljocgaaWalkPull
import Derived.Test.YtncofecfljocgaaArgs
import Derived.Deep.QuietTactic
import Derived.BigQuiet
import Derived.Lib.QuietBelow
import Derived.Outline
import Derived.Deep.RegionHeld3
import Derived.Deep.CutRange
namespace Go.Proofs.Ytncofecfljocgaa.Walk
open Go.RowKit Go.Proofs.Ytncofecfljocgaa.F Go.Proofs.YtncofecfljocgaaW.PrintWords Go.Proofs.YtncofecfljocgaaW.PrintLast Go.Proofs.YtncofecfljocgaaW.PrintMore Go.Proofs.Ytncofecfljocgaa.Open
open Go.Sort (grow)
attribute [local go_sem] max2_int min2_int max_two min_two max_three min_three max_four min_four
set_option linter.unusedVariables false
set_option linter.unusedSimpArgs false

/-! ### The example, the nil puller -/
theorem one_U {W : World} {b : Nat} {a : Int} (hb : W.heap[b]? = some (.cells #[.int .u64 a] tU (0, 0))) : Kd.C kU W (some ⟨b, 0, none⟩) 1 [a] := by
  refine ⟨rfl, by decide, fun _ => ⟨_, rfl, fun j x hx => ?_⟩⟩
  obtain ⟨hj, rfl⟩ := List.getElem?_eq_some_iff.1 hx
  obtain rfl : j = 0 := by simpa using hj
  refine ⟨[.int .u64 a], rfl, rfl, fun i u hu => ?_⟩
  obtain ⟨hi, rfl⟩ := List.getElem?_eq_some_iff.1 hu
  obtain rfl : i = 0 := by simpa using hi
  rw [add_plain]
  exact (blk_cell hb 0).trans rfl
theorem none_next {p : Pu} (now : Int) (held : List Int) (hp : p.want = none) : (nextP p now held [] (fun _ _ => [])).2 = (0, 0, -1, false) := by
  have h1 : pickS p.n p.me held [] (fun _ _ => []) (wayL p.n p.sender) = none := by
    unfold pickS
    rw [List.find?_eq_none]
    intro y _
    unfold lacksB hpL
    simp
  have h2 : selP p held [] (fun _ _ => []) = p := by
    unfold selP keepP
    rw [hp]
    dsimp only
    rw [hp]
    dsimp only
    unfold choP
    rw [h1]
  unfold nextP
  rw [h2, hp]
def awL : List X := (newL (nn 2)).set 1 (tellX (x0 2) 0 [] [3])
theorem aw_next : (nextP (newP 2 0 2) 0 [1] [] (holders awL)).2 = (0, 2, 1, true) := by decide +kernel
set_option maxHeartbeats 4000000 in
set_option maxRecDepth 100000 in
theorem awake_calls (w : World) : Calls Try.prog 7 #[] w fun e w' => e = .returned (.bool true) ∧ Below w.heap.size w w' := by
  have hu := Try.underlying33
  go_enter Try.func7, Try.ntmps7
  go_wp2_with fail
  refine (New_calls 2 _).mono ?_
  rintro e w1 ⟨g, rb, cp, rfl, hM, hb⟩
  have M1 := Aside0.mk hM.bound
  have B1 := Aside0.mk hb
  clear hM hb
  go_wp2_with fail
  have LB := Aside0.mk (blk_new w1 (.cells #[.int .u64 3] tU))
  have M2 := Aside0.mk (M1.out.below (below_alloc (Below.refl w1.heap.size w1) (.cells #[.int .u64 3] tU)))
  have B2 := Aside0.mk (below_alloc B1.out (.cells #[.int .u64 3] tU))
  have Z1 : Aside0 (w1.heap.size < (w1.alloc (.cells #[.int .u64 3] tU)).heap.size) := ⟨by simp⟩
  obtain ⟨lb, hlb⟩ : ∃ lb, lb = w1.heap.size := ⟨_, rfl⟩
  rw [← hlb] at LB ⊢
  have LE := Aside0.mk hlb
  clear hlb
  generalize w1.alloc (.cells #[.int .u64 3] tU) = w2 at LB M2 B2 Z1 ⊢
  have TC := Aside0.mk (Tell_some M2.out 1 0 (x := x0 2) (A := none) (B := some ⟨lb, 0, none⟩) (c := 0) (d := 1) (a := []) (b := [3]) (by rfl) (Kd.C_nil _ _) (one_U LB.out) (Nat.le_refl _) (Nat.le_refl _) (by decide) (by decide) (fun w' _ => Kd.C_nil _ _) (fun w' hw' => one_U (hw'.blk LB.out (fun h => by have := h.2; have := LE.out; omega))) (by decide) (fun x hx => by cases hx) (fun x hx => by rw [List.mem_singleton.1 hx]; decide))
  refine TC.out.mono ?_
  rintro e w3 ⟨rfl, hM, hb⟩
  have M3 : Aside0 (Mat w3 (fun k => ((w.heap.size ≤ k ∧ k < w1.heap.size) ∨ w2.heap.size ≤ k) ∧ k < w3.heap.size) g rb cp awL) := ⟨hM.bound⟩
  have B3 := Aside0.mk (Beside.step B2.out hb (fun k hk => hk.1))
  clear hM hb TC M2 LB
  go_wp2_with fail
  refine (NewP_calls 2 0 2 _).mono ?_
  rintro e w4 ⟨x, rfl, hP, hb⟩
  have P4 := Aside0.mk hP.bound
  have M4 := Aside0.mk (M3.out.below hb)
  have B4 := Aside0.mk (below_step B3.out hb)
  clear hP hb
  go_wp2_with fail
  have L5 := Aside0.mk (blk_new w4 (.cells #[.int .u64 1] tU))
  have BA := below_alloc (Below.refl w4.heap.size w4) (.cells #[.int .u64 1] tU)
  have M5 := Aside0.mk (M4.out.below BA)
  have P5 := Aside0.mk (P4.out.below BA)
  have B5 := Aside0.mk (below_step B4.out BA)
  have Z5 : Aside0 (w4.heap.size < (w4.alloc (.cells #[.int .u64 1] tU)).heap.size) := ⟨by simp⟩
  obtain ⟨l5, hl5⟩ : ∃ l5, l5 = w4.heap.size := ⟨_, rfl⟩
  rw [← hl5] at L5 ⊢
  have LE5 := Aside0.mk hl5
  clear hl5 BA
  generalize w4.alloc (.cells #[.int .u64 1] tU) = w5 at L5 M5 P5 B5 Z5 ⊢
  have E5 := env_of (T := fun k => w3.heap.size ≤ k ∧ k < w4.heap.size) (Ah := some ⟨l5, 0, none⟩) (ch := 1) (held := [1]) (As := none) (cs := 0) (skip := []) M5.out (fun k h1 h2 => by have h3 := h1.2; have h4 := h2.1; omega) (fun W hW => one_U (hW.blk L5.out (fun h => by have := h.2; have := LE5.out; omega))) (Nat.le_refl _) (fun W _ => Kd.C_nil _ _) (Nat.le_refl _) (by simp)
  have NC := Next_calls P5.out (fun k hk => by have := hk.2; have := Z5.out; omega) E5 0 (by decide)
  rw [aw_next] at NC
  have NC := Aside0.mk NC
  clear E5
  refine NC.out.mono ?_
  rintro e w6 ⟨rfl, hq, hb⟩
  have B6 := Aside0.mk (Beside.step B5.out hb (fun k hk => Nat.le_trans B3.out.size hk.1))
  clear hq hb NC
  go_wp2_with fail
  go_ret
  exact ⟨rfl, below_alloc B6.out _⟩
set_option maxHeartbeats 4000000 in
set_option maxRecDepth 100000 in
theorem PullNil (a0 : Int) (A1 : Option Addr) (c1 : Nat) (l1 : List Int) (w : World) (hr1 : Kd.C (Kd.int .u64) w A1 l1.length l1) (hc1 : l1.length ≤ c1) (w0 : (Lit.int .i64 a0).wf = true) (w1 : l1.length ≤ maxLen ∧ ∀ x ∈ l1, (Lit.int .u64 x).wf = true) :
    Calls Try.prog 5 #[.int .i64 a0, .slice A1 l1.length c1] w fun e w' => e = .returned (.bool true) ∧ Below w.heap.size w w' := by
  have HR := Aside0.mk hr1
  clear w0 w1 hr1
  by_cases hl : (l1.length : Int) > 100
  · have hd : decide ((l1.length : Int) > 100) = true := decide_eq_true hl
    go_enter Try.func5, Try.ntmps5
    go_wp2_with fail
    refine (awake_calls _).mono ?_
    rintro e w2 ⟨rfl, hb⟩
    have B2 := Aside0.mk hb
    clear hb
    go_wp2_with fail
    go_ret
    exact ⟨rfl, B2.out⟩
  · have hd : decide ((l1.length : Int) > 100) = false := decide_eq_false hl
    have hu := Try.underlying33
    go_enter Try.func5, Try.ntmps5
    go_wp2_with fail
    refine (New_calls 2 _).mono ?_
    rintro e w2 ⟨g, rb, cp, rfl, hM, hb⟩
    have B2 := Aside0.mk hb
    clear hb hM
    go_wp2_with fail
    refine (Next_nil _ _ _ _ _).mono ?_
    rintro e w3 ⟨rfl, hb⟩
    have B3 := Aside0.mk (below_step B2.out hb)
    clear hb
    have X3 := Aside0.mk (blk_new w3 (.cells #[.int .u8 0, .int .u64 0] tID))
    have B3 := Aside0.mk (below_alloc B3.out (.cells #[.int .u8 0, .int .u64 0] tID))
    go_upto_region 5 with (fail)
    generalize w3.alloc (.cells #[.int .u8 0, .int .u64 0] tID) = w4 at X3 B3 ⊢
    obtain ⟨b3, hb3⟩ : ∃ b3, b3 = w3.heap.size := ⟨_, rfl⟩
    rw [← hb3] at X3 ⊢
    clear hb3
    go_wp2_with fail
    refine (Wanted_nil _).mono ?_
    rintro e w5 ⟨rfl, hb⟩
    have X5 := Aside0.mk (blk_below X3.out hb)
    have B5 := Aside0.mk (below_step B3.out hb)
    clear hb X3 B3
    have Y5 := Aside0.mk (blk_new w5 (.cells #[.int .u8 0, .int .u64 0] tID))
    have X5 := Aside0.mk (blk_alloc X5.out (.cells #[.int .u8 0, .int .u64 0] tID))
    have B5 := Aside0.mk (below_alloc B5.out (.cells #[.int .u8 0, .int .u64 0] tID))
    go_upto_region 6 with (fail)
    generalize w5.alloc (.cells #[.int .u8 0, .int .u64 0] tID) = w6 at X5 Y5 B5 ⊢
    obtain ⟨b5, hb5⟩ : ∃ b5, b5 = w5.heap.size := ⟨_, rfl⟩
    rw [← hb5] at Y5 ⊢
    clear hb5
    go_wp2_with fail
    refine (NewP_calls 2 0 1 _).mono ?_
    rintro e w7 ⟨x, rfl, hP, hb⟩
    have P7 := Aside0.mk hP.bound
    have X7 := Aside0.mk (blk_below X5.out hb)
    have Y7 := Aside0.mk (blk_below Y5.out hb)
    have B7 := Aside0.mk (below_step B5.out hb)
    have Z7 := Aside0.mk (Nat.lt_of_lt_of_le (blk_lt X5.out) (Nat.le_refl _))
    have Z8 := Aside0.mk (blk_lt Y5.out)
    clear hP hb X5 Y5
    have NC := Next_calls P7.out (fun k hk => hk.2) (env_nil (T := fun k => w6.heap.size ≤ k ∧ k < w7.heap.size) (Ah := A1) (ch := c1) (held := l1) (fun W hW => Kd.C_below HR.out (Beside.step B7.out hW (fun k hk => Nat.le_trans B5.out.size hk.1))) hc1) a0 (by decide)
    rw [none_next a0 l1 rfl] at NC
    have NC := Aside0.mk NC
    go_wp2_with fail
    refine NC.out.mono ?_
    rintro e w8 ⟨rfl, hq, hb⟩
    have X8 := Aside0.mk (hb.blk X7.out (fun h => by have h1 := h.1; have h2 := Z7.out; omega))
    have Y8 := Aside0.mk (hb.blk Y7.out (fun h => by have h1 := h.1; have h2 := Z8.out; omega))
    have B8 := Aside0.mk (Beside.step B7.out hb (fun k hk => Nat.le_trans B5.out.size hk.1))
    clear hq hb NC X7 Y7
    have X8 := Aside0.mk (blk_alloc X8.out (.cells #[.int .u8 0, .int .u64 0] tID))
    have Y8 := Aside0.mk (blk_alloc Y8.out (.cells #[.int .u8 0, .int .u64 0] tID))
    have B8 := Aside0.mk (below_alloc B8.out (.cells #[.int .u8 0, .int .u64 0] tID))
    go_upto_region 7 with (fail)
    generalize w8.alloc (.cells #[.int .u8 0, .int .u64 0] tID) = w9 at X8 Y8 B8 ⊢
    have i0 : w9.cell? ⟨b3, 0, none⟩ = some (.int .u8 0) := (blk_cell X8.out 0).trans rfl
    have i1 : w9.cell? ⟨b3, 1, none⟩ = some (.int .u64 0) := (blk_cell X8.out 1).trans rfl
    have j0 : w9.cell? ⟨b5, 0, none⟩ = some (.int .u8 0) := (blk_cell Y8.out 0).trans rfl
    have j1 : w9.cell? ⟨b5, 1, none⟩ = some (.int .u64 0) := (blk_cell Y8.out 1).trans rfl
    go_wp2_with fail
    refine (Asked_nil _).mono ?_
    rintro e w10 ⟨rfl, rfl⟩
    go_wp2_with fail
    refine (awake_calls _).mono ?_
    rintro e w11 ⟨rfl, hb⟩
    have B11 := Aside0.mk (below_step B8.out hb)
    clear hb
    go_wp2_with fail
    go_ret
    exact ⟨rfl, B11.out⟩

end Go.Proofs.Ytncofecfljocgaa.Walk
