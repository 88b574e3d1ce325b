/- Whether an id, and a run, may be, which of two ids stands ahead, and whether runs are rows, have an id, and how many they have, are the document's. Conditions: none beyond the statement's own. -/
import Derived.Test.YtgcnaebhmcggoaaWalkRr
import Derived.Test.YtgcnaebhmcggoaaF33
import Derived.Test.YtgcnaebhmcggoaaF32
import Derived.Test.YtgcnaebhmcggoaaF11
import Derived.Test.YtgcnaebhmcggoaaF34
import Derived.Test.YtgcnaebhmcggoaaF31
import Derived.Test.YtgcnaebhmcggoaaF19
import Derived.Test.YtgcnaebhmcggoaaF20
import Derived.Test.YtgcnaebhmcggoaaArgs
import Derived.Deep.QuietTactic
import Derived.BigQuiet
import Derived.Lib.QuietBelow
import Derived.Outline
import Derived.Deep.RegionHeld3
import Derived.Deep.CutRange
namespace Go.Proofs.Ytgcnaebhmcggoaa.Walk
open Go.RowKit Go.Proofs.Ytgcnaebhmcggoaa.F Go.Proofs.YtgcnaebhmcggoaaW.PrintWords Go.Proofs.YtgcnaebhmcggoaaW.PrintLast Go.Proofs.YtgcnaebhmcggoaaW.PrintMore Go.Proofs.Ytgcnaebhmcggoaa.Open
open Go.Sort (grow)
attribute [local go_sem] max2_int min2_int max_two min_two max_three min_three max_four min_four
set_option linter.unusedVariables false
set_option linter.unusedSimpArgs false

theorem identRows_loop {L : List Rn} (hL : ∀ r ∈ L, okR r) (hm : L.length ≤ 1000000) : ∀ d i k, i + d = L.length → d + 5 < k → (i = 0 ∨ ∃ p, L[i - 1]? = some p ∧ isR p) → ident_Rows.l0 k L L (L.length : Int) (i : Int) = some (rowsA (prev L i) (L.drop i)) := by
  intro d
  induction d with
  | zero =>
    intro i k hi hk _
    obtain ⟨k, rfl⟩ : ∃ m, k = m + 1 := ⟨k - 1, by omega⟩
    simp only [ident_Rows.l0]
    rw [if_neg (by omega), List.drop_of_length_le (by omega)]
    cases prev L i <;> rfl
  | succ d ih =>
    intro i k hi hk hp
    obtain ⟨k, rfl⟩ : ∃ m, k = m + 1 := ⟨k - 1, by omega⟩
    have hlt : i < L.length := by omega
    have hx : L[i]? = some L[i] := List.getElem?_eq_getElem hlt
    have hok := hL L[i] (List.getElem_mem hlt)
    rw [List.drop_eq_getElem_cons hlt]
    have hst := rdR hx
    generalize L[i] = x at hx hok hst ⊢
    have hw : wrap64 ((i : Int) + 1) = ((i + 1 : Nat) : Int) := by rw [i64w (by omega) (by omega)]; omega
    simp only [ident_Rows.l0]
    rw [if_pos (by omega), if_pos (by omega), if_pos (by omega), hst, run_f]
    simp only [Option.bind_some]
    cases hr : runI x with
    | false =>
      cases prev L i <;> simp [rowsA, hr]
    | true =>
      have hi1 := (run_iff hok).1 hr
      have hih := ih (i + 1) k (by omega) (by omega) (.inr ⟨x, by simpa using hx, hi1⟩)
      have hpv : prev L (i + 1) = some x := by unfold prev; rw [if_neg (by omega)]; simpa using hx
      rw [hpv] at hih
      rw [if_pos rfl]
      by_cases h0 : i = 0
      · subst h0
        rw [if_neg (by simp), hw, hih]
        simp [rowsA, prev, hr]
      · obtain ⟨p, hpx, hpr⟩ := hp.resolve_left h0
        have hw1 : wrap64 ((i : Int) - 1) = ((i - 1 : Nat) : Int) := by rw [i64w (by omega) (by omega)]; omega
        have hp1 : prev L i = some p := by unfold prev; rw [if_neg h0]; exact hpx
        obtain ⟨p0, p1, p2, p3, p4⟩ := hpr
        rw [if_pos (by omega), hw1, if_pos (by omega), if_pos (by omega), rdR hpx, hw, hih, hp1]
        have hb : ident_behind.f p.f0 p.f1 p.f2 = some (p.f0, p.f1 + p.f2) := by unfold ident_behind.f; rw [u64w (by omega) (by omega)]
        rw [hb]
        simp only [Option.bind_some]
        have hl := less_eq (k := k) (by omega) ⟨p.f0, p.f1 + p.f2⟩ ⟨x.f0, x.f1⟩
        dsimp only at hl
        rw [hl]
        simp only [Option.bind_some, rowsA, hr, Bool.true_and]
        have e : ltI ⟨p.f0, p.f1 + p.f2⟩ ⟨x.f0, x.f1⟩ = after p x := rfl
        rw [e]
        cases after p x <;> simp
theorem identRows_eq {L : List Rn} (hL : ∀ r ∈ L, okR r) (hm : L.length ≤ 1000000) {k : Nat} (hk : L.length + 5 < k) : ident_Rows.f k L = some (rowsF L) :=
  identRows_loop hL hm L.length 0 k (by omega) hk (.inl rfl)
theorem refHas_loop {L : List Rn} {id : I} (hi : okI id) (hL : ∀ r ∈ L, okR r) (hm : L.length ≤ 1000000) : ∀ d i k, i + d = L.length → d < k → unisonref03_Has.l0 k L (L.length : Int) (i : Int) id.f0 id.f1 = some ((L.drop i).any (hasI id)) := by
  intro d
  induction d with
  | zero =>
    intro i k hi hk
    obtain ⟨k, rfl⟩ : ∃ m, k = m + 1 := ⟨k - 1, by omega⟩
    simp only [unisonref03_Has.l0]
    rw [if_neg (by omega), List.drop_of_length_le (by omega)]
    rfl
  | succ d ih =>
    intro i k hid hk
    obtain ⟨k, rfl⟩ : ∃ m, k = m + 1 := ⟨k - 1, by omega⟩
    have hlt : i < L.length := by omega
    have hx : L[i]? = some L[i] := List.getElem?_eq_getElem hlt
    have hok := hL L[i] (List.getElem_mem hlt)
    rw [List.drop_eq_getElem_cons hlt]
    have hst := rdR hx
    generalize L[i] = x at hx hok hst ⊢
    have hw : wrap64 ((i : Int) + 1) = ((i + 1 : Nat) : Int) := by rw [i64w (by omega) (by omega)]; omega
    have hd := has_dec hi hok
    simp only [unisonref03_Has.l0]
    rw [if_pos (by omega), if_pos (by omega), if_pos (by omega), hst, refRun hok, hw, ih (i + 1) k (by omega) (by omega)]
    simp only [Option.bind_some, List.any_cons]
    cases hr : runI x with
    | false =>
      have : hasI id x = false := by unfold hasI; rw [hr]; rfl
      rw [this]
      rfl
    | true =>
      have h1 := (run_iff hok).1 hr
      rw [if_pos rfl, refLast h1]
      simp only [Option.bind_some]
      by_cases c1 : x.f0 = id.f0
      · rw [if_pos c1]
        by_cases c2 : id.f1 ≥ x.f1
        · rw [if_pos c2]
          by_cases c3 : id.f1 ≤ x.f1 + x.f2 - 1
          · rw [if_pos c3, hd.2 ⟨h1, c1, c2, c3⟩]
            rfl
          · rw [if_neg c3, show hasI id x = false from Bool.eq_false_iff.2 (fun h => c3 (hd.1 h).2.2.2)]
            rfl
        · rw [if_neg c2, show hasI id x = false from Bool.eq_false_iff.2 (fun h => c2 (hd.1 h).2.2.1)]
          rfl
      · rw [if_neg c1, show hasI id x = false from Bool.eq_false_iff.2 (fun h => c1 (hd.1 h).2.1)]
        rfl
theorem refHas_eq {L : List Rn} {id : I} (hi : okI id) (hL : ∀ r ∈ L, okR r) (hm : L.length ≤ 1000000) {k : Nat} (hk : L.length < k) : unisonref03_Has.f k id.f0 id.f1 L = some (hasF id L) :=
  refHas_loop hi hL hm L.length 0 k (by omega) hk
theorem refLess (x y : I) : unisonref03_Less.f x.f0 x.f1 y.f0 y.f1 = some (ltI x y) := by
  unfold unisonref03_Less.f ltI
  by_cases h : x.f0 = y.f0
  · rw [if_pos h]
    congr 1
    simp [h]
  · rw [if_neg h]
    congr 1
    simp [h]
/-! ### IdentIs -/
theorem mays {x : I} (h : okI x) (n : Int) : ∃ r, ident_May.f x.f0 x.f1 n = some r ∧ unisonref03_May.f x.f0 x.f1 n = some r := by
  obtain ⟨h0, h1, h2, h3⟩ := h
  unfold ident_May.f unisonref03_May.f
  rw [i64w (x := x.f0) (by omega) (by omega)]
  by_cases c1 : x.f0 < n
  · by_cases c2 : x.f0 < 64
    · have : x.f0 < mn n 64 := by unfold mn; split <;> omega
      rw [if_pos this, if_pos c1, if_pos c2]
      by_cases c3 : x.f1 ≥ 1
      · rw [if_pos c3, if_pos (by omega)]
        exact ⟨_, rfl, rfl⟩
      · rw [if_neg c3, if_neg (by omega)]
        exact ⟨_, rfl, rfl⟩
    · have : ¬ x.f0 < mn n 64 := by unfold mn; split <;> omega
      rw [if_neg this, if_pos c1, if_neg c2]
      exact ⟨_, rfl, rfl⟩
  · have : ¬ x.f0 < mn n 64 := by unfold mn; split <;> omega
    rw [if_neg this, if_neg c1]
    exact ⟨_, rfl, rfl⟩
set_option maxHeartbeats 8000000 in
theorem IdentIs (a0 a1 b0 b1 : Int) (n : Int) (x0 x1 x2 : Int) (A4 : Option Addr) (c4 : Nat) (l4 : List Rn) (w : World) (hr : Kd.C kRn w A4 l4.length l4) (hc : l4.length ≤ c4) (wa : wf33 ⟨a0, a1⟩) (wb : wf33 ⟨b0, b1⟩) (_ : (Lit.int .i64 n).wf = true) (wx : wf40 ⟨x0, x1, x2⟩) (hw : l4.length ≤ maxLen ∧ ∀ x ∈ l4, wf40 x) :
    Calls Try.prog 6 #[.agg #[.int .u8 a0, .int .u64 a1], .agg #[.int .u8 b0, .int .u64 b1], .int .i64 n, .agg #[.int .u8 x0, .int .u64 x1, .int .u64 x2], .slice A4 l4.length c4] w fun e w' => e = .returned (.bool true) ∧ Below w.heap.size w w' := by
  have oa := okI_of wa
  have ox := okR_of wx
  have ol : ∀ r ∈ l4, okR r := fun r hr => okR_of (hw.2 r hr)
  have HR := Aside0.mk hr
  have HC := Aside0.mk hc
  have hu1 := Try.underlying33
  have hu2 := Try.underlying40
  have AW : Aside0 (∀ W, Calls Try.prog 8 #[] W fun e w' => e = .returned (.bool true) ∧ Below W.heap.size W w') := ⟨fun W => unisonlaw03_awake.calls true W awake_eq⟩
  clear hr hw wa wb wx
  by_cases hl : l4.length ≤ 100
  · have hlz : ¬ ((l4.length : Int) > 100) := by omega
    obtain ⟨r1, m1, m2⟩ := mays oa n
    obtain ⟨r2, e2⟩ : ∃ r2, r2 = ltI ⟨a0, a1⟩ ⟨b0, b1⟩ := ⟨_, rfl⟩
    obtain ⟨r3, e3⟩ : ∃ r3, r3 = runI ⟨x0, x1, x2⟩ := ⟨_, rfl⟩
    obtain ⟨r4, e4⟩ : ∃ r4, r4 = rowsF l4 := ⟨_, rfl⟩
    obtain ⟨r5, e5⟩ : ∃ r5, r5 = hasF ⟨a0, a1⟩ l4 := ⟨_, rfl⟩
    obtain ⟨r6, e6⟩ : ∃ r6, r6 = cntF l4 := ⟨_, rfl⟩
    have C1 : Aside0 (∀ W, Calls Try.prog 17 #[.agg #[.int .u8 a0, .int .u64 a1], .int .i64 n] W fun e w' => e = .returned (.bool r1) ∧ Below W.heap.size W w') := ⟨fun W => ident_May.calls a0 a1 n r1 W m1⟩
    have C2 : Aside0 (∀ W, Calls Try.prog 18 #[.agg #[.int .u8 a0, .int .u64 a1], .int .i64 n] W fun e w' => e = .returned (.bool r1) ∧ Below W.heap.size W w') := ⟨fun W => unisonref03_May.calls a0 a1 n r1 W m2⟩
    have C3 : Aside0 (∀ W, Calls Try.prog 14 #[.agg #[.int .u8 a0, .int .u64 a1], .agg #[.int .u8 b0, .int .u64 b1]] W fun e w' => e = .returned (.bool r2) ∧ Below W.heap.size W w') := ⟨fun W => ident_Less.calls 5 a0 a1 b0 b1 r2 W (by rw [e2]; exact less_eq (Nat.le_refl _) ⟨a0, a1⟩ ⟨b0, b1⟩)⟩
    have C4 : Aside0 (∀ W, Calls Try.prog 19 #[.agg #[.int .u8 a0, .int .u64 a1], .agg #[.int .u8 b0, .int .u64 b1]] W fun e w' => e = .returned (.bool r2) ∧ Below W.heap.size W w') := ⟨fun W => unisonref03_Less.calls a0 a1 b0 b1 r2 W (by rw [e2]; exact refLess ⟨a0, a1⟩ ⟨b0, b1⟩)⟩
    have C5 : Aside0 (∀ W, Calls Try.prog 20 #[.agg #[.int .u8 x0, .int .u64 x1, .int .u64 x2]] W fun e w' => e = .returned (.bool r3) ∧ Below W.heap.size W w') := ⟨fun W => ident_Run.calls x0 x1 x2 r3 W (by rw [e3]; exact run_f ⟨x0, x1, x2⟩)⟩
    have C6 : Aside0 (∀ W, Calls Try.prog 21 #[.agg #[.int .u8 x0, .int .u64 x1, .int .u64 x2]] W fun e w' => e = .returned (.bool r3) ∧ Below W.heap.size W w') := ⟨fun W => unisonref03_Run.calls x0 x1 x2 r3 W (by rw [e3]; exact refRun ox)⟩
    have C7 : Aside0 (∀ W, Below w.heap.size w W → Calls Try.prog 22 #[.slice A4 l4.length c4] W fun e w' => e = .returned (.bool r4) ∧ Below W.heap.size W w') := ⟨fun W hb => ident_Rows.calls 1000 A4 c4 l4 r4 W (Kd.C_below HR.out hb) HC.out (by rw [e4]; exact identRows_eq ol (by omega) (by omega))⟩
    have C8 : Aside0 (∀ W, Below w.heap.size w W → Calls Try.prog 10 #[.slice A4 l4.length c4] W fun e w' => e = .returned (.bool r4) ∧ Below W.heap.size W w') := ⟨fun W hb => unisonref03_Rows.calls 1000 A4 c4 l4 r4 W (Kd.C_below HR.out hb) HC.out (by rw [e4]; exact refRows_eq ol (by omega) (by omega))⟩
    have C9 : Aside0 (∀ W, Below w.heap.size w W → Calls Try.prog 23 #[.agg #[.int .u8 a0, .int .u64 a1], .slice A4 l4.length c4] W fun e w' => e = .returned (.bool r5) ∧ Below W.heap.size W w') := ⟨fun W hb => by rw [e5]; exact Has_calls a0 a1 A4 c4 l4 W (by omega) (Kd.C_below HR.out hb)⟩
    have C10 : Aside0 (∀ W, Below w.heap.size w W → Calls Try.prog 24 #[.agg #[.int .u8 a0, .int .u64 a1], .slice A4 l4.length c4] W fun e w' => e = .returned (.bool r5) ∧ Below W.heap.size W w') := ⟨fun W hb => unisonref03_Has.calls 1000 a0 a1 A4 c4 l4 r5 W (Kd.C_below HR.out hb) HC.out (by rw [e5]; exact refHas_eq oa ol (by omega) (by omega))⟩
    have C11 : Aside0 (∀ W, Below w.heap.size w W → Calls Try.prog 25 #[.slice A4 l4.length c4] W fun e w' => e = .returned (.int .u64 r6) ∧ Below W.heap.size W w') := ⟨fun W hb => ident_Count.calls 1000 A4 c4 l4 r6 W (Kd.C_below HR.out hb) HC.out (by rw [e6]; exact identCount_eq ol (by omega) (by omega))⟩
    have C12 : Aside0 (∀ W, Below w.heap.size w W → Calls Try.prog 26 #[.slice A4 l4.length c4] W fun e w' => e = .returned (.int .u64 r6) ∧ Below W.heap.size W w') := ⟨fun W hb => unisonref03_Count.calls 1000 A4 c4 l4 r6 W (Kd.C_below HR.out hb) HC.out (by rw [e6]; exact refCount_eq ol (by omega) (by omega))⟩
    obtain ⟨W1, hW1⟩ : ∃ W1, W1 = ((w.alloc (.cells #[.int .u8 a0, .int .u64 a1] tI)).alloc (.cells #[.int .u8 b0, .int .u64 b1] tI)).alloc (.cells #[.int .u8 x0, .int .u64 x1, .int .u64 x2] tRn) := ⟨_, rfl⟩
    have BW : Aside0 (Below w.heap.size w W1) := ⟨by rw [hW1]; repeat (first | exact Below.refl _ _ | apply below_alloc)⟩
    have BB : Aside0 (∀ d os, Below w.heap.size w (grow (redrawn W1 d) os)) := ⟨fun d os => below_step BW.out (below_regrown W1 d os)⟩
    have hs1 : ∀ o : Obj, (w.alloc o).heap.size = w.heap.size + 1 := fun o => by simp
    have hs2 : ∀ o p : Obj, ((w.alloc o).alloc p).heap.size = w.heap.size + 1 + 1 := fun o p => by simp
    have hx : W1.heap[w.heap.size]? = some (.cells #[.int .u8 a0, .int .u64 a1] tI (0, 0)) := by rw [hW1]; exact blk_alloc (blk_alloc (blk_new w _) _) _
    have hy : W1.heap[w.heap.size + 1]? = some (.cells #[.int .u8 b0, .int .u64 b1] tI (0, 0)) := by
      have := blk_alloc (blk_new (w.alloc (.cells #[.int .u8 a0, .int .u64 a1] tI)) (.cells #[.int .u8 b0, .int .u64 b1] tI)) (.cells #[.int .u8 x0, .int .u64 x1, .int .u64 x2] tRn)
      rw [hs1] at this
      rw [hW1]
      exact this
    have hz : W1.heap[w.heap.size + 1 + 1]? = some (.cells #[.int .u8 x0, .int .u64 x1, .int .u64 x2] tRn (0, 0)) := by
      have := blk_new ((w.alloc (.cells #[.int .u8 a0, .int .u64 a1] tI)).alloc (.cells #[.int .u8 b0, .int .u64 b1] tI)) (.cells #[.int .u8 x0, .int .u64 x1, .int .u64 x2] tRn)
      rw [hs2] at this
      rw [hW1]
      exact this
    have x0' : W1.cell? ⟨w.heap.size, 0, none⟩ = some (.int .u8 a0) := (blk_cell hx 0).trans rfl
    have x1' : W1.cell? ⟨w.heap.size, 1, none⟩ = some (.int .u64 a1) := (blk_cell hx 1).trans rfl
    have y0' : W1.cell? ⟨w.heap.size + 1, 0, none⟩ = some (.int .u8 b0) := (blk_cell hy 0).trans rfl
    have y1' : W1.cell? ⟨w.heap.size + 1, 1, none⟩ = some (.int .u64 b1) := (blk_cell hy 1).trans rfl
    have z0' : W1.cell? ⟨w.heap.size + 1 + 1, 0, none⟩ = some (.int .u8 x0) := (blk_cell hz 0).trans rfl
    have z1' : W1.cell? ⟨w.heap.size + 1 + 1, 1, none⟩ = some (.int .u64 x1) := (blk_cell hz 1).trans rfl
    have z2' : W1.cell? ⟨w.heap.size + 1 + 1, 2, none⟩ = some (.int .u64 x2) := (blk_cell hz 2).trans rfl
    clear hs1 hs2 hx hy hz
    have X0 := fun d os => cell_regrown x0' d os
    have X1 := fun d os => cell_regrown x1' d os
    have Y0 := fun d os => cell_regrown y0' d os
    have Y1 := fun d os => cell_regrown y1' d os
    have Z0 := fun d os => cell_regrown z0' d os
    have Z1 := fun d os => cell_regrown z1' d os
    have Z2 := fun d os => cell_regrown z2' d os
    have HW := Aside0.mk hW1
    clear x0' x1' y0' y1' z0' z1' z2' hW1 e2 e3 e4 e5 e6 m1 m2
    go_enter Try.func6, Try.ntmps6
    go_wp2_with fail
    rw [← HW.out]
    refine wp_region_quiet_below (by kernel_rfl) (by kernel_rfl) ?_
    repeat (go_big_quiet_step (first
      | (go_at_call 17; exact Calls.regrown_of (C1.out _))
      | (go_at_call 18; exact Calls.regrown_of (C2.out _))
      | (go_at_call 14; exact Calls.regrown_of (C3.out _))
      | (go_at_call 19; exact Calls.regrown_of (C4.out _))
      | (go_at_call 20; exact Calls.regrown_of (C5.out _))
      | (go_at_call 21; exact Calls.regrown_of (C6.out _))
      | (go_at_call 22; exact Calls.regrown_of (C7.out _ (BB.out _ _)))
      | (go_at_call 10; exact Calls.regrown_of (C8.out _ (BB.out _ _)))
      | (go_at_call 23; exact Calls.regrown_of (C9.out _ (BB.out _ _)))
      | (go_at_call 24; exact Calls.regrown_of (C10.out _ (BB.out _ _)))
      | (go_at_call 25; exact Calls.regrown_of (C11.out _ (BB.out _ _)))
      | (go_at_call 26; exact Calls.regrown_of (C12.out _ (BB.out _ _)))
      | (go_at_call 8; exact Calls.regrown_of (AW.out _))))
    refine wpQuiet_nil ?_
    intro _ hw'
    obtain ⟨⟨dq, osq⟩, hw''⟩ := hw'
    subst hw''
    go_wp2_with fail
    go_ret
    exact ⟨rfl, BB.out dq osq⟩
  · have hlz : ((l4.length : Int) > 100) := by omega
    go_enter Try.func6, Try.ntmps6
    go_wp2_with fail
    refine (AW.out _).mono ?_
    rintro e w1 ⟨rfl, hb⟩
    have B1 := Aside0.mk hb
    clear hb
    go_wp2_with fail
    go_ret
    exact ⟨rfl, below_step (by repeat (first | exact Below.refl _ _ | apply below_alloc)) B1.out⟩

end Go.Proofs.Ytgcnaebhmcggoaa.Walk
