/- Any row of acts is answered, and leaves all things in their order, as the document says; what is handed in is not kept. Conditions: none beyond the statement's own. -/
import Derived.Test.YtemgfogpeogdeaaWalkAwake
import Derived.Test.YtemgfogpeogdeaaWalkDoes
import Derived.Test.YtemgfogpeogdeaaF2
import Derived.Test.YtemgfogpeogdeaaArgs
import Derived.Deep.QuietTactic
import Derived.BigQuiet
import Derived.Lib.QuietBelow
import Derived.Outline
import Derived.Deep.RegionHeld3
import Derived.Deep.CutRange
namespace Go.Proofs.Ytemgfogpeogdeaa.Walk
open Go.RowKit Go.Proofs.Ytemgfogpeogdeaa.F Go.Proofs.YtemgfogpeogdeaaW.PrintWords Go.Proofs.YtemgfogpeogdeaaW.PrintLast Go.Proofs.YtemgfogpeogdeaaW.PrintMore Go.Proofs.Ytemgfogpeogdeaa.Open
open Go.Sort (grow)
attribute [local go_sem] max2_int min2_int max_two min_two max_three min_three max_four min_four
set_option linter.unusedVariables false
set_option linter.unusedSimpArgs false

/-! ### The law: any row of acts is answered, and leaves all things in their order, as the document says -/
theorem DS.below {F : Nat → Prop} {w0 w w1 : World} {g n : Nat} {L : List Th} {lost : Int} {v : Value} (h : DS F w0 w g n L lost v) (hb : Below w.heap.size w w1) : DS F w0 w1 g n L lost v := by
  obtain ⟨⟨SB, ok, h1, h2, h3, h4⟩, h5⟩ := h
  exact ⟨⟨SB, ok, h1.below hb, Kd.R_below h2 hb, fun k hk => ⟨(h3 k hk).1, Nat.lt_of_lt_of_le (h3 k hk).2.1 hb.size, (h3 k hk).2.2⟩, fun k hk => ⟨(h4 k hk).1, Nat.lt_of_lt_of_le (h4 k hk).2.1 hb.size, (h4 k hk).2.2⟩⟩, h5⟩
theorem DS.setCell {F : Nat → Prop} {w0 w : World} {g n : Nat} {L : List Th} {lost : Int} {v : Value} (h : DS F w0 w g n L lost v) {p : Addr} (hp : F p.block) (u : Value) : DS F w0 (w.setCell p u) g n L lost v := by
  obtain ⟨⟨SB, ok, h1, h2, h3, h4⟩, h5⟩ := h
  have hz : (w.setCell p u).heap.size = w.heap.size := by simp [World.setCell]
  exact ⟨⟨SB, ok, h1.step (fun k hk _ => Below.heap_setCell w p u k (fun e => (h3 k hk).2.2 (by rw [e]; exact hp))), Kd.R_far h2 (fun k hk e => (h4 k hk).2.2.1 (by rw [e]; exact hp)) u, fun k hk => by rw [hz]; exact h3 k hk, fun k hk => by rw [hz]; exact h4 k hk⟩, h5⟩
theorem DS.mono {F F' : Nat → Prop} {w0 w : World} {g n : Nat} {L : List Th} {lost : Int} {v : Value} (h : DS F w0 w g n L lost v) (hf : ∀ k, F' k → F k) : DS F' w0 w g n L lost v := by
  obtain ⟨⟨SB, ok, h1, h2, h3, h4⟩, h5⟩ := h
  exact ⟨⟨SB, ok, h1, h2, fun k hk => ⟨(h3 k hk).1, (h3 k hk).2.1, fun h => (h3 k hk).2.2 (hf k h)⟩, fun k hk => ⟨(h4 k hk).1, (h4 k hk).2.1, fun h => (h4 k hk).2.2.1 (hf k h), (h4 k hk).2.2.2⟩⟩, h5⟩
theorem DS.more {F : Nat → Prop} {w0 w : World} {g n : Nat} {L : List Th} {lost : Int} {v : Value} (h : DS F w0 w g n L lost v) (b : Nat) (hb : w.heap.size ≤ b) : DS (fun k => F k ∨ k = b) w0 w g n L lost v := by
  obtain ⟨⟨SB, ok, h1, h2, h3, h4⟩, h5⟩ := h
  exact ⟨⟨SB, ok, h1, h2, fun k hk => ⟨(h3 k hk).1, (h3 k hk).2.1, fun h => h.elim (h3 k hk).2.2 (fun e => by have := (h3 k hk).2.1; omega)⟩, fun k hk => ⟨(h4 k hk).1, (h4 k hk).2.1, fun h => h.elim (h4 k hk).2.2.1 (fun e => by have := (h4 k hk).2.1; omega), (h4 k hk).2.2.2⟩⟩, h5⟩
theorem cell3 {W : World} {a : Addr} {v x y z : Value} {b : Nat} (h : W.cell? a = some v) (hb : a.block ≠ b) : (((W.setCell ⟨b, 0, none⟩ x).setCell ⟨b, 1, none⟩ y).setCell ⟨b, 2, none⟩ z).cell? a = some v := by
  unfold World.cell? at h ⊢
  rw [Below.heap_setCell _ ⟨b, 2, none⟩ _ _ hb, Below.heap_setCell _ ⟨b, 1, none⟩ _ _ hb, Below.heap_setCell _ ⟨b, 0, none⟩ _ _ hb]
  exact h
theorem refNew_f (a : Int) : unisonref07_New.f a = some ((rm a : Int), ([] : List S48), 0) := by
  unfold unisonref07_New.f rm
  by_cases h1 : a < 1
  · rw [if_pos h1, if_neg (by decide), if_neg (by omega), if_neg (by omega)]
    rfl
  · rw [if_neg h1]
    by_cases h2 : a > 4096
    · rw [if_pos h2, if_pos (by omega)]
      rfl
    · rw [if_neg h2, if_neg (by omega)]
      by_cases h3 : 1 < a
      · rw [if_pos h3, show ((a.toNat : Nat) : Int) = a by omega]
      · rw [if_neg h3, show a = 1 by omega]
        rfl
theorem lk_at {L : List Th} {k : Nat} (hk : k < L.length) : has L (k : Int) = true ∧ lk L (k : Int) = (L[k]).f0 := by
  have hi : 0 ≤ (k : Int) ∧ (k : Int) < L.length := by omega
  refine ⟨decide_eq_true hi, ?_⟩
  unfold lk
  rw [if_pos hi, Int.toNat_natCast, List.getD_eq_getElem?_getD, List.getElem?_eq_getElem hk]
  rfl
set_option maxHeartbeats 8000000 in
set_option maxRecDepth 100000 in
theorem BagPlays (a0 : Int) (A1 : Option Addr) (c1 : Nat) (l1 : List S36) (w : World) (hr1 : Kd.C k36 w A1 l1.length l1) (hc1 : l1.length ≤ c1)
    (w0 : (Lit.int .i64 a0).wf = true) (w1 : l1.length ≤ maxLen ∧ ∀ x ∈ l1, wf36 x) :
    Calls Try.prog 5 #[.int .i64 a0, .slice A1 l1.length c1] w fun e w' => e = .returned (.bool true) ∧ Below w.heap.size w w' := by
  have HR := Aside0.mk hr1
  have HWF := Aside0.mk w1.2
  clear w0 w1 hr1 hc1
  by_cases hl : (100 : Int) < l1.length
  · have hl' : decide ((100 : Int) < l1.length) = true := decide_eq_true hl
    have hl2 : decide (100 < l1.length) = true := decide_eq_true (by omega)
    go_enter Try.func5, Try.ntmps5
    go_wp2_with fail
    refine (awake_calls _).mono ?_
    rintro e w1 ⟨rfl, hb⟩
    have B1 := Aside0.mk hb
    clear hb
    go_wp2_with fail
    go_ret
    exact ⟨rfl, B1.out⟩
  · have hl' : decide ((100 : Int) < l1.length) = false := decide_eq_false hl
    have hl2 : decide (100 < l1.length) = false := decide_eq_false (by omega)
    have hl100 : l1.length ≤ 100 := by omega
    go_enter Try.func5, Try.ntmps5
    go_wp2_with fail
    refine (New_calls a0 _).mono ?_
    rintro e w1 ⟨g, rfl, hge, hW, hb⟩
    obtain ⟨n, hn⟩ : ∃ n, n = rm a0 := ⟨_, rfl⟩
    rw [← hn] at hW
    have W1 := Aside0.mk hW.bound
    have B1 := Aside0.mk hb
    have NW := Aside0.mk (unisonref07_New.calls a0 n [] 0 w1 (by rw [hn]; exact refNew_f a0))
    clear hge hW hb hn
    go_wp2_with fail
    refine NW.out.mono ?_
    rintro e w2 ⟨v2, rfl, hr, hb⟩
    obtain ⟨A2, c2, rfl⟩ := Kd.R_slice hr
    have R2 := Aside0.mk hr
    have B2 := Aside0.mk hb
    clear hr hb NW
    go_wp2_with fail
    have Z12 : Aside0 (w.heap.size ≤ w1.heap.size ∧ w1.heap.size ≤ w2.heap.size) := ⟨B1.out.size, B2.out.size⟩
    have K3 : Aside0 (DS (fun k => k = w2.heap.size) w (w2.alloc (.cells #[.int .i64 n, .slice A2 0 c2, .int .i64 0] tG)) g n [] 0 (.slice A2 0 c2)) := ⟨by
      have z := Z12.out
      refine ⟨⟨fun k => w.heap.size ≤ k ∧ k < w1.heap.size, fun k => w1.heap.size ≤ k ∧ k < w2.heap.size, (W1.out.below B2.out).below (below_alloc (Below.refl _ _) _), Kd.R_alloc (Kd.R_lower (Kd.R_mono (Kd.R_bound R2.out) (fun k hk => ⟨hk.2.1, hk.2.2.1⟩)) (Nat.zero_le _)) _, fun k hk => ⟨hk.1, by simp; omega, by omega⟩, fun k hk => ⟨by omega, by simp; omega, by omega, fun h => by omega⟩⟩, by simp⟩⟩
    have X3 : Aside0 ((w2.alloc (.cells #[.int .i64 n, .slice A2 0 c2, .int .i64 0] tG)).heap[w2.heap.size]? = some (.cells #[.int .i64 n, .slice A2 0 c2, .int .i64 0] tG (0, 0))) := ⟨blk_new w2 _⟩
    have B3 : Aside0 (Below w.heap.size w (w2.alloc (.cells #[.int .i64 n, .slice A2 0 c2, .int .i64 0] tG))) := ⟨below_alloc (below_step B1.out B2.out) _⟩
    have HG : Aside0 (w.heap.size ≤ w2.heap.size) := ⟨by have := Z12.out; omega⟩
    generalize w2.alloc (.cells #[.int .i64 n, .slice A2 0 c2, .int .i64 0] tG) = w3 at *
    generalize w2.heap.size = b6 at *
    clear R2 B2 W1 B1 Z12
    go_loopg [7] l1.length (fun kq v7 w' => ∃ (i : Nat) (L : List Th) (lost : Int) (A2 : Option Addr) (c2 : Nat), v7 = .int .i64 i ∧ i ≤ l1.length ∧ l1.length ≤ kq + i ∧ lost ≤ i ∧ Aside0 (DS (fun k => k = b6) w w' g n L lost (.slice A2 L.length c2)) ∧ Aside0 (w'.heap[b6]? = some (.cells #[.int .i64 n, .slice A2 L.length c2, .int .i64 lost] tG (0, 0))) ∧ Aside0 (Below w.heap.size w w'))
    case atStart => exact ⟨0, [], 0, A2, c2, rfl, by omega, by omega, by omega, K3, X3, B3⟩
    case round =>
      clear K3 X3 B3
      obtain ⟨i, L, lost, A2, c2, rfl, hi, hki, hlo, KW, XW, BW⟩ := hrel
      by_cases hlt : i < l1.length
      · have hlt' : decide ((i : Int) < l1.length) = true := decide_eq_true (by omega)
        have hlt2 : decide (i < l1.length) = true := decide_eq_true hlt
        obtain ⟨ad, D1, d1, ea, k0, k1, k2, k3, k4, l0, g0⟩ := at_T36 HR.out (i : Int) (by omega) (by omega)
        cases ea
        rw [Int.toNat_natCast] at k0 k1 k2 k3 k4
        have hxm : rd_T36 l1 (i : Int) ∈ l1 := by
          unfold rd_T36
          rw [Int.toNat_natCast, List.getD_eq_getElem?_getD, List.getElem?_eq_getElem hlt]
          exact List.getElem_mem _
        have WF := Aside0.mk (HWF.out _ hxm)
        generalize rd_T36 l1 (i : Int) = x at *
        have KC : Aside0 (∀ W, Below w.heap.size w W → W.cell? (ad.add (i * 5)) = some (.int .i64 x.f0) ∧ W.cell? ⟨(ad.add (i * 5)).block, (ad.add (i * 5)).off + 1, none⟩ = some (.slice D1 x.f1.length d1) ∧ W.cell? ⟨(ad.add (i * 5)).block, (ad.add (i * 5)).off + 2, none⟩ = some (.int .i64 x.f2) ∧ W.cell? ⟨(ad.add (i * 5)).block, (ad.add (i * 5)).off + 3, none⟩ = some (.int .i64 x.f3) ∧ W.cell? ⟨(ad.add (i * 5)).block, (ad.add (i * 5)).off + 4, none⟩ = some (.int .u32 x.f4)) := ⟨fun W hb => ⟨(hb.cell (World.block_lt_of_cell? w _ k0)).trans k0, (hb.cell (World.block_lt_of_cell? w _ k1)).trans k1, (hb.cell (World.block_lt_of_cell? w _ k2)).trans k2, (hb.cell (World.block_lt_of_cell? w _ k3)).trans k3, (hb.cell (World.block_lt_of_cell? w _ k4)).trans k4⟩⟩
        have G0 := Aside0.mk g0
        have L0 := Aside0.mk l0
        have HWI : Aside0 (wrap64 ((i : Int) + 1) = ((i + 1 : Nat) : Int)) := ⟨by rw [w64 (by omega) (by omega)]; simp⟩
        have pm : (0 ≤ (i : Int)) = True := eq_true (by omega)
        have qm : ((i : Int) < (l1.length : Int)) = True := eq_true (by omega)
        clear g0 l0 hxm k0 k1 k2 k3 k4
        obtain ⟨k0, k1, k2, k3, k4⟩ := KC.out wr BW.out
        by_cases h300 : 300 < x.f1.length
        · have h1 : decide ((300 : Int) < (x.f1.length : Int)) = true := decide_eq_true (by omega)
          have h2 : decide (300 < x.f1.length) = true := decide_eq_true h300
          go_wp2_with fail
          refine (awake_calls _).mono ?_
          rintro e w4 ⟨rfl, hb⟩
          have B4 := Aside0.mk (below_step BW.out hb)
          clear hb
          go_wp2_with fail
          go_ret
          exact ⟨rfl, B4.out⟩
        · have h1 : decide ((300 : Int) < (x.f1.length : Int)) = false := decide_eq_false (by omega)
          have h2 : decide (300 < x.f1.length) = false := decide_eq_false h300
          have HX : Aside0 (u8s x.f1 ∧ x.f1.length ≤ 1000000) := ⟨⟨fun y hy => by
            have h := WF.out.2.1.2 y hy
            simp [Lit.wf] at h
            have h1 : IntKind.u8.min = 0 := by decide
            have h2 : IntKind.u8.max = 255 := by decide
            omega, by omega⟩⟩
          have HU : Aside0 (x.f3 ≤ 9223372036854775807 ∧ 0 ≤ x.f4 ∧ x.f4 < 4294967296) := ⟨by
            have h3 := WF.out.2.2.2.1
            have h4 := WF.out.2.2.2.2
            simp [Lit.wf] at h3 h4
            have e1 : IntKind.i64.max = 9223372036854775807 := by decide
            have e2 : IntKind.u32.min = 0 := by decide
            have e3 : IntKind.u32.max = 4294967295 := by decide
            omega⟩
          go_upto_region 9 with (fail)
          have HB6 : Aside0 (b6 < wr.heap.size) := ⟨blk_lt XW.out⟩
          go_cut [8, 9] (fun v8 v9 w' => ∃ (L4 : List Th) (lo4 : Int) (A4 : Option Addr) (c4 b9 : Nat), v8 = .bool true ∧ v9 = .pointer (some ⟨b9, 0, none⟩) ∧ lo4 ≤ lost + 1 ∧ Aside0 (DS (fun k => k = b6) w w' g n L4 lo4 (.slice A4 L4.length c4)) ∧ Aside0 (w'.heap[b6]? = some (.cells #[.int .i64 n, .slice A2 L.length c2, .int .i64 lost] tG (0, 0))) ∧ Aside0 (w'.heap[b9]? = some (.cells #[.int .i64 n, .slice A4 L4.length c4, .int .i64 lo4] tG (0, 0))) ∧ Aside0 (Below w.heap.size w w'))
          case first =>
            have x0 : wr.cell? ⟨b6, 0, none⟩ = some (.int .i64 n) := (blk_cell XW.out 0).trans rfl
            have x1 : wr.cell? ⟨b6, 1, none⟩ = some (.slice A2 L.length c2) := (blk_cell XW.out 1).trans rfl
            have x2 : wr.cell? ⟨b6, 2, none⟩ = some (.int .i64 lost) := (blk_cell XW.out 2).trans rfl
            have HF6 : Aside0 (∀ k, k = b6 → k < wr.heap.size) := ⟨fun k hk => by rw [hk]; exact HB6.out⟩
            have HF7 : Aside0 (∀ k, (k = b6 ∨ k = wr.heap.size) → k < ((wr.alloc (.cells #[.int .i64 0, .slice none 0 0, .int .i64 0] tG)).drew).heap.size) := ⟨fun k hk => by have := HB6.out; show k < (wr.alloc (.cells #[.int .i64 0, .slice none 0 0, .int .i64 0] tG)).heap.size; simp; omega⟩
            have nad : (ad.add (i * 5)).block ≠ wr.heap.size := Nat.ne_of_lt (World.block_lt_of_cell? wr _ k0)
            have nb1 : b6 ≠ wr.heap.size := by have := HB6.out; omega
            have nb2 : wr.heap.size ≠ b6 := by have := HB6.out; omega
            go_region_held3 (fun w' => w'.cell? ⟨b6, 0, none⟩ = some (.int .i64 n) ∧ w'.cell? ⟨b6, 1, none⟩ = some (.slice A2 L.length c2) ∧ w'.cell? ⟨b6, 2, none⟩ = some (.int .i64 lost) ∧ w'.cell? (ad.add (i * 5)) = some (.int .i64 x.f0) ∧ w'.cell? ⟨(ad.add (i * 5)).block, (ad.add (i * 5)).off + 1, none⟩ = some (.slice D1 x.f1.length d1) ∧ w'.cell? ⟨(ad.add (i * 5)).block, (ad.add (i * 5)).off + 2, none⟩ = some (.int .i64 x.f2) ∧ w'.cell? ⟨(ad.add (i * 5)).block, (ad.add (i * 5)).off + 3, none⟩ = some (.int .i64 x.f3) ∧ w'.cell? ⟨(ad.add (i * 5)).block, (ad.add (i * 5)).off + 4, none⟩ = some (.int .u32 x.f4)) (go_keep)
              ((first
                | (go_at_call 18; refine (does_calls (F := fun k => k = b6) (w0 := w) (w := wr.drew) (below_drew BW.out) (KW.out.below (below_drew (Below.refl _ _))) HF6.out G0.out L0.out HX.out (by omega) HU.out).mono ?_; rintro e w4 ⟨v4, L4, lo4, rfl, ⟨hD, hb, hf⟩, hlo4⟩; obtain ⟨A4, c4, rfl⟩ : ∃ A c, v4 = .slice A L4.length c := (by obtain ⟨⟨_, _, _, h9, _⟩, _⟩ := hD; obtain ⟨A, c, e⟩ := Kd.R_slice h9; rw [List.length_map] at e; exact ⟨A, c, e⟩); have D4 := Aside0.mk hD; have B4 := Aside0.mk hb; have HLO := Aside0.mk hlo4; have X4 : Aside0 (w4.heap[b6]? = some (.cells #[.int .i64 n, .slice A2 L.length c2, .int .i64 lost] tG (0, 0))) := ⟨(hf b6 rfl).trans XW.out⟩; have TW1 := Aside0.mk True.intro; clear hD hb hf hlo4; have y0 : w4.cell? ⟨b6, 0, none⟩ = some (.int .i64 n) := (blk_cell X4.out 0).trans rfl; have y1 : w4.cell? ⟨b6, 1, none⟩ = some (.slice A2 L.length c2) := (blk_cell X4.out 1).trans rfl; have y2 : w4.cell? ⟨b6, 2, none⟩ = some (.int .i64 lost) := (blk_cell X4.out 2).trans rfl; obtain ⟨m0, m1, m2, m3, m4⟩ := KC.out w4 B4.out)
                | (go_at_call 18; refine (does_calls (F := fun k => k = b6 ∨ k = wr.heap.size) (w0 := w) (w := (wr.alloc (.cells #[.int .i64 0, .slice none 0 0, .int .i64 0] tG)).drew) (below_drew (below_alloc BW.out _)) ((KW.out.more wr.heap.size (Nat.le_refl _)).below (below_drew (below_alloc (Below.refl _ _) _))) HF7.out G0.out L0.out HX.out (by omega) HU.out).mono ?_; rintro e w4 ⟨v4, L4, lo4, rfl, ⟨hD, hb, hf⟩, hlo4⟩; obtain ⟨A4, c4, rfl⟩ : ∃ A c, v4 = .slice A L4.length c := (by obtain ⟨⟨_, _, _, h9, _⟩, _⟩ := hD; obtain ⟨A, c, e⟩ := Kd.R_slice h9; rw [List.length_map] at e; exact ⟨A, c, e⟩); have D4 := Aside0.mk hD; have B4 := Aside0.mk hb; have HLO := Aside0.mk hlo4; have X4 : Aside0 (w4.heap[b6]? = some (.cells #[.int .i64 n, .slice A2 L.length c2, .int .i64 lost] tG (0, 0))) := ⟨(hf b6 (Or.inl rfl)).trans (blk_alloc XW.out _)⟩; have XB4 : Aside0 (w4.heap[wr.heap.size]? = some (.cells #[.int .i64 0, .slice none 0 0, .int .i64 0] tG (0, 0))) := ⟨(hf _ (Or.inr rfl)).trans (blk_new wr _)⟩; have zb0 : w4.cell? ⟨wr.heap.size, 0, none⟩ = some (.int .i64 0) := (blk_cell XB4.out 0).trans rfl; have zb1 : w4.cell? ⟨wr.heap.size, 1, none⟩ = some (.slice none 0 0) := (blk_cell XB4.out 1).trans rfl; have zb2 : w4.cell? ⟨wr.heap.size, 2, none⟩ = some (.int .i64 0) := (blk_cell XB4.out 2).trans rfl; have fb0 := blk_frozen XB4.out 0; have fb1 := blk_frozen XB4.out 1; have fb2 := blk_frozen XB4.out 2; clear hD hb hf hlo4; have y0 : w4.cell? ⟨b6, 0, none⟩ = some (.int .i64 n) := (blk_cell X4.out 0).trans rfl; have y1 : w4.cell? ⟨b6, 1, none⟩ = some (.slice A2 L.length c2) := (blk_cell X4.out 1).trans rfl; have y2 : w4.cell? ⟨b6, 2, none⟩ = some (.int .i64 lost) := (blk_cell X4.out 2).trans rfl; obtain ⟨m0, m1, m2, m3, m4⟩ := KC.out w4 B4.out; have kk0 : ∀ u1 u2 u3, (((w4.setCell ⟨wr.heap.size, 0, none⟩ u1).setCell ⟨wr.heap.size, 1, none⟩ u2).setCell ⟨wr.heap.size, 2, none⟩ u3).cell? (ad.add (i * 5)) = some (.int .i64 x.f0) := fun _ _ _ => cell3 m0 nad; have kk1 : ∀ u1 u2 u3, (((w4.setCell ⟨wr.heap.size, 0, none⟩ u1).setCell ⟨wr.heap.size, 1, none⟩ u2).setCell ⟨wr.heap.size, 2, none⟩ u3).cell? ⟨(ad.add (i * 5)).block, (ad.add (i * 5)).off + 1, none⟩ = some (.slice D1 x.f1.length d1) := fun _ _ _ => cell3 m1 nad; have kk2 : ∀ u1 u2 u3, (((w4.setCell ⟨wr.heap.size, 0, none⟩ u1).setCell ⟨wr.heap.size, 1, none⟩ u2).setCell ⟨wr.heap.size, 2, none⟩ u3).cell? ⟨(ad.add (i * 5)).block, (ad.add (i * 5)).off + 2, none⟩ = some (.int .i64 x.f2) := fun _ _ _ => cell3 m2 nad; have kk3 : ∀ u1 u2 u3, (((w4.setCell ⟨wr.heap.size, 0, none⟩ u1).setCell ⟨wr.heap.size, 1, none⟩ u2).setCell ⟨wr.heap.size, 2, none⟩ u3).cell? ⟨(ad.add (i * 5)).block, (ad.add (i * 5)).off + 3, none⟩ = some (.int .i64 x.f3) := fun _ _ _ => cell3 m3 nad; have kk4 : ∀ u1 u2 u3, (((w4.setCell ⟨wr.heap.size, 0, none⟩ u1).setCell ⟨wr.heap.size, 1, none⟩ u2).setCell ⟨wr.heap.size, 2, none⟩ u3).cell? ⟨(ad.add (i * 5)).block, (ad.add (i * 5)).off + 4, none⟩ = some (.int .u32 x.f4) := fun _ _ _ => cell3 m4 nad)))
            all_goals
              first
                | (have tok := TW1.out
                   go_wp2_with fail
                   go_meet
                   exact ⟨L4, lo4, A4, c4, w4.heap.size, rfl, rfl, HLO.out, ⟨D4.out.below (below_alloc (Below.refl _ _) _)⟩, ⟨blk_alloc X4.out _⟩, ⟨blk_new w4 _⟩, ⟨below_alloc B4.out _⟩⟩)
                | (have tok := XB4.out
                   go_wp2_with fail
                   go_meet
                   exact ⟨L4, lo4, A4, c4, wr.heap.size, rfl, rfl, HLO.out, ⟨(((D4.out.setCell (p := ⟨wr.heap.size, 0, none⟩) (Or.inr rfl) _).setCell (p := ⟨wr.heap.size, 1, none⟩) (Or.inr rfl) _).setCell (p := ⟨wr.heap.size, 2, none⟩) (Or.inr rfl) _).mono (fun k hk => Or.inl hk)⟩, ⟨by rw [Below.heap_setCell _ ⟨wr.heap.size, 2, none⟩ _ _ nb1, Below.heap_setCell _ ⟨wr.heap.size, 1, none⟩ _ _ nb1, Below.heap_setCell _ ⟨wr.heap.size, 0, none⟩ _ _ nb1]; exact X4.out⟩, ⟨put3 XB4.out⟩, ⟨((B4.out.setCell (p := ⟨wr.heap.size, 0, none⟩) BW.out.size _).setCell (p := ⟨wr.heap.size, 1, none⟩) BW.out.size _).setCell (p := ⟨wr.heap.size, 2, none⟩) BW.out.size _⟩⟩)
          case rest =>
            obtain ⟨L4, lo4, A4, c4, b9, rfl, rfl, hlo4, D4, X4, Q4, B4⟩ := hcut
            generalize wc = w4 at *
            clear KW XW BW k0 k1 k2 k3 k4 h1 h2 HB6
            have x0 : w4.cell? ⟨b6, 0, none⟩ = some (.int .i64 n) := (blk_cell X4.out 0).trans rfl
            have x1 : w4.cell? ⟨b6, 1, none⟩ = some (.slice A2 L.length c2) := (blk_cell X4.out 1).trans rfl
            have x2 : w4.cell? ⟨b6, 2, none⟩ = some (.int .i64 lost) := (blk_cell X4.out 2).trans rfl
            have q0 : w4.cell? ⟨b9, 0, none⟩ = some (.int .i64 n) := (blk_cell Q4.out 0).trans rfl
            have q1 : w4.cell? ⟨b9, 1, none⟩ = some (.slice A4 L4.length c4) := (blk_cell Q4.out 1).trans rfl
            have q2 : w4.cell? ⟨b9, 2, none⟩ = some (.int .i64 lo4) := (blk_cell Q4.out 2).trans rfl
            have z0 := blk_frozen X4.out 0
            have z1 := blk_frozen X4.out 1
            have z2 := blk_frozen X4.out 2
            go_upto_region 11 with (fail)
            have D5 : Aside0 (DS (fun k => k = b6) w (((w4.setCell ⟨b6, 0, none⟩ (.int .i64 n)).setCell ⟨b6, 1, none⟩ (.slice A4 L4.length c4)).setCell ⟨b6, 2, none⟩ (.int .i64 lo4)) g n L4 lo4 (.slice A4 L4.length c4)) := ⟨((D4.out.setCell (p := ⟨b6, 0, none⟩) rfl _).setCell (p := ⟨b6, 1, none⟩) rfl _).setCell (p := ⟨b6, 2, none⟩) rfl _⟩
            have X5 : Aside0 ((((w4.setCell ⟨b6, 0, none⟩ (.int .i64 n)).setCell ⟨b6, 1, none⟩ (.slice A4 L4.length c4)).setCell ⟨b6, 2, none⟩ (.int .i64 lo4)).heap[b6]? = some (.cells #[.int .i64 n, .slice A4 L4.length c4, .int .i64 lo4] tG (0, 0))) := ⟨put3 X4.out⟩
            have B5 : Aside0 (Below w.heap.size w (((w4.setCell ⟨b6, 0, none⟩ (.int .i64 n)).setCell ⟨b6, 1, none⟩ (.slice A4 L4.length c4)).setCell ⟨b6, 2, none⟩ (.int .i64 lo4))) := ⟨((B4.out.setCell (p := ⟨b6, 0, none⟩) HG.out _).setCell (p := ⟨b6, 1, none⟩) HG.out _).setCell (p := ⟨b6, 2, none⟩) HG.out _⟩
            clear x0 x1 x2 q0 q1 q2 z0 z1 z2 D4 X4 Q4 B4
            generalize ((w4.setCell ⟨b6, 0, none⟩ (.int .i64 n)).setCell ⟨b6, 1, none⟩ (.slice A4 L4.length c4)).setCell ⟨b6, 2, none⟩ (.int .i64 lo4) = w5 at *
            have x0 : w5.cell? ⟨b6, 0, none⟩ = some (.int .i64 n) := (blk_cell X5.out 0).trans rfl
            have x1 : w5.cell? ⟨b6, 1, none⟩ = some (.slice A4 L4.length c4) := (blk_cell X5.out 1).trans rfl
            have x2 : w5.cell? ⟨b6, 2, none⟩ = some (.int .i64 lo4) := (blk_cell X5.out 2).trans rfl
            obtain ⟨SB, hBg⟩ : ∃ SB, Bag w5 SB g n L4 lo4 := by
              obtain ⟨⟨SB, _, h, _⟩, _⟩ := D5.out
              exact ⟨SB, h⟩
            have LC : Aside0 (∀ q, Calls Try.prog 11 #[.pointer (some ⟨g, 0, none⟩)] (w5.drewN q) fun e w' => e = .returned (.int .i64 L4.length) ∧ w' = w5.drewN q) := ⟨fun q => Len_calls (hBg.below (pw_below_drewN (Below.refl _ _) q))⟩
            have OC : Aside0 (∀ q, Calls Try.prog 12 #[.pointer (some ⟨g, 0, none⟩)] (w5.drewN q) fun e w' => e = .returned (.int .i64 lo4) ∧ w' = w5.drewN q) := ⟨fun q => Lost_calls (hBg.below (pw_below_drewN (Below.refl _ _) q))⟩
            have d1 : ((L4.length : Int) != (L4.length : Int)) = false := by simp
            have d2 : (lo4 != lo4) = false := by simp
            have d3 : (L4.length != L4.length) = false := by simp
            clear hBg
            go_quiet ((first | (go_at_call 11; exact quiet_of0 (LC.out _)) | (go_at_call 12; exact quiet_of0 (OC.out _))))
            have D6 := Aside0.mk (D5.out.below (pw_below_drewN (Below.refl _ _) nq))
            have X6 : Aside0 ((w5.drewN nq).heap[b6]? = some (.cells #[.int .i64 n, .slice A4 L4.length c4, .int .i64 lo4] tG (0, 0))) := ⟨X5.out⟩
            have B6 := Aside0.mk (below_step B5.out (pw_below_drewN (Below.refl w5.heap.size w5) nq))
            clear x0 x1 x2 d1 d2 d3 LC OC D5 X5 B5
            generalize w5.drewN nq = w6 at *
            have HL4 : Aside0 (L4.length ≤ 4096) := ⟨by
              obtain ⟨⟨SB, _, h, _⟩, _⟩ := D6.out
              have := h.ok.fit
              have := h.ok.n2
              omega⟩
            obtain ⟨go_, hgo⟩ : ∃ go_, go_ = gk := ⟨_, rfl⟩
            have GO := Aside0.mk hgo
            clear hgo
            go_wp2_with fail
            go_loopg [10] L4.length (fun kq v10 w' => ∃ (k : Nat), v10 = .int .i64 k ∧ k ≤ L4.length ∧ L4.length ≤ kq + k ∧ Aside0 (DS (fun k => k = b6) w w' g n L4 lo4 (.slice A4 L4.length c4)) ∧ Aside0 (w'.heap[b6]? = some (.cells #[.int .i64 n, .slice A4 L4.length c4, .int .i64 lo4] tG (0, 0))) ∧ Aside0 (Below w.heap.size w w'))
            case atStart => exact ⟨0, rfl, by omega, by omega, D6, X6, B6⟩
            case round =>
              clear D6 X6 B6
              obtain ⟨k, rfl, hk, hkk, D6, X6, B6⟩ := hrel
              have x1 : wr.cell? ⟨b6, 1, none⟩ = some (.slice A4 L4.length c4) := (blk_cell X6.out 1).trans rfl
              by_cases hkl : k < L4.length
              · have d1 : decide ((k : Int) < (L4.length : Int)) = true := decide_eq_true (by omega)
                have d2 : decide (k < L4.length) = true := decide_eq_true hkl
                obtain ⟨⟨SB, ok, hBg, hRg, _, _⟩, _⟩ := D6.out
                have LK := Look_calls hBg (k : Int)
                rw [(lk_at hkl).1, (lk_at hkl).2] at LK
                have hC := (Kd.R_reads' hRg).2.2
                rw [List.length_map] at hC
                obtain ⟨ad2, ea, c0, _⟩ := at_T48 hC (k : Int) (by omega) (by omega)
                cases ea
                have hrd : (rd_T48 (L4.map rt) (k : Int)).f0 = strOfNums (L4[k]).f0 := by
                  unfold rd_T48
                  rw [Int.toNat_natCast, List.getD_eq_getElem?_getD, List.getElem?_map, List.getElem?_eq_getElem hkl]
                  rfl
                rw [hrd, Int.toNat_natCast] at c0
                obtain ⟨y, hy⟩ : ∃ y, y = (L4[k]).f0 := ⟨_, rfl⟩
                rw [← hy] at c0 LK
                have LKA := Aside0.mk LK
                have C0 := Aside0.mk c0
                have HWK : Aside0 (wrap64 ((k : Int) + 1) = ((k + 1 : Nat) : Int)) := ⟨by have := HL4.out; rw [w64 (by omega) (by omega)]; simp⟩
                have p1 : (0 ≤ (k : Int)) = True := eq_true (by omega)
                have p2 : ((k : Int) < (L4.length : Int)) = True := eq_true (by omega)
                clear hBg hRg hC hrd hy LK c0
                go_wp2_with fail
                refine LKA.out.mono ?_
                rintro e w7 ⟨v, rfl, ho, hb⟩
                obtain ⟨A7, c7, rfl⟩ := Kd.R_slice ho
                have D7 := Aside0.mk (D6.out.below hb)
                have X7 := Aside0.mk (blk_below X6.out hb)
                have B7 := Aside0.mk (below_step B6.out hb)
                have y1 : w7.cell? ⟨b6, 1, none⟩ = some (.slice (some ad2) L4.length c4) := (blk_cell X7.out 1).trans rfl
                have y2 : w7.cell? (ad2.add (k * 2)) = some (.string (strOfNums y)) := (hb.cell (World.block_lt_of_cell? wr _ C0.out)).trans C0.out
                have sy : ∀ q, (convert 24 9 (.slice A7 y.length c7)).run Try.prog (w7.drewN q) = .ok (.string (strOfNums y)) (w7.drewN q) := fun q => str_run (Kd.C_drewN (Kd.R_reads' ho).2.2 q)
                clear ho hb x1 LKA
                go_wp2_with fail
                go_quiet (fail)
                have D8 := Aside0.mk (D7.out.below (pw_below_drewN (Below.refl _ _) nq))
                have X8 : Aside0 ((w7.drewN nq).heap[b6]? = some (.cells #[.int .i64 n, .slice (some ad2) L4.length c4, .int .i64 lo4] tG (0, 0))) := ⟨X7.out⟩
                have B8 := Aside0.mk (below_step B7.out (pw_below_drewN (Below.refl w7.heap.size w7) nq))
                clear y1 y2 sy
                have hwk := HWK.out
                go_wp2_with fail
                clear hwk
                go_roundg (gk - 1)
                case measure => omega
                case rel => exact ⟨k + 1, by first | rw [HWK.out] | rfl, by omega, by omega, D8, X8, B8⟩
              · have d1 : decide ((k : Int) < (L4.length : Int)) = false := decide_eq_false (by omega)
                have d2 : decide (k < L4.length) = false := decide_eq_false hkl
                have hwi := HWI.out
                go_wp2_with fail
                clear hwi
                go_roundg (go_ - 1)
                case measure => have := GO.out; omega
                case rel => exact ⟨i + 1, L4, lo4, A4, c4, by rfl, by omega, by have := GO.out; omega, by omega, D6, X6, B6⟩
      · have hlt' : decide ((i : Int) < l1.length) = false := decide_eq_false (by omega)
        have hlt2 : decide (i < l1.length) = false := decide_eq_false hlt
        clear KW XW
        go_wp2_with fail
        refine (awake_calls _).mono ?_
        rintro e w3 ⟨rfl, hb⟩
        have B3 := Aside0.mk (below_step BW.out hb)
        clear hb
        go_wp2_with fail
        go_ret
        exact ⟨rfl, B3.out⟩

end Go.Proofs.Ytemgfogpeogdeaa.Walk
