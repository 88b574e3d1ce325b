/- Nothing that is known falls. Conditions: none beyond the statement's own. -/
import Derived.Test.YtahdbiddpphepaaWalkR
import Derived.Test.YtahdbiddpphepaaArgs
import Derived.Deep.QuietTactic
import Derived.BigQuiet
import Derived.Lib.QuietBelow
import Derived.Outline
import Derived.Deep.RegionHeld3
import Derived.Deep.CutRange
namespace Go.Proofs.Ytahdbiddpphepaa.Walk
open Go.RowKit Go.Proofs.Ytahdbiddpphepaa.F Go.Proofs.YtahdbiddpphepaaW.PrintWords Go.Proofs.YtahdbiddpphepaaW.PrintLast Go.Proofs.YtahdbiddpphepaaW.PrintMore Go.Proofs.Ytahdbiddpphepaa.Open
open Go.Sort (grow)
attribute [local go_sem] max2_int min2_int max_two min_two max_three min_three max_four min_four
set_option linter.unusedVariables false
set_option linter.unusedSimpArgs false

set_option maxRecDepth 4000 in
set_option maxHeartbeats 8000000 in
theorem MatrixRises (n : Int) (A1 : Option Addr) (c1 : Nat) (l1 : List Ac) (w : World) (hr : Kd.C kAc w A1 l1.length l1) (hc : l1.length ≤ c1) (_ : (Lit.int .i64 n).wf = true) (hw : l1.length ≤ maxLen ∧ ∀ x ∈ l1, wf29 x) :
    Calls Try.prog 4 #[.int .i64 n, .slice A1 l1.length c1] w fun e w' => e = .returned (.bool true) ∧ Below w.heap.size w w' := by
  have HR := Aside0.mk hr
  have HW := Aside0.mk hw.2
  have AW : Aside0 (∀ W, Calls Try.prog 8 #[] W fun e w' => e = .returned (.bool true) ∧ Below W.heap.size W w') := ⟨awake_calls⟩
  clear hr hw
  by_cases hl : l1.length ≤ 100
  · have hlz : ¬ ((l1.length : Int) > 100) := by omega
    have hlz2 : decide ((l1.length : Int) > 100) = false := decide_eq_false hlz
    by_cases hn : n ≤ 20
    · have hnz : ¬ (n > 20) := by omega
      have hnz2 : decide (n > 20) = false := decide_eq_false hnz
      have hmx : (if n > 1 then n else 1) = (nn n : Int) := by
        unfold nn
        rw [if_neg (show ¬ 64 < n by omega)]
        by_cases h : n > 1
        · rw [if_pos h, if_pos (show 1 < n from h)]
          omega
        · rw [if_neg h, if_neg (show ¬ 1 < n from h)]
          rfl
      go_enter Try.func4, Try.ntmps4
      go_wp2_with fail
      refine (New_calls n w).mono ?_
      rintro e w1 ⟨ga, ra, ca, rfl, hM1, hb1⟩
      have M1 := Aside0.mk (MS.make hM1 hb1)
      clear hM1 hb1
      go_wp2_with fail
      refine (M1.out.stable).mono ?_
      rintro e w2 ⟨As, cs, rfl, h⟩
      have M2 := Aside0.mk h
      clear h M1
      go_wp2_with fail
      refine (M2.out.most).mono ?_
      rintro e w3 ⟨Am, cm, rfl, h⟩
      have M3 := Aside0.mk h
      clear h M2
      go_wp2_with fail
      refine (M3.out.least).mono ?_
      rintro e w4 ⟨rfl, h⟩
      have M4 := Aside0.mk h
      clear h M3
      go_wp2_with fail
      go_loopg [6, 7, 8, 9, 10] l1.length (fun gg s6 s7 s8 s9 s10 wr => ∃ i : Nat, s10 = .int .i64 i ∧ i ≤ l1.length ∧ l1.length - i ≤ gg ∧ ∃ L As cs Am cm, s6 = .int .i64 (left L).length ∧ 1 ≤ (left L).length ∧ s7 = .slice As (stable L).length cs ∧ s8 = .slice Am (most L).length cm ∧ s9 = .int .u64 (least L) ∧ Aside0 (MS w wr ga ra ca L [(Am, cm, most L), (As, cs, stable L)] []))
      case atStart => exact ⟨0, rfl, Nat.zero_le _, by omega, newL (nn n), As, cs, Am, cm, by rw [left_new], by rw [left_new]; exact (nn_ok n).1, rfl, rfl, rfl, M4⟩
      case round =>
        clear M4
        obtain ⟨i, rfl, hi, hgg, L, As, cs, Am, cm, rfl, hpos, rfl, rfl, rfl, MR⟩ := hrel
        by_cases hlt : i < l1.length
        · have hltz : (i : Int) < (l1.length : Int) := by omega
          have HX : Aside0 (l1[i]? = some l1[i]) := ⟨List.getElem?_eq_getElem hlt⟩
          have WX := Aside0.mk (act_wf (HW.out _ (List.mem_of_getElem? HX.out)))
          obtain ⟨ad, A3, c3, A4, c4, e, ⟨k0, k1, k2, k3, k4⟩, l3, g3, l4, g4⟩ := act_at HR.out HX.out
          cases e
          generalize l1[i] = x at HX WX k0 k1 k2 k3 k4 l3 g3 l4 g4
          have G3 := Aside0.mk g3
          have G4 := Aside0.mk g4
          have BR := Aside0.mk MR.out.below
          have k0 := pw_cell_below BR.out k0
          have k1 := pw_cell_below BR.out k1
          have k2 := pw_cell_below BR.out k2
          have k3 := pw_cell_below BR.out k3
          have k4 := pw_cell_below BR.out k4
          clear g3 g4
          have hwi : IntKind.i64.wrap ((i : Int) + 1) = ((i + 1 : Nat) : Int) := by rw [IntKind.wrap_i64]; omega
          go_upto_region 9 with (fail)
          go_cut [11] (fun v8 w' => ∃ b8 : Nat, v8 = .pointer (some ⟨b8, 0, none⟩) ∧ Aside0 (w'.heap[b8]? = some (.cells #[.bool x.f0, .int .i64 x.f1, .int .u64 x.f2, .slice A3 x.f3.length c3, .slice A4 x.f4.length c4] tAc (0, 0))) ∧ wr.heap.size ≤ b8 ∧ Aside0 (Below wr.heap.size wr w'))
          case first =>
            go_wp2_with fail
            go_meet
            case rel => exact ⟨wr.heap.size, rfl, ⟨blk_new wr (.cells #[.bool x.f0, .int .i64 x.f1, .int .u64 x.f2, .slice A3 x.f3.length c3, .slice A4 x.f4.length c4] tAc)⟩, Nat.le_refl _, ⟨below_alloc (Below.refl _ _) _⟩⟩
          case rest =>
            clear k0 k1 k2 k3 k4
            obtain ⟨b8, rfl, X8, hb8, BC⟩ := hcut
            have TC := Aside0.mk (MR.out.put BC.out hb8 X8.out)
            have x0 : wc.cell? ⟨b8, 0, none⟩ = some (.bool x.f0) := (blk_cell X8.out 0).trans rfl
            have x1 : wc.cell? ⟨b8, 1, none⟩ = some (.int .i64 x.f1) := (blk_cell X8.out 1).trans rfl
            have x2 : wc.cell? ⟨b8, 2, none⟩ = some (.int .u64 x.f2) := (blk_cell X8.out 2).trans rfl
            have x3 : wc.cell? ⟨b8, 3, none⟩ = some (.slice A3 x.f3.length c3) := (blk_cell X8.out 3).trans rfl
            have x4 : wc.cell? ⟨b8, 4, none⟩ = some (.slice A4 x.f4.length c4) := (blk_cell X8.out 4).trans rfl
            have GX := Aside0.mk (unisonlaw18_great.calls x.f0 x.f1 x.f2 A3 c3 x.f3 A4 c4 x.f4 (grt x) wc (Kd.C_below G3.out TC.out.below) l3 (Kd.C_below G4.out TC.out.below) l4 (great_f x))
            clear MR BR
            go_wp2_with fail
            refine GX.out.mono ?_
            rintro e w3 ⟨rfl, hb3⟩
            have T3 := Aside0.mk (TC.out.step hb3)
            clear hb3 GX TC X8 BC x0 x1 x2 x3 x4 hb8
            obtain ⟨rx, hrx⟩ : ∃ rx, grt x = rx := ⟨_, rfl⟩
            rw [hrx]
            cases rx with
            | true =>
              clear hrx
              go_wp2_with fail
              refine (AW.out _).mono ?_
              rintro e w4 ⟨rfl, hb⟩
              have B4 := Aside0.mk (below_step T3.out.below hb)
              clear hb
              go_wp2_with fail
              go_ret
              exact ⟨rfl, B4.out⟩
            | false =>
              have LX := Aside0.mk (grt_le hrx)
              clear hrx
              have x1 : w3.cell? ⟨b8, 1, none⟩ = some (.int .i64 x.f1) := (blk_cell (T3.out.blk List.mem_cons_self) 1).trans rfl
              go_wp2_with fail
              have TD := Aside0.mk (T3.out.step (below_drew (Below.refl _ _)))
              go_region_held3 (fun w' => w'.cell? ⟨b8, 1, none⟩ = some (.int .i64 x.f1)) (go_keep)
                ((first
                  | (go_at_call 17; refine (TD.out.inst x.f1).mono ?_; rintro e w4 ⟨rfl, h4⟩; obtain rfl := h4)
                  | (go_at_call 18; refine (TD.out.done x.f1).mono ?_; rintro e w4 ⟨Ad, cd, rfl, h⟩; have T4 := Aside0.mk h; clear h; have xa : w4.cell? ⟨b8, 1, none⟩ = some (.int .i64 x.f1) := (blk_cell (T4.out.blk List.mem_cons_self) 1).trans rfl)
                  | (go_at_call 19; refine (T4.out.held x.f1).mono ?_; rintro e w5 ⟨Ah, ch, rfl, h⟩; have T5 := Aside0.mk h; clear h; have xb : w5.cell? ⟨b8, 1, none⟩ = some (.int .i64 x.f1) := (blk_cell (T5.out.blk List.mem_cons_self) 1).trans rfl)))
              clear xa x1 T3 TD T4
              have x0 : w5.cell? ⟨b8, 0, none⟩ = some (.bool x.f0) := (blk_cell (T5.out.blk List.mem_cons_self) 0).trans rfl
              go_upto_if 61 with (fail)
              clear x0 xb
              go_cut [6] (fun v6 w' => ∃ L' : List X, v6 = .int .i64 (left L').length ∧ Aside0 (L' = actL L x) ∧ Aside0 (MS w w' ga ra ca L' [(Ah, ch, heldOf L x.f1), (Ad, cd, doneOf L x.f1), (Am, cm, most L), (As, cs, stable L)] [(b8, tAc, #[.bool x.f0, .int .i64 x.f1, .int .u64 x.f2, .slice A3 x.f3.length c3, .slice A4 x.f4.length c4])]))
              case first =>
                have x1 : w5.cell? ⟨b8, 1, none⟩ = some (.int .i64 x.f1) := (blk_cell (T5.out.blk List.mem_cons_self) 1).trans rfl
                obtain ⟨gx, hgx⟩ : ∃ gx, x.f0 = gx := ⟨_, rfl⟩
                rw [hgx]
                cases gx with
                | true =>
                  have EA := Aside0.mk (act_gone hgx L)
                  have EW : IntKind.i64.wrap (((left L).length : Int) - goneK L x.f1) = ((left (goneL L x.f1)).length : Int) := by
                    have h1 := left_gone L x.f1
                    have h2 := T5.out.mok.n2
                    have h3 := left_len L
                    have h4 := left_len (goneL L x.f1)
                    rw [← act_gone hgx, act_len] at h4
                    rw [← act_gone hgx] at h1
                    rw [← act_gone hgx, ← h1, IntKind.wrap_i64]
                    omega
                  have GC := Aside0.mk (T5.out.gone x.f1)
                  clear hgx
                  go_wp2_with fail
                  refine GC.out.mono ?_
                  rintro e w6 ⟨rfl, h6⟩
                  have T6 := Aside0.mk h6
                  clear h6 GC x1
                  go_wp2_with fail
                  go_meet
                  case rel => exact ⟨goneL L x.f1, rfl, ⟨EA.out.symm⟩, T6⟩
                | false =>
                  have x2 : w5.cell? ⟨b8, 2, none⟩ = some (.int .u64 x.f2) := (blk_cell (T5.out.blk List.mem_cons_self) 2).trans rfl
                  have x3 : w5.cell? ⟨b8, 3, none⟩ = some (.slice A3 x.f3.length c3) := (blk_cell (T5.out.blk List.mem_cons_self) 3).trans rfl
                  have x4 : w5.cell? ⟨b8, 4, none⟩ = some (.slice A4 x.f4.length c4) := (blk_cell (T5.out.blk List.mem_cons_self) 4).trans rfl
                  have EA := Aside0.mk (act_tell hgx L)
                  have EN := Aside0.mk (left_tell L x.f1 x.f2 x.f3 x.f4)
                  have GC := Aside0.mk (T5.out.tell x.f1 x.f2 G3.out G4.out l3 l4 LX.out.1 LX.out.2 WX.out.1 WX.out.2.1 WX.out.2.2)
                  clear hgx
                  go_wp2_with fail
                  refine GC.out.mono ?_
                  rintro e w6 ⟨rfl, h6⟩
                  have T6 := Aside0.mk h6
                  clear h6 GC x1 x2 x3 x4
                  go_wp2_with fail
                  go_meet
                  case rel => exact ⟨tellL L x.f1 x.f2 x.f3 x.f4, by rw [EN.out], ⟨EA.out.symm⟩, T6⟩
              case rest =>
                have OKL := Aside0.mk T5.out.mok
                clear T5 G3 G4 l3 l4 LX WX
                obtain ⟨L', rfl, EL, T6⟩ := hcut
                have T6L := Aside0.mk T6.out.mok.n2
                by_cases hz : (left L').length = 0
                · have E0 : ((left L').length : Int) = 0 := by omega
                  have EM := Aside0.mk (least_none hz)
                  have ES := Aside0.mk (stable_none hz)
                  rw [E0]
                  clear E0 hz
                  go_wp2_with fail
                  refine (T6.out.least).mono ?_
                  rintro e w7 ⟨rfl, h⟩
                  have T7 := Aside0.mk h
                  clear h T6
                  rw [EM.out]
                  go_wp2_with fail
                  refine (T7.out.stable).mono ?_
                  rintro e w8 ⟨A8, c8, rfl, h⟩
                  have T8 := Aside0.mk h
                  clear h T7
                  have SM : Aside0 (∀ W A c b, Kd.C kU W A (stable L').length (stable L') → (stable L').length ≤ c → Calls Try.prog 20 #[.slice A (stable L').length c, .slice (some b) 0 0] W fun e w' => e = .returned (.bool true) ∧ Below W.heap.size W w') := ⟨fun W A c b h1 h2 => (unisonref04_Same.calls 1000 A c (stable L') (some b) 0 [] true W h1 h2 ⟨rfl, by decide, fun h => absurd h (by decide)⟩ (Nat.le_refl _) (same_f (fun i hi => absurd hi (by simp)) (by
                    intro i hi
                    rw [ES.out, rd_over (l := []) (by simp)]
                    exact rd_zero _ _) (by rw [ES.out]; simp; have := T6L.out; omega) (by simp) (by rw [ES.out]; simp; have := T6L.out; omega) (by simp))).mono fun e w' ⟨he, hd⟩ => ⟨he, hd.below⟩⟩
                  go_wp2_with fail
                  refine (SM.out _ A8 c8 _ (Kd.C_below (T8.out.C List.mem_cons_self).2 (below_alloc (Below.refl _ _) _)) (T8.out.C List.mem_cons_self).1).mono ?_
                  rintro e w9 ⟨rfl, hb⟩
                  have B9 := Aside0.mk (below_step (below_alloc T8.out.below _) hb)
                  clear hb T8 SM
                  go_wp2_with fail
                  refine (AW.out _).mono ?_
                  rintro e w10 ⟨rfl, hb⟩
                  have B10 := Aside0.mk (below_step B9.out hb)
                  clear hb
                  go_wp2_with fail
                  go_ret
                  exact ⟨rfl, B10.out⟩
                · have hz1 : 1 ≤ (left L').length := by omega
                  have hz2 : ¬ ((left L').length : Int) < 1 := by omega
                  have hlz3 : 0 < (left (actL L x)).length := by rw [← EL.out]; omega
                  have hI : ¬ (instOf L' x.f1 < instOf L x.f1) := by have := inst_mono L x x.f1; rw [← EL.out] at this; omega
                  have hI2 : decide (instOf L' x.f1 < instOf L x.f1) = false := decide_eq_false hI
                  have hJ : ¬ (least L' < least L) := by have := least_mono hlz3; rw [← EL.out] at this; omega
                  have hJ2 : decide (least L' < least L) = false := decide_eq_false hJ
                  have DM : Aside0 (covv (doneOf L' x.f1) (doneOf L x.f1)) := ⟨by rw [EL.out]; exact done_mono L x x.f1⟩
                  have HM : Aside0 (covv (heldOf L' x.f1) (heldOf L x.f1)) := ⟨by rw [EL.out]; exact held_mono L x x.f1⟩
                  have SM : Aside0 (covv (stable L') (stable L)) := ⟨by rw [EL.out]; exact stable_mono hlz3⟩
                  have MM : Aside0 (covv (most L') (most L)) := ⟨by rw [EL.out]; exact most_mono OKL.out x⟩
                  have DL : Aside0 ((doneOf L x.f1).length ≤ 100) := ⟨by have := doneOf_len OKL.out x.f1; omega⟩
                  have HL : Aside0 ((heldOf L x.f1).length ≤ 100) := ⟨by have := heldOf_len OKL.out x.f1; omega⟩
                  have SL : Aside0 ((stable L).length ≤ 100) := ⟨by have := stable_len OKL.out; omega⟩
                  have ML : Aside0 ((most L).length ≤ 100) := ⟨by have := most_len OKL.out; omega⟩
                  clear hz hlz3
                  go_wp2_with fail
                  refine (T6.out.stable).mono ?_
                  rintro e w7 ⟨A7, c7, rfl, h⟩
                  have T7 := Aside0.mk h
                  clear h T6
                  go_wp2_with fail
                  refine (T7.out.most).mono ?_
                  rintro e w8 ⟨A8, c8, rfl, h⟩
                  have T8 := Aside0.mk h
                  clear h T7
                  have x1 : w8.cell? ⟨b8, 1, none⟩ = some (.int .i64 x.f1) := (blk_cell (T8.out.blk List.mem_cons_self) 1).trans rfl
                  go_wp2_with fail
                  refine (T8.out.inst x.f1).mono ?_
                  rintro e w9 ⟨rfl, h⟩
                  have h := h.symm
                  subst h
                  go_wp2_with fail
                  refine (T8.out.done x.f1).mono ?_
                  rintro e w9 ⟨A9, c9, rfl, h⟩
                  have T9 := Aside0.mk h
                  clear h T8 x1
                  go_wp2_with fail
                  refine (T9.out.covers (a := doneOf L' x.f1) (b := doneOf L x.f1) (A := A9) (c := c9) (B := Ad) (d := cd) (by simp) (by simp) DM.out DL.out).mono ?_
                  rintro e w10 ⟨rfl, h⟩
                  have T10 := Aside0.mk h
                  clear h T9
                  have x1 : w10.cell? ⟨b8, 1, none⟩ = some (.int .i64 x.f1) := (blk_cell (T10.out.blk List.mem_cons_self) 1).trans rfl
                  go_wp2_with fail
                  refine (T10.out.held x.f1).mono ?_
                  rintro e w11 ⟨A11, c11, rfl, h⟩
                  have T11 := Aside0.mk h
                  clear h T10 x1
                  go_wp2_with fail
                  refine (T11.out.covers (a := heldOf L' x.f1) (b := heldOf L x.f1) (A := A11) (c := c11) (B := Ah) (d := ch) (by simp) (by simp) HM.out HL.out).mono ?_
                  rintro e w12 ⟨rfl, h⟩
                  have T12 := Aside0.mk h
                  clear h T11
                  go_wp2_with fail
                  refine (T12.out.covers (a := stable L') (b := stable L) (A := A7) (c := c7) (B := As) (d := cs) (by simp) (by simp) SM.out SL.out).mono ?_
                  rintro e w13 ⟨rfl, h⟩
                  have T13 := Aside0.mk h
                  clear h T12
                  go_wp2_with fail
                  refine (T13.out.covers (a := most L') (b := most L) (A := A8) (c := c8) (B := Am) (d := cm) (by simp) (by simp) MM.out ML.out).mono ?_
                  rintro e w14 ⟨rfl, h⟩
                  have T14 := Aside0.mk h
                  clear h T13
                  go_wp2_with fail
                  refine (T14.out.least).mono ?_
                  rintro e w15 ⟨rfl, h⟩
                  have T15 := Aside0.mk h
                  clear h T14
                  go_wp2_with fail
                  refine (T15.out.least).mono ?_
                  rintro e w16 ⟨rfl, h⟩
                  have T16 := Aside0.mk h
                  clear h T15
                  go_wp2_with fail
                  have T17 : Aside0 (MS w w16 ga ra ca L' [(A8, c8, most L'), (A7, c7, stable L')] []) := ⟨T16.out.sub (fun p hp => by
                    rcases List.mem_cons.1 hp with rfl | hp
                    · simp
                    · rcases List.mem_cons.1 hp with rfl | hp
                      · simp
                      · cases hp) (fun q hq => by cases hq)⟩
                  clear T16
                  go_roundg (l1.length - (i + 1))
                  case measure => omega
                  case rel => exact ⟨i + 1, by go_num, by omega, by omega, L', A7, c7, A8, c8, rfl, hz1, rfl, rfl, rfl, T17⟩
        · obtain rfl : i = l1.length := by omega
          have hltz : ¬ (l1.length : Int) < (l1.length : Int) := by omega
          go_wp2_with fail
          refine (AW.out _).mono ?_
          rintro e w11 ⟨rfl, hb⟩
          have B11 := Aside0.mk (below_step MR.out.below hb)
          clear hb MR
          go_wp2_with fail
          go_ret
          exact ⟨rfl, B11.out⟩
    · have hnz : (n > 20) := by omega
      have hnz2 : decide (n > 20) = true := decide_eq_true hnz
      go_enter Try.func4, Try.ntmps4
      go_wp2_with fail
      refine (AW.out _).mono ?_
      rintro e w1 ⟨rfl, hb⟩
      have B1 := Aside0.mk hb
      clear hb
      go_wp2_with fail
      go_ret
      exact ⟨rfl, B1.out⟩
  · have hlz : ((l1.length : Int) > 100) := by omega
    have hlz2 : decide ((l1.length : Int) > 100) = true := decide_eq_true hlz
    go_enter Try.func4, Try.ntmps4
    go_wp2_with fail
    refine (AW.out _).mono ?_
    rintro e w1 ⟨rfl, hb⟩
    have B1 := Aside0.mk hb
    clear hb
    go_wp2_with fail
    go_ret
    exact ⟨rfl, B1.out⟩

end Go.Proofs.Ytahdbiddpphepaa.Walk
