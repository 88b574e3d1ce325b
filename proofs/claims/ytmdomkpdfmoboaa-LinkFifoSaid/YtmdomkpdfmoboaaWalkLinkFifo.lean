/- What one side lets in is a front of what the other side sent, each once, in order. Conditions: none beyond the statement's own. -/
import Derived.Test.YtmdomkpdfmoboaaWalkFifoL
import Derived.Test.YtmdomkpdfmoboaaArgs
import Derived.Deep.QuietTactic
import Derived.BigQuiet
import Derived.Lib.QuietBelow
import Derived.Outline
import Derived.Deep.RegionHeld3
import Derived.Deep.CutRange
namespace Go.Proofs.Ytmdomkpdfmoboaa.Walk
open Go.RowKit Go.Proofs.Ytmdomkpdfmoboaa.F Go.Proofs.YtmdomkpdfmoboaaW.PrintWords Go.Proofs.YtmdomkpdfmoboaaW.PrintLast Go.Proofs.YtmdomkpdfmoboaaW.PrintMore Go.Proofs.Ytmdomkpdfmoboaa.Open
open Go.Sort (grow)
attribute [local go_sem] max2_int min2_int max_two min_two max_three min_three max_four min_four
set_option linter.unusedVariables false
set_option linter.unusedSimpArgs false

/-! ### The law: what comes is a front of what was sent -/
theorem emptyR (W : World) (base : Nat) (ok : Nat → Prop) (hb : base ≤ W.heap.size) (hk : ok W.heap.size) : Kd.R kF eF (W.alloc (.cells #[] eF)) base ok (.slice (some ⟨W.heap.size, 0, none⟩) 0 0) [] := by
  refine ⟨fun k h => ?_, OwnRow.lit W base (Reps.none _ _) hb (by simp)⟩
  have : W.heap.size = k := by simpa [Value.ownBlock] using h
  exact this ▸ hk
set_option maxHeartbeats 8000000 in
set_option maxRecDepth 100000 in
theorem LinkFifo (a0 a1 : Int) (A2 : Option Addr) (c2 : Nat) (l2 : List S28) (w : World) (hr2 : Kd.C k28 w A2 l2.length l2) (hc2 : l2.length ≤ c2)
    (w0 : (Lit.int .i64 a0).wf = true) (w1 : (Lit.int .i64 a1).wf = true) (w2 : l2.length ≤ maxLen ∧ ∀ x ∈ l2, ((Lit.int .u8 x.f0).wf = true ∧ (Lit.int .i64 x.f1).wf = true ∧ True ∧ True ∧ True)) :
    Calls Try.prog 5 #[.int .i64 a0, .int .i64 a1, .slice A2 l2.length c2] w fun e w' => e = .returned (.bool true) ∧ Below w.heap.size w w' := by
  have HR := Aside0.mk hr2
  have HN : Aside0 (∀ x ∈ l2, 0 ≤ x.f0 ∧ x.f0 ≤ 255 ∧ -9223372036854775808 ≤ x.f1 ∧ x.f1 ≤ 9223372036854775807) := ⟨fun x hx => by
    obtain ⟨h1, h2, _⟩ := w2.2 x hx
    simp [Lit.wf, IntKind.min, IntKind.max, IntKind.signed, IntKind.bits] at h1 h2
    omega⟩
  clear w0 w1 w2 hr2 hc2
  by_cases hl : (150 : Int) < l2.length
  · have hl' : decide ((150 : Int) < l2.length) = true := decide_eq_true hl
    go_enter Try.func5, Try.ntmps5
    go_wp2_with fail
    refine (awake_calls _).mono ?_
    rintro e w1 ⟨rfl, hb⟩
    have B1 := Aside0.mk hb
    clear hb
    go_wp2_with fail
    go_ret
    exact ⟨rfl, B1.out⟩
  · have hl' : decide ((150 : Int) < l2.length) = false := decide_eq_false hl
    go_enter Try.func5, Try.ntmps5
    go_wp2_with fail
    refine (LNew_calls 0 1 a0 a1 _ ⟨by decide, by decide⟩ ⟨by decide, by decide⟩).mono ?_
    rintro e w1 ⟨ga, rfl, hge, hL, hb⟩
    obtain ⟨gwa, gga, hL⟩ := hL
    have L1 := Aside0.mk hL
    have B1 := Aside0.mk hb
    clear hge hL hb
    go_wp2_with fail
    refine (LNew_calls 1 0 a0 a1 _ ⟨by decide, by decide⟩ ⟨by decide, by decide⟩).mono ?_
    rintro e w2 ⟨gb, rfl, hge, hL, hb⟩
    obtain ⟨gwb, ggb, hL⟩ := hL
    have L2 := Aside0.mk hL
    have B2 := Aside0.mk hb
    clear hge hL hb
    have G0 : Aside0 (FW w ((w2.alloc (.cells #[] eF)).alloc (.cells #[] eF)) ga gwa gga gb gwb ggb 0 0 (.slice (some ⟨w2.heap.size, 0, none⟩) 0 0) (.slice (some ⟨w2.heap.size + 1, 0, none⟩) 0 0) [] [] []) := ⟨by
      have h4 := F4_start L1.out B1.out L2.out B2.out
      have hs1 := B1.out.size
      have hs2 := B2.out.size
      have h5 := h4.reF (below_alloc (Below.refl _ _) (.cells #[] eF)) (emptyR w2 w.heap.size _ (by omega) (owns_new (Nat.le_refl _)))
      have h6 := h5.reK (below_alloc (Below.refl _ _) (.cells #[] eF)) (emptyR (w2.alloc (.cells #[] eF)) w.heap.size _ (by simp; omega) (owns_new (Nat.le_refl _)))
      have e : (w2.alloc (.cells #[] eF)).heap.size = w2.heap.size + 1 := by simp
      rw [e] at h6
      exact ⟨⟨_, _, _, h6, ⟨rfl, rfl, rfl, rfl, rfl, rfl, rfl, rfl, Int.le_refl _, Int.le_refl _, fun x hx => absurd hx List.not_mem_nil⟩⟩, fun x hx => absurd hx List.not_mem_nil, fun x hx => absurd hx List.not_mem_nil⟩⟩
    clear L1 L2 B1 B2
    go_wp2_with fail
    have L150 : l2.length ≤ 150 := by omega
    go_loopg [9, 10, 11, 12, 13] l2.length (fun kq v9 v10 v11 v12 v13 w' => ∃ (j : Nat) (sent lt : Int) (A : Option Addr) (c : Nat) (F : List Fr) (B : Option Addr) (d : Nat) (K : List Fr), v9 = .slice A F.length c ∧ v10 = .slice B K.length d ∧ v11 = .int .u32 sent ∧ v12 = .int .u32 lt ∧ v13 = .int .i64 j ∧ j ≤ l2.length ∧ l2.length ≤ kq + j ∧ Aside0 (sent ≤ 3 * j ∧ F.length ≤ 64 * j ∧ K.length ≤ 64 * j) ∧ Aside0 (FW w w' ga gwa gga gb gwb ggb sent lt (.slice A F.length c) (.slice B K.length d) F K []))
    case atStart => exact ⟨0, 0, 0, _, _, [], _, _, [], rfl, rfl, rfl, rfl, rfl, by omega, by omega, ⟨by simp⟩, G0⟩
    case round =>
      clear G0
      obtain ⟨j, sent, lt, A, c, F, B, d, K, rfl, rfl, rfl, rfl, rfl, hj, hkj, SZ, G⟩ := hrel
      by_cases hlt : j < l2.length
      · have hlt' : decide ((j : Int) < l2.length) = true := decide_eq_true (by omega)
        have p_ : (0 ≤ (j : Int)) = True := eq_true (by omega)
        have q_ : ((j : Int) < (l2.length : Int)) = True := eq_true (by omega)
        obtain ⟨ad, ead, x0, x1, x2, x3, x4⟩ := at_T28 HR.out (j : Int) (by omega) (by omega)
        simp only [Int.toNat_natCast] at x0 x1 x2 x3 x4
        cases ead
        have hm : rd_T28 l2 (j : Int) ∈ l2 := by simp [rd_T28, List.getD, hlt]
        have HX := Aside0.mk (HN.out _ hm)
        clear hm
        generalize rd_T28 l2 (j : Int) = x at *
        obtain ⟨p0, p1, p2, p3, p4⟩ := x
        dsimp only at x0 x1 x2 x3 x4 HX
        have x0 := pw_cell_below G.out.below x0
        have x1 := pw_cell_below G.out.below x1
        have x2 := pw_cell_below G.out.below x2
        have x3 := pw_cell_below G.out.below x3
        have x4 := pw_cell_below G.out.below x4
        obtain ⟨go_, GO⟩ : ∃ q, Aside0 (q = gk) := ⟨_, ⟨rfl⟩⟩
        go_wp2_with fail
        obtain ⟨pb, hpb⟩ : ∃ q, q = wr.heap.size := ⟨_, rfl⟩
        have G1 : Aside0 (FW w (wr.alloc (.cells #[.int .u8 p0, .int .i64 p1, .bool p2, .bool p3, .bool p4] 28)) ga gwa gga gb gwb ggb sent lt (.slice A F.length c) (.slice B K.length d) F K [(pb, .cells #[.int .u8 p0, .int .i64 p1, .bool p2, .bool p3, .bool p4] 28 (0, 0))]) := ⟨by rw [hpb]; exact G.out.addX _ (blk_new wr _)⟩
        rw [← hpb]
        clear G hpb x0 x1 x2 x3 x4
        generalize wr.alloc (.cells #[.int .u8 p0, .int .i64 p1, .bool p2, .bool p3, .bool p4] 28) = wr1 at *
        go_loopg [11, 15] 3 (fun kq v11 v15 w' => ∃ (k : Nat) (sn : Int), v11 = .int .u32 sn ∧ v15 = .int .u8 k ∧ (k : Int) ≤ p0 % 4 ∧ 3 ≤ kq + k ∧ Aside0 (sn ≤ 3 * j + k) ∧ Aside0 (FW w w' ga gwa gga gb gwb ggb sn lt (.slice A F.length c) (.slice B K.length d) F K [(pb, .cells #[.int .u8 p0, .int .i64 p1, .bool p2, .bool p3, .bool p4] 28 (0, 0))]))
        case atStart => exact ⟨0, sent, rfl, rfl, by have := HX.out.1; omega, by omega, ⟨by have := SZ.out.1; simp; omega⟩, G1⟩
        case round =>
          clear G1
          obtain ⟨k, sn, rfl, rfl, hk, hkq, SN, G⟩ := hrel
          have y0 : wr.cell? ⟨pb, 0, none⟩ = some (.int .u8 p0) := (blk_cell (G.out.getX List.mem_cons_self) 0).trans rfl
          have hx0 := HX.out.1
          have hx255 := HX.out.2.1
          by_cases hks : (k : Int) < p0 % 4
          · have hks' : decide ((k : Int) < p0 % 4) = true := decide_eq_true hks
            have u2 : IntKind.u8.wrap ((k : Int) + 1) = k + 1 := by simp [IntKind.wrap, IntKind.signed, IntKind.bits]; omega
            have hn0 := G.out.num
            have hn1 := SN.out
            have SD := Aside0.mk (FW_Send sn rfl G.out (by omega))
            go_wp2_with fail
            refine SD.out.mono ?_
            clear SD y0
            rintro e w4 ⟨q, rfl, hq, h⟩
            have w1_ : IntKind.u32.wrap (q : Int) = q := by simp [IntKind.wrap, IntKind.signed, IntKind.bits]; omega
            have w2_ : IntKind.u32.wrap (sn + (q : Int)) = sn + q := by simp [IntKind.wrap, IntKind.signed, IntKind.bits]; omega
            have G4 := Aside0.mk h
            clear h G
            go_wp2_with fail
            go_roundg (gk - 1)
            case measure => omega
            case rel => exact ⟨k + 1, _, rfl, by simp, by omega, by omega, ⟨by simp; omega⟩, G4⟩
          · have hks' : decide ((k : Int) < p0 % 4) = false := decide_eq_false hks
            have y4 : wr.cell? ⟨pb, 4, none⟩ = some (.bool p4) := (blk_cell (G.out.getX List.mem_cons_self) 4).trans rfl
            have SN3 : Aside0 (sn ≤ 3 * (j + 1)) := ⟨by have := SN.out; omega⟩
            clear SN hk hks hkq
            go_upto_if 58 with (fail)
            clear y0 hks'
            go_cut [9, 10] (fun v9 v10 w' => ∃ (A : Option Addr) (c : Nat) (F : List Fr) (B : Option Addr) (d : Nat) (K : List Fr), v9 = .slice A F.length c ∧ v10 = .slice B K.length d ∧ Aside0 (F.length ≤ 64 * (j + 1) ∧ K.length ≤ 64 * (j + 1)) ∧ Aside0 (FW w w' ga gwa gga gb gwb ggb sn lt (.slice A F.length c) (.slice B K.length d) F K [(pb, .cells #[.int .u8 p0, .int .i64 p1, .bool p2, .bool p3, .bool p4] 28 (0, 0))]))
            case first =>
              cases p4
              · go_wp2_with fail
                go_meet
                exact ⟨A, c, F, B, d, K, rfl, rfl, ⟨by have := SZ.out; omega⟩, G⟩
              · go_wp2_with fail
                refine (FW_OutA j G.out).mono ?_
                rintro e w5 ⟨A', c', O, rfl, hO64, hOc, hFW, ow, sa, sb, h4, hp, hR, hnew, hvF, hsz⟩
                obtain ⟨A9, c9, hv9, _, hrd⟩ := OwnRow.reads hR.2
                cases hv9
                have HZ : Aside0 (w.heap.size ≤ wr.heap.size) := ⟨G.out.below.size⟩
                have HZ5 := Aside0.mk hsz
                have H4 := Aside0.mk h4
                have HP := Aside0.mk hp
                have HFW := Aside0.mk hFW
                have HO := Aside0.mk (And.intro hO64 hOc)
                have HRD := Aside0.mk hrd
                have HNW := Aside0.mk hnew
                have HVF := Aside0.mk hvF
                clear hR hrd h4 hp hFW hO64 hOc hnew hvF hsz
                go_wp2_with ((with_reducible refine gate_dst (N := 63) rfl ?_); refine Kd.R_append_rows kF (Rr := fun x cs => kF.M w5 wr.heap.size (fun k => ow k = 3 ∧ some k ≠ (Value.slice A' O.length c').ownBlock) x cs) (w0 := w5) w.heap.size rfl (.tmp 59) (.tmp 62) 40 eF _ 184 rfl Try.underlying40 info39 rfl (by decide) (by decide) (.slice A F.length c) F O A' O.length c' (fun k => ow k = 3) (fun b => wr.heap.size ≤ b ∧ ow b = 3) rfl rfl H4.out.f HRD.out (fun x cs hx => kF.M_lower HZ.out (kF.M_mono (fun b hb => ⟨hb.2.1, hb.1.1⟩) (kF.M_bound hx))) (fun b hb => ⟨hb.2, fun he => by have := HVF.out b he.symm; have := hb.1; omega⟩) (fun k hk => HNW.out k (by have := HZ5.out; omega)) (Below.refl _ _) (by have := HZ.out; have := HZ5.out; omega) (by have := HO.out.1; have := SZ.out; omega) ?_; intro v8 w8 ho hb hg hat; obtain ⟨A8, c8, rfl⟩ := Kd.R_slice ho; have H8 := Aside0.mk (H4.out.setF ho hg); clear ho hb hg hat)
                have G8 : Aside0 (FW w w8 ga gwa gga gb gwb ggb sn lt (.slice A8 (F ++ O).length c8) (.slice B K.length d) (F ++ O) K [(pb, .cells #[.int .u8 p0, .int .i64 p1, .bool p2, .bool p3, .bool true] 28 (0, 0))]) := ⟨⟨⟨ow, sa, sb, H8.out, HP.out⟩, fun y hy => (List.mem_append.1 hy).elim (fun h => HFW.out.F y h) (fun h => HO.out.2 y h), HFW.out.K⟩⟩
                have SZ8 : Aside0 ((F ++ O).length ≤ 64 * (j + 1)) := ⟨by have := SZ.out; have := HO.out.1; simp; omega⟩
                have HFO : Aside0 ((F ++ O).length = F.length + O.length) := ⟨by simp⟩
                clear H4 HP HFW HO HRD HNW HVF HZ HZ5 H8 G
                generalize F ++ O = F' at *
                refine (FW_OutB j G8.out).mono ?_
                rintro e w5 ⟨B', d', O', rfl, hO64, hOc, hFW, ow, sa, sb, h4, hp, hR, hnew, hvF, hsz⟩
                obtain ⟨A9, c9, hv9, _, hrd⟩ := OwnRow.reads hR.2
                cases hv9
                have HZ : Aside0 (w.heap.size ≤ w8.heap.size) := ⟨G8.out.below.size⟩
                have HZ5 := Aside0.mk hsz
                have H4 := Aside0.mk h4
                have HP := Aside0.mk hp
                have HFW := Aside0.mk hFW
                have HO := Aside0.mk (And.intro hO64 hOc)
                have HRD := Aside0.mk hrd
                have HNW := Aside0.mk hnew
                have HVF := Aside0.mk hvF
                clear hR hrd h4 hp hFW hO64 hOc hnew hvF hsz
                go_wp2_with ((with_reducible refine gate_dst (N := 68) rfl ?_); refine Kd.R_append_rows kF (Rr := fun x cs => kF.M w5 w8.heap.size (fun k => ow k = 4 ∧ some k ≠ (Value.slice B' O'.length d').ownBlock) x cs) (w0 := w5) w.heap.size rfl (.tmp 64) (.tmp 67) 40 eF _ 184 rfl Try.underlying40 info39 rfl (by decide) (by decide) (.slice B K.length d) K O' B' O'.length d' (fun k => ow k = 4) (fun b => w8.heap.size ≤ b ∧ ow b = 4) rfl rfl H4.out.k HRD.out (fun x cs hx => kF.M_lower HZ.out (kF.M_mono (fun b hb => ⟨hb.2.1, hb.1.1⟩) (kF.M_bound hx))) (fun b hb => ⟨hb.2, fun he => by have := HVF.out b he.symm; have := hb.1; omega⟩) (fun k hk => HNW.out k (by have := HZ5.out; omega)) (Below.refl _ _) (by have := HZ.out; have := HZ5.out; omega) (by have := HO.out.1; have := SZ.out; omega) ?_; intro v9 w9 ho hb hg hat; obtain ⟨B8, d8, rfl⟩ := Kd.R_slice ho; have H9 := Aside0.mk (H4.out.setK ho hg); clear ho hb hg hat)
                have G9 : Aside0 (FW w w9 ga gwa gga gb gwb ggb sn lt (.slice A8 F'.length c8) (.slice B8 (K ++ O').length d8) F' (K ++ O') [(pb, .cells #[.int .u8 p0, .int .i64 p1, .bool p2, .bool p3, .bool true] 28 (0, 0))]) := ⟨⟨⟨ow, sa, sb, H9.out, HP.out⟩, HFW.out.F, fun y hy => (List.mem_append.1 hy).elim (fun h => HFW.out.K y h) (fun h => HO.out.2 y h)⟩⟩
                have SZ9 : Aside0 ((K ++ O').length ≤ 64 * (j + 1)) := ⟨by have := SZ.out; have := HO.out.1; simp; omega⟩
                go_meet
                exact ⟨A8, c8, F', B8, d8, K ++ O', by rw [HFO.out], by simp, ⟨SZ8.out, SZ9.out⟩, G9⟩
            case rest =>
              clear G SZ
              obtain ⟨A, c, F, B, d, K, rfl, rfl, SZ, G⟩ := hcut
              have SNB : Aside0 (sn ≤ 450) := ⟨by have := SN3.out; omega⟩
              have y1 : wc.cell? ⟨pb, 1, none⟩ = some (.int .i64 p1) := (blk_cell (G.out.getX List.mem_cons_self) 1).trans rfl
              by_cases hI : p1 < 0
              · have hI' : decide (p1 < 0) = true := decide_eq_true hI
                go_wp2_with fail
                have G9 := Aside0.mk G.out.dropX
                go_roundg (go_ - 1)
                case measure => have := GO.out; omega
                case rel => exact ⟨j + 1, sn, lt, A, c, F, B, d, K, rfl, rfl, rfl, rfl, by simp, by omega, by have := GO.out; omega, ⟨by have := SN3.out; have := SZ.out; omega⟩, G9⟩
              · have hI' : decide (p1 < 0) = false := decide_eq_false hI
                have hI0 : 0 ≤ p1 := by omega
                have y3 : wc.cell? ⟨pb, 3, none⟩ = some (.bool p3) := (blk_cell (G.out.getX List.mem_cons_self) 3).trans rfl
                cases p3
                · as_aux_lemma =>
                  go_upto_if 110 with (fail)
                  clear y1 y3
                  go_cut [9, 12] (fun v9 v12 w' => ∃ (A : Option Addr) (c : Nat) (F : List Fr) (lt : Int), v9 = .slice A F.length c ∧ v12 = .int .u32 lt ∧ Aside0 (F.length ≤ 64 * (j + 1)) ∧ Aside0 (FW w w' ga gwa gga gb gwb ggb sn lt (.slice A F.length c) (.slice B K.length d) F K [(pb, .cells #[.int .u8 p0, .int .i64 p1, .bool p2, .bool false, .bool p4] 28 (0, 0))]))
                  case first =>
                    by_cases hK : 0 < F.length
                    · have dK : decide (0 < F.length) = true := decide_eq_true hK
                      have dK' : decide ((0 : Int) < F.length) = true := decide_eq_true (by omega)
                      have y1 : wc.cell? ⟨pb, 1, none⟩ = some (.int .i64 p1) := (blk_cell (G.out.getX List.mem_cons_self) 1).trans rfl
                      have y2 : wc.cell? ⟨pb, 2, none⟩ = some (.bool p2) := (blk_cell (G.out.getX List.mem_cons_self) 2).trans rfl
                      obtain ⟨ix, hix⟩ : ∃ ix : Nat, p1 % (F.length : Int) = (ix : Int) := ⟨(p1 % (F.length : Int)).toNat, by have := Int.emod_nonneg p1 (show (F.length : Int) ≠ 0 by omega); omega⟩
                      have hil : ix < F.length := by have := Int.emod_lt_of_pos p1 (show (0 : Int) < F.length by omega); omega
                      have ix' : Int.tmod p1 (F.length : Int) = (ix : Int) := by rw [Int.tmod_eq_emod_of_nonneg hI0]; exact hix
                      have pk_ : (0 ≤ (ix : Int)) = True := eq_true (by omega)
                      have qk_ : ((ix : Int) < (F.length : Int)) = True := eq_true (by omega)
                      obtain ⟨ra, ca, hv, _, hra, _⟩ := R_head G.out.R.1 hK
                      cases hv
                      obtain ⟨cc, hcl, hM, hcc, _⟩ := Kd.R_elem G.out.R.1 z39 (ix : Int) (by omega) (by omega)
                      rw [show (ix : Int).toNat = ix from Int.toNat_natCast ix] at hM hcc
                      obtain ⟨xk, hxk⟩ : ∃ y, y = F.getD ix z39 := ⟨_, rfl⟩
                      rw [← hxk] at hM
                      have hxm : xk ∈ F := by rw [hxk]; simp only [List.getD]; rw [List.getElem?_eq_getElem hil]; exact List.getElem_mem _
                      have AK := Aside0.mk (G.out.F xk hxm)
                      obtain ⟨v11, v12, v13, v14, v15, rfl, r11, r12, r13, r14, r15⟩ := k39_openM hM
                      obtain ⟨A11, c11, rfl⟩ := Kd.R_slice r11
                      obtain ⟨A12, c12, rfl⟩ := Kd.R_slice r12
                      obtain ⟨A13, c13, rfl⟩ := Kd.R_slice r13
                      obtain ⟨A14, c14, rfl⟩ := Kd.R_slice r14
                      obtain ⟨A15, c15, rfl⟩ := Kd.R_slice r15
                      have hc : ∀ (j : Nat) (u : Value), [.int .u8 xk.f0.f0, .int .u8 xk.f0.f1, .int .u8 xk.f0.f2, .int .u8 xk.f1.f0, .int .u64 xk.f1.f1, .int .u64 xk.f2, .int .u32 xk.f3, .int .u32 xk.f4, .int .u32 xk.f5, .int .u64 xk.f6, .int .u64 xk.f7, .slice A11 xk.f8.length c11, .slice A12 xk.f9.length c12, .slice A13 xk.f10.length c13, .slice A14 xk.f11.length c14, .slice A15 xk.f12.length c15][j]? = some u → wc.cell? ⟨ra, ix * 16 + j, none⟩ = some u := hcc
                      have qs : wc.cell? ⟨ra, ix * 16, none⟩ = some (.int .u8 xk.f0.f0) ∧ wc.cell? ⟨ra, ix * 16 + 1, none⟩ = some (.int .u8 xk.f0.f1) ∧ wc.cell? ⟨ra, ix * 16 + 2, none⟩ = some (.int .u8 xk.f0.f2) ∧ wc.cell? ⟨ra, ix * 16 + 3, none⟩ = some (.int .u8 xk.f1.f0) ∧ wc.cell? ⟨ra, ix * 16 + 4, none⟩ = some (.int .u64 xk.f1.f1) ∧ wc.cell? ⟨ra, ix * 16 + 5, none⟩ = some (.int .u64 xk.f2) ∧ wc.cell? ⟨ra, ix * 16 + 6, none⟩ = some (.int .u32 xk.f3) ∧ wc.cell? ⟨ra, ix * 16 + 7, none⟩ = some (.int .u32 xk.f4) ∧ wc.cell? ⟨ra, ix * 16 + 8, none⟩ = some (.int .u32 xk.f5) ∧ wc.cell? ⟨ra, ix * 16 + 9, none⟩ = some (.int .u64 xk.f6) ∧ wc.cell? ⟨ra, ix * 16 + 10, none⟩ = some (.int .u64 xk.f7) ∧ wc.cell? ⟨ra, ix * 16 + 11, none⟩ = some (.slice A11 xk.f8.length c11) ∧ wc.cell? ⟨ra, ix * 16 + 12, none⟩ = some (.slice A12 xk.f9.length c12) ∧ wc.cell? ⟨ra, ix * 16 + 13, none⟩ = some (.slice A13 xk.f10.length c13) ∧ wc.cell? ⟨ra, ix * 16 + 14, none⟩ = some (.slice A14 xk.f11.length c14) ∧ wc.cell? ⟨ra, ix * 16 + 15, none⟩ = some (.slice A15 xk.f12.length c15) := ⟨hc 0 _ rfl, hc 1 _ rfl, hc 2 _ rfl, hc 3 _ rfl, hc 4 _ rfl, hc 5 _ rfl, hc 6 _ rfl, hc 7 _ rfl, hc 8 _ rfl, hc 9 _ rfl, hc 10 _ rfl, hc 11 _ rfl, hc 12 _ rfl, hc 13 _ rfl, hc 14 _ rfl, hc 15 _ rfl⟩
                      obtain ⟨q0, q1, q2, q3, q4, q5, q6, q7, q8, q9, q10, q11, q12, q13, q14, q15⟩ := qs
                      have IL := Aside0.mk hil
                      have KB : Aside0 (64 * (j + 1) ≤ 1000000) := ⟨by omega⟩
                      have CA := Aside0.mk (FW_ComeB (A11 := A11) (A12 := A12) (A13 := A13) (A14 := A14) (A15 := A15) (c11 := c11) (c12 := c12) (c13 := c13) (c14 := c14) (c15 := c15) xk G.out AK.out (by have := SNB.out; omega))
                      clear hcc hcl hM r11 r12 r13 r14 r15 hc hxk hxm hra
                      go_wp2_with fail
                      refine CA.out.mono ?_
                      rintro e w5 ⟨y, B11, B12, B13, B14, B15, d11, d12, d13, d14, d15, bo, rfl, hyl, h⟩
                      have G5 := Aside0.mk (h.step (below_alloc (Below.refl _ _) (.cells #[.int .u8 y.f0.f0, .int .u8 y.f0.f1, .int .u8 y.f0.f2, .int .u8 y.f1.f0, .int .u64 y.f1.f1, .int .u64 y.f2, .int .u32 y.f3, .int .u32 y.f4, .int .u32 y.f5, .int .u64 y.f6, .int .u64 y.f7, .slice B11 y.f8.length d11, .slice B12 y.f9.length d12, .slice B13 y.f10.length d13, .slice B14 y.f11.length d14, .slice B15 y.f12.length d15] 39)))
                      have HY := Aside0.mk hyl
                      clear h CA q0 q1 q2 q3 q4 q5 q6 q7 q8 q9 q10 q11 q12 q13 q14 q15 y1 y2 G hyl
                      go_upto_if 125 with (fail)
                      go_cut [12] (fun v12 w' => ∃ (lt : Int), v12 = .int .u32 lt ∧ Aside0 (FW w w' ga gwa gga gb gwb ggb sn lt (.slice (some ⟨ra, 0, none⟩) F.length c) (.slice B K.length d) F K [(pb, .cells #[.int .u8 p0, .int .i64 p1, .bool p2, .bool false, .bool p4] 28 (0, 0))]))
                      case first =>
                        cases bo
                        · have G6 : Aside0 (FW w (w5.alloc (.cells #[.int .u8 y.f0.f0, .int .u8 y.f0.f1, .int .u8 y.f0.f2, .int .u8 y.f1.f0, .int .u64 y.f1.f1, .int .u64 y.f2, .int .u32 y.f3, .int .u32 y.f4, .int .u32 y.f5, .int .u64 y.f6, .int .u64 y.f7, .slice B11 y.f8.length d11, .slice B12 y.f9.length d12, .slice B13 y.f10.length d13, .slice B14 y.f11.length d14, .slice B15 y.f12.length d15] 39)) ga gwa gga gb gwb ggb sn lt (.slice (some ⟨ra, 0, none⟩) F.length c) (.slice B K.length d) F K [(pb, .cells #[.int .u8 p0, .int .i64 p1, .bool p2, .bool false, .bool p4] 28 (0, 0))]) := ⟨by have h := G5.out; rw [if_neg (by decide)] at h; exact h⟩
                          clear G5
                          go_wp2_with fail
                          go_meet
                          exact ⟨lt, rfl, G6⟩
                        · have G6 : Aside0 (FW w (w5.alloc (.cells #[.int .u8 y.f0.f0, .int .u8 y.f0.f1, .int .u8 y.f0.f2, .int .u8 y.f1.f0, .int .u64 y.f1.f1, .int .u64 y.f2, .int .u32 y.f3, .int .u32 y.f4, .int .u32 y.f5, .int .u64 y.f6, .int .u64 y.f7, .slice B11 y.f8.length d11, .slice B12 y.f9.length d12, .slice B13 y.f10.length d13, .slice B14 y.f11.length d14, .slice B15 y.f12.length d15] 39)) ga gwa gga gb gwb ggb sn (lt + 1) (.slice (some ⟨ra, 0, none⟩) F.length c) (.slice B K.length d) F K [(pb, .cells #[.int .u8 p0, .int .i64 p1, .bool p2, .bool false, .bool p4] 28 (0, 0))]) := ⟨by have h := G5.out; rw [if_pos rfl] at h; exact h⟩
                          have d5 : (y.f3 != lt) = false := by rw [HY.out rfl]; simp
                          have u5 : IntKind.u32.wrap (lt + 1) = lt + 1 := by have := G6.out.num; have := SNB.out; simp [IntKind.wrap, IntKind.signed, IntKind.bits]; omega
                          clear G5 HY
                          go_wp2_with fail
                          go_meet
                          exact ⟨lt + 1, rfl, G6⟩
                      clear G5 HY
                      obtain ⟨lt, rfl, G5⟩ := hcut
                      have y2 : wc.cell? ⟨pb, 2, none⟩ = some (.bool p2) := (blk_cell (G5.out.getX List.mem_cons_self) 2).trans rfl
                      obtain ⟨w5, hw5⟩ : ∃ w5, w5 = wc := ⟨_, rfl⟩
                      subst hw5
                      cases p2
                      · obtain ⟨ow, sa, sb, h4, hp⟩ := G5.out.ex
                        obtain ⟨A1, A2', cc2, hs1, hs2, hcu⟩ := R_cuts h4.f ix IL.out
                        obtain ⟨wx1, wx2, wx3, wx4⟩ := wrap_ix IL.out (Nat.le_trans SZ.out.1 KB.out)
                        have CU := Aside0.mk hcu
                        have H4 := Aside0.mk h4
                        have HP := Aside0.mk hp
                        clear hcu h4 hp
                        have HZ5 : Aside0 (w.heap.size ≤ w5.heap.size) := ⟨G5.out.below.size⟩
                        have SZK : Aside0 (F.length ≤ 1000000) := ⟨Nat.le_trans SZ.out.1 KB.out⟩
                        have ER : Aside0 (Kd.R kF eF ((w5.alloc (.cells #[] eF)).drew) w.heap.size (fun k => owns ow w5.heap.size 3 k = 3) (.slice (some ⟨w5.heap.size, 0, none⟩) 0 0) []) := ⟨Kd.R_drew (emptyR w5 w.heap.size _ HZ5.out (owns_new (Nat.le_refl _)))⟩
                        have BD : Aside0 (Below w5.heap.size w5 (w5.alloc (.cells #[] eF)).drew) := ⟨below_drew (below_alloc (Below.refl _ _) _)⟩
                        have CU1 := Aside0.mk (CU.out _ BD.out).1
                        have S1 : Aside0 (∀ b, (ow b = 3 ∧ b < w5.heap.size) → owns ow w5.heap.size 3 b = 3 ∧ some b ≠ (Value.slice (some ⟨w5.heap.size, 0, none⟩) 0 0).ownBlock) := ⟨fun b hb => ⟨owns_old hb.2 hb.1, fun he => by have h2 := hb.2; simp [Value.ownBlock] at he; omega⟩⟩
                        have S2 : Aside0 (∀ b, (ow b = 3 ∧ b < w5.heap.size) → owns ow w5.heap.size 3 b = 3) := ⟨fun b hb => owns_old hb.2 hb.1⟩
                        have N1 : Aside0 (∀ W : World, Below w5.heap.size w5 W → ∀ k, W.heap.size ≤ k → owns ow w5.heap.size 3 k = 3) := ⟨fun W hb k hk => owns_new (by have := hb.size; omega)⟩
                        have Z1 : Aside0 (∀ W : World, Below w5.heap.size w5 W → w.heap.size ≤ W.heap.size) := ⟨fun W hb => by have := hb.size; have := HZ5.out; omega⟩
                        have E1 := Aside0.mk (len_ok1 IL.out SZK.out)
                        have E2 := Aside0.mk (len_ok2 IL.out SZK.out)
                        have V5 : Aside0 (∀ k, (Value.slice (some ⟨w5.heap.size, 0, none⟩) 0 0).ownBlock = some k → w5.heap.size ≤ k) := ⟨fun k hk => by simp [Value.ownBlock] at hk; omega⟩
                        have VV : Aside0 (∀ (W : World) (v v1 : Value), Below w5.heap.size w5 W → (∀ k, v.ownBlock = some k → w5.heap.size ≤ k) → (v1.ownBlock = v.ownBlock ∨ ∃ b, v1.ownBlock = some b ∧ W.heap.size ≤ b) → ∀ k, v1.ownBlock = some k → w5.heap.size ≤ k) := ⟨fun W v v1 hb hv hat k hk => by
                          rcases hat with h | ⟨b, h, hle⟩
                          · exact hv k (h.symm.trans hk)
                          · have := hb.size
                            have := Option.some.inj (h.symm.trans hk)
                            omega⟩
                        go_upto_region 31 with (fail)
                        go_region_held3 (fun w' => True) (go_keep) ((first
                          | (refine Kd.R_append_rows_step kF (w0 := (w5.alloc (.cells #[] eF)).drew) w.heap.size (by rfl) (.tmp 135) (.tmp 138) 40 eF _ 184 rfl Try.underlying40 info39 rfl (by decide) (by decide) (.slice (some ⟨w5.heap.size, 0, none⟩) 0 0) [] (F.take ix) A1 ix c (fun k => owns ow w5.heap.size 3 k = 3) (fun k => ow k = 3 ∧ k < w5.heap.size) (by rfl) (by rfl) ER.out CU1.out (fun x cs hx => hx) S1.out (N1.out _ BD.out) (Below.refl _ _) (Z1.out _ BD.out) E1.out ?_; intro v97 w6 ho hb hg hat; have R6 := Aside0.mk ho; have B6 := Aside0.mk (BD.out.grown hg BD.out.size V5.out); have V6 := Aside0.mk (VV.out _ _ _ BD.out V5.out hat); have CU2 := Aside0.mk (CU.out _ B6.out).2; clear ho hb hg hat)
                          | (refine Kd.R_append_rows_step kF (w0 := w6) w.heap.size (by rfl) (.tmp 139) (.tmp 143) 40 eF _ 184 rfl Try.underlying40 info39 rfl (by decide) (by decide) v97 ([] ++ F.take ix) (F.drop (ix + 1)) A2' (F.length - (ix + 1)) cc2 (fun k => owns ow w5.heap.size 3 k = 3) (fun k => ow k = 3 ∧ k < w5.heap.size) (by rfl) (by rfl) R6.out CU2.out (fun x cs hx => hx) (fun b hb => ⟨S2.out b hb, fun he => absurd hb.2 (Nat.not_lt.2 (V6.out b he.symm))⟩) (N1.out _ B6.out) (Below.refl _ _) (Z1.out _ B6.out) E2.out ?_; intro v102 w7 ho hb hg hat; have R7 := Aside0.mk ho; have B7 := Aside0.mk (B6.out.grown hg B6.out.size V6.out); clear ho hb hg hat)))
                        obtain ⟨B8, d8, rfl⟩ := Kd.R_slice R7.out
                        have G7 : Aside0 (FW w w7 ga gwa gga gb gwb ggb sn lt (.slice B8 ([] ++ F.take ix ++ F.drop (ix + 1)).length d8) (.slice B K.length d) ([] ++ F.take ix ++ F.drop (ix + 1)) K [(pb, .cells #[.int .u8 p0, .int .i64 p1, .bool false, .bool false, .bool p4] 28 (0, 0))]) := ⟨⟨⟨_, sa, sb, H4.out.reF B7.out R7.out, HP.out⟩, fun y hy => G5.out.F y (mem_cut hy), G5.out.K⟩⟩
                        have L7 := Aside0.mk (len_ok3 IL.out SZ.out.1)
                        clear R6 R7 B6 B7 V6 CU2 H4 HP G5 CU CU1 ER BD S1 S2 N1 Z1 E1 E2 V5 VV
                        go_wp2_with fail
                        go_meet
                        exact ⟨B8, d8, _, lt, by simp, rfl, L7, G7⟩
                      · go_wp2_with fail
                        go_meet
                        exact ⟨_, _, F, lt, rfl, rfl, ⟨SZ.out.1⟩, G5⟩
                    · have dK : decide (0 < F.length) = false := decide_eq_false hK
                      have dK' : decide ((0 : Int) < F.length) = false := decide_eq_false (by omega)
                      go_wp2_with fail
                      go_meet
                      exact ⟨A, c, F, lt, rfl, rfl, ⟨SZ.out.1⟩, G⟩
                  case rest =>
                    clear G
                    obtain ⟨A, c, F, lt, rfl, rfl, SZF, G⟩ := hcut
                    have SZK : Aside0 (K.length ≤ 64 * (j + 1)) := ⟨SZ.out.2⟩
                    have y3 : wc.cell? ⟨pb, 3, none⟩ = some (.bool false) := (blk_cell (G.out.getX List.mem_cons_self) 3).trans rfl
                    clear SZ
                    obtain ⟨kw, hkw, hwt⟩ := FW_WaitsA G.out
                    have WT := Aside0.mk hwt
                    have UP := Aside0.mk (FW_UptoB G.out)
                    have nm := G.out.num
                    have sb_ := SNB.out
                    have d1 : decide (sn < lt) = false := decide_eq_false (by omega)
                    have d2 : decide (sn < (kw : Int)) = false := decide_eq_false (by omega)
                    have u1 : IntKind.u64.wrap lt = lt := wu64 (by omega) (by omega)
                    have u2 : wrap64 sn = sn := w64 (by omega) (by omega)
                    have u3 : IntKind.i64.wrap sn = sn := (i64_w _).trans u2
                    clear hwt
                    go_wp2_with fail
                    refine UP.out.mono ?_
                    rintro e w6 ⟨rfl, rfl⟩
                    go_wp2_with fail
                    refine WT.out.mono ?_
                    rintro e w6 ⟨rfl, q, rfl⟩
                    have G9 := Aside0.mk (G.out.dropX.step (pw_below_drewN (Below.refl _ _) q))
                    clear WT UP G
                    go_wp2_with fail
                    go_roundg (go_ - 1)
                    case measure => have := GO.out; omega
                    case rel => exact ⟨j + 1, sn, lt, _, _, F, _, _, K, rfl, rfl, rfl, rfl, by simp, by omega, by have := GO.out; omega, ⟨by have := SN3.out; have := SZF.out; have := SZK.out; omega⟩, G9⟩
                · as_aux_lemma =>
                  go_upto_if 78 with (fail)
                  clear y1 y3
                  go_cut [10] (fun v10 w' => ∃ (B : Option Addr) (d : Nat) (K : List Fr), v10 = .slice B K.length d ∧ Aside0 (K.length ≤ 64 * (j + 1)) ∧ Aside0 (FW w w' ga gwa gga gb gwb ggb sn lt (.slice A F.length c) (.slice B K.length d) F K [(pb, .cells #[.int .u8 p0, .int .i64 p1, .bool p2, .bool true, .bool p4] 28 (0, 0))]))
                  case first =>
                    by_cases hK : 0 < K.length
                    · have dK : decide (0 < K.length) = true := decide_eq_true hK
                      have dK' : decide ((0 : Int) < K.length) = true := decide_eq_true (by omega)
                      have y1 : wc.cell? ⟨pb, 1, none⟩ = some (.int .i64 p1) := (blk_cell (G.out.getX List.mem_cons_self) 1).trans rfl
                      have y2 : wc.cell? ⟨pb, 2, none⟩ = some (.bool p2) := (blk_cell (G.out.getX List.mem_cons_self) 2).trans rfl
                      obtain ⟨ix, hix⟩ : ∃ ix : Nat, p1 % (K.length : Int) = (ix : Int) := ⟨(p1 % (K.length : Int)).toNat, by have := Int.emod_nonneg p1 (show (K.length : Int) ≠ 0 by omega); omega⟩
                      have hil : ix < K.length := by have := Int.emod_lt_of_pos p1 (show (0 : Int) < K.length by omega); omega
                      have ix' : Int.tmod p1 (K.length : Int) = (ix : Int) := by rw [Int.tmod_eq_emod_of_nonneg hI0]; exact hix
                      have pk_ : (0 ≤ (ix : Int)) = True := eq_true (by omega)
                      have qk_ : ((ix : Int) < (K.length : Int)) = True := eq_true (by omega)
                      obtain ⟨ra, ca, hv, _, hra, _⟩ := R_head G.out.R.2 hK
                      cases hv
                      obtain ⟨cc, hcl, hM, hcc, _⟩ := Kd.R_elem G.out.R.2 z39 (ix : Int) (by omega) (by omega)
                      rw [show (ix : Int).toNat = ix from Int.toNat_natCast ix] at hM hcc
                      obtain ⟨xk, hxk⟩ : ∃ y, y = K.getD ix z39 := ⟨_, rfl⟩
                      rw [← hxk] at hM
                      have hxm : xk ∈ K := by rw [hxk]; simp only [List.getD]; rw [List.getElem?_eq_getElem hil]; exact List.getElem_mem _
                      have AK := Aside0.mk (G.out.K xk hxm)
                      obtain ⟨v11, v12, v13, v14, v15, rfl, r11, r12, r13, r14, r15⟩ := k39_openM hM
                      obtain ⟨A11, c11, rfl⟩ := Kd.R_slice r11
                      obtain ⟨A12, c12, rfl⟩ := Kd.R_slice r12
                      obtain ⟨A13, c13, rfl⟩ := Kd.R_slice r13
                      obtain ⟨A14, c14, rfl⟩ := Kd.R_slice r14
                      obtain ⟨A15, c15, rfl⟩ := Kd.R_slice r15
                      have hc : ∀ (j : Nat) (u : Value), [.int .u8 xk.f0.f0, .int .u8 xk.f0.f1, .int .u8 xk.f0.f2, .int .u8 xk.f1.f0, .int .u64 xk.f1.f1, .int .u64 xk.f2, .int .u32 xk.f3, .int .u32 xk.f4, .int .u32 xk.f5, .int .u64 xk.f6, .int .u64 xk.f7, .slice A11 xk.f8.length c11, .slice A12 xk.f9.length c12, .slice A13 xk.f10.length c13, .slice A14 xk.f11.length c14, .slice A15 xk.f12.length c15][j]? = some u → wc.cell? ⟨ra, ix * 16 + j, none⟩ = some u := hcc
                      have qs : wc.cell? ⟨ra, ix * 16, none⟩ = some (.int .u8 xk.f0.f0) ∧ wc.cell? ⟨ra, ix * 16 + 1, none⟩ = some (.int .u8 xk.f0.f1) ∧ wc.cell? ⟨ra, ix * 16 + 2, none⟩ = some (.int .u8 xk.f0.f2) ∧ wc.cell? ⟨ra, ix * 16 + 3, none⟩ = some (.int .u8 xk.f1.f0) ∧ wc.cell? ⟨ra, ix * 16 + 4, none⟩ = some (.int .u64 xk.f1.f1) ∧ wc.cell? ⟨ra, ix * 16 + 5, none⟩ = some (.int .u64 xk.f2) ∧ wc.cell? ⟨ra, ix * 16 + 6, none⟩ = some (.int .u32 xk.f3) ∧ wc.cell? ⟨ra, ix * 16 + 7, none⟩ = some (.int .u32 xk.f4) ∧ wc.cell? ⟨ra, ix * 16 + 8, none⟩ = some (.int .u32 xk.f5) ∧ wc.cell? ⟨ra, ix * 16 + 9, none⟩ = some (.int .u64 xk.f6) ∧ wc.cell? ⟨ra, ix * 16 + 10, none⟩ = some (.int .u64 xk.f7) ∧ wc.cell? ⟨ra, ix * 16 + 11, none⟩ = some (.slice A11 xk.f8.length c11) ∧ wc.cell? ⟨ra, ix * 16 + 12, none⟩ = some (.slice A12 xk.f9.length c12) ∧ wc.cell? ⟨ra, ix * 16 + 13, none⟩ = some (.slice A13 xk.f10.length c13) ∧ wc.cell? ⟨ra, ix * 16 + 14, none⟩ = some (.slice A14 xk.f11.length c14) ∧ wc.cell? ⟨ra, ix * 16 + 15, none⟩ = some (.slice A15 xk.f12.length c15) := ⟨hc 0 _ rfl, hc 1 _ rfl, hc 2 _ rfl, hc 3 _ rfl, hc 4 _ rfl, hc 5 _ rfl, hc 6 _ rfl, hc 7 _ rfl, hc 8 _ rfl, hc 9 _ rfl, hc 10 _ rfl, hc 11 _ rfl, hc 12 _ rfl, hc 13 _ rfl, hc 14 _ rfl, hc 15 _ rfl⟩
                      obtain ⟨q0, q1, q2, q3, q4, q5, q6, q7, q8, q9, q10, q11, q12, q13, q14, q15⟩ := qs
                      have IL := Aside0.mk hil
                      have KB : Aside0 (64 * (j + 1) ≤ 1000000) := ⟨by omega⟩
                      have CA := Aside0.mk (FW_ComeA (A11 := A11) (A12 := A12) (A13 := A13) (A14 := A14) (A15 := A15) (c11 := c11) (c12 := c12) (c13 := c13) (c14 := c14) (c15 := c15) xk G.out AK.out (by have := SNB.out; omega))
                      clear hcc hcl hM r11 r12 r13 r14 r15 hc hxk hxm hra
                      go_wp2_with fail
                      refine CA.out.mono ?_
                      rintro e w5 ⟨⟨v, rfl⟩, h⟩
                      have G5 := Aside0.mk h
                      have y2 : w5.cell? ⟨pb, 2, none⟩ = some (.bool p2) := (blk_cell (G5.out.getX List.mem_cons_self) 2).trans rfl
                      clear h CA q0 q1 q2 q3 q4 q5 q6 q7 q8 q9 q10 q11 q12 q13 q14 q15 y1 G
                      cases p2
                      · obtain ⟨ow, sa, sb, h4, hp⟩ := G5.out.ex
                        obtain ⟨A1, A2', cc2, hs1, hs2, hcu⟩ := R_cuts h4.k ix IL.out
                        obtain ⟨wx1, wx2, wx3, wx4⟩ := wrap_ix IL.out (Nat.le_trans SZ.out.2 KB.out)
                        have CU := Aside0.mk hcu
                        have H4 := Aside0.mk h4
                        have HP := Aside0.mk hp
                        clear hcu h4 hp
                        have HZ5 : Aside0 (w.heap.size ≤ w5.heap.size) := ⟨G5.out.below.size⟩
                        have SZK : Aside0 (K.length ≤ 1000000) := ⟨Nat.le_trans SZ.out.2 KB.out⟩
                        have ER : Aside0 (Kd.R kF eF ((w5.alloc (.cells #[] eF)).drew) w.heap.size (fun k => owns ow w5.heap.size 4 k = 4) (.slice (some ⟨w5.heap.size, 0, none⟩) 0 0) []) := ⟨Kd.R_drew (emptyR w5 w.heap.size _ HZ5.out (owns_new (Nat.le_refl _)))⟩
                        have BD : Aside0 (Below w5.heap.size w5 (w5.alloc (.cells #[] eF)).drew) := ⟨below_drew (below_alloc (Below.refl _ _) _)⟩
                        have CU1 := Aside0.mk (CU.out _ BD.out).1
                        have S1 : Aside0 (∀ b, (ow b = 4 ∧ b < w5.heap.size) → owns ow w5.heap.size 4 b = 4 ∧ some b ≠ (Value.slice (some ⟨w5.heap.size, 0, none⟩) 0 0).ownBlock) := ⟨fun b hb => ⟨owns_old hb.2 hb.1, fun he => by have h2 := hb.2; simp [Value.ownBlock] at he; omega⟩⟩
                        have S2 : Aside0 (∀ b, (ow b = 4 ∧ b < w5.heap.size) → owns ow w5.heap.size 4 b = 4) := ⟨fun b hb => owns_old hb.2 hb.1⟩
                        have N1 : Aside0 (∀ W : World, Below w5.heap.size w5 W → ∀ k, W.heap.size ≤ k → owns ow w5.heap.size 4 k = 4) := ⟨fun W hb k hk => owns_new (by have := hb.size; omega)⟩
                        have Z1 : Aside0 (∀ W : World, Below w5.heap.size w5 W → w.heap.size ≤ W.heap.size) := ⟨fun W hb => by have := hb.size; have := HZ5.out; omega⟩
                        have E1 := Aside0.mk (len_ok1 IL.out SZK.out)
                        have E2 := Aside0.mk (len_ok2 IL.out SZK.out)
                        have V5 : Aside0 (∀ k, (Value.slice (some ⟨w5.heap.size, 0, none⟩) 0 0).ownBlock = some k → w5.heap.size ≤ k) := ⟨fun k hk => by simp [Value.ownBlock] at hk; omega⟩
                        have VV : Aside0 (∀ (W : World) (v v1 : Value), Below w5.heap.size w5 W → (∀ k, v.ownBlock = some k → w5.heap.size ≤ k) → (v1.ownBlock = v.ownBlock ∨ ∃ b, v1.ownBlock = some b ∧ W.heap.size ≤ b) → ∀ k, v1.ownBlock = some k → w5.heap.size ≤ k) := ⟨fun W v v1 hb hv hat k hk => by
                          rcases hat with h | ⟨b, h, hle⟩
                          · exact hv k (h.symm.trans hk)
                          · have := hb.size
                            have := Option.some.inj (h.symm.trans hk)
                            omega⟩
                        go_upto_region 22 with (fail)
                        go_region_held3 (fun w' => True) (go_keep) ((first
                          | (refine Kd.R_append_rows_step kF (w0 := (w5.alloc (.cells #[] eF)).drew) w.heap.size (by rfl) (.tmp 93) (.tmp 96) 40 eF _ 184 rfl Try.underlying40 info39 rfl (by decide) (by decide) (.slice (some ⟨w5.heap.size, 0, none⟩) 0 0) [] (K.take ix) A1 ix d (fun k => owns ow w5.heap.size 4 k = 4) (fun k => ow k = 4 ∧ k < w5.heap.size) (by rfl) (by rfl) ER.out CU1.out (fun x cs hx => hx) S1.out (N1.out _ BD.out) (Below.refl _ _) (Z1.out _ BD.out) E1.out ?_; intro v97 w6 ho hb hg hat; have R6 := Aside0.mk ho; have B6 := Aside0.mk (BD.out.grown hg BD.out.size V5.out); have V6 := Aside0.mk (VV.out _ _ _ BD.out V5.out hat); have CU2 := Aside0.mk (CU.out _ B6.out).2; clear ho hb hg hat)
                          | (refine Kd.R_append_rows_step kF (w0 := w6) w.heap.size (by rfl) (.tmp 97) (.tmp 101) 40 eF _ 184 rfl Try.underlying40 info39 rfl (by decide) (by decide) v97 ([] ++ K.take ix) (K.drop (ix + 1)) A2' (K.length - (ix + 1)) cc2 (fun k => owns ow w5.heap.size 4 k = 4) (fun k => ow k = 4 ∧ k < w5.heap.size) (by rfl) (by rfl) R6.out CU2.out (fun x cs hx => hx) (fun b hb => ⟨S2.out b hb, fun he => absurd hb.2 (Nat.not_lt.2 (V6.out b he.symm))⟩) (N1.out _ B6.out) (Below.refl _ _) (Z1.out _ B6.out) E2.out ?_; intro v102 w7 ho hb hg hat; have R7 := Aside0.mk ho; have B7 := Aside0.mk (B6.out.grown hg B6.out.size V6.out); clear ho hb hg hat)))
                        obtain ⟨B8, d8, rfl⟩ := Kd.R_slice R7.out
                        have G7 : Aside0 (FW w w7 ga gwa gga gb gwb ggb sn lt (.slice A F.length c) (.slice B8 ([] ++ K.take ix ++ K.drop (ix + 1)).length d8) F ([] ++ K.take ix ++ K.drop (ix + 1)) [(pb, .cells #[.int .u8 p0, .int .i64 p1, .bool false, .bool true, .bool p4] 28 (0, 0))]) := ⟨⟨⟨_, sa, sb, H4.out.reK B7.out R7.out, HP.out⟩, G5.out.F, fun y hy => G5.out.K y (mem_cut hy)⟩⟩
                        have L7 := Aside0.mk (len_ok3 IL.out SZ.out.2)
                        clear R6 R7 B6 B7 V6 CU2 H4 HP G5 CU CU1 ER BD S1 S2 N1 Z1 E1 E2 V5 VV
                        go_wp2_with fail
                        go_meet
                        exact ⟨B8, d8, _, by simp, L7, G7⟩
                      · go_wp2_with fail
                        go_meet
                        exact ⟨_, _, K, rfl, ⟨SZ.out.2⟩, G5⟩
                    · have dK : decide (0 < K.length) = false := decide_eq_false hK
                      have dK' : decide ((0 : Int) < K.length) = false := decide_eq_false (by omega)
                      go_wp2_with fail
                      go_meet
                      exact ⟨B, d, K, rfl, ⟨SZ.out.2⟩, G⟩
                  case rest =>
                    clear G
                    obtain ⟨B, d, K, rfl, SZK, G⟩ := hcut
                    have SZF : Aside0 (F.length ≤ 64 * (j + 1)) := ⟨SZ.out.1⟩
                    have y3 : wc.cell? ⟨pb, 3, none⟩ = some (.bool true) := (blk_cell (G.out.getX List.mem_cons_self) 3).trans rfl
                    clear SZ
                    obtain ⟨kw, hkw, hwt⟩ := FW_WaitsA G.out
                    have WT := Aside0.mk hwt
                    have UP := Aside0.mk (FW_UptoB G.out)
                    have nm := G.out.num
                    have sb_ := SNB.out
                    have d1 : decide (sn < lt) = false := decide_eq_false (by omega)
                    have d2 : decide (sn < (kw : Int)) = false := decide_eq_false (by omega)
                    have u1 : IntKind.u64.wrap lt = lt := wu64 (by omega) (by omega)
                    have u2 : wrap64 sn = sn := w64 (by omega) (by omega)
                    have u3 : IntKind.i64.wrap sn = sn := (i64_w _).trans u2
                    clear hwt
                    go_wp2_with fail
                    refine UP.out.mono ?_
                    rintro e w6 ⟨rfl, rfl⟩
                    go_wp2_with fail
                    refine WT.out.mono ?_
                    rintro e w6 ⟨rfl, q, rfl⟩
                    have G9 := Aside0.mk (G.out.dropX.step (pw_below_drewN (Below.refl _ _) q))
                    clear WT UP G
                    go_wp2_with fail
                    go_roundg (go_ - 1)
                    case measure => have := GO.out; omega
                    case rel => exact ⟨j + 1, sn, lt, _, _, F, _, _, K, rfl, rfl, rfl, rfl, by simp, by omega, by have := GO.out; omega, ⟨by have := SN3.out; have := SZF.out; have := SZK.out; omega⟩, G9⟩
      · have hlt' : decide ((j : Int) < l2.length) = false := decide_eq_false (by omega)
        go_wp2_with fail
        refine (awake_calls _).mono ?_
        rintro e w4 ⟨rfl, hb⟩
        have B4 := Aside0.mk (below_step G.out.below hb)
        clear hb G
        go_wp2_with fail
        go_ret
        exact ⟨rfl, B4.out⟩

end Go.Proofs.Ytmdomkpdfmoboaa.Walk
