/- If all that goes out on both sides comes, all that was sent is let in, and acknowledged. Conditions: none beyond the statement's own. -/
import Derived.Test.YtmdomkpdfmoboaaWalkAllC
import Derived.Test.YtmdomkpdfmoboaaArgs
import Derived.Deep.QuietTactic
import Derived.BigQuiet
import Derived.Lib.QuietBelow
import Derived.Outline
import Derived.Deep.RegionHeld3
import Derived.Deep.CutRange
namespace Go.Proofs.Ytmdomkpdfmoboaa.Walk
open Go.RowKit Go.Proofs.Ytmdomkpdfmoboaa.F Go.Proofs.YtmdomkpdfmoboaaW.PrintWords Go.Proofs.YtmdomkpdfmoboaaW.PrintLast Go.Proofs.YtmdomkpdfmoboaaW.PrintMore Go.Proofs.Ytmdomkpdfmoboaa.Open
open Go.Sort (grow)
attribute [local go_sem] max2_int min2_int max_two min_two max_three min_three max_four min_four
set_option linter.unusedVariables false
set_option linter.unusedSimpArgs false

/-! ### The law: all comes, and all is acknowledged -/
set_option maxHeartbeats 8000000 in
set_option maxRecDepth 100000 in
theorem LinkAll (a0 a1 : Int) (A2 : Option Addr) (c2 : Nat) (l2 : List S28) (w : World) (hr2 : Kd.C k28 w A2 l2.length l2) (hc2 : l2.length ≤ c2)
    (w0 : (Lit.int .i64 a0).wf = true) (w1 : (Lit.int .i64 a1).wf = true) (w2 : l2.length ≤ maxLen ∧ ∀ x ∈ l2, ((Lit.int .u8 x.f0).wf = true ∧ (Lit.int .i64 x.f1).wf = true ∧ True ∧ True ∧ True)) :
    Calls Try.prog 3 #[.int .i64 a0, .int .i64 a1, .slice A2 l2.length c2] w fun e w' => e = .returned (.bool true) ∧ Below w.heap.size w w' := by
  have HR := Aside0.mk hr2
  have HN : Aside0 (∀ x ∈ l2, 0 ≤ x.f0 ∧ x.f0 ≤ 255 ∧ -9223372036854775808 ≤ x.f1 ∧ x.f1 ≤ 9223372036854775807) := ⟨fun x hx => by
    obtain ⟨h1, h2, _⟩ := w2.2 x hx
    simp [Lit.wf, IntKind.min, IntKind.max, IntKind.signed, IntKind.bits] at h1 h2
    omega⟩
  clear w0 w1 w2 hr2 hc2
  by_cases hl : (60 : Int) < l2.length
  · have hl' : decide ((60 : Int) < l2.length) = true := decide_eq_true hl
    go_enter Try.func3, Try.ntmps3
    go_wp2_with fail
    refine (awake_calls _).mono ?_
    rintro e w1 ⟨rfl, hb⟩
    have B1 := Aside0.mk hb
    clear hb
    go_wp2_with fail
    go_ret
    exact ⟨rfl, B1.out⟩
  by_cases ha : (20 : Int) < a1
  · have hl' : decide ((60 : Int) < l2.length) = false := decide_eq_false hl
    have ha' : decide ((20 : Int) < a1) = true := decide_eq_true ha
    go_enter Try.func3, Try.ntmps3
    go_wp2_with fail
    refine (awake_calls _).mono ?_
    rintro e w1 ⟨rfl, hb⟩
    have B1 := Aside0.mk hb
    clear hb
    go_wp2_with fail
    go_ret
    exact ⟨rfl, B1.out⟩
  have hl' : decide ((60 : Int) < l2.length) = false := decide_eq_false hl
  have ha' : decide ((20 : Int) < a1) = false := decide_eq_false ha
  obtain ⟨ag, hag⟩ : ∃ q, q = agn a1 := ⟨_, rfl⟩
  have AGE := Aside0.mk hag
  have AG : Aside0 (1 ≤ ag ∧ ag ≤ 20) := ⟨by rw [hag]; unfold agn; split; omega; split <;> omega⟩
  have hmax : Builtin.max2 (.int .i64 1) (.int .i64 a1) = pure (.int .i64 ag) := by
    rw [max2_int, hag]
    congr 2
    unfold agn
    split <;> (try split) <;> omega
  clear hag
  go_enter Try.func3, Try.ntmps3
  go_wp2_with fail
  refine (LNew_calls 0 1 a0 a1 _ ⟨by decide, by decide⟩ ⟨by decide, by decide⟩).mono ?_
  rintro e w1 ⟨ga, rfl, hge, hL, hb⟩
  obtain ⟨gwa, gga, hL⟩ := hL
  have L1 := Aside0.mk hL
  have B1 := Aside0.mk hb
  clear hge hL hb
  go_wp2_with fail
  refine (LNew_calls 1 0 a0 a1 _ ⟨by decide, by decide⟩ ⟨by decide, by decide⟩).mono ?_
  rintro e w2 ⟨gb, rfl, hge, hL, hb⟩
  obtain ⟨gwb, ggb, hL⟩ := hL
  have L2 := Aside0.mk hL
  have B2 := Aside0.mk hb
  clear hge hL hb
  have G0 : Aside0 (∃ sa sb, sa.last = 0 ∧ sb.gs.u = 0 ∧ AW w w2 ga gwa gga gb gwb ggb ag 0 sa sb (.slice none 0 0) (.slice none 0 0) [] []) := ⟨by
    have h4 := F4_start L1.out B1.out L2.out B2.out
    exact ⟨_, _, rfl, rfl, ⟨_, h4⟩, ⟨⟨rfl, rfl, rfl, rfl, rfl, rfl, rfl, rfl, Int.le_refl _, Int.le_refl _, fun x hx => absurd hx List.not_mem_nil⟩, sq_nil _, Int.le_refl _, Int.le_refl _, AGE.out.symm, Int.le_refl _, ⟨Int.le_refl _, Int.le_refl _⟩⟩⟩⟩
  clear L1 L2 B1 B2
  go_wp2_with fail
  have L60 : l2.length ≤ 60 := by omega
  go_loopg [9, 10, 11, 12] l2.length (fun kq v9 v10 v11 v12 w' => ∃ (j : Nat) (sa sb : LS) (vF vK : Value) (F K : List Fr), v9 = .int .u32 sa.last ∧ v10 = .int .u32 sb.gs.u ∧ v11 = .int .i64 j ∧ v12 = .int .i64 j ∧ j ≤ l2.length ∧ l2.length ≤ kq + j ∧ Aside0 (sa.last ≤ 3 * j) ∧ Aside0 (AW w w' ga gwa gga gb gwb ggb ag j sa sb vF vK F K))
  case atStart =>
    obtain ⟨sa, sb, h1, h2, h3⟩ := G0.out
    exact ⟨0, sa, sb, _, _, [], [], by rw [h1], by rw [h2], rfl, rfl, by omega, by omega, ⟨by omega⟩, ⟨h3⟩⟩
  case round =>
    clear G0
    obtain ⟨j, sa, sb, vF, vK, F, K, rfl, rfl, rfl, rfl, hj, hkj, SZ, G⟩ := hrel
    by_cases hlt : j < l2.length
    · have hlt' : decide ((j : Int) < l2.length) = true := decide_eq_true (by omega)
      have p_ : (0 ≤ (j : Int)) = True := eq_true (by omega)
      have q_ : ((j : Int) < (l2.length : Int)) = True := eq_true (by omega)
      have wj : wrap64 ((j : Int) + 1) = j + 1 := w64 (by omega) (by omega)
      obtain ⟨ad, ead, x0, x1, x2, x3, x4⟩ := at_T28 HR.out (j : Int) (by omega) (by omega)
      simp only [Int.toNat_natCast] at x0 x1 x2 x3 x4
      cases ead
      have hm : rd_T28 l2 (j : Int) ∈ l2 := by simp [rd_T28, List.getD, hlt]
      have HX := Aside0.mk (HN.out _ hm)
      clear hm
      generalize rd_T28 l2 (j : Int) = x at *
      obtain ⟨p0, p1, p2, p3, p4⟩ := x
      dsimp only at x0 x1 x2 x3 x4 HX
      have X0 := Aside0.mk x0
      have X2 := Aside0.mk x2
      have X3 := Aside0.mk x3
      clear x0 x1 x2 x3 x4
      obtain ⟨go_, GO⟩ : ∃ q, Aside0 (q = gk) := ⟨_, ⟨rfl⟩⟩
      go_wp2_with fail
      go_loopg [9, 13] 3 (fun kq v9 v13 w' => ∃ (k : Nat) (sa' : LS), v9 = .int .u32 sa'.last ∧ v13 = .int .u8 k ∧ (k : Int) ≤ p0 % 4 ∧ 3 ≤ kq + k ∧ Aside0 (sa'.last ≤ 3 * j + k) ∧ Aside0 (AW w w' ga gwa gga gb gwb ggb ag j sa' sb vF vK F K))
      case atStart => exact ⟨0, sa, rfl, rfl, by have := HX.out.1; omega, by omega, ⟨by have := SZ.out; simp; omega⟩, G⟩
      case round =>
        clear G SZ
        obtain ⟨k, sa', rfl, rfl, hk, hkq, SZ, G⟩ := hrel
        have y0 := pw_cell_below G.out.below X0.out
        have hx0 := HX.out.1
        have hx255 := HX.out.2.1
        by_cases hks : (k : Int) < p0 % 4
        · have hks' : decide ((k : Int) < p0 % 4) = true := decide_eq_true hks
          have u2 : IntKind.u8.wrap ((k : Int) + 1) = k + 1 := by simp [IntKind.wrap, IntKind.signed, IntKind.bits]; omega
          have hn0 : 0 ≤ sa'.last := by have h1 := G.out.q.ln; omega
          have hn1 := SZ.out
          have SD := Aside0.mk (AW_Send sa'.last rfl G.out (by omega))
          go_wp2_with fail
          refine SD.out.mono ?_
          clear SD y0
          rintro e w4 ⟨q, rfl, hq, sa2, hl2, h⟩
          have w1_ : IntKind.u32.wrap (q : Int) = q := by simp [IntKind.wrap, IntKind.signed, IntKind.bits]; omega
          have w2_ : IntKind.u32.wrap (sa'.last + (q : Int)) = sa'.last + q := by simp [IntKind.wrap, IntKind.signed, IntKind.bits]; omega
          have G4 := Aside0.mk h
          have HL2 := Aside0.mk hl2
          clear h G hl2
          go_wp2_with fail
          go_roundg (gk - 1)
          case measure => omega
          case rel => exact ⟨k + 1, sa2, by rw [HL2.out], by simp, by omega, by omega, ⟨by rw [HL2.out]; simp; omega⟩, G4⟩
        · have hks' : decide ((k : Int) < p0 % 4) = false := decide_eq_false hks
          have SZ3 : Aside0 (sa'.last ≤ 3 * (j + 1)) := ⟨by have := SZ.out; omega⟩
          clear SZ
          have SZ := SZ3
          clear SZ3
          clear hk hks hkq
          go_wp2_with fail
          clear y0 hks' wj
          obtain ⟨sa, hsa⟩ : ∃ q, q = sa' := ⟨_, rfl⟩
          rw [← hsa] at SZ G ⊢
          clear hsa
          as_aux_lemma =>
            refine (AW_OutA ((j : Int) + 1) (by omega) G.out).mono ?_
            rintro e w5 ⟨D, A, c, rfl, eD, ow1, h5⟩
            have H5 := Aside0.mk h5
            have ED := Aside0.mk eD
            clear h5 eD
            go_wp2_with fail
            refine (AW_OutB ((j : Int) + 1) (by omega) H5.out).mono ?_
            rintro e w6 ⟨O, B, d, rfl, eO, ow2, h6⟩
            have TKD := Aside0.mk (AW_Outs (h0 := G.out) (nw := ((j : Int) + 1)) (by omega) ED.out eO h6)
            have HQ := Aside0.mk G.out.q
            have HG := Aside0.mk (And.intro G.out.q.fp.bme G.out.q.fp.bpeer)
            clear h6 H5 G eO ED
            obtain ⟨p, hp⟩ : ∃ q : Int, q = sa.last + 1 - sa.L.length + (outD sa ((j : Int) + 1) : Nat) := ⟨_, rfl⟩
            obtain ⟨sa1, hsa1⟩ : ∃ q, q = outS sa ((j : Int) + 1) := ⟨_, rfl⟩
            obtain ⟨sb1, hsb1⟩ : ∃ q, q = outS sb ((j : Int) + 1) := ⟨_, rfl⟩
            rw [← hp, ← hsa1, ← hsb1] at TKD
            have OO := Aside0.mk (TKD.out.o1 HG.out.1 HG.out.2)
            obtain ⟨N, hN⟩ : ∃ q, q = sa.last := ⟨_, rfl⟩
            have NL := Aside0.mk hN
            have SL : Aside0 (sa.last ≤ 1000000) := ⟨by have := SZ.out; omega⟩
            have SLN : Aside0 (N ≤ 1000000) := ⟨by rw [NL.out]; exact SL.out⟩
            have LAN : Aside0 (sa1.last = N) := ⟨by rw [NL.out, hsa1]; rfl⟩
            have LA : Aside0 (sa1.last = sa.last) := ⟨by rw [hsa1]; rfl⟩
            have NWA : Aside0 (sa1.now = ((j : Int) + 1)) := ⟨by rw [hsa1]; rfl⟩
            have UB1 : Aside0 (sb1.gs.u = sb.gs.u) := ⟨by rw [hsb1]; rfl⟩
            have LD : Aside0 (D.length ≤ 1000000) := ⟨by have h1 := TKD.out.dl; have h2 := HQ.out.ln; have h3 := SL.out; omega⟩
            clear hp hsa1 hsb1 hN
            have G0 := Aside0.mk TKD.out.aw
            rw [← UB1.out]
            go_upto_block 4 with (fail)
            go_cut [10] (fun v10 w' => ∃ (sb2 : LS), v10 = .int .u32 sb2.gs.u ∧ Aside0 (AW w w' ga gwa gga gb gwb ggb ag ((j : Int) + 1) sa1 sb2 (.slice A D.length c) (.slice B O.length d) D O) ∧ Aside0 (sb1.gs.u ≤ sb2.gs.u))
            case first =>
              go_wp2_with fail
              go_loopg [10, 16] D.length (fun kq v10 v16 w' => ∃ (k : Nat) (sb' : LS), v10 = .int .u32 sb'.gs.u ∧ v16 = .int .i64 k ∧ k ≤ D.length ∧ D.length ≤ kq + k ∧ Aside0 (AW w w' ga gwa gga gb gwb ggb ag ((j : Int) + 1) sa1 sb' (.slice A D.length c) (.slice B O.length d) D O) ∧ Aside0 (DB sb1 sb' p k))
              case atStart => exact ⟨0, sb1, by rfl, rfl, by omega, by omega, G0, ⟨DB.zero _ _⟩⟩
              case round =>
                clear G0
                obtain ⟨k, sb', rfl, rfl, hk, hkq, G, DBk⟩ := hrel
                have y2 := pw_cell_below G.out.below X2.out
                by_cases hkl : k < D.length
                · have hkl' : decide ((k : Int) < D.length) = true := decide_eq_true (by omega)
                  have hkl2 : decide (k < D.length) = true := decide_eq_true hkl
                  have WK : Aside0 (wrap64 ((k : Int) + 1) = k + 1) := ⟨w64 (by omega) (by have := LD.out; omega)⟩
                  cases p2
                  · go_wp2_with fail
                    go_meet
                    exact ⟨sb', rfl, G, ⟨DBk.out.le⟩⟩
                  · obtain ⟨ra, ca, hv, _, hra, _⟩ := R_head G.out.R.1 (by omega)
                    cases hv
                    obtain ⟨cc, hcl, hM, hcc, _⟩ := Kd.R_elem G.out.R.1 z39 (k : Int) (by omega) (by omega)
                    rw [show (k : Int).toNat = k from Int.toNat_natCast k] at hM hcc
                    obtain ⟨xk, hxk⟩ : ∃ y, y = D.getD k z39 := ⟨_, rfl⟩
                    rw [← hxk] at hM
                    have hxe : D[k]? = some xk := by rw [hxk]; simp [List.getD, hkl]
                    obtain ⟨v11, v12, v13, v14, v15, rfl, r11, r12, r13, r14, r15⟩ := k39_openM hM
                    obtain ⟨A11, c11, rfl⟩ := Kd.R_slice r11
                    obtain ⟨A12, c12, rfl⟩ := Kd.R_slice r12
                    obtain ⟨A13, c13, rfl⟩ := Kd.R_slice r13
                    obtain ⟨A14, c14, rfl⟩ := Kd.R_slice r14
                    obtain ⟨A15, c15, rfl⟩ := Kd.R_slice r15
                    have hc : ∀ (j : Nat) (u : Value), [.int .u8 xk.f0.f0, .int .u8 xk.f0.f1, .int .u8 xk.f0.f2, .int .u8 xk.f1.f0, .int .u64 xk.f1.f1, .int .u64 xk.f2, .int .u32 xk.f3, .int .u32 xk.f4, .int .u32 xk.f5, .int .u64 xk.f6, .int .u64 xk.f7, .slice A11 xk.f8.length c11, .slice A12 xk.f9.length c12, .slice A13 xk.f10.length c13, .slice A14 xk.f11.length c14, .slice A15 xk.f12.length c15][j]? = some u → wr.cell? ⟨ra, k * 16 + j, none⟩ = some u := hcc
                    have qs : wr.cell? ⟨ra, k * 16, none⟩ = some (.int .u8 xk.f0.f0) ∧ wr.cell? ⟨ra, k * 16 + 1, none⟩ = some (.int .u8 xk.f0.f1) ∧ wr.cell? ⟨ra, k * 16 + 2, none⟩ = some (.int .u8 xk.f0.f2) ∧ wr.cell? ⟨ra, k * 16 + 3, none⟩ = some (.int .u8 xk.f1.f0) ∧ wr.cell? ⟨ra, k * 16 + 4, none⟩ = some (.int .u64 xk.f1.f1) ∧ wr.cell? ⟨ra, k * 16 + 5, none⟩ = some (.int .u64 xk.f2) ∧ wr.cell? ⟨ra, k * 16 + 6, none⟩ = some (.int .u32 xk.f3) ∧ wr.cell? ⟨ra, k * 16 + 7, none⟩ = some (.int .u32 xk.f4) ∧ wr.cell? ⟨ra, k * 16 + 8, none⟩ = some (.int .u32 xk.f5) ∧ wr.cell? ⟨ra, k * 16 + 9, none⟩ = some (.int .u64 xk.f6) ∧ wr.cell? ⟨ra, k * 16 + 10, none⟩ = some (.int .u64 xk.f7) ∧ wr.cell? ⟨ra, k * 16 + 11, none⟩ = some (.slice A11 xk.f8.length c11) ∧ wr.cell? ⟨ra, k * 16 + 12, none⟩ = some (.slice A12 xk.f9.length c12) ∧ wr.cell? ⟨ra, k * 16 + 13, none⟩ = some (.slice A13 xk.f10.length c13) ∧ wr.cell? ⟨ra, k * 16 + 14, none⟩ = some (.slice A14 xk.f11.length c14) ∧ wr.cell? ⟨ra, k * 16 + 15, none⟩ = some (.slice A15 xk.f12.length c15) := ⟨hc 0 _ rfl, hc 1 _ rfl, hc 2 _ rfl, hc 3 _ rfl, hc 4 _ rfl, hc 5 _ rfl, hc 6 _ rfl, hc 7 _ rfl, hc 8 _ rfl, hc 9 _ rfl, hc 10 _ rfl, hc 11 _ rfl, hc 12 _ rfl, hc 13 _ rfl, hc 14 _ rfl, hc 15 _ rfl⟩
                    obtain ⟨q0, q1, q2, q3, q4, q5, q6, q7, q8, q9, q10, q11, q12, q13, q14, q15⟩ := qs
                    have pk_ : (0 ≤ (k : Int)) = True := eq_true (by omega)
                    have qk_ : ((k : Int) < (D.length : Int)) = True := eq_true (by omega)
                    have HXE := Aside0.mk (TKD.out.d k xk hxe)
                    have CA := Aside0.mk (AW_ComeB (A11 := A11) (A12 := A12) (A13 := A13) (A14 := A14) (A15 := A15) (c11 := c11) (c12 := c12) (c13 := c13) (c14 := c14) (c15 := c15) xk G.out (by rw [LA.out]; exact HXE.out.1) (by rw [LA.out]; exact SL.out))
                    clear hcc hcl hM r11 r12 r13 r14 r15 hc hxk hra hxe
                    go_wp2_with fail
                    refine CA.out.mono ?_
                    rintro e w5 ⟨y, B11, B12, B13, B14, B15, d11, d12, d13, d14, d15, bo, rfl, hyl, hgu, h⟩
                    have G5 := Aside0.mk (h.step (below_alloc (Below.refl _ _) (.cells #[.int .u8 y.f0.f0, .int .u8 y.f0.f1, .int .u8 y.f0.f2, .int .u8 y.f1.f0, .int .u64 y.f1.f1, .int .u64 y.f2, .int .u32 y.f3, .int .u32 y.f4, .int .u32 y.f5, .int .u64 y.f6, .int .u64 y.f7, .slice B11 y.f8.length d11, .slice B12 y.f9.length d12, .slice B13 y.f10.length d13, .slice B14 y.f11.length d14, .slice B15 y.f12.length d15] 39)))
                    have HY := Aside0.mk hyl
                    have GU := Aside0.mk hgu
                    have DB5 : Aside0 (DB sb1 (tookS sb' xk.f2) p (k + 1)) := ⟨by rw [HXE.out.2]; exact DBk.out.succ⟩
                    have UB : Aside0 (0 ≤ sb'.gs.u ∧ sb'.gs.u ≤ 1000000) := ⟨by have h1 := G.out.q.fp.let0; have h2 := G.out.q.fp.le; have h3 := LA.out; have h4 := SL.out; omega⟩
                    clear h CA q0 q1 q2 q3 q4 q5 q6 q7 q8 q9 q10 q11 q12 q13 q14 q15 G hyl hgu DBk HXE
                    cases bo
                    · have e5 : (tookS sb' xk.f2).gs.u = sb'.gs.u := by rw [GU.out, if_neg (by decide)]
                      have E5 := Aside0.mk e5
                      clear e5 HY GU UB
                      go_wp2_with fail
                      go_roundg (gk - 1)
                      case measure => omega
                      case rel => exact ⟨k + 1, _, by rw [E5.out], by simp [WK.out], by omega, by omega, G5, DB5⟩
                    · have e5 : (tookS sb' xk.f2).gs.u = sb'.gs.u + 1 := by rw [GU.out, if_pos rfl]
                      have u5 : IntKind.u32.wrap (sb'.gs.u + 1) = sb'.gs.u + 1 := by have := UB.out; simp [IntKind.wrap, IntKind.signed, IntKind.bits]; omega
                      have E5 := Aside0.mk e5
                      clear e5 HY GU UB
                      go_wp2_with fail
                      go_roundg (gk - 1)
                      case measure => omega
                      case rel => exact ⟨k + 1, _, by rw [E5.out], by simp [WK.out], by omega, by omega, G5, DB5⟩
                · have hkl' : decide ((k : Int) < D.length) = false := decide_eq_false (by omega)
                  have hkl2 : decide (k < D.length) = false := decide_eq_false hkl

                  go_wp2_with fail
                  go_meet
                  exact ⟨sb', rfl, G, ⟨DBk.out.le⟩⟩
            clear G0
            obtain ⟨sb2, rfl, G2, HU⟩ := hcut
            have UB : Aside0 (0 ≤ sb.gs.u ∧ sb.gs.u ≤ sb2.gs.u) := ⟨by have h1 := HU.out; have h2 := UB1.out; have h3 := HQ.out.fp.let0; omega⟩
            go_wp2_with fail
            go_loopg [19] O.length (fun kq v19 w' => ∃ (k : Nat) (sa' : LS), v19 = .int .i64 k ∧ k ≤ O.length ∧ O.length ≤ kq + k ∧ Aside0 (AW w w' ga gwa gga gb gwb ggb ag ((j : Int) + 1) sa' sb2 (.slice A D.length c) (.slice B O.length d) D O) ∧ Aside0 (sa'.last = N ∧ sa'.now = ((j : Int) + 1) ∧ (k = 0 → sa' = sa1) ∧ (k = 1 → sa' = ackS sa1 (ackd sa1 sb.gs.u))))
            case atStart => exact ⟨0, sa1, rfl, by omega, by omega, G2, ⟨LAN.out, NWA.out, fun _ => rfl, fun h => by omega⟩⟩
            case round =>
              clear G2
              obtain ⟨k, sa', rfl, hk, hkq, G, HS⟩ := hrel
              have y3 := pw_cell_below G.out.below X3.out
              by_cases hkl : k < O.length
              · have hkl' : decide ((k : Int) < O.length) = true := decide_eq_true (by omega)
                have hkl2 : decide (k < O.length) = true := decide_eq_true hkl
                have WK : Aside0 (wrap64 ((k : Int) + 1) = k + 1) := ⟨w64 (by omega) (by have := OO.out.1; omega)⟩
                cases p3
                · go_wp2_with fail
                  have G9 : Aside0 (AW w wr ga gwa gga gb gwb ggb ag ((j + 1 : Nat) : Int) sa' sb2 (.slice A D.length c) (.slice B O.length d) D O) := ⟨by rw [show ((j + 1 : Nat) : Int) = (j : Int) + 1 by omega]; exact G.out⟩
                  go_roundg (go_ - 1)
                  case measure => have := GO.out; omega
                  case rel => exact ⟨j + 1, sa', sb2, _, _, D, O, by rw [HS.out.1, NL.out], rfl, by simp, by simp, by omega, by have := GO.out; omega, ⟨by have h1 := SZ.out; have h2 := HS.out.1; have h3 := NL.out; omega⟩, G9⟩
                · obtain ⟨ra, ca, hv, _, hra, _⟩ := R_head G.out.R.2 (by omega)
                  cases hv
                  obtain ⟨cc, hcl, hM, hcc, _⟩ := Kd.R_elem G.out.R.2 z39 (k : Int) (by omega) (by omega)
                  rw [show (k : Int).toNat = k from Int.toNat_natCast k] at hM hcc
                  obtain ⟨xk, hxk⟩ : ∃ y, y = O.getD k z39 := ⟨_, rfl⟩
                  rw [← hxk] at hM
                  have hxe : O[k]? = some xk := by rw [hxk]; simp [List.getD, hkl]
                  obtain ⟨v11, v12, v13, v14, v15, rfl, r11, r12, r13, r14, r15⟩ := k39_openM hM
                  obtain ⟨A11, c11, rfl⟩ := Kd.R_slice r11
                  obtain ⟨A12, c12, rfl⟩ := Kd.R_slice r12
                  obtain ⟨A13, c13, rfl⟩ := Kd.R_slice r13
                  obtain ⟨A14, c14, rfl⟩ := Kd.R_slice r14
                  obtain ⟨A15, c15, rfl⟩ := Kd.R_slice r15
                  have hc : ∀ (j : Nat) (u : Value), [.int .u8 xk.f0.f0, .int .u8 xk.f0.f1, .int .u8 xk.f0.f2, .int .u8 xk.f1.f0, .int .u64 xk.f1.f1, .int .u64 xk.f2, .int .u32 xk.f3, .int .u32 xk.f4, .int .u32 xk.f5, .int .u64 xk.f6, .int .u64 xk.f7, .slice A11 xk.f8.length c11, .slice A12 xk.f9.length c12, .slice A13 xk.f10.length c13, .slice A14 xk.f11.length c14, .slice A15 xk.f12.length c15][j]? = some u → wr.cell? ⟨ra, k * 16 + j, none⟩ = some u := hcc
                  have qs : wr.cell? ⟨ra, k * 16, none⟩ = some (.int .u8 xk.f0.f0) ∧ wr.cell? ⟨ra, k * 16 + 1, none⟩ = some (.int .u8 xk.f0.f1) ∧ wr.cell? ⟨ra, k * 16 + 2, none⟩ = some (.int .u8 xk.f0.f2) ∧ wr.cell? ⟨ra, k * 16 + 3, none⟩ = some (.int .u8 xk.f1.f0) ∧ wr.cell? ⟨ra, k * 16 + 4, none⟩ = some (.int .u64 xk.f1.f1) ∧ wr.cell? ⟨ra, k * 16 + 5, none⟩ = some (.int .u64 xk.f2) ∧ wr.cell? ⟨ra, k * 16 + 6, none⟩ = some (.int .u32 xk.f3) ∧ wr.cell? ⟨ra, k * 16 + 7, none⟩ = some (.int .u32 xk.f4) ∧ wr.cell? ⟨ra, k * 16 + 8, none⟩ = some (.int .u32 xk.f5) ∧ wr.cell? ⟨ra, k * 16 + 9, none⟩ = some (.int .u64 xk.f6) ∧ wr.cell? ⟨ra, k * 16 + 10, none⟩ = some (.int .u64 xk.f7) ∧ wr.cell? ⟨ra, k * 16 + 11, none⟩ = some (.slice A11 xk.f8.length c11) ∧ wr.cell? ⟨ra, k * 16 + 12, none⟩ = some (.slice A12 xk.f9.length c12) ∧ wr.cell? ⟨ra, k * 16 + 13, none⟩ = some (.slice A13 xk.f10.length c13) ∧ wr.cell? ⟨ra, k * 16 + 14, none⟩ = some (.slice A14 xk.f11.length c14) ∧ wr.cell? ⟨ra, k * 16 + 15, none⟩ = some (.slice A15 xk.f12.length c15) := ⟨hc 0 _ rfl, hc 1 _ rfl, hc 2 _ rfl, hc 3 _ rfl, hc 4 _ rfl, hc 5 _ rfl, hc 6 _ rfl, hc 7 _ rfl, hc 8 _ rfl, hc 9 _ rfl, hc 10 _ rfl, hc 11 _ rfl, hc 12 _ rfl, hc 13 _ rfl, hc 14 _ rfl, hc 15 _ rfl⟩
                  obtain ⟨q0, q1, q2, q3, q4, q5, q6, q7, q8, q9, q10, q11, q12, q13, q14, q15⟩ := qs
                  have pk_ : (0 ≤ (k : Int)) = True := eq_true (by omega)
                  have qk_ : ((k : Int) < (O.length : Int)) = True := eq_true (by omega)
                  have HO1 := Aside0.mk (OO.out.2 xk (List.mem_of_getElem? hxe))
                  have CA := Aside0.mk (AW_ComeA (A11 := A11) (A12 := A12) (A13 := A13) (A14 := A14) (A15 := A15) (c11 := c11) (c12 := c12) (c13 := c13) (c14 := c14) (c15 := c15) xk sb.gs.u G.out HO1.out.1 HO1.out.2.1 HO1.out.2.2.1 HO1.out.2.2.2 UB.out.1 UB.out.2 (by rw [HS.out.1]; exact SLN.out) HS.out.2.1)
                  clear hcc hcl hM r11 r12 r13 r14 r15 hc hxk hra hxe
                  go_wp2_with fail
                  refine CA.out.mono ?_
                  rintro e w5 ⟨⟨v, rfl⟩, h⟩
                  have G5 := Aside0.mk h
                  have HS5 : Aside0 ((ackS sa' (ackd sa' sb.gs.u)).last = N ∧ (ackS sa' (ackd sa' sb.gs.u)).now = ((j : Int) + 1) ∧ (k + 1 = 0 → ackS sa' (ackd sa' sb.gs.u) = sa1) ∧ (k + 1 = 1 → ackS sa' (ackd sa' sb.gs.u) = ackS sa1 (ackd sa1 sb.gs.u))) := ⟨HS.out.1, HS.out.2.1, fun h => by omega, fun h => by rw [HS.out.2.2.1 (by omega)]⟩
                  clear h CA q0 q1 q2 q3 q4 q5 q6 q7 q8 q9 q10 q11 q12 q13 q14 q15 G HS HO1
                  go_wp2_with fail
                  go_roundg (gk - 1)
                  case measure => omega
                  case rel => exact ⟨k + 1, _, by simp [WK.out], by omega, by omega, G5, HS5⟩
              · have hkl' : decide ((k : Int) < O.length) = false := decide_eq_false (by omega)
                have hkl2 : decide (k < O.length) = false := decide_eq_false hkl

                go_wp2_with fail
                have G9 : Aside0 (AW w wr ga gwa gga gb gwb ggb ag ((j + 1 : Nat) : Int) sa' sb2 (.slice A D.length c) (.slice B O.length d) D O) := ⟨by rw [show ((j + 1 : Nat) : Int) = (j : Int) + 1 by omega]; exact G.out⟩
                go_roundg (go_ - 1)
                case measure => have := GO.out; omega
                case rel => exact ⟨j + 1, sa', sb2, _, _, D, O, by rw [HS.out.1, NL.out], rfl, by simp, by simp, by omega, by have := GO.out; omega, ⟨by have h1 := SZ.out; have h2 := HS.out.1; have h3 := NL.out; omega⟩, G9⟩

    · as_aux_lemma =>
        have hlt' : decide ((j : Int) < l2.length) = false := decide_eq_false (by omega)
        have j60 : j ≤ 60 := by omega
        have PH0 : Aside0 (PH j ag 0 sa sb) := ⟨⟨fun h => by omega, fun h => by omega, fun h => by have := AG.out; omega⟩⟩
        have ag1 := AG.out.1
        have ag2 := AG.out.2
        have wa : wrap64 ((j : Int) + ag) = j + ag := w64 (by omega) (by omega)
        have wb : wrap64 ((j : Int) + ag + 3) = j + ag + 3 := w64 (by omega) (by omega)
        obtain ⟨N0, hN0⟩ : ∃ q, q = sa.last := ⟨_, rfl⟩
        have N0E := Aside0.mk hN0
        have N0L : Aside0 (N0 ≤ 180) := ⟨by have := SZ.out; omega⟩
        go_wp2_with fail
        rw [← hN0]
        clear hN0 SZ hlt'
        go_loopg [10, 11] 30 (fun kq v10 v11 w' => ∃ (t : Nat) (sa sb : LS) (vF vK : Value) (F K : List Fr), v10 = .int .u32 sb.gs.u ∧ v11 = .int .i64 ((j : Int) + t) ∧ (t : Int) ≤ ag + 3 ∧ ag + 3 ≤ (kq : Int) + t ∧ Aside0 (N0 = sa.last) ∧ Aside0 (AW w w' ga gwa gga gb gwb ggb ag ((j : Int) + t) sa sb vF vK F K) ∧ Aside0 (PH j ag t sa sb))
        case atStart => exact ⟨0, sa, sb, vF, vK, F, K, rfl, by simp, by omega, by omega, N0E, ⟨by simpa using G.out⟩, PH0⟩
        case round =>
          clear PH0 G N0E wa wb
          obtain ⟨t, sa, sb, vF, vK, F, K, rfl, rfl, ht, hkt, N0E, G, PHt⟩ := hrel
          obtain ⟨go_, GO⟩ : ∃ q, Aside0 (q = gk) := ⟨_, ⟨rfl⟩⟩
          by_cases hlt : (t : Int) < ag + 3
          · have hlt' : decide ((j : Int) + t < j + ag + 3) = true := decide_eq_true (by omega)
            have wt : wrap64 ((j : Int) + t + 1) = (j : Int) + t + 1 := w64 (by omega) (by omega)
            have SZ : Aside0 (sa.last ≤ 180) := ⟨by have h1 := N0E.out; have h2 := N0L.out; omega⟩
            go_wp2_with fail
            clear wt
            refine (AW_OutA ((j : Int) + t + 1) (by omega) G.out).mono ?_
            rintro e w5 ⟨D, A, c, rfl, eD, ow1, h5⟩
            have H5 := Aside0.mk h5
            have ED := Aside0.mk eD
            clear h5 eD
            go_wp2_with fail
            refine (AW_OutB ((j : Int) + t + 1) (by omega) H5.out).mono ?_
            rintro e w6 ⟨O, B, d, rfl, eO, ow2, h6⟩
            have TKD := Aside0.mk (AW_Outs (h0 := G.out) (nw := ((j : Int) + t + 1)) (by omega) ED.out eO h6)
            have HQ := Aside0.mk G.out.q
            have HG := Aside0.mk (And.intro G.out.q.fp.bme G.out.q.fp.bpeer)
            clear h6 H5 G eO ED
            obtain ⟨p, hp⟩ : ∃ q : Int, q = sa.last + 1 - sa.L.length + (outD sa ((j : Int) + t + 1) : Nat) := ⟨_, rfl⟩
            obtain ⟨sa1, hsa1⟩ : ∃ q, q = outS sa ((j : Int) + t + 1) := ⟨_, rfl⟩
            obtain ⟨sb1, hsb1⟩ : ∃ q, q = outS sb ((j : Int) + t + 1) := ⟨_, rfl⟩
            rw [← hp, ← hsa1, ← hsb1] at TKD
            have OO := Aside0.mk (TKD.out.o1 HG.out.1 HG.out.2)
            obtain ⟨N, hN⟩ : ∃ q, q = sa.last := ⟨_, rfl⟩
            have NL := Aside0.mk hN
            have SL : Aside0 (sa.last ≤ 1000000) := ⟨by have := SZ.out; omega⟩
            have SLN : Aside0 (N ≤ 1000000) := ⟨by rw [NL.out]; exact SL.out⟩
            have LAN : Aside0 (sa1.last = N) := ⟨by rw [NL.out, hsa1]; rfl⟩
            have LA : Aside0 (sa1.last = sa.last) := ⟨by rw [hsa1]; rfl⟩
            have NWA : Aside0 (sa1.now = ((j : Int) + t + 1)) := ⟨by rw [hsa1]; rfl⟩
            have UB1 : Aside0 (sb1.gs.u = sb.gs.u) := ⟨by rw [hsb1]; rfl⟩
            have LD : Aside0 (D.length ≤ 1000000) := ⟨by have h1 := TKD.out.dl; have h2 := HQ.out.ln; have h3 := SL.out; omega⟩
            clear hp hsa1 hsb1 hN
            have G0 := Aside0.mk TKD.out.aw
            rw [← UB1.out]
            go_wp2_with fail
            go_loopg [10, 23] D.length (fun kq v10 v16 w' => ∃ (k : Nat) (sb' : LS), v10 = .int .u32 sb'.gs.u ∧ v16 = .int .i64 k ∧ k ≤ D.length ∧ D.length ≤ kq + k ∧ Aside0 (AW w w' ga gwa gga gb gwb ggb ag ((j : Int) + t + 1) sa1 sb' (.slice A D.length c) (.slice B O.length d) D O) ∧ Aside0 (DB sb1 sb' p k))
            case atStart => exact ⟨0, sb1, by rfl, rfl, by omega, by omega, G0, ⟨DB.zero _ _⟩⟩
            case round =>
              clear G0
              obtain ⟨k, sb', rfl, rfl, hk, hkq, G, DBk⟩ := hrel
              by_cases hkl : k < D.length
              · have hkl' : decide ((k : Int) < D.length) = true := decide_eq_true (by omega)
                have hkl2 : decide (k < D.length) = true := decide_eq_true hkl
                have WK : Aside0 (wrap64 ((k : Int) + 1) = k + 1) := ⟨w64 (by omega) (by have := LD.out; omega)⟩
                obtain ⟨ra, ca, hv, _, hra, _⟩ := R_head G.out.R.1 (by omega)
                cases hv
                obtain ⟨cc, hcl, hM, hcc, _⟩ := Kd.R_elem G.out.R.1 z39 (k : Int) (by omega) (by omega)
                rw [show (k : Int).toNat = k from Int.toNat_natCast k] at hM hcc
                obtain ⟨xk, hxk⟩ : ∃ y, y = D.getD k z39 := ⟨_, rfl⟩
                rw [← hxk] at hM
                have hxe : D[k]? = some xk := by rw [hxk]; simp [List.getD, hkl]
                obtain ⟨v11, v12, v13, v14, v15, rfl, r11, r12, r13, r14, r15⟩ := k39_openM hM
                obtain ⟨A11, c11, rfl⟩ := Kd.R_slice r11
                obtain ⟨A12, c12, rfl⟩ := Kd.R_slice r12
                obtain ⟨A13, c13, rfl⟩ := Kd.R_slice r13
                obtain ⟨A14, c14, rfl⟩ := Kd.R_slice r14
                obtain ⟨A15, c15, rfl⟩ := Kd.R_slice r15
                have hc : ∀ (j : Nat) (u : Value), [.int .u8 xk.f0.f0, .int .u8 xk.f0.f1, .int .u8 xk.f0.f2, .int .u8 xk.f1.f0, .int .u64 xk.f1.f1, .int .u64 xk.f2, .int .u32 xk.f3, .int .u32 xk.f4, .int .u32 xk.f5, .int .u64 xk.f6, .int .u64 xk.f7, .slice A11 xk.f8.length c11, .slice A12 xk.f9.length c12, .slice A13 xk.f10.length c13, .slice A14 xk.f11.length c14, .slice A15 xk.f12.length c15][j]? = some u → wr.cell? ⟨ra, k * 16 + j, none⟩ = some u := hcc
                have qs : wr.cell? ⟨ra, k * 16, none⟩ = some (.int .u8 xk.f0.f0) ∧ wr.cell? ⟨ra, k * 16 + 1, none⟩ = some (.int .u8 xk.f0.f1) ∧ wr.cell? ⟨ra, k * 16 + 2, none⟩ = some (.int .u8 xk.f0.f2) ∧ wr.cell? ⟨ra, k * 16 + 3, none⟩ = some (.int .u8 xk.f1.f0) ∧ wr.cell? ⟨ra, k * 16 + 4, none⟩ = some (.int .u64 xk.f1.f1) ∧ wr.cell? ⟨ra, k * 16 + 5, none⟩ = some (.int .u64 xk.f2) ∧ wr.cell? ⟨ra, k * 16 + 6, none⟩ = some (.int .u32 xk.f3) ∧ wr.cell? ⟨ra, k * 16 + 7, none⟩ = some (.int .u32 xk.f4) ∧ wr.cell? ⟨ra, k * 16 + 8, none⟩ = some (.int .u32 xk.f5) ∧ wr.cell? ⟨ra, k * 16 + 9, none⟩ = some (.int .u64 xk.f6) ∧ wr.cell? ⟨ra, k * 16 + 10, none⟩ = some (.int .u64 xk.f7) ∧ wr.cell? ⟨ra, k * 16 + 11, none⟩ = some (.slice A11 xk.f8.length c11) ∧ wr.cell? ⟨ra, k * 16 + 12, none⟩ = some (.slice A12 xk.f9.length c12) ∧ wr.cell? ⟨ra, k * 16 + 13, none⟩ = some (.slice A13 xk.f10.length c13) ∧ wr.cell? ⟨ra, k * 16 + 14, none⟩ = some (.slice A14 xk.f11.length c14) ∧ wr.cell? ⟨ra, k * 16 + 15, none⟩ = some (.slice A15 xk.f12.length c15) := ⟨hc 0 _ rfl, hc 1 _ rfl, hc 2 _ rfl, hc 3 _ rfl, hc 4 _ rfl, hc 5 _ rfl, hc 6 _ rfl, hc 7 _ rfl, hc 8 _ rfl, hc 9 _ rfl, hc 10 _ rfl, hc 11 _ rfl, hc 12 _ rfl, hc 13 _ rfl, hc 14 _ rfl, hc 15 _ rfl⟩
                obtain ⟨q0, q1, q2, q3, q4, q5, q6, q7, q8, q9, q10, q11, q12, q13, q14, q15⟩ := qs
                have pk_ : (0 ≤ (k : Int)) = True := eq_true (by omega)
                have qk_ : ((k : Int) < (D.length : Int)) = True := eq_true (by omega)
                have HXE := Aside0.mk (TKD.out.d k xk hxe)
                have CA := Aside0.mk (AW_ComeB (A11 := A11) (A12 := A12) (A13 := A13) (A14 := A14) (A15 := A15) (c11 := c11) (c12 := c12) (c13 := c13) (c14 := c14) (c15 := c15) xk G.out (by rw [LA.out]; exact HXE.out.1) (by rw [LA.out]; exact SL.out))
                clear hcc hcl hM r11 r12 r13 r14 r15 hc hxk hra hxe
                go_wp2_with fail
                refine CA.out.mono ?_
                rintro e w5 ⟨y, B11, B12, B13, B14, B15, d11, d12, d13, d14, d15, bo, rfl, hyl, hgu, h⟩
                have G5 := Aside0.mk (h.step (below_alloc (Below.refl _ _) (.cells #[.int .u8 y.f0.f0, .int .u8 y.f0.f1, .int .u8 y.f0.f2, .int .u8 y.f1.f0, .int .u64 y.f1.f1, .int .u64 y.f2, .int .u32 y.f3, .int .u32 y.f4, .int .u32 y.f5, .int .u64 y.f6, .int .u64 y.f7, .slice B11 y.f8.length d11, .slice B12 y.f9.length d12, .slice B13 y.f10.length d13, .slice B14 y.f11.length d14, .slice B15 y.f12.length d15] 39)))
                have HY := Aside0.mk hyl
                have GU := Aside0.mk hgu
                have DB5 : Aside0 (DB sb1 (tookS sb' xk.f2) p (k + 1)) := ⟨by rw [HXE.out.2]; exact DBk.out.succ⟩
                have UB : Aside0 (0 ≤ sb'.gs.u ∧ sb'.gs.u ≤ 1000000) := ⟨by have h1 := G.out.q.fp.let0; have h2 := G.out.q.fp.le; have h3 := LA.out; have h4 := SL.out; omega⟩
                clear h CA q0 q1 q2 q3 q4 q5 q6 q7 q8 q9 q10 q11 q12 q13 q14 q15 G hyl hgu DBk HXE
                cases bo
                · have e5 : (tookS sb' xk.f2).gs.u = sb'.gs.u := by rw [GU.out, if_neg (by decide)]
                  have E5 := Aside0.mk e5
                  clear e5 HY GU UB
                  go_wp2_with fail
                  go_roundg (gk - 1)
                  case measure => omega
                  case rel => exact ⟨k + 1, _, by rw [E5.out], by simp [WK.out], by omega, by omega, G5, DB5⟩
                · have e5 : (tookS sb' xk.f2).gs.u = sb'.gs.u + 1 := by rw [GU.out, if_pos rfl]
                  have u5 : IntKind.u32.wrap (sb'.gs.u + 1) = sb'.gs.u + 1 := by have := UB.out; simp [IntKind.wrap, IntKind.signed, IntKind.bits]; omega
                  have d5 : (y.f3 != sb'.gs.u) = false := by rw [HY.out rfl]; simp
                  have E5 := Aside0.mk e5
                  clear e5 HY GU UB
                  go_wp2_with fail
                  go_roundg (gk - 1)
                  case measure => omega
                  case rel => exact ⟨k + 1, _, by rw [E5.out], by simp [WK.out], by omega, by omega, G5, DB5⟩
              · have hkl' : decide ((k : Int) < D.length) = false := decide_eq_false (by omega)
                have hkl2 : decide (k < D.length) = false := decide_eq_false hkl

                obtain rfl : k = D.length := by omega
                obtain ⟨sb2, hsb2⟩ : ∃ q, q = sb' := ⟨_, rfl⟩
                rw [← hsb2] at G DBk ⊢
                have G2 := G
                have UB : Aside0 (0 ≤ sb.gs.u ∧ sb.gs.u ≤ sb2.gs.u) := ⟨by have h1 := DBk.out.le; have h2 := UB1.out; have h3 := HQ.out.fp.let0; omega⟩
                clear hsb2 G hk hkq hkl hkl' hkl2
                go_wp2_with fail
                go_loopg [26] O.length (fun kq v19 w' => ∃ (k : Nat) (sa' : LS), v19 = .int .i64 k ∧ k ≤ O.length ∧ O.length ≤ kq + k ∧ Aside0 (AW w w' ga gwa gga gb gwb ggb ag ((j : Int) + t + 1) sa' sb2 (.slice A D.length c) (.slice B O.length d) D O) ∧ Aside0 (sa'.last = N ∧ sa'.now = ((j : Int) + t + 1) ∧ (k = 0 → sa' = sa1) ∧ (k = 1 → sa' = ackS sa1 (ackd sa1 sb.gs.u))))
                case atStart => exact ⟨0, sa1, rfl, by omega, by omega, G2, ⟨LAN.out, NWA.out, fun _ => rfl, fun h => by omega⟩⟩
                case round =>
                  clear G2
                  obtain ⟨k, sa', rfl, hk, hkq, G, HS⟩ := hrel
                  by_cases hkl : k < O.length
                  · have hkl' : decide ((k : Int) < O.length) = true := decide_eq_true (by omega)
                    have hkl2 : decide (k < O.length) = true := decide_eq_true hkl
                    have WK : Aside0 (wrap64 ((k : Int) + 1) = k + 1) := ⟨w64 (by omega) (by have := OO.out.1; omega)⟩
                    obtain ⟨ra, ca, hv, _, hra, _⟩ := R_head G.out.R.2 (by omega)
                    cases hv
                    obtain ⟨cc, hcl, hM, hcc, _⟩ := Kd.R_elem G.out.R.2 z39 (k : Int) (by omega) (by omega)
                    rw [show (k : Int).toNat = k from Int.toNat_natCast k] at hM hcc
                    obtain ⟨xk, hxk⟩ : ∃ y, y = O.getD k z39 := ⟨_, rfl⟩
                    rw [← hxk] at hM
                    have hxe : O[k]? = some xk := by rw [hxk]; simp [List.getD, hkl]
                    obtain ⟨v11, v12, v13, v14, v15, rfl, r11, r12, r13, r14, r15⟩ := k39_openM hM
                    obtain ⟨A11, c11, rfl⟩ := Kd.R_slice r11
                    obtain ⟨A12, c12, rfl⟩ := Kd.R_slice r12
                    obtain ⟨A13, c13, rfl⟩ := Kd.R_slice r13
                    obtain ⟨A14, c14, rfl⟩ := Kd.R_slice r14
                    obtain ⟨A15, c15, rfl⟩ := Kd.R_slice r15
                    have hc : ∀ (j : Nat) (u : Value), [.int .u8 xk.f0.f0, .int .u8 xk.f0.f1, .int .u8 xk.f0.f2, .int .u8 xk.f1.f0, .int .u64 xk.f1.f1, .int .u64 xk.f2, .int .u32 xk.f3, .int .u32 xk.f4, .int .u32 xk.f5, .int .u64 xk.f6, .int .u64 xk.f7, .slice A11 xk.f8.length c11, .slice A12 xk.f9.length c12, .slice A13 xk.f10.length c13, .slice A14 xk.f11.length c14, .slice A15 xk.f12.length c15][j]? = some u → wr.cell? ⟨ra, k * 16 + j, none⟩ = some u := hcc
                    have qs : wr.cell? ⟨ra, k * 16, none⟩ = some (.int .u8 xk.f0.f0) ∧ wr.cell? ⟨ra, k * 16 + 1, none⟩ = some (.int .u8 xk.f0.f1) ∧ wr.cell? ⟨ra, k * 16 + 2, none⟩ = some (.int .u8 xk.f0.f2) ∧ wr.cell? ⟨ra, k * 16 + 3, none⟩ = some (.int .u8 xk.f1.f0) ∧ wr.cell? ⟨ra, k * 16 + 4, none⟩ = some (.int .u64 xk.f1.f1) ∧ wr.cell? ⟨ra, k * 16 + 5, none⟩ = some (.int .u64 xk.f2) ∧ wr.cell? ⟨ra, k * 16 + 6, none⟩ = some (.int .u32 xk.f3) ∧ wr.cell? ⟨ra, k * 16 + 7, none⟩ = some (.int .u32 xk.f4) ∧ wr.cell? ⟨ra, k * 16 + 8, none⟩ = some (.int .u32 xk.f5) ∧ wr.cell? ⟨ra, k * 16 + 9, none⟩ = some (.int .u64 xk.f6) ∧ wr.cell? ⟨ra, k * 16 + 10, none⟩ = some (.int .u64 xk.f7) ∧ wr.cell? ⟨ra, k * 16 + 11, none⟩ = some (.slice A11 xk.f8.length c11) ∧ wr.cell? ⟨ra, k * 16 + 12, none⟩ = some (.slice A12 xk.f9.length c12) ∧ wr.cell? ⟨ra, k * 16 + 13, none⟩ = some (.slice A13 xk.f10.length c13) ∧ wr.cell? ⟨ra, k * 16 + 14, none⟩ = some (.slice A14 xk.f11.length c14) ∧ wr.cell? ⟨ra, k * 16 + 15, none⟩ = some (.slice A15 xk.f12.length c15) := ⟨hc 0 _ rfl, hc 1 _ rfl, hc 2 _ rfl, hc 3 _ rfl, hc 4 _ rfl, hc 5 _ rfl, hc 6 _ rfl, hc 7 _ rfl, hc 8 _ rfl, hc 9 _ rfl, hc 10 _ rfl, hc 11 _ rfl, hc 12 _ rfl, hc 13 _ rfl, hc 14 _ rfl, hc 15 _ rfl⟩
                    obtain ⟨q0, q1, q2, q3, q4, q5, q6, q7, q8, q9, q10, q11, q12, q13, q14, q15⟩ := qs
                    have pk_ : (0 ≤ (k : Int)) = True := eq_true (by omega)
                    have qk_ : ((k : Int) < (O.length : Int)) = True := eq_true (by omega)
                    have HO1 := Aside0.mk (OO.out.2 xk (List.mem_of_getElem? hxe))
                    have CA := Aside0.mk (AW_ComeA (A11 := A11) (A12 := A12) (A13 := A13) (A14 := A14) (A15 := A15) (c11 := c11) (c12 := c12) (c13 := c13) (c14 := c14) (c15 := c15) xk sb.gs.u G.out HO1.out.1 HO1.out.2.1 HO1.out.2.2.1 HO1.out.2.2.2 UB.out.1 UB.out.2 (by rw [HS.out.1]; exact SLN.out) HS.out.2.1)
                    clear hcc hcl hM r11 r12 r13 r14 r15 hc hxk hra hxe
                    go_wp2_with fail
                    refine CA.out.mono ?_
                    rintro e w5 ⟨⟨v, rfl⟩, h⟩
                    have G5 := Aside0.mk h
                    have HS5 : Aside0 ((ackS sa' (ackd sa' sb.gs.u)).last = N ∧ (ackS sa' (ackd sa' sb.gs.u)).now = ((j : Int) + t + 1) ∧ (k + 1 = 0 → ackS sa' (ackd sa' sb.gs.u) = sa1) ∧ (k + 1 = 1 → ackS sa' (ackd sa' sb.gs.u) = ackS sa1 (ackd sa1 sb.gs.u))) := ⟨HS.out.1, HS.out.2.1, fun h => by omega, fun h => by rw [HS.out.2.2.1 (by omega)]⟩
                    clear h CA q0 q1 q2 q3 q4 q5 q6 q7 q8 q9 q10 q11 q12 q13 q14 q15 G HS HO1
                    go_wp2_with fail
                    go_roundg (gk - 1)
                    case measure => omega
                    case rel => exact ⟨k + 1, _, by simp [WK.out], by omega, by omega, G5, HS5⟩
                  · have hkl' : decide ((k : Int) < O.length) = false := decide_eq_false (by omega)
                    have hkl2 : decide (k < O.length) = false := decide_eq_false hkl

                    go_wp2_with fail
                    obtain rfl : k = O.length := by omega
                    have eo : O = if sb.gs.o = true then [ackf sb] else [] := TKD.out.o
                    have PH1 : Aside0 (PH j ag (t + 1) sa' sb2) := ⟨by
                      have h1 := PH_step HQ.out PHt.out (by omega) AG.out.1 D.length TKD.out.dl (by have h := DBk.out; rw [TKD.out.pe, TKD.out.b1] at h; exact h)
                      rw [← TKD.out.a1] at h1
                      have e : sa' = if sb.gs.o = true then ackS sa1 (ackd sa1 sb.gs.u) else sa1 := by
                        cases hob : sb.gs.o
                        · rw [hob, if_neg (by decide)] at eo
                          rw [if_neg (by decide)]
                          exact HS.out.2.2.1 (by rw [eo]; rfl)
                        · rw [hob, if_pos rfl] at eo
                          rw [if_pos rfl]
                          exact HS.out.2.2.2 (by rw [eo]; rfl)
                      rw [e]
                      exact h1⟩
                    have G9 : Aside0 (AW w wr ga gwa gga gb gwb ggb ag ((j : Int) + ((t + 1 : Nat) : Int)) sa' sb2 (.slice A D.length c) (.slice B O.length d) D O) := ⟨by rw [show (j : Int) + ((t + 1 : Nat) : Int) = (j : Int) + t + 1 by omega]; exact G.out⟩
                    go_roundg (go_ - 1)
                    case measure => have := GO.out; omega
                    case rel => exact ⟨t + 1, sa', sb2, _, _, D, O, rfl, by rw [show (j : Int) + ((t + 1 : Nat) : Int) = (j : Int) + t + 1 by omega], by omega, by have := GO.out; omega, ⟨by rw [N0E.out, HS.out.1, NL.out]⟩, G9, PH1⟩
          · have hlt' : decide ((j : Int) + t < j + ag + 3) = false := decide_eq_false (by omega)
            obtain ⟨hun, hln⟩ := PHt.out.2.2 (by omega)
            have hln' : sa.L.length = 0 := by omega
            have d1 : (sb.gs.u == N0) = true := by rw [N0E.out, hun]; simp
            have WT : Aside0 (Calls Try.prog 14 #[.pointer (some ⟨ga, 0, none⟩)] wr fun e w' => e = .returned (.int .i64 0) ∧ ∃ q, w' = wr.drewN q) := ⟨by
              obtain ⟨⟨ow, h4⟩, hq⟩ := G.out
              have h := LWaits_calls h4.a
              rw [hln'] at h
              exact h⟩
            clear hun hln hln'
            go_wp2_with fail
            refine WT.out.mono ?_
            rintro e w5 ⟨rfl, q, rfl⟩
            go_wp2_with fail
            refine (awake_calls _).mono ?_
            rintro e w4 ⟨rfl, hb⟩
            have B4 := Aside0.mk (below_step (pw_below_drewN G.out.below q) hb)
            clear hb G WT
            go_wp2_with fail
            go_ret
            exact ⟨rfl, B4.out⟩


end Go.Proofs.Ytmdomkpdfmoboaa.Walk
