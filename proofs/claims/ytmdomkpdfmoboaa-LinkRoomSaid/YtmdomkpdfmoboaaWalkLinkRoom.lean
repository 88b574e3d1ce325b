/- A link has room for what a window holds. Conditions: none beyond the statement's own. -/
import Derived.Test.YtmdomkpdfmoboaaWalkRoomL
import Derived.Test.YtmdomkpdfmoboaaArgs
import Derived.Deep.QuietTactic
import Derived.BigQuiet
import Derived.Lib.QuietBelow
import Derived.Outline
import Derived.Deep.RegionHeld3
import Derived.Deep.CutRange
namespace Go.Proofs.Ytmdomkpdfmoboaa.Walk
open Go.RowKit Go.Proofs.Ytmdomkpdfmoboaa.F Go.Proofs.YtmdomkpdfmoboaaW.PrintWords Go.Proofs.YtmdomkpdfmoboaaW.PrintLast Go.Proofs.YtmdomkpdfmoboaaW.PrintMore Go.Proofs.Ytmdomkpdfmoboaa.Open
open Go.Sort (grow)
attribute [local go_sem] max2_int min2_int max_two min_two max_three min_three max_four min_four
set_option linter.unusedVariables false
set_option linter.unusedSimpArgs false

/-! ### The law: a link's room -/
set_option maxHeartbeats 8000000 in
set_option maxRecDepth 100000 in
theorem LinkRoom (a0 a1 : Int) (A2 : Option Addr) (c2 : Nat) (l2 : List S28) (w : World) (hr2 : Kd.C k28 w A2 l2.length l2) (hc2 : l2.length ≤ c2)
    (w0 : (Lit.int .i64 a0).wf = true) (w1 : (Lit.int .i64 a1).wf = true) (w2 : l2.length ≤ maxLen ∧ ∀ x ∈ l2, ((Lit.int .u8 x.f0).wf = true ∧ (Lit.int .i64 x.f1).wf = true ∧ True ∧ True ∧ True)) :
    Calls Try.prog 6 #[.int .i64 a0, .int .i64 a1, .slice A2 l2.length c2] w fun e w' => e = .returned (.bool true) ∧ Below w.heap.size w w' := by
  have HR := Aside0.mk hr2
  have HN : Aside0 (∀ x ∈ l2, 0 ≤ x.f0 ∧ x.f0 ≤ 255 ∧ -9223372036854775808 ≤ x.f1 ∧ x.f1 ≤ 9223372036854775807) := ⟨fun x hx => by
    obtain ⟨h1, h2, _⟩ := w2.2 x hx
    simp [Lit.wf, IntKind.min, IntKind.max, IntKind.signed, IntKind.bits] at h1 h2
    omega⟩
  obtain ⟨b, hb⟩ : ∃ b, b = (if 64 < a0 then 64 else a0 : Int) := ⟨_, rfl⟩
  have hmin : Builtin.min2 (.int .i64 a0) (.int .i64 64) = pure (.int .i64 b) := by rw [min2_int, hb]
  have hmax : Builtin.max2 (.int .i64 1) (.int .i64 b) = pure (.int .i64 (wid a0 : Nat)) := by
    rw [max2_int, hb]
    unfold wid
    congr 2
    split <;> split <;> first | omega | (split <;> omega) | rfl
  clear hb w0 w1 w2 hr2 hc2
  by_cases hl : (100 : Int) < l2.length
  · have hl' : decide ((100 : Int) < l2.length) = true := decide_eq_true hl
    go_enter Try.func6, Try.ntmps6
    go_wp2_with fail
    refine (awake_calls _).mono ?_
    rintro e w1 ⟨rfl, hb⟩
    have B1 := Aside0.mk hb
    clear hb
    go_wp2_with fail
    go_ret
    exact ⟨rfl, B1.out⟩
  · have hl' : decide ((100 : Int) < l2.length) = false := decide_eq_false hl
    go_enter Try.func6, Try.ntmps6
    go_wp2_with fail
    refine (LNew_calls 0 1 a0 a1 _ ⟨by decide, by decide⟩ ⟨by decide, by decide⟩).mono ?_
    rintro e w1 ⟨g, rfl, hge, hL, hb⟩
    obtain ⟨gw, gg, hL⟩ := hL
    have G0 : Aside0 (∃ s, RM w w1 g gw gg (wid a0) 0 s) := ⟨_, hL, rfl, rfl, rfl, rfl, sq_nil _, Int.le_refl _, hb⟩
    clear hge hL hb
    go_wp2_with fail
    generalize wid a0 = n at *
    go_loopg [9] l2.length (fun kq v9 w' => ∃ (j : Nat), v9 = .int .i64 j ∧ j ≤ l2.length ∧ l2.length ≤ kq + j ∧ Aside0 (∃ s, RM w w' g gw gg n (255 * j) s))
    case atStart => exact ⟨0, rfl, by omega, by omega, by simpa using G0⟩
    case round =>
      clear G0
      obtain ⟨j, rfl, hj, hkj, G⟩ := hrel
      by_cases hlt : j < l2.length
      · have hlt' : decide ((j : Int) < l2.length) = true := decide_eq_true (by omega)
        have p_ : (0 ≤ (j : Int)) = True := eq_true (by omega)
        have q_ : ((j : Int) < (l2.length : Int)) = True := eq_true (by omega)
        obtain ⟨ad, ead, x0, x1, _, x3, _⟩ := at_T28 HR.out (j : Int) (by omega) (by omega)
        simp only [Int.toNat_natCast] at x0 x1 x3
        cases ead
        have hm : rd_T28 l2 (j : Int) ∈ l2 := by simp [rd_T28, List.getD, hlt]
        have HX := Aside0.mk (HN.out _ hm)
        clear hm
        generalize rd_T28 l2 (j : Int) = x at *
        have X0 : Aside0 (∀ W, Below w.heap.size w W → W.cell? (ad.add (j * 5)) = some (.int .u8 x.f0)) := ⟨fun W hb => (hb.cell (World.block_lt_of_cell? w _ x0)).trans x0⟩
        have X1 : Aside0 (∀ W, Below w.heap.size w W → W.cell? ⟨(ad.add (j * 5)).block, (ad.add (j * 5)).off + 1, none⟩ = some (.int .i64 x.f1)) := ⟨fun W hb => (hb.cell (World.block_lt_of_cell? w _ x1)).trans x1⟩
        have X3 : Aside0 (∀ W, Below w.heap.size w W → W.cell? ⟨(ad.add (j * 5)).block, (ad.add (j * 5)).off + 3, none⟩ = some (.bool x.f3)) := ⟨fun W hb => (hb.cell (World.block_lt_of_cell? w _ x3)).trans x3⟩
        clear x0 x1 x3
        obtain ⟨go_, GO⟩ : ∃ q, Aside0 (q = gk) := ⟨_, ⟨rfl⟩⟩
        go_wp2_with fail
        go_loopg [10] 255 (fun kq v10 w' => ∃ (k : Nat), v10 = .int .u8 k ∧ (k : Int) ≤ x.f0 ∧ 255 ≤ kq + k ∧ Aside0 (∃ s, RM w w' g gw gg n (255 * j + k) s))
        case atStart => exact ⟨0, rfl, HX.out.1, by omega, by simpa using G⟩
        case round =>
          clear G
          obtain ⟨k, rfl, hk, hkq, G⟩ := hrel
          obtain ⟨s, G⟩ : ∃ s, Aside0 (RM w wr g gw gg n (255 * j + k) s) := by obtain ⟨s, h⟩ := G.out; exact ⟨s, ⟨h⟩⟩
          have y0 := X0.out wr G.out.below
          by_cases hks : (k : Int) < x.f0
          · have hks' : decide ((k : Int) < x.f0) = true := decide_eq_true hks
            have hx255 := HX.out.2.1
            have u1 : IntKind.u32.wrap (k : Int) = k := by simp [IntKind.wrap, IntKind.signed, IntKind.bits]; omega
            have u2 : IntKind.u8.wrap ((k : Int) + 1) = k + 1 := by simp [IntKind.wrap, IntKind.signed, IntKind.bits]; omega
            have SD := Aside0.mk (RM_Send k wr G.out (by omega))
            clear G
            go_wp2_with fail
            refine SD.out.mono ?_
            clear SD y0
            rintro e w4 ⟨⟨q, rfl⟩, s', h⟩
            have G4 : Aside0 (∃ s, RM w w4 g gw gg n (255 * j + ((k + 1 : Nat) : Int)) s) := ⟨s', by rw [show (255 * (j : Int) + ((k + 1 : Nat) : Int)) = 255 * j + k + 1 by omega]; exact h⟩
            clear h
            go_wp2_with fail
            go_roundg (gk - 1)
            case measure => omega
            case rel => exact ⟨k + 1, by simp, by omega, by omega, G4⟩
          · have hks' : decide ((k : Int) < x.f0) = false := decide_eq_false hks
            have hkx : (k : Int) ≤ 255 := by have := HX.out.2.1; omega
            have OU := Aside0.mk (RM_Out j wr G.out)
            clear hks hk hkq G
            go_wp2_with fail
            refine OU.out.mono ?_
            clear OU y0
            rintro e w4 ⟨v, s2, L, fb, rfl, ho, hs, hl4, hb1, hb2, h4⟩
            obtain ⟨Ao, co, rfl⟩ := Kd.R_slice ho
            have hfit := h4.fit
            have hn64 : n ≤ 64 := by rw [← h4.n]; exact h4.lk.win.ok.n64
            have hRoom := fun q => LRoom_calls (h4.drew q).lk
            rw [h4.n] at hRoom
            have RO := Aside0.mk ho
            have SQ := Aside0.mk hs
            have FB := Aside0.mk (And.intro hb1 hb2)
            have G4 := Aside0.mk h4
            have RMM := Aside0.mk hRoom
            clear ho hs hb1 hb2 h4 hRoom
            have d1 : decide ((n : Int) < L.length) = false := decide_eq_false (by omega)
            have d2 : decide ((n : Int) < s2.L.length) = false := decide_eq_false (by omega)
            have d1' : decide (n < L.length) = false := decide_eq_false (by omega)
            have d2' : decide (n < s2.L.length) = false := decide_eq_false (by omega)
            have d3 : wrap64 ((n : Int) - s2.L.length) = n - s2.L.length := w64 (by omega) (by omega)
            go_wp2_with fail
            refine (LWaits_calls G4.out.lk).mono ?_
            rintro e w5 ⟨rfl, q, rfl⟩
            go_wp2_with fail
            refine (RMM.out q).mono ?_
            rintro e w6 ⟨rfl, q2, rfl⟩
            go_wp2_with fail
            refine (LWaits_calls (G4.out.drew (q + q2)).lk).mono ?_
            rintro e w7 ⟨rfl, q3, rfl⟩
            go_wp2_with fail
            have G5 := Aside0.mk (G4.out.drew (q + q2 + q3))
            have RO5 := Aside0.mk (Kd.R_below RO.out (pw_below_drewN (Below.refl _ _) (q + q2 + q3)))
            clear G4 RO RMM d1 d2 d3 d1' d2'
            generalize w4.drewN (q + q2 + q3) = w5 at *
            have hlc : L.length ≤ 64 := by omega
            go_loopg [12] (L.length + 1) (fun kq v12 w' => ∃ kk : Nat, v12 = .int .i64 kk ∧ 1 ≤ kk ∧ kk ≤ L.length + 1 ∧ L.length + 1 ≤ kq + kk ∧ Aside0 (RM w w' g gw gg n (255 * j + (k : Int)) s2) ∧ Aside0 (Kd.R kF eF w' wr.heap.size (fun _ => True) (.slice Ao L.length co) L))
            case atStart => exact ⟨1, rfl, by omega, by omega, by omega, G5, RO5⟩
            case round =>
              clear G5 RO5
              obtain ⟨kk, rfl, hk1, hk2, hk3, G5, RO5⟩ := hrel
              by_cases hkl : kk < L.length
              · have hkl' : decide ((kk : Int) < L.length) = true := decide_eq_true (by omega)
                have pk_ : (0 ≤ (kk : Int)) = True := eq_true (by omega)
                have qk_ : ((kk : Int) < (L.length : Int)) = True := eq_true (by omega)
                have pk2_ : (0 ≤ (kk : Int) - 1) = True := eq_true (by omega)
                have qk2_ : ((kk : Int) - 1 < (L.length : Int)) = True := eq_true (by omega)
                have wk_ : wrap64 ((kk : Int) - 1) = kk - 1 := w64 (by omega) (by omega)
                obtain ⟨ra, ca, hv, _, hra, _⟩ := R_head RO5.out (by omega)
                cases hv
                obtain ⟨ce, _, m0, k0, _⟩ := Kd.R_elem RO5.out z39 (kk : Int) (by omega) (by omega)
                obtain ⟨cf, _, m1, k1, _⟩ := Kd.R_elem RO5.out z39 ((kk : Int) - 1) (by omega) (by omega)
                obtain ⟨v11, v12, v13, v14, v15, rfl, _⟩ := k39_openM m0
                obtain ⟨v21, v22, v23, v24, v25, rfl, _⟩ := k39_openM m1
                have q1 := k0 5 _ rfl
                have q2 := k1 5 _ rfl
                have e1 : (L.getD (kk : Int).toNat z39).f2 = fb + kk := SQ.out kk _ (by simp [List.getD, hkl])
                have e2 : (L.getD ((kk : Int) - 1).toNat z39).f2 = fb + kk - 1 := by
                  have := SQ.out (kk - 1) (L.getD ((kk : Int) - 1).toNat z39) (by
                    rw [show ((kk : Int) - 1).toNat = kk - 1 by omega]
                    simp [List.getD, show kk - 1 < L.length by omega])
                  rw [this]; omega
                rw [e1] at q1
                rw [e2] at q2
                rw [show ((kk : Int) - 1).toNat = kk - 1 by omega] at q2
                rw [Int.toNat_natCast] at q1
                have hsz : (kF : Kd Fr).sz = 16 := rfl
                rw [hsz] at q1 q2
                have sq_ : IntKind.u64.wrap (fb + kk - 1 + 1) = fb + kk := by
                  rw [show fb + kk - 1 + 1 = fb + kk by omega]
                  exact Acc.wu64 (by have := FB.out.1; omega) (by have := FB.out.2; omega)
                have tk_ : ((kk : Int) - 1).toNat = kk - 1 := by omega
                clear e1 e2 k0 k1 m0 m1 hsz hra
                generalize fb + (kk : Int) - 1 = y at *
                generalize fb + (kk : Int) = z at *
                go_wp2_with fail
                go_quiet (fail)
                go_wp2_with fail
                go_roundg (gk - 1)
                case measure => omega
                case rel => exact ⟨kk + 1, by simp, by omega, by omega, by omega, ⟨G5.out.drew nq⟩, ⟨Kd.R_below RO5.out (pw_below_drewN (Below.refl _ _) nq)⟩⟩
              · have hkl' : decide ((kk : Int) < L.length) = false := decide_eq_false (by omega)
                have z0 := X0.out wr G5.out.below
                have z1 := X1.out wr G5.out.below
                have z3 := X3.out wr G5.out.below
                have HX1 := HX.out.2.2
                by_cases hbk : x.f3 = true ∧ 0 ≤ x.f1
                · obtain ⟨hb3, hb1⟩ := hbk
                  have hi := decide_eq_true hb1
                  have wi : IntKind.u64.wrap x.f1 = x.f1 := Acc.wu64 hb1 (by omega)
                  have AC := Aside0.mk (RM_Ack x.f1 wr G5.out hb1 (by omega))
                  rw [hb3] at z3
                  clear G5 RO5
                  go_wp2_with fail
                  refine AC.out.mono ?_
                  clear AC z0 z1 z3
                  rintro e w6 ⟨⟨v, rfl⟩, s3, h6⟩
                  have G6 : Aside0 (∃ s, RM w w6 g gw gg n (255 * ((j + 1 : Nat) : Int)) s) := ⟨s3, { h6 with last := by have := h6.last; omega }⟩
                  clear h6
                  go_wp2_with fail
                  go_roundg (go_ - 1)
                  case measure => have := GO.out; omega
                  case rel => exact ⟨j + 1, by simp, by omega, by have := GO.out; omega, G6⟩
                · have G6 : Aside0 (∃ s, RM w wr g gw gg n (255 * ((j + 1 : Nat) : Int)) s) := ⟨s2, { G5.out with last := by have := G5.out.last; omega }⟩
                  by_cases hb3 : x.f3 = true
                  · have hi := decide_eq_false (fun h => hbk ⟨hb3, h⟩)
                    rw [hb3] at z3
                    clear G5 RO5 hbk
                    go_wp2_with fail
                    go_roundg (go_ - 1)
                    case measure => have := GO.out; omega
                    case rel => exact ⟨j + 1, by simp, by omega, by have := GO.out; omega, G6⟩
                  · rw [Bool.not_eq_true] at hb3
                    rw [hb3] at z3
                    clear G5 RO5 hbk
                    go_wp2_with fail
                    go_roundg (go_ - 1)
                    case measure => have := GO.out; omega
                    case rel => exact ⟨j + 1, by simp, by omega, by have := GO.out; omega, G6⟩
      · have hlt' : decide ((j : Int) < l2.length) = false := decide_eq_false (by omega)
        obtain ⟨s, G⟩ : ∃ s, Aside0 (RM w wr g gw gg n (255 * j) s) := by obtain ⟨s, h⟩ := G.out; exact ⟨s, ⟨h⟩⟩
        clear hj hkj
        go_wp2_with fail
        refine (awake_calls _).mono ?_
        rintro e w4 ⟨rfl, hb⟩
        have B4 := Aside0.mk (below_step G.out.below hb)
        clear hb G
        go_wp2_with fail
        go_ret
        exact ⟨rfl, B4.out⟩

end Go.Proofs.Ytmdomkpdfmoboaa.Walk
