/- What is held never falls. Conditions: none beyond the statement's own. -/
import Derived.Test.YtpdglodfgikfkaaWalkSS
import Derived.Test.YtpdglodfgikfkaaWalkStoreHas
import Derived.Test.YtpdglodfgikfkaaArgs
import Derived.Deep.QuietTactic
import Derived.BigQuiet
import Derived.Lib.QuietBelow
import Derived.Outline
import Derived.Deep.RegionHeld3
import Derived.Deep.CutRange
namespace Go.Proofs.Ytpdglodfgikfkaa.Walk
open Go.RowKit Go.Proofs.Ytpdglodfgikfkaa.F Go.Proofs.YtpdglodfgikfkaaW.PrintWords Go.Proofs.YtpdglodfgikfkaaW.PrintLast Go.Proofs.YtpdglodfgikfkaaW.PrintMore Go.Proofs.Ytpdglodfgikfkaa.Open
open Go.Sort (grow)
attribute [local go_sem] max2_int min2_int max_two min_two max_three min_three max_four min_four
set_option linter.unusedVariables false
set_option linter.unusedSimpArgs false

theorem nn_toNat (n : Int) : ∃ m : Nat, nn n = m ∧ m ≤ 64 := ⟨nn n, rfl, (nn_ok n).2⟩
set_option maxHeartbeats 8000000 in
set_option maxRecDepth 100000 in
theorem StoreRises (n room : Int) (A1 : Option Addr) (c1 : Nat) (l1 : List Ac) (w : World) (hr : Kd.C kAc w A1 l1.length l1) (hc : l1.length ≤ c1) (_ : (Lit.int .i64 n).wf = true) (hrw : (Lit.int .i64 room).wf = true) (hw : l1.length ≤ maxLen ∧ ∀ x ∈ l1, wf41 x) :
    Calls Try.prog 5 #[.int .i64 n, .int .i64 room, .slice A1 l1.length c1] w fun e w' => e = .returned (.bool true) ∧ Below w.heap.size w w' := by
  have HR := Aside0.mk hr
  have HW := Aside0.mk hw.2
  have AW : Aside0 (∀ W, Calls Try.prog 8 #[] W fun e w' => e = .returned (.bool true) ∧ Below W.heap.size W w') := ⟨awake_calls⟩
  have hroom : room ≤ 9223372036854775807 := by
    simp only [Lit.wf, Bool.and_eq_true, decide_eq_true_eq, show IntKind.i64.min = -9223372036854775808 from rfl, show IntKind.i64.max = 9223372036854775807 from rfl] at hrw
    exact hrw.2
  clear hr hw hrw
  by_cases h0 : (l1.length : Int) > 100
  · have d0 : decide ((l1.length : Int) > 100) = true := decide_eq_true h0
    go_enter Try.func5, Try.ntmps5
    go_wp2_with fail
    refine (AW.out _).mono ?_
    rintro e w1 ⟨rfl, hb⟩
    have B1 := Aside0.mk hb
    clear hb
    go_wp2_with fail
    go_ret
    exact ⟨rfl, B1.out⟩
  have d0 : decide ((l1.length : Int) > 100) = false := decide_eq_false h0
  have hl100 : l1.length ≤ 100 := by omega
  go_enter Try.func5, Try.ntmps5
  go_wp2_with fail
  refine (New_calls n room hroom w).mono ?_
  rintro e w1 ⟨g, mb, fb, hb, rfl, hS, hbw⟩
  have S1 := Aside0.mk (SS.make hS (Tops_new _) hbw)
  clear hS hbw
  go_wp2_with fail
  refine (S1.out.held).mono ?_
  rintro e w2 ⟨Ah, ch, rfl, h⟩
  have S2 := Aside0.mk h
  clear h S1
  go_wp2_with fail
  refine (S2.out.floor).mono ?_
  rintro e w3 ⟨Af, cf, rfl, h⟩
  have S3 := Aside0.mk h
  clear h S2 d0 h0
  go_wp2_with fail
  go_loopg [8, 9, 10] l1.length (fun gg s8 s9 s10 wr => ∃ i : Nat, s10 = .int .i64 i ∧ i ≤ l1.length ∧ l1.length - i ≤ gg ∧ ∃ E F H Ah ch Af cf, s8 = .slice Ah (H : List Int).length ch ∧ s9 = .slice Af (F : List Int).length cf ∧ Aside0 (SS w wr g (nn n) (rm room) E F H [(Af, cf, F), (Ah, ch, H)] []) ∧ Aside0 (E.length ≤ i))
  case atStart => exact ⟨0, rfl, Nat.zero_le _, by omega, [], _, _, Ah, ch, Af, cf, by simp, by simp, S3, ⟨Nat.le_refl _⟩⟩
  case round =>
    clear S3
    obtain ⟨i, rfl, hi, hgg, E, F, H, Ah, ch, Af, cf, rfl, rfl, SR, EL⟩ := hrel
    by_cases hlt : i < l1.length
    · have hltz : (i : Int) < (l1.length : Int) := by omega
      have HX : Aside0 (l1[i]? = some l1[i]) := ⟨List.getElem?_eq_getElem hlt⟩
      have WX := Aside0.mk (id_wf (HW.out _ (List.mem_of_getElem? HX.out)).2.1)
      obtain ⟨ad, A3, c3, A4, c4, e, ⟨k0, k1, k2, k3, k4⟩, l3, g3, l4, g4⟩ := act_at HR.out HX.out
      cases e
      generalize l1[i] = x at HX WX k0 k1 k2 k3 k4 l3 g3 l4 g4
      have G3 := Aside0.mk g3
      have G4 := Aside0.mk g4
      have BR := Aside0.mk SR.out.below
      have k0 := pw_cell_below BR.out k0
      have k1 := pw_cell_below BR.out k1
      have k2 := pw_cell_below BR.out k2
      have k3 := pw_cell_below BR.out k3
      have k4 := pw_cell_below BR.out k4
      clear g3 g4
      have hwi : IntKind.i64.wrap ((i : Int) + 1) = ((i + 1 : Nat) : Int) := by rw [IntKind.wrap_i64]; omega
      have hu := Try.underlying41
      have hu2 := Try.underlying29
      go_upto_region 9 with (fail)
      have TC := Aside0.mk (SR.out.lay (below_alloc (Below.refl wr.heap.size wr) (.cells #[.int .i64 x.f0, .int .u8 x.f1.f0, .int .u64 x.f1.f1, .slice A3 x.f2.length c3, .slice A4 x.f3.length c4] tAc)) (Nat.le_refl _) (blk_new wr _))
      have LN := Aside0.mk SR.out.lens
      clear SR BR k0 k1 k2 k3 k4
      generalize wr.alloc (.cells #[.int .i64 x.f0, .int .u8 x.f1.f0, .int .u64 x.f1.f1, .slice A3 x.f2.length c3, .slice A4 x.f3.length c4] tAc) = wc at TC ⊢
      generalize wr.heap.size = b8 at TC ⊢
      have x0 : wc.cell? ⟨b8, 0, none⟩ = some (.int .i64 x.f0) := (blk_cell (TC.out.blk List.mem_cons_self) 0).trans rfl
      have x1 : wc.cell? ⟨b8, 1, none⟩ = some (.int .u8 x.f1.f0) := (blk_cell (TC.out.blk List.mem_cons_self) 1).trans rfl
      have x2 : wc.cell? ⟨b8, 2, none⟩ = some (.int .u64 x.f1.f1) := (blk_cell (TC.out.blk List.mem_cons_self) 2).trans rfl
      have x3 : wc.cell? ⟨b8, 3, none⟩ = some (.slice A3 x.f2.length c3) := (blk_cell (TC.out.blk List.mem_cons_self) 3).trans rfl
      have x4 : wc.cell? ⟨b8, 4, none⟩ = some (.slice A4 x.f3.length c4) := (blk_cell (TC.out.blk List.mem_cons_self) 4).trans rfl
      by_cases hp : (x.f2.length : Int) > 200
      · have dp : decide ((x.f2.length : Int) > 200) = true := decide_eq_true hp
        have BR := Aside0.mk TC.out.below
        go_wp2_with fail
        refine (AW.out _).mono ?_
        rintro e w4 ⟨rfl, hb⟩
        have B4 := Aside0.mk (below_step BR.out hb)
        clear hb
        go_wp2_with fail
        go_ret
        exact ⟨rfl, B4.out⟩
      have dp : decide ((x.f2.length : Int) > 200) = false := decide_eq_false hp
      by_cases hq : (x.f3.length : Int) > 100
      · have dq : decide ((x.f3.length : Int) > 100) = true := decide_eq_true hq
        have BR := Aside0.mk TC.out.below
        go_wp2_with fail
        refine (AW.out _).mono ?_
        rintro e w4 ⟨rfl, hb⟩
        have B4 := Aside0.mk (below_step BR.out hb)
        clear hb
        go_wp2_with fail
        go_ret
        exact ⟨rfl, B4.out⟩
      have dq : decide ((x.f3.length : Int) > 100) = false := decide_eq_false hq
      by_cases hk : x.f0 = 0
      · have hkz : (x.f0 == 0) = true := by simpa using hk
        obtain ⟨q, hq1⟩ : ∃ q : Nat, x.f1.f0 = q := ⟨x.f1.f0.toNat, by have : 0 ≤ x.f1.f0 := WX.out.a.1; omega⟩
        have hq2 : q ≤ 255 := by have h7 : x.f1.f0 ≤ 255 := WX.out.a.2; omega
        have PC := Aside0.mk (TC.out.put q x.f1.f1 hq2 WX.out.b x.f2 (Kd.C_below G3.out TC.out.below) l3 (by omega))
        rw [← hq1] at PC
        clear hq1 hq2
        rw [hk] at x0
        go_wp2_with fail
        refine PC.out.mono ?_
        rintro e w5 ⟨rfl, v, H5, h5⟩
        have GR := Aside0.mk (TC.out.grew_put h5)
        have EL5 : Aside0 ((putE (fits (nn n) (rm room) E F (x.f1.f0, x.f1.f1) x.f2) E (x.f1.f0, x.f1.f1) v x.f2).length ≤ i + 1) := ⟨by
          have := EL.out
          unfold putE
          split
          · simp; omega
          · omega⟩
        generalize putE (fits (nn n) (rm room) E F (x.f1.f0, x.f1.f1) x.f2) E (x.f1.f0, x.f1.f1) v x.f2 = E5 at h5 EL5
        generalize fits (nn n) (rm room) E F (x.f1.f0, x.f1.f1) x.f2 = rz
        have T5 := Aside0.mk h5
        clear h5 PC TC x0 x1 x2 x3 x4
        obtain ⟨F5, hF5⟩ : ∃ F5, F5 = F := ⟨_, rfl⟩
        have GR : Aside0 (Grew F H F5 H5) := by rw [hF5]; exact GR
        have T5 : Aside0 (SS w w5 g (nn n) (rm room) E5 F5 H5 [(Af, cf, F), (Ah, ch, H)] [(b8, tAc, #[.int .i64 x.f0, .int .u8 x.f1.f0, .int .u64 x.f1.f1, .slice A3 x.f2.length c3, .slice A4 x.f3.length c4])]) := by rw [hF5]; exact T5
        clear hF5
        have LN5 := Aside0.mk T5.out.lens
        have NM5 := Aside0.mk T5.out.nums
        go_wp2_with fail
        refine (T5.out.held).mono ?_
        rintro e w6 ⟨A6, c6, rfl, h⟩
        have T6 := Aside0.mk h
        clear h T5
        go_wp2_with fail
        refine (T6.out.floor).mono ?_
        rintro e w7 ⟨A7, c7, rfl, h⟩
        have T7 := Aside0.mk h
        clear h T6
        go_wp2_with fail
        refine (T7.out.covers (A := A6) (c := c6) (a := H5) (B := Ah) (d := ch) (b := H) (by simp) (by simp) GR.out.h (by have := LN.out; omega)).mono ?_
        rintro e w8 ⟨rfl, h⟩
        have T8 := Aside0.mk h
        clear h T7
        go_wp2_with fail
        refine (T8.out.covers (A := A7) (c := c7) (a := F5) (B := Af) (d := cf) (b := F) (by simp) (by simp) GR.out.f (by have := LN.out; omega)).mono ?_
        rintro e w9 ⟨rfl, h⟩
        have T9 := Aside0.mk h
        clear h T8
        go_wp2_with fail
        refine (T9.out.covers (A := A6) (c := c6) (a := H5) (B := A7) (d := c7) (b := F5) (by simp) (by simp) T9.out.over (by have := LN5.out; omega)).mono ?_
        rintro e w10 ⟨rfl, h⟩
        have T10 := Aside0.mk (h.sub (P' := [(A7, c7, F5), (A6, c6, H5)]) (Q' := []) (by simp +contextual) (by simp))
        clear h T9
        have hu0 : decide ((usedE E5 : Int) < 0) = false := decide_eq_false (by omega)
        have hu1 : decide ((usedE E5 : Int) > rm room) = false := decide_eq_false (by have := LN5.out; omega)
        have hmx : Builtin.max2 (.int .i64 room) (.int .i64 0) = pure (.int .i64 (rm room)) := by
          rw [max2_int]
          congr 2
          unfold rm
          repeat (first | rfl | omega | split)
        go_wp2_with fail
        refine (T10.out.used).mono ?_
        rintro e w11 ⟨rfl, h⟩
        have T11 := Aside0.mk h
        clear h T10
        go_wp2_with fail
        refine (T11.out.used).mono ?_
        rintro e w12 ⟨rfl, h⟩
        have T12 := Aside0.mk h
        clear h T11
        go_wp2_with fail
        clear hu0 hu1 hmx
        go_loopg [14] (nn n) (fun gg s14 wj => ∃ k : Nat, s14 = .int .i64 k ∧ k ≤ nn n ∧ nn n - k ≤ gg ∧ Aside0 (SS w wj g (nn n) (rm room) E5 F5 H5 [(A7, c7, F5), (A6, c6, H5)] []))
        case atStart => exact ⟨0, rfl, Nat.zero_le _, by omega, T12⟩
        case round =>
          clear T12
          obtain ⟨k, rfl, hk0, hgk, TK⟩ := hrel
          by_cases hlk : k < nn n
          · have hkH : (k : Int) < (H5.length : Int) := by have := LN5.out; omega
            have hkF : (k : Int) < (F5.length : Int) := by have := LN5.out; omega
            have hk64 : k < 64 := by have := LN5.out; omega
            have hkF2 : k < F5.length := by omega
            have hkH2 : k < H5.length := by omega
            have HF := Aside0.mk (List.getElem?_eq_getElem hkF2)
            have HH := Aside0.mk (List.getElem?_eq_getElem hkH2)
            generalize F5[k] = f at HF
            generalize H5[k] = h0 at HH
            have UF := NM5.out.1 f (List.mem_of_getElem? HF.out)
            have UH := NM5.out.2 h0 (List.mem_of_getElem? HH.out)
            clear hkF2 hkH2
            obtain ⟨ad7, e7, cf7⟩ := Kd.at_int (TK.out.C (A := A7) (c := c7) (l := F5) (by simp)).2 (k : Int) (by omega) hkF
            obtain ⟨ad6, e6, ch6⟩ := Kd.at_int (TK.out.C (A := A6) (c := c6) (l := H5) (by simp)).2 (k : Int) (by omega) hkH
            rw [Int.toNat_natCast, rd_at HF.out] at cf7
            rw [Int.toNat_natCast, rd_at HH.out] at ch6
            subst e7 e6
            have hwk : IntKind.i64.wrap ((k : Int) + 1) = ((k + 1 : Nat) : Int) := by rw [IntKind.wrap_i64]; omega
            have hwf : IntKind.u64.wrap (f + 1) = f + 1 := wu64 (by omega) (by omega)
            go_wp2_with fail
            clear cf7 ch6
            go_loopg [15] (h0 + 1 - (f + 1)).toNat (fun gg s15 wj => ∃ j : Int, s15 = .int .u64 j ∧ f < j ∧ (h0 + 1 - j).toNat ≤ gg ∧ Aside0 (SS w wj g (nn n) (rm room) E5 F5 H5 [(some ad7, c7, F5), (some ad6, c6, H5)] []))
            case atStart => exact ⟨f + 1, rfl, by omega, Nat.le_refl _, TK⟩
            case round =>
              clear TK
              obtain ⟨j, rfl, hfj, hgj, TJ⟩ := hrel
              obtain ⟨ad7', e7, cf7⟩ := Kd.at_int (TJ.out.C (A := some ad7) (c := c7) (l := F5) (by simp)).2 (k : Int) (by omega) hkF
              obtain ⟨ad6', e6, ch6⟩ := Kd.at_int (TJ.out.C (A := some ad6) (c := c6) (l := H5) (by simp)).2 (k : Int) (by omega) hkH
              cases e7
              cases e6
              rw [Int.toNat_natCast, rd_at HF.out] at cf7
              rw [Int.toNat_natCast, rd_at HH.out] at ch6
              by_cases hjh : j ≤ h0
              · have djh : decide (j ≤ h0) = true := decide_eq_true hjh
                have hwjf : IntKind.u64.wrap (j - f) = j - f := wu64 (by omega) (by omega)
                by_cases hj100 : j - f ≤ 100
                · have dj100 : decide (j - f ≤ 100) = true := decide_eq_true hj100
                  have hcb : IntKind.u8.wrap (k : Int) = (k : Int) := by simp [IntKind.wrap, IntKind.signed, IntKind.bits]; omega
                  have HA := Aside0.mk ((TJ.out.step (below_alloc (Below.refl wr.heap.size wr) (.cells #[.int .u8 (k : Int), .int .u64 j] tID))).has (x := ((k : Int), j)) ⟨⟨by show (0 : Int) ≤ k; omega, by show (k : Int) ≤ 255; omega⟩, ⟨by show (0 : Int) ≤ j; omega, by show j ≤ 18446744073709551615; omega⟩⟩ (blk_new wr _))
                  rw [(TJ.out.tops k f h0 HF.out HH.out).all j hfj hjh] at HA
                  have hwj : IntKind.u64.wrap (j + 1) = j + 1 := wu64 (by omega) (by omega)
                  go_wp2_with fail
                  refine HA.out.mono ?_
                  rintro e w13 ⟨rfl, h13⟩
                  have T13 := Aside0.mk h13
                  clear h13 HA cf7 ch6 TJ
                  go_wp2_with fail
                  go_roundg (h0 + 1 - (j + 1)).toNat
                  case measure => omega
                  case rel => exact ⟨j + 1, rfl, by omega, Nat.le_refl _, T13⟩
                · have dj100 : decide (j - f ≤ 100) = false := decide_eq_false hj100
                  go_wp2_with fail
                  go_roundg (nn n - (k + 1))
                  case measure => omega
                  case rel => exact ⟨k + 1, by go_num, by omega, by omega, TJ⟩
              · have djh : decide (j ≤ h0) = false := decide_eq_false hjh
                go_wp2_with fail
                go_roundg (nn n - (k + 1))
                case measure => omega
                case rel => exact ⟨k + 1, by go_num, by omega, by omega, TJ⟩
          · have hkn : ¬ (k : Int) < (H5.length : Int) := by have := LN5.out; omega
            go_wp2_with fail
            go_roundg (l1.length - (i + 1))
            case measure => omega
            case rel => exact ⟨i + 1, by go_num, by omega, by omega, E5, F5, H5, A6, c6, A7, c7, rfl, rfl, TK, EL5⟩
      · have hkz : (x.f0 == 0) = false := by simpa using hk
        go_wp2_with fail
        have TD := Aside0.mk (TC.out.step (below_alloc (Below.refl wc.heap.size wc) (.cells #[.slice A4 x.f3.length c4] tVU)))
        refine (TD.out.drop (blk_new wc _) (Kd.C_below G4.out TD.out.below) l4 (by omega) (by have := EL.out; omega)).mono ?_
        rintro e w5 ⟨rfl, H5, h5⟩
        have GR := Aside0.mk (TD.out.grew_drop h5)
        have EL5 : Aside0 ((E.filter (keepE (flo (foldAll mx [x.f3]) F))).length ≤ i + 1) := ⟨by
          have := EL.out
          have := List.length_filter_le (keepE (flo (foldAll mx [x.f3]) F)) E
          omega⟩
        generalize E.filter (keepE (flo (foldAll mx [x.f3]) F)) = E5 at h5 EL5
        generalize flo (foldAll mx [x.f3]) F = F5 at h5 GR
        have T5 := Aside0.mk h5
        clear h5 TC TD x0 x1 x2 x3 x4
        generalize ((E.length : Int) - (E5.length : Int)) = rz
        have LN5 := Aside0.mk T5.out.lens
        have NM5 := Aside0.mk T5.out.nums
        go_wp2_with fail
        refine (T5.out.held).mono ?_
        rintro e w6 ⟨A6, c6, rfl, h⟩
        have T6 := Aside0.mk h
        clear h T5
        go_wp2_with fail
        refine (T6.out.floor).mono ?_
        rintro e w7 ⟨A7, c7, rfl, h⟩
        have T7 := Aside0.mk h
        clear h T6
        go_wp2_with fail
        refine (T7.out.covers (A := A6) (c := c6) (a := H5) (B := Ah) (d := ch) (b := H) (by simp) (by simp) GR.out.h (by have := LN.out; omega)).mono ?_
        rintro e w8 ⟨rfl, h⟩
        have T8 := Aside0.mk h
        clear h T7
        go_wp2_with fail
        refine (T8.out.covers (A := A7) (c := c7) (a := F5) (B := Af) (d := cf) (b := F) (by simp) (by simp) GR.out.f (by have := LN.out; omega)).mono ?_
        rintro e w9 ⟨rfl, h⟩
        have T9 := Aside0.mk h
        clear h T8
        go_wp2_with fail
        refine (T9.out.covers (A := A6) (c := c6) (a := H5) (B := A7) (d := c7) (b := F5) (by simp) (by simp) T9.out.over (by have := LN5.out; omega)).mono ?_
        rintro e w10 ⟨rfl, h⟩
        have T10 := Aside0.mk (h.sub (P' := [(A7, c7, F5), (A6, c6, H5)]) (Q' := []) (by simp +contextual) (by simp))
        clear h T9
        have hu0 : decide ((usedE E5 : Int) < 0) = false := decide_eq_false (by omega)
        have hu1 : decide ((usedE E5 : Int) > rm room) = false := decide_eq_false (by have := LN5.out; omega)
        have hmx : Builtin.max2 (.int .i64 room) (.int .i64 0) = pure (.int .i64 (rm room)) := by
          rw [max2_int]
          congr 2
          unfold rm
          repeat (first | rfl | omega | split)
        go_wp2_with fail
        refine (T10.out.used).mono ?_
        rintro e w11 ⟨rfl, h⟩
        have T11 := Aside0.mk h
        clear h T10
        go_wp2_with fail
        refine (T11.out.used).mono ?_
        rintro e w12 ⟨rfl, h⟩
        have T12 := Aside0.mk h
        clear h T11
        go_wp2_with fail
        clear hu0 hu1 hmx
        go_loopg [14] (nn n) (fun gg s14 wj => ∃ k : Nat, s14 = .int .i64 k ∧ k ≤ nn n ∧ nn n - k ≤ gg ∧ Aside0 (SS w wj g (nn n) (rm room) E5 F5 H5 [(A7, c7, F5), (A6, c6, H5)] []))
        case atStart => exact ⟨0, rfl, Nat.zero_le _, by omega, T12⟩
        case round =>
          clear T12
          obtain ⟨k, rfl, hk0, hgk, TK⟩ := hrel
          by_cases hlk : k < nn n
          · have hkH : (k : Int) < (H5.length : Int) := by have := LN5.out; omega
            have hkF : (k : Int) < (F5.length : Int) := by have := LN5.out; omega
            have hk64 : k < 64 := by have := LN5.out; omega
            have hkF2 : k < F5.length := by omega
            have hkH2 : k < H5.length := by omega
            have HF := Aside0.mk (List.getElem?_eq_getElem hkF2)
            have HH := Aside0.mk (List.getElem?_eq_getElem hkH2)
            generalize F5[k] = f at HF
            generalize H5[k] = h0 at HH
            have UF := NM5.out.1 f (List.mem_of_getElem? HF.out)
            have UH := NM5.out.2 h0 (List.mem_of_getElem? HH.out)
            clear hkF2 hkH2
            obtain ⟨ad7, e7, cf7⟩ := Kd.at_int (TK.out.C (A := A7) (c := c7) (l := F5) (by simp)).2 (k : Int) (by omega) hkF
            obtain ⟨ad6, e6, ch6⟩ := Kd.at_int (TK.out.C (A := A6) (c := c6) (l := H5) (by simp)).2 (k : Int) (by omega) hkH
            rw [Int.toNat_natCast, rd_at HF.out] at cf7
            rw [Int.toNat_natCast, rd_at HH.out] at ch6
            subst e7 e6
            have hwk : IntKind.i64.wrap ((k : Int) + 1) = ((k + 1 : Nat) : Int) := by rw [IntKind.wrap_i64]; omega
            have hwf : IntKind.u64.wrap (f + 1) = f + 1 := wu64 (by omega) (by omega)
            go_wp2_with fail
            clear cf7 ch6
            go_loopg [15] (h0 + 1 - (f + 1)).toNat (fun gg s15 wj => ∃ j : Int, s15 = .int .u64 j ∧ f < j ∧ (h0 + 1 - j).toNat ≤ gg ∧ Aside0 (SS w wj g (nn n) (rm room) E5 F5 H5 [(some ad7, c7, F5), (some ad6, c6, H5)] []))
            case atStart => exact ⟨f + 1, rfl, by omega, Nat.le_refl _, TK⟩
            case round =>
              clear TK
              obtain ⟨j, rfl, hfj, hgj, TJ⟩ := hrel
              obtain ⟨ad7', e7, cf7⟩ := Kd.at_int (TJ.out.C (A := some ad7) (c := c7) (l := F5) (by simp)).2 (k : Int) (by omega) hkF
              obtain ⟨ad6', e6, ch6⟩ := Kd.at_int (TJ.out.C (A := some ad6) (c := c6) (l := H5) (by simp)).2 (k : Int) (by omega) hkH
              cases e7
              cases e6
              rw [Int.toNat_natCast, rd_at HF.out] at cf7
              rw [Int.toNat_natCast, rd_at HH.out] at ch6
              by_cases hjh : j ≤ h0
              · have djh : decide (j ≤ h0) = true := decide_eq_true hjh
                have hwjf : IntKind.u64.wrap (j - f) = j - f := wu64 (by omega) (by omega)
                by_cases hj100 : j - f ≤ 100
                · have dj100 : decide (j - f ≤ 100) = true := decide_eq_true hj100
                  have hcb : IntKind.u8.wrap (k : Int) = (k : Int) := by simp [IntKind.wrap, IntKind.signed, IntKind.bits]; omega
                  have HA := Aside0.mk ((TJ.out.step (below_alloc (Below.refl wr.heap.size wr) (.cells #[.int .u8 (k : Int), .int .u64 j] tID))).has (x := ((k : Int), j)) ⟨⟨by show (0 : Int) ≤ k; omega, by show (k : Int) ≤ 255; omega⟩, ⟨by show (0 : Int) ≤ j; omega, by show j ≤ 18446744073709551615; omega⟩⟩ (blk_new wr _))
                  rw [(TJ.out.tops k f h0 HF.out HH.out).all j hfj hjh] at HA
                  have hwj : IntKind.u64.wrap (j + 1) = j + 1 := wu64 (by omega) (by omega)
                  go_wp2_with fail
                  refine HA.out.mono ?_
                  rintro e w13 ⟨rfl, h13⟩
                  have T13 := Aside0.mk h13
                  clear h13 HA cf7 ch6 TJ
                  go_wp2_with fail
                  go_roundg (h0 + 1 - (j + 1)).toNat
                  case measure => omega
                  case rel => exact ⟨j + 1, rfl, by omega, Nat.le_refl _, T13⟩
                · have dj100 : decide (j - f ≤ 100) = false := decide_eq_false hj100
                  go_wp2_with fail
                  go_roundg (nn n - (k + 1))
                  case measure => omega
                  case rel => exact ⟨k + 1, by go_num, by omega, by omega, TJ⟩
              · have djh : decide (j ≤ h0) = false := decide_eq_false hjh
                go_wp2_with fail
                go_roundg (nn n - (k + 1))
                case measure => omega
                case rel => exact ⟨k + 1, by go_num, by omega, by omega, TJ⟩
          · have hkn : ¬ (k : Int) < (H5.length : Int) := by have := LN5.out; omega
            go_wp2_with fail
            go_roundg (l1.length - (i + 1))
            case measure => omega
            case rel => exact ⟨i + 1, by go_num, by omega, by omega, E5, F5, H5, A6, c6, A7, c7, rfl, rfl, TK, EL5⟩
    · obtain rfl : i = l1.length := by omega
      have hltz : ¬ (l1.length : Int) < (l1.length : Int) := by omega
      have BR := Aside0.mk SR.out.below
      clear SR
      go_wp2_with fail
      refine (AW.out _).mono ?_
      rintro e w4 ⟨rfl, hb⟩
      have B4 := Aside0.mk (below_step BR.out hb)
      clear hb
      go_wp2_with fail
      go_ret
      exact ⟨rfl, B4.out⟩

end Go.Proofs.Ytpdglodfgikfkaa.Walk
