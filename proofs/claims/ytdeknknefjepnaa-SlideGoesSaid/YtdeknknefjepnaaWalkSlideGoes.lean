/- Of frames that are put in as there is room, some of which are acknowledged now and then, each is told with its own number, none left out. Conditions: none beyond the statement's own. -/
import Derived.Test.YtdeknknefjepnaaWalkGoesPure
import Derived.Test.YtdeknknefjepnaaArgs
import Derived.Deep.QuietTactic
import Derived.BigQuiet
import Derived.Lib.QuietBelow
import Derived.Outline
import Derived.Deep.RegionHeld3
import Derived.Deep.CutRange
namespace Go.Proofs.Ytdeknknefjepnaa.Walk
open Go.RowKit Go.Proofs.Ytdeknknefjepnaa.F Go.Proofs.YtdeknknefjepnaaW.PrintWords Go.Proofs.YtdeknknefjepnaaW.PrintLast Go.Proofs.YtdeknknefjepnaaW.PrintMore Go.Proofs.Ytdeknknefjepnaa.Open
open Go.Sort (grow)
attribute [local go_sem] max2_int min2_int max_two min_two max_three min_three max_four min_four
set_option linter.unusedVariables false
set_option linter.unusedSimpArgs false

/-! ### The law -/
set_option maxHeartbeats 8000000 in
set_option maxRecDepth 100000 in
theorem SlideGoes (a0 : Int) (A1 : Option Addr) (c1 : Nat) (l1 : List Int) (A2 : Option Addr) (c2 : Nat) (l2 : List Int) (w : World) (hr1 : Kd.C (Kd.int .u32) w A1 l1.length l1) (hc1 : l1.length ≤ c1) (hr2 : Kd.C (Kd.int .u8) w A2 l2.length l2) (hc2 : l2.length ≤ c2)
    (w0 : (Lit.int .i64 a0).wf = true) (w1 : l1.length ≤ maxLen ∧ ∀ x ∈ l1, (Lit.int .u32 x).wf = true) (w2 : l2.length ≤ maxLen ∧ ∀ x ∈ l2, (Lit.int .u8 x).wf = true) :
    Calls Try.prog 5 #[.int .i64 a0, .slice A1 l1.length c1, .slice A2 l2.length c2] w fun e w' => e = .returned (.bool true) ∧ Below w.heap.size w w' := by
  have HR := Aside0.mk hr1
  have HR2 := Aside0.mk hr2
  have HU8 : Aside0 (∀ x ∈ l2, 0 ≤ x ∧ x ≤ 255) := ⟨fun x hx => by
    have := w2.2 x hx
    simp [Lit.wf, IntKind.min, IntKind.max, IntKind.signed, IntKind.bits] at this
    omega⟩
  have h2m : l2.length ≤ 9223372036854775807 := by have := w2.1; unfold maxLen at this; exact this
  clear hr1 hr2 hc1 hc2 w0 w1 w2
  by_cases hl : (300 : Int) < l1.length
  · have hl' : decide ((300 : Int) < l1.length) = true := decide_eq_true hl
    go_enter Try.func5, Try.ntmps5
    go_wp2_with fail
    refine (awake_calls _).mono ?_
    rintro e w1 ⟨rfl, hb⟩
    have B1 := Aside0.mk hb
    clear hb
    go_wp2_with fail
    go_ret
    exact ⟨rfl, B1.out⟩
  · have hl' : decide ((300 : Int) < l1.length) = false := decide_eq_false hl
    go_enter Try.func5, Try.ntmps5
    go_wp2_with fail
    refine (New_calls a0 _).mono ?_
    rintro e w3 ⟨g, rfl, hge, hW, hb⟩
    generalize wid a0 = n at *
    have hn1 := hW.ok.n1
    have G0 : Aside0 (GW w w3 g n l1 0 0) := ⟨⟨hW, Nat.le_refl _, hb⟩⟩
    clear hge hW hb
    go_wp2_with fail
    go_loopg [8, 9] 700 (fun gk v8 v9 w' => ∃ nx i m : Nat, v8 = .int .i64 nx ∧ v9 = .int .i64 i ∧ nx ≤ l1.length ∧ i ≤ 700 ∧ 700 ≤ gk + i ∧ i ≤ 2 * nx ∧ (m ≠ 0 → i + 1 ≤ 2 * nx) ∧ Aside0 (GW w w' g n l1 nx m))
    case atStart => exact ⟨0, 0, 0, rfl, rfl, by omega, by omega, by omega, by omega, by omega, G0⟩
    case round =>
      clear G0
      obtain ⟨nx, i, m, rfl, rfl, hnx, hi, hgk, hi2, hi3, G⟩ := hrel
      obtain ⟨go_, GO⟩ : ∃ q, Aside0 (q = gk) := ⟨_, ⟨rfl⟩⟩
      by_cases hlt : nx < l1.length
      · have hlt' : decide ((nx : Int) < l1.length) = true := decide_eq_true (by omega)
        have hi7 : decide ((i : Int) < 700) = true := decide_eq_true (by omega)
        obtain ⟨ad, ead, hx⟩ := Kd.at_int HR.out (nx : Int) (by omega) (by omega)
        have HXN : wr.cell? (ad.add nx) = some (.int .u32 (rd l1 (nx : Int))) := by simpa using (G.out.below.cell (World.block_lt_of_cell? w _ hx)).trans hx
        cases ead
        clear hx
        obtain ⟨xv, hxv⟩ : ∃ xv, xv = rd l1 (nx : Int) := ⟨_, rfl⟩
        rw [← hxv] at HXN
        have XV := Aside0.mk hxv
        clear hxv
        have p1 : (0 ≤ (nx : Int)) = True := eq_true (by omega)
        have p2 : ((nx : Int) < (l1.length : Int)) = True := eq_true (by omega)
        have hfit := G.out.fit
        have hle := G.out.le
        by_cases hmn : m < n
        · go_wp2_with fail
          refine (GW_Put xv 1 G.out (by omega) XV.out (by omega)).mono ?_
          rintro e w4 ⟨rfl, hg⟩
          have G4 := Aside0.mk hg
          clear hg G HXN XV p1 p2 hlt'
          go_wp2_with fail
          refine (GW_Waits G4.out).mono ?_
          rintro e w5 ⟨rfl, q, rfl⟩
          have G5 := Aside0.mk (G4.out.drew q)
          clear G4
          generalize w4.drewN q = w5 at *
          obtain ⟨nx', hnx'⟩ : ∃ q : Nat, q = nx + 1 := ⟨_, rfl⟩
          obtain ⟨m', hm'⟩ : ∃ q : Nat, q = m + 1 := ⟨_, rfl⟩
          rw [← hnx', ← hm'] at G5
          rw [← hm']
          have en : (nx : Int) + 1 = (nx' : Int) := by omega
          rw [en]
          have NX' := Aside0.mk hnx'
          have MX' := Aside0.mk hm'
          have hm0 : 0 < m' := by omega
          have hnn : nx' ≤ l1.length := by omega
          clear en hnx' hm'
          dsimp only
          go_upto_if 45 with (fail)
          have WT : Aside0 (∀ q, Calls Try.prog 16 #[.pointer (some ⟨g, 0, none⟩)] (w5.drewN q) fun e w' => e = .returned (.int .i64 m') ∧ ∃ q', w' = (w5.drewN q).drewN q') := ⟨fun q => GW_Waits (G5.out.drew q)⟩
          go_cut [8, 9, 11] (fun v8 v9 v11 w' => ∃ kk : Nat, v8 = .int .i64 nx' ∧ v9 = .int .i64 i ∧ v11 = .int .i64 kk ∧ kk ≤ m' ∧ Aside0 (GW w w' g n l1 nx' m'))
          case first =>
            by_cases hac : i < l2.length
            · have hac' : decide ((i : Int) < l2.length) = true := decide_eq_true (by omega)
              obtain ⟨ad2, ead2, hx2⟩ := Kd.at_int HR2.out (i : Int) (by omega) (by omega)
              have HXA : w5.cell? (ad2.add i) = some (.int .u8 (rd l2 (i : Int))) := by simpa using (G5.out.below.cell (World.block_lt_of_cell? w _ hx2)).trans hx2
              have hb8 := HU8.out (rd l2 (i : Int)) (by simp [rd, List.getD, hac])
              cases ead2
              clear hx2
              generalize rd l2 (i : Int) = y at *
              have hy1 : Int.tmod y 4 = y % 4 := Int.tmod_eq_emod_of_nonneg hb8.1
              have hy2 : wrap64 (y % 4) = y % 4 := w64 (by omega) (by omega)
              have hy3 : IntKind.u8.wrap (y % 4) = y % 4 := by simp [IntKind.wrap, IntKind.signed, IntKind.bits]; omega
              have p3 : (0 ≤ (i : Int)) = True := eq_true (by omega)
              have p4 : ((i : Int) < (l2.length : Int)) = True := eq_true (by omega)
              go_wp2_with fail
              go_quiet ((go_at_call 16; exact quiet_of (WT.out _)))
              go_wp2_with fail
              all_goals
                go_meet
                first
                  | exact ⟨(y % 4).toNat, rfl, rfl, (by rw [Int.toNat_of_nonneg (by omega)]), by omega, ⟨G5.out.step (by repeat (first | exact Below.refl _ _ | apply below_drew | apply pw_below_drewN))⟩⟩
                  | exact ⟨m', rfl, rfl, rfl, Nat.le_refl _, ⟨G5.out.step (by repeat (first | exact Below.refl _ _ | apply below_drew | apply pw_below_drewN))⟩⟩
            · have hac' : decide ((i : Int) < l2.length) = false := decide_eq_false (by omega)
              go_wp2_with fail
              go_meet
              exact ⟨0, rfl, rfl, rfl, by omega, G5⟩
          case rest =>
            clear G5 WT
            obtain ⟨kk, rfl, rfl, rfl, hkm, G3⟩ := hcut
            have HF : Aside0 (i + 1 ≤ 2 * nx' ∧ (m' - kk ≠ 0 → i + 2 ≤ 2 * nx') ∧ nx' ≤ l1.length) := ⟨by have := NX'.out; exact ⟨by omega, by omega, by omega⟩⟩
            clear NX' MX' hfit hle hmn hi2 hi3
            have hgl := G3.out.le
            have hgm := G3.out.fit
            have hw64 := G3.out.win.ok.n64
            obtain ⟨fi, hfi⟩ : ∃ fi : Int, fi = (nx' : Int) + 1 - m' := ⟨_, rfl⟩
            have hw1 : IntKind.u64.wrap (kk : Int) = kk := wu64 (by omega) (by omega)
            have hw2 : IntKind.u64.wrap (fi + kk) = fi + kk := wu64 (by omega) (by omega)
            have hw3 : IntKind.u64.wrap (fi + kk - 1) = fi + kk - 1 := wu64 (by omega) (by omega)
            have GF := Aside0.mk hfi
            have GFU : Aside0 (fi + kk - 1 = (nx' : Int) - m' + kk) := ⟨by rw [GF.out]; omega⟩
            clear hfi
            go_wp2_with fail
            refine (GW_First fi G3.out GF.out).mono ?_
            rintro e w6 ⟨rfl, rfl⟩
            go_wp2_with fail
            refine (GW_Acked (fi + kk - 1) kk G3.out hkm GFU.out).mono ?_
            rintro e w6 ⟨rfl, hg⟩
            have G6 := Aside0.mk hg
            clear hg G3 GF GFU hw1 hw2 hw3
            obtain ⟨m2, hm2⟩ : ∃ q : Nat, q = m' - kk := ⟨_, rfl⟩
            rw [← hm2] at G6
            have GM2 := Aside0.mk hm2
            clear hm2
            have hm2n := G6.out.fit
            have hm2l := G6.out.le
            obtain ⟨fj, hfi⟩ : ∃ fj : Int, fj = (nx' : Int) + 1 - m2 := ⟨_, rfl⟩
            go_wp2_with fail
            refine (Waiting_calls 0 100 0 (segs l1 nx' m2) _ G6.out.win (by decide) (by decide) (by rw [segs_length]; omega) (by rw [List.drop_zero, List.take_of_length_le (by rw [segs_length]; have := G6.out.win.ok.n64; simp; omega)])).mono ?_
            rintro e w7 ⟨v, rfl, ho, hb⟩
            obtain ⟨A7, c7, rfl⟩ := Kd.R_slice ho
            rw [segs_length] at ho
            rw [segs_length]
            have R7 := Aside0.mk ho
            have G7 := Aside0.mk (G6.out.step hb)
            clear ho hb G6
            have hv1 : IntKind.u64.wrap (m2 : Int) = m2 := wu64 (by omega) (by omega)
            have hv2 : IntKind.u64.wrap (fj + m2) = (nx' : Int) + 1 := by rw [wu64 (by omega) (by omega)]; omega
            have hv3 : IntKind.u64.wrap ((nx' : Int) + 1) = (nx' : Int) + 1 := wu64 (by omega) (by omega)
            have hv4 : IntKind.u64.wrap (nx' : Int) = nx' := wu64 (by omega) (by omega)
            have FI := Aside0.mk hfi
            clear hfi
            go_wp2_with fail
            refine (GW_Waits G7.out).mono ?_
            rintro e w8 ⟨rfl, q, rfl⟩
            have G8 := Aside0.mk (G7.out.drew q)
            have R8 := Aside0.mk (Kd.R_drewN R7.out q)
            clear G7 R7
            generalize w7.drewN q = w8 at *
            go_wp2_with fail
            refine (GW_First fj G8.out FI.out).mono ?_
            rintro e w8 ⟨rfl, rfl⟩
            go_wp2_with fail
            refine (Last_calls G8.out.win).mono ?_
            rintro e w8 ⟨rfl, rfl⟩
            go_wp2_with fail
            refine (Last_calls G8.out.win).mono ?_
            rintro e w8 ⟨rfl, rfl⟩
            clear hv2
            go_wp2_with fail
            go_loopg [13] m2 (fun kj v13 w' => ∃ j : Nat, v13 = .int .i64 j ∧ j ≤ m2 ∧ m2 ≤ kj + j ∧ Aside0 (GW w w' g n l1 nx' m2) ∧ Aside0 (Kd.R kF eF w' w6.heap.size (fun _ => True) (.slice A7 m2 c7) (segs l1 nx' m2)))
            case atStart => exact ⟨0, rfl, by omega, by omega, G8, R8⟩
            case round =>
              clear G8 R8
              obtain ⟨j, rfl, hj, hkj, G8, R8⟩ := hrel
              by_cases hjt : j < m2
              · have hjt' : decide ((j : Int) < m2) = true := decide_eq_true (by omega)
                have hu1 : IntKind.u64.wrap (j : Int) = j := wu64 (by omega) (by omega)
                obtain ⟨p, hp⟩ : ∃ p : Nat, p = nx' - m2 + j := ⟨_, rfl⟩
                have hu2 : IntKind.u64.wrap (fj + j) = (p : Int) + 1 := by have e9 := FI.out; rw [wu64 (by omega) (by omega)]; omega
                have hu3 : IntKind.u64.wrap ((p : Int) + 1 - 1) = p := by rw [wu64 (by omega) (by omega)]; omega
                have hpl : p < l1.length := by have e9 := HF.out.2.2; omega
                have hd1 : decide ((p : Int) + 1 < 1) = false := decide_eq_false (by omega)
                have hd2 : decide ((l1.length : Int) < (p : Int) + 1) = false := decide_eq_false (by omega)
                have hul : IntKind.u64.wrap (l1.length : Int) = l1.length := wu64 (by omega) (by omega)
                obtain ⟨ad7, C7, e7, _, hK7, hc7⟩ := Kd.C_get (Kd.R_reads' R8.out).2.2 z36 (j : Int) (by omega) (by rw [segs_length]; omega)
                have ef : (segs l1 nx' m2).getD (j : Int).toNat z36 = fr l1 p := by rw [hp]; simp [List.getD, segs_get l1 nx' m2 j hjt]
                rw [ef] at hK7
                obtain ⟨A11, c11, A12, c12, A13, c13, A14, c14, A15, c15, rfl, _⟩ := k36_open hK7
                have y5 : wr.cell? ⟨(ad7.add (j * 16)).block, (ad7.add (j * 16)).off + 5, none⟩ = some (.int .u64 ((p : Int) + 1)) := by rw [← add_field _ _ 5 (by omega)]; exact hc7 5 _ rfl
                have y6 : wr.cell? ⟨(ad7.add (j * 16)).block, (ad7.add (j * 16)).off + 6, none⟩ = some (.int .u32 (rd l1 (p : Int))) := by rw [← add_field _ _ 6 (by omega)]; exact hc7 6 _ rfl
                obtain ⟨ad, ead, hx⟩ := Kd.at_int HR.out (p : Int) (by omega) (by omega)
                have HXP : wr.cell? (ad.add p) = some (.int .u32 (rd l1 (p : Int))) := by simpa using (G8.out.below.cell (World.block_lt_of_cell? w _ hx)).trans hx
                cases e7
                cases ead
                have HP := Aside0.mk hp
                clear hK7 hc7 hx ef hp
                generalize rd l1 (p : Int) = xv at *
                have p1 : (0 ≤ (j : Int)) = True := eq_true (by omega)
                have p2 : ((j : Int) < (m2 : Int)) = True := eq_true (by omega)
                have p3 : (0 ≤ (p : Int)) = True := eq_true (by omega)
                have p4 : ((p : Int) < (l1.length : Int)) = True := eq_true (by omega)
                go_wp2_with fail
                refine (GW_First fj G8.out FI.out).mono ?_
                rintro e w9 ⟨rfl, rfl⟩
                go_wp2_with fail
                go_quiet (fail)
                go_wp2_with fail
                go_roundg (gk - 1)
                case measure => omega
                case rel => exact ⟨j + 1, (by simp; try exact w64 (by omega) (by omega)), by omega, by omega, ⟨G8.out.step (by repeat (first | exact Below.refl _ _ | apply below_drew | apply pw_below_drewN))⟩, ⟨Kd.R_below R8.out (by repeat (first | exact Below.refl _ _ | apply below_drew | apply pw_below_drewN))⟩⟩
              · have hjt' : decide ((j : Int) < m2) = false := decide_eq_false (by omega)
                clear R8
                obtain ⟨e7, e8, e9⟩ := HF.out
                have e6 := GM2.out
                rw [← e6] at e8
                clear e6 HF
                go_wp2_with fail
                go_roundg (go_ - 1)
                case measure => have := GO.out; omega
                case rel => exact ⟨nx', i + 1, m2, rfl, (by simp; try exact w64 (by omega) (by omega)), by omega, by omega, by have := GO.out; omega, by omega, by omega, G8⟩
        · have hle2 := G.out.win.ok.fit
          go_wp2_with fail
          refine (GW_Put xv 0 G.out (by omega) XV.out (by omega)).mono ?_
          rintro e w4 ⟨rfl, hg⟩
          rw [Nat.add_zero, Nat.add_zero] at hg
          have G4 := Aside0.mk hg
          clear hg G HXN XV p1 p2 hlt'
          go_wp2_with fail
          refine (GW_Waits G4.out).mono ?_
          rintro e w5 ⟨rfl, q, rfl⟩
          have G3 := Aside0.mk (G4.out.drew q)
          clear G4
          generalize w4.drewN q = wr at *
          obtain ⟨nx', hnx'⟩ : ∃ q : Nat, q = nx := ⟨_, rfl⟩
          obtain ⟨m', hm'⟩ : ∃ q : Nat, q = m := ⟨_, rfl⟩
          obtain ⟨kk, hkk⟩ : ∃ q : Nat, q = m := ⟨_, rfl⟩
          rw [← hnx', ← hm'] at G3
          rw [← hnx', ← hkk]
          have hkm : kk ≤ m' := by omega
          have hnn : nx' ≤ l1.length := by omega
          have HF : Aside0 (i + 1 ≤ 2 * nx' ∧ (m' - kk ≠ 0 → i + 2 ≤ 2 * nx') ∧ nx' ≤ l1.length) := ⟨⟨by omega, by omega, by omega⟩⟩
          clear hnx' hm' hkk hfit hle hmn hi2 hi3 hle2
          have hgl := G3.out.le
          have hgm := G3.out.fit
          have hw64 := G3.out.win.ok.n64
          obtain ⟨fi, hfi⟩ : ∃ fi : Int, fi = (nx' : Int) + 1 - m' := ⟨_, rfl⟩
          have hw1 : IntKind.u64.wrap (kk : Int) = kk := wu64 (by omega) (by omega)
          have hw2 : IntKind.u64.wrap (fi + kk) = fi + kk := wu64 (by omega) (by omega)
          have hw3 : IntKind.u64.wrap (fi + kk - 1) = fi + kk - 1 := wu64 (by omega) (by omega)
          have GF := Aside0.mk hfi
          have GFU : Aside0 (fi + kk - 1 = (nx' : Int) - m' + kk) := ⟨by rw [GF.out]; omega⟩
          clear hfi
          go_wp2_with fail
          refine (GW_First fi G3.out GF.out).mono ?_
          rintro e w6 ⟨rfl, rfl⟩
          go_wp2_with fail
          refine (GW_Acked (fi + kk - 1) kk G3.out hkm GFU.out).mono ?_
          rintro e w6 ⟨rfl, hg⟩
          have G6 := Aside0.mk hg
          clear hg G3 GF GFU hw1 hw2 hw3
          obtain ⟨m2, hm2⟩ : ∃ q : Nat, q = m' - kk := ⟨_, rfl⟩
          rw [← hm2] at G6
          have GM2 := Aside0.mk hm2
          clear hm2
          have hm2n := G6.out.fit
          have hm2l := G6.out.le
          obtain ⟨fj, hfi⟩ : ∃ fj : Int, fj = (nx' : Int) + 1 - m2 := ⟨_, rfl⟩
          go_wp2_with fail
          refine (Waiting_calls 0 100 0 (segs l1 nx' m2) _ G6.out.win (by decide) (by decide) (by rw [segs_length]; omega) (by rw [List.drop_zero, List.take_of_length_le (by rw [segs_length]; have := G6.out.win.ok.n64; simp; omega)])).mono ?_
          rintro e w7 ⟨v, rfl, ho, hb⟩
          obtain ⟨A7, c7, rfl⟩ := Kd.R_slice ho
          rw [segs_length] at ho
          rw [segs_length]
          have R7 := Aside0.mk ho
          have G7 := Aside0.mk (G6.out.step hb)
          clear ho hb G6
          have hv1 : IntKind.u64.wrap (m2 : Int) = m2 := wu64 (by omega) (by omega)
          have hv2 : IntKind.u64.wrap (fj + m2) = (nx' : Int) + 1 := by rw [wu64 (by omega) (by omega)]; omega
          have hv3 : IntKind.u64.wrap ((nx' : Int) + 1) = (nx' : Int) + 1 := wu64 (by omega) (by omega)
          have hv4 : IntKind.u64.wrap (nx' : Int) = nx' := wu64 (by omega) (by omega)
          have FI := Aside0.mk hfi
          clear hfi
          go_wp2_with fail
          refine (GW_Waits G7.out).mono ?_
          rintro e w8 ⟨rfl, q, rfl⟩
          have G8 := Aside0.mk (G7.out.drew q)
          have R8 := Aside0.mk (Kd.R_drewN R7.out q)
          clear G7 R7
          generalize w7.drewN q = w8 at *
          go_wp2_with fail
          refine (GW_First fj G8.out FI.out).mono ?_
          rintro e w8 ⟨rfl, rfl⟩
          go_wp2_with fail
          refine (Last_calls G8.out.win).mono ?_
          rintro e w8 ⟨rfl, rfl⟩
          go_wp2_with fail
          refine (Last_calls G8.out.win).mono ?_
          rintro e w8 ⟨rfl, rfl⟩
          clear hv2
          go_wp2_with fail
          go_loopg [13] m2 (fun kj v13 w' => ∃ j : Nat, v13 = .int .i64 j ∧ j ≤ m2 ∧ m2 ≤ kj + j ∧ Aside0 (GW w w' g n l1 nx' m2) ∧ Aside0 (Kd.R kF eF w' w6.heap.size (fun _ => True) (.slice A7 m2 c7) (segs l1 nx' m2)))
          case atStart => exact ⟨0, rfl, by omega, by omega, G8, R8⟩
          case round =>
            clear G8 R8
            obtain ⟨j, rfl, hj, hkj, G8, R8⟩ := hrel
            by_cases hjt : j < m2
            · have hjt' : decide ((j : Int) < m2) = true := decide_eq_true (by omega)
              have hu1 : IntKind.u64.wrap (j : Int) = j := wu64 (by omega) (by omega)
              obtain ⟨p, hp⟩ : ∃ p : Nat, p = nx' - m2 + j := ⟨_, rfl⟩
              have hu2 : IntKind.u64.wrap (fj + j) = (p : Int) + 1 := by have e9 := FI.out; rw [wu64 (by omega) (by omega)]; omega
              have hu3 : IntKind.u64.wrap ((p : Int) + 1 - 1) = p := by rw [wu64 (by omega) (by omega)]; omega
              have hpl : p < l1.length := by have e9 := HF.out.2.2; omega
              have hd1 : decide ((p : Int) + 1 < 1) = false := decide_eq_false (by omega)
              have hd2 : decide ((l1.length : Int) < (p : Int) + 1) = false := decide_eq_false (by omega)
              have hul : IntKind.u64.wrap (l1.length : Int) = l1.length := wu64 (by omega) (by omega)
              obtain ⟨ad7, C7, e7, _, hK7, hc7⟩ := Kd.C_get (Kd.R_reads' R8.out).2.2 z36 (j : Int) (by omega) (by rw [segs_length]; omega)
              have ef : (segs l1 nx' m2).getD (j : Int).toNat z36 = fr l1 p := by rw [hp]; simp [List.getD, segs_get l1 nx' m2 j hjt]
              rw [ef] at hK7
              obtain ⟨A11, c11, A12, c12, A13, c13, A14, c14, A15, c15, rfl, _⟩ := k36_open hK7
              have y5 : wr.cell? ⟨(ad7.add (j * 16)).block, (ad7.add (j * 16)).off + 5, none⟩ = some (.int .u64 ((p : Int) + 1)) := by rw [← add_field _ _ 5 (by omega)]; exact hc7 5 _ rfl
              have y6 : wr.cell? ⟨(ad7.add (j * 16)).block, (ad7.add (j * 16)).off + 6, none⟩ = some (.int .u32 (rd l1 (p : Int))) := by rw [← add_field _ _ 6 (by omega)]; exact hc7 6 _ rfl
              obtain ⟨ad, ead, hx⟩ := Kd.at_int HR.out (p : Int) (by omega) (by omega)
              have HXP : wr.cell? (ad.add p) = some (.int .u32 (rd l1 (p : Int))) := by simpa using (G8.out.below.cell (World.block_lt_of_cell? w _ hx)).trans hx
              cases e7
              cases ead
              have HP := Aside0.mk hp
              clear hK7 hc7 hx ef hp
              generalize rd l1 (p : Int) = xv at *
              have p1 : (0 ≤ (j : Int)) = True := eq_true (by omega)
              have p2 : ((j : Int) < (m2 : Int)) = True := eq_true (by omega)
              have p3 : (0 ≤ (p : Int)) = True := eq_true (by omega)
              have p4 : ((p : Int) < (l1.length : Int)) = True := eq_true (by omega)
              go_wp2_with fail
              refine (GW_First fj G8.out FI.out).mono ?_
              rintro e w9 ⟨rfl, rfl⟩
              go_wp2_with fail
              go_quiet (fail)
              go_wp2_with fail
              go_roundg (gk - 1)
              case measure => omega
              case rel => exact ⟨j + 1, (by simp; try exact w64 (by omega) (by omega)), by omega, by omega, ⟨G8.out.step (by repeat (first | exact Below.refl _ _ | apply below_drew | apply pw_below_drewN))⟩, ⟨Kd.R_below R8.out (by repeat (first | exact Below.refl _ _ | apply below_drew | apply pw_below_drewN))⟩⟩
            · have hjt' : decide ((j : Int) < m2) = false := decide_eq_false (by omega)
              clear R8
              obtain ⟨e7, e8, e9⟩ := HF.out
              have e6 := GM2.out
              rw [← e6] at e8
              clear e6 HF
              go_wp2_with fail
              go_roundg (go_ - 1)
              case measure => have := GO.out; omega
              case rel => exact ⟨nx', i + 1, m2, rfl, (by simp; try exact w64 (by omega) (by omega)), by omega, by omega, by have := GO.out; omega, by omega, by omega, G8⟩
      · have hnl : nx = l1.length := by omega
        have hlt' : decide ((nx : Int) < l1.length) = false := decide_eq_false (by omega)
        have hle' : ((nx : Int) == l1.length) = true := beq_iff_eq.2 (by omega)
        go_wp2_with fail
        refine (awake_calls _).mono ?_
        rintro e w4 ⟨rfl, hb⟩
        have B4 := Aside0.mk (below_step G.out.below hb)
        clear hb
        go_wp2_with fail
        go_ret
        exact ⟨rfl, B4.out⟩

end Go.Proofs.Ytdeknknefjepnaa.Walk
