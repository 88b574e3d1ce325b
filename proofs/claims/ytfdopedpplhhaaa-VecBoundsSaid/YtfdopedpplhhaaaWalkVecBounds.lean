/- What covers all of some vectors covers their greatest numbers, and the other way round; what all of them cover their least ones cover. Conditions: none beyond the statement's own. -/
import Derived.Test.YtfdopedpplhhaaaWalkVecLacks
import Derived.Test.YtfdopedpplhhaaaWalkBounds
import Derived.Test.YtfdopedpplhhaaaF2
import Derived.Test.YtfdopedpplhhaaaF1
import Derived.Test.YtfdopedpplhhaaaArgs
import Derived.Deep.QuietTactic
import Derived.BigQuiet
import Derived.Lib.QuietBelow
import Derived.Outline
import Derived.Deep.RegionHeld3
import Derived.Deep.CutRange
namespace Go.Proofs.Ytfdopedpplhhaaa.Walk
open Go.RowKit Go.Proofs.Ytfdopedpplhhaaa.F Go.Proofs.YtfdopedpplhhaaaW.PrintWords Go.Proofs.YtfdopedpplhhaaaW.PrintLast Go.Proofs.YtfdopedpplhhaaaW.PrintMore Go.Proofs.Ytfdopedpplhhaaa.Open
open Go.Sort (grow)
attribute [local go_sem] max2_int min2_int max_two min_two max_three min_three max_four min_four
set_option linter.unusedVariables false
set_option linter.unusedSimpArgs false

def allCov (l : List (List Int)) (a : List Int) : Bool := l.all fun b => decide (covv b a)
theorem allCov_iff (l : List (List Int)) (a : List Int) : allCov l a = true ↔ ∀ b ∈ l, covv b a := by simp [allCov]
set_option maxHeartbeats 2000000 in
theorem VecBounds (A0 : Option Addr) (c0 : Nat) (l0 : List Int) (A1 : Option Addr) (c1 : Nat) (l1 : List (List Int)) (w : World) (hr0 : Kd.C (Kd.int .u64) w A0 l0.length l0) (hc0 : l0.length ≤ c0) (hr1 : Kd.C (Kd.slice 32 (Kd.int .u64)) w A1 l1.length l1) (hc1 : l1.length ≤ c1)
    (w0 : l0.length ≤ maxLen ∧ ∀ x ∈ l0, (Lit.int .u64 x).wf = true) (w1 : l1.length ≤ maxLen ∧ ∀ x ∈ l1, (x.length ≤ maxLen ∧ ∀ y ∈ x, (Lit.int .u64 y).wf = true)) :
    Calls Try.prog 3 #[.slice A0 l0.length c0, .slice A1 l1.length c1] w fun e w' => e = .returned (.bool true) ∧ Below w.heap.size w w' := by
  have HR0 := Aside0.mk hr0
  have HC0 := Aside0.mk hc0
  have HR1 := Aside0.mk hr1
  have HC1 := Aside0.mk hc1
  have U0 := Aside0.mk (wf_u64s w0.2)
  have U1 : Aside0 (∀ b ∈ l1, u64s b) := ⟨fun b hb => wf_u64s (w1.2 b hb).2⟩
  have AW := Aside0.mk awake_eq
  clear hr0 hc0 hr1 hc1 w0 w1
  rcases great_eq l1 2000 (by omega) with h | ⟨h, h30, h100⟩
  · have HG := Aside0.mk h
    clear h
    go_enter Try.func3, Try.ntmps3
    go_wp2_with fail
    refine (unisonlaw04_great.calls 2000 A1 c1 l1 true _ HR1.out HC1.out HG.out).mono ?_
    rintro e w1 ⟨rfl, hd⟩
    have B1 := Aside0.mk hd.below
    clear hd
    go_wp2_with fail
    refine (unisonlaw04_awake.calls true _ AW.out).mono ?_
    rintro e w9 ⟨rfl, hb⟩
    have B9 := Aside0.mk (below_step B1.out hb)
    clear hb
    go_wp2_with fail
    go_ret
    exact ⟨rfl, B9.out⟩
  · have HG := Aside0.mk h
    clear h
    by_cases h0 : (100 : Int) < l0.length
    · have h0' := decide_eq_true h0
      clear h0
      go_enter Try.func3, Try.ntmps3
      go_wp2_with fail
      refine (unisonlaw04_great.calls 2000 A1 c1 l1 false _ HR1.out HC1.out HG.out).mono ?_
      rintro e w1 ⟨rfl, hd⟩
      have B1 := Aside0.mk hd.below
      clear hd
      go_wp2_with fail
      refine (unisonlaw04_awake.calls true _ AW.out).mono ?_
      rintro e w9 ⟨rfl, hb⟩
      have B9 := Aside0.mk (below_step B1.out hb)
      clear hb
      go_wp2_with fail
      go_ret
      exact ⟨rfl, B9.out⟩
    · have h0' := decide_eq_false h0
      by_cases h1 : (l1.length : Int) = 0
      · have h1' : ((l1.length : Int) == 0) = true := beq_iff_eq.2 h1
        clear h0 h1
        go_enter Try.func3, Try.ntmps3
        go_wp2_with fail
        refine (unisonlaw04_great.calls 2000 A1 c1 l1 false _ HR1.out HC1.out HG.out).mono ?_
        rintro e w1 ⟨rfl, hd⟩
        have B1 := Aside0.mk hd.below
        clear hd
        go_wp2_with fail
        refine (unisonlaw04_awake.calls true _ AW.out).mono ?_
        rintro e w9 ⟨rfl, hb⟩
        have B9 := Aside0.mk (below_step B1.out hb)
        clear hb
        go_wp2_with fail
        go_ret
        exact ⟨rfl, B9.out⟩
      · have h1' : ((l1.length : Int) == 0) = false := beq_eq_false_iff_ne.2 h1
        have hne : 0 < l1.length := by omega
        have ok : okV l1 := ⟨by omega, by omega⟩
        have L0 : l0.length ≤ 1000 := by omega
        have FX := Aside0.mk (show vec_Max.f l1 = some (foldAll mx l1) from if_pos ok)
        have FN := Aside0.mk (show vec_Min.f l1 = some (foldAll mn l1) from if_pos ok)
        have UX := Aside0.mk (most_u64 hne U1.out mx (Or.inl rfl))
        have UN := Aside0.mk (most_u64 hne U1.out mn (Or.inr rfl))
        have LX : (foldAll mx l1).length ≤ 1000 := by rw [foldAll_len]; omega
        have LN : (foldAll mn l1).length ≤ 1000 := by rw [foldAll_len]; omega
        have E1 := Aside0.mk (cov1 l0 (foldAll mx l1) U0.out L0 LX)
        have E2 := Aside0.mk (show vec_Covers.f l0 l1 = some (eachAll covH l0 l1) from if_pos ⟨L0, ok⟩)
        rw [each_cov l0 l1 U0.out] at E2
        have e3 : decide (covv l0 (foldAll mx l1)) = decide (∀ b ∈ l1, covv l0 b) := by rw [decide_eq_decide]; exact cov_most U0.out hne
        rw [e3] at E1
        have E4 := Aside0.mk (cov1 (foldAll mn l1) l0 UN.out LN L0)
        have e5 : decide (covv (foldAll mn l1) l0) = allCov l1 l0 := by rw [Bool.eq_iff_iff, decide_eq_true_iff, allCov_iff]; exact least_cov hne
        rw [e5] at E4
        have V1 : Aside0 (∀ b ∈ l1, vec_Covers.f (foldAll mx l1) [b] = some true) := ⟨fun b hb => by rw [cov1 _ _ UX.out LX (by have := longest_mem hb; omega), decide_eq_true (most_cov hb)]⟩
        have V2 : Aside0 (∀ b ∈ l1, vec_Covers.f b [foldAll mn l1] = some true) := ⟨fun b hb => by rw [cov1 _ _ (U1.out b hb) (by have := longest_mem hb; omega) LN, decide_eq_true (cov_least hb)]⟩
        have V3 : Aside0 (∀ b ∈ l1, vec_Covers.f b [l0] = some (decide (covv b l0))) := ⟨fun b hb => cov1 _ _ (U1.out b hb) (by have := longest_mem hb; omega) L0⟩
        clear e3 e5 h0 h1 ok UX UN
        generalize decide (∀ b ∈ l1, covv l0 b) = q at *
        generalize foldAll mx l1 = mo at *
        generalize foldAll mn l1 = le at *
        have l30 : (l1.length : Int) ≤ 30 := by omega
        go_enter Try.func3, Try.ntmps3
        go_wp2_with fail
        refine (unisonlaw04_great.calls 2000 A1 c1 l1 false _ HR1.out HC1.out HG.out).mono ?_
        rintro e w1 ⟨rfl, hd⟩
        have B1 := Aside0.mk hd.below
        clear hd
        go_wp2_with fail
        refine (vec_Max.calls A1 c1 l1 _ _ (Kd.C_below HR1.out B1.out) HC1.out FX.out).mono ?_
        rintro e w2 ⟨v, rfl, ho, hb⟩
        obtain ⟨Ax, cx, rfl⟩ := Kd.R_slice ho
        have B2 := Aside0.mk (below_step B1.out hb)
        have RX := Aside0.mk (Kd.R_reads' ho).2.2
        have CX := Aside0.mk (Kd.R_reads' ho).2.1
        clear hb ho
        go_wp2_with fail
        refine (vec_Min.calls A1 c1 l1 _ _ (Kd.C_below HR1.out B2.out) HC1.out FN.out).mono ?_
        rintro e w3 ⟨v, rfl, ho, hb⟩
        obtain ⟨An, cn, rfl⟩ := Kd.R_slice ho
        have B3 := Aside0.mk (below_step B2.out hb)
        have RN := Aside0.mk (Kd.R_reads' ho).2.2
        have CN := Aside0.mk (Kd.R_reads' ho).2.1
        have RX3 := Aside0.mk (Kd.C_below RX.out hb)
        clear hb ho RX
        go_wp2_with fail
        obtain ⟨w30, hw30⟩ : ∃ x, x = w3 := ⟨_, rfl⟩
        go_loopg [7, 8] l1.length (fun kq v7 v8 w' => ∃ j : Nat, v8 = .int .i64 j ∧ j ≤ l1.length ∧ l1.length ≤ kq + j ∧ v7 = .bool (allCov (l1.take j) l0) ∧ Aside0 (Below w.heap.size w w') ∧ Aside0 (Below w3.heap.size w3 w'))
        case atStart => exact ⟨0, rfl, by omega, by omega, rfl, B3, ⟨Below.refl _ _⟩⟩
        case round =>
          clear B1 B2 B3
          obtain ⟨j, rfl, hj, hkj, rfl, HB, HB3⟩ := hrel
          by_cases hlt : j < l1.length
          · have hlt' : decide ((j : Int) < l1.length) = true := decide_eq_true (by omega)
            obtain ⟨ad, Ab, cb, ead, hx, hbc, hbr⟩ := at_row HR1.out j hlt
            cases ead
            have X0 : Aside0 (∀ w', Below w.heap.size w w' → w'.cell? (ad.add j) = some (.slice Ab (l1.getD j []).length cb)) := ⟨fun w' hb => (hb.cell (World.block_lt_of_cell? w _ hx)).trans hx⟩
            have hmem : l1.getD j [] ∈ l1 := by simp [List.getD, hlt]
            have BR := Aside0.mk hbr
            have BC := Aside0.mk hbc
            have W1 := Aside0.mk (V1.out _ hmem)
            have W2 := Aside0.mk (V2.out _ hmem)
            have W3 := Aside0.mk (V3.out _ hmem)
            have hT : Aside0 (allCov (l1.take (j + 1)) l0 = (allCov (l1.take j) l0 && decide (covv (l1.getD j []) l0))) := ⟨by
              rw [getD_take l1 j hlt]
              simp [allCov]⟩
            clear hx hbc hbr hmem
            generalize l1.getD j [] = b at *
            generalize decide (covv b l0) = p at *
            generalize allCov (l1.take j) l0 = al at *
            have pm : (0 ≤ (j : Int)) = True := eq_true (by omega)
            have qm : ((j : Int) < (l1.length : Int)) = True := eq_true (by omega)
            have x1 := X0.out _ HB.out
            go_wp2_with fail
            refine (vec_Covers.calls Ax cx mo (some ⟨wr.heap.size, 0, none⟩) 1 [b] _ _ (Kd.C_alloc (Kd.C_below RX3.out HB3.out) _) CX.out (heads1 Ab cb b BC.out (Kd.C_below BR.out HB.out)) (by simp) W1.out).mono ?_
            rintro e w4 ⟨rfl, hb⟩
            have B4 := Aside0.mk (below_step (below_alloc HB.out _) hb)
            have D4 := Aside0.mk (below_step (below_alloc HB3.out _) hb)
            clear hb x1 HB HB3
            have x1 := X0.out _ B4.out
            go_wp2_with fail
            refine (vec_Covers.calls Ab cb b (some ⟨w4.heap.size, 0, none⟩) 1 [le] _ _ (Kd.C_alloc (Kd.C_below BR.out B4.out) _) BC.out (heads1 An cn le CN.out (Kd.C_below RN.out D4.out)) (by simp) W2.out).mono ?_
            rintro e w5 ⟨rfl, hb⟩
            have B5 := Aside0.mk (below_step (below_alloc B4.out _) hb)
            have D5 := Aside0.mk (below_step (below_alloc D4.out _) hb)
            clear hb x1 B4 D4
            have x1 := X0.out _ B5.out
            cases al
            · go_wp2_with fail
              go_roundg (gk - 1)
              case measure => omega
              case rel => exact ⟨j + 1, (by simp), by omega, by omega, by rw [hT.out]; rfl, B5, D5⟩
            · go_wp2_with fail
              refine (vec_Covers.calls Ab cb b (some ⟨w5.heap.size, 0, none⟩) 1 [l0] _ _ (Kd.C_alloc (Kd.C_below BR.out B5.out) _) BC.out (heads1 A0 c0 l0 HC0.out (Kd.C_below HR0.out B5.out)) (by simp) W3.out).mono ?_
              rintro e w6 ⟨rfl, hb⟩
              have B6 := Aside0.mk (below_step (below_alloc B5.out _) hb)
              have D6 := Aside0.mk (below_step (below_alloc D5.out _) hb)
              clear hb x1 B5 D5
              go_wp2_with fail
              go_roundg (gk - 1)
              case measure => omega
              case rel => exact ⟨j + 1, (by simp), by omega, by omega, by rw [hT.out]; simp, B6, D6⟩
          · have hlt' : decide ((j : Int) < l1.length) = false := decide_eq_false (by omega)
            rw [List.take_of_length_le (by omega)]
            generalize allCov l1 l0 = q2 at *
            go_wp2_with fail
            refine (vec_Covers.calls A0 c0 l0 (some ⟨wr.heap.size, 0, none⟩) 1 [mo] _ _ (Kd.C_alloc (Kd.C_below HR0.out HB.out) _) HC0.out (heads1 Ax cx mo CX.out (Kd.C_below RX3.out HB3.out)) (by simp) E1.out).mono ?_
            rintro e w4 ⟨rfl, hb⟩
            have B4 := Aside0.mk (below_step (below_alloc HB.out _) hb)
            have D4 := Aside0.mk (below_step (below_alloc HB3.out _) hb)
            clear hb HB HB3
            go_wp2_with fail
            refine (vec_Covers.calls A0 c0 l0 A1 c1 l1 _ _ (Kd.C_below HR0.out B4.out) HC0.out (Kd.C_below HR1.out B4.out) HC1.out E2.out).mono ?_
            rintro e w5 ⟨rfl, hb⟩
            have B5 := Aside0.mk (below_step B4.out hb)
            have D5 := Aside0.mk (below_step D4.out hb)
            clear hb B4 D4
            go_wp2_with fail
            refine (vec_Covers.calls An cn le (some ⟨w5.heap.size, 0, none⟩) 1 [l0] _ _ (Kd.C_alloc (Kd.C_below RN.out D5.out) _) CN.out (heads1 A0 c0 l0 HC0.out (Kd.C_below HR0.out B5.out)) (by simp) E4.out).mono ?_
            rintro e w6 ⟨rfl, hb⟩
            have B6 := Aside0.mk (below_step (below_alloc B5.out _) hb)
            clear hb
            go_wp2_with fail
            refine (unisonlaw04_awake.calls true _ AW.out).mono ?_
            rintro e w9 ⟨rfl, hb⟩
            have B9 := Aside0.mk (below_step B6.out hb)
            clear hb
            go_wp2_with fail
            go_ret
            exact ⟨rfl, B9.out⟩

end Go.Proofs.Ytfdopedpplhhaaa.Walk
