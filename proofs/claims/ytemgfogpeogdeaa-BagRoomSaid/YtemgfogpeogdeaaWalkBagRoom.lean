/- Of any things as many are put in as there is room for, the first ones, and the others are lost. Conditions: none beyond the statement's own. -/
import Derived.Test.YtemgfogpeogdeaaWalkAwake
import Derived.Test.YtemgfogpeogdeaaArgs
import Derived.Deep.QuietTactic
import Derived.BigQuiet
import Derived.Lib.QuietBelow
import Derived.Outline
import Derived.Deep.RegionHeld3
import Derived.Deep.CutRange
namespace Go.Proofs.Ytemgfogpeogdeaa.Walk
open Go.RowKit Go.Proofs.Ytemgfogpeogdeaa.F Go.Proofs.YtemgfogpeogdeaaW.PrintWords Go.Proofs.YtemgfogpeogdeaaW.PrintLast Go.Proofs.YtemgfogpeogdeaaW.PrintMore Go.Proofs.Ytemgfogpeogdeaa.Open
open Go.Sort (grow)
attribute [local go_sem] max2_int min2_int max_two min_two max_three min_three max_four min_four
set_option linter.unusedVariables false
set_option linter.unusedSimpArgs false

/-! ### The law: as many are put in as there is room for, the first ones -/
theorem drop_cons {α : Type} {L : List α} {i : Nat} {z : α} (h : i < L.length) : L.drop i = L.getD i z :: L.drop (i + 1) := by
  rw [List.drop_eq_getElem_cons h, List.getD_eq_getElem?_getD, List.getElem?_eq_getElem h]
  rfl
set_option maxHeartbeats 4000000 in
set_option maxRecDepth 100000 in
theorem BagRoom (a0 : Int) (A1 : Option Addr) (c1 : Nat) (l1 : List (List Int)) (w : World) (hr1 : kL.C w A1 l1.length l1) (hc1 : l1.length ≤ c1)
    (w0 : (Lit.int .i64 a0).wf = true) (w1 : l1.length ≤ maxLen ∧ ∀ x ∈ l1, (x.length ≤ maxLen ∧ ∀ y ∈ x, (Lit.int .u8 y).wf = true)) :
    Calls Try.prog 3 #[.int .i64 a0, .slice A1 l1.length c1] w fun e w' => e = .returned (.bool true) ∧ Below w.heap.size w w' := by
  have HR := Aside0.mk hr1
  have HC := Aside0.mk hc1
  have H0 := Aside0.mk (Below.refl w.heap.size w)
  clear w0 w1 hr1 hc1
  by_cases hl : (100 : Int) < l1.length
  · have hl' : decide ((100 : Int) < l1.length) = true := decide_eq_true hl
    have hl2 : decide (100 < l1.length) = true := decide_eq_true (by omega)
    go_enter Try.func3, Try.ntmps3
    go_wp2_with fail
    refine (awake_calls _).mono ?_
    rintro e w1 ⟨rfl, hb⟩
    have B1 := Aside0.mk hb
    clear hb
    go_wp2_with fail
    go_ret
    exact ⟨rfl, B1.out⟩
  · have hl' : decide ((100 : Int) < l1.length) = false := decide_eq_false hl
    have hl2 : decide (100 < l1.length) = false := decide_eq_false (by omega)
    have hl100 : l1.length ≤ 100 := by omega
    go_enter Try.func3, Try.ntmps3
    go_wp2_with fail
    go_loopg [5] l1.length (fun kq v5 w' => ∃ j : Nat, v5 = .int .i64 j ∧ j ≤ l1.length ∧ l1.length ≤ kq + j ∧ Aside0 (∀ i, i < j → (rd_L1 l1 (i : Int)).length ≤ 50) ∧ w = w')
    case atStart => exact ⟨0, rfl, by omega, by omega, ⟨fun i hi => by omega⟩, rfl⟩
    case round =>
      obtain ⟨j, rfl, hj, hkj, HS, rfl⟩ := hrel
      by_cases hlt : j < l1.length
      · have hlt' : decide ((j : Int) < l1.length) = true := decide_eq_true (by omega)
        have hlt2 : decide (j < l1.length) = true := decide_eq_true hlt
        obtain ⟨ad, D0, d0, ea, k0, l0, g0⟩ := at_L1 HR.out (j : Int) (by omega) (by omega)
        cases ea
        rw [Int.toNat_natCast] at k0
        have pm : (0 ≤ (j : Int)) = True := eq_true (by omega)
        have qm : ((j : Int) < (l1.length : Int)) = True := eq_true (by omega)
        have hwj : wrap64 ((j : Int) + 1) = ((j + 1 : Nat) : Int) := by rw [w64 (by omega) (by omega)]; simp
        obtain ⟨m, hm⟩ : ∃ m, m = (rd_L1 l1 (j : Int)).length := ⟨_, rfl⟩
        rw [← hm] at k0
        have HM := Aside0.mk hm
        clear hm l0 g0
        by_cases h50 : 50 < m
        · have h1 : decide ((50 : Int) < (m : Int)) = true := decide_eq_true (by omega)
          have h2 : decide (50 < m) = true := decide_eq_true h50
          go_wp2_with fail
          refine (awake_calls _).mono ?_
          rintro e w1 ⟨rfl, hb⟩
          have B1 := Aside0.mk hb
          clear hb
          go_wp2_with fail
          go_ret
          exact ⟨rfl, B1.out⟩
        · have h1 : decide ((50 : Int) < (m : Int)) = false := decide_eq_false (by omega)
          have h2 : decide (50 < m) = false := decide_eq_false h50
          have HS2 : Aside0 (∀ i, i < j + 1 → (rd_L1 l1 (i : Int)).length ≤ 50) := ⟨fun i hi => by
            by_cases h : i < j
            · exact HS.out i h
            · obtain rfl : i = j := by omega
              rw [← HM.out]
              omega⟩
          clear HS HM
          go_wp2_with fail
          go_roundg (gk - 1)
          case measure => omega
          case rel => exact ⟨j + 1, rfl, by omega, by omega, HS2, rfl⟩
      · have hlt' : decide ((j : Int) < l1.length) = false := decide_eq_false (by omega)
        have hlt2 : decide (j < l1.length) = false := decide_eq_false hlt
        obtain rfl : j = l1.length := by omega
        have HX : Aside0 (∀ x ∈ l1, x.length ≤ 1000000) := ⟨fun x hx => by
          obtain ⟨i, hi, rfl⟩ := List.getElem_of_mem hx
          have h := HS.out i hi
          unfold rd_L1 at h
          rw [Int.toNat_natCast, List.getD_eq_getElem?_getD, List.getElem?_eq_getElem hi] at h
          exact Nat.le_trans h (by decide)⟩
        clear HS hkj hj
        go_wp2_with fail
        refine (New_calls a0 _).mono ?_
        rintro e w1 ⟨g, rfl, hge, hW, hb⟩
        have hn1 := rm_ok a0
        have W1 := Aside0.mk hW.bound
        have B1 := Aside0.mk hb
        have GE := Aside0.mk hge
        obtain ⟨k, hk⟩ : ∃ k, k = min l1.length (rm a0) := ⟨_, rfl⟩
        have HK := Aside0.mk hk
        have HN1 := Aside0.mk hn1
        clear hge hW hb hk hn1
        go_upto_region 9 with (fail)
        go_cut [7] (fun v7 w' => v7 = .int .i64 (k : Int) ∧ w' = w1)
        case first =>
          by_cases h1 : 4096 < a0
          · have RM : Aside0 (rm a0 = 4096) := ⟨if_pos h1⟩
            go_wp2_with fail
            all_goals go_meet
            all_goals refine ⟨?_, rfl⟩
            all_goals congr 1
            all_goals (have := HK.out; have := RM.out; (try split) <;> omega)
          · by_cases h2 : 1 < a0
            · have RM : Aside0 (rm a0 = a0.toNat) := ⟨(if_neg h1).trans (if_pos h2)⟩
              go_wp2_with fail
              all_goals go_meet
              all_goals refine ⟨?_, rfl⟩
              all_goals congr 1
              all_goals (have := HK.out; have := RM.out; (try split) <;> omega)
            · have RM : Aside0 (rm a0 = 1) := ⟨(if_neg h1).trans (if_neg h2)⟩
              go_wp2_with fail
              all_goals go_meet
              all_goals refine ⟨?_, rfl⟩
              all_goals congr 1
              all_goals (have := HK.out; have := RM.out; (try split) <;> omega)
        case rest =>
          obtain ⟨rfl, rfl⟩ := hcut
          go_wp2_with fail
          refine (Put_calls l1 k W1.out (fun w' hB => Kd.C_below HR.out (Beside.step B1.out hB (fun k hk => hk.1))) HC.out HX.out (by omega) (by rw [HK.out]; simp)).mono ?_
          rintro e w3 ⟨rfl, hW, hb⟩
          obtain ⟨LL, hLL⟩ : ∃ LL, LL = [] ++ (l1.take k).map th := ⟨_, rfl⟩
          obtain ⟨lv, hlv⟩ : ∃ lv : Nat, lv = l1.length - k := ⟨_, rfl⟩
          have hLN : LL.length = k := by rw [hLL]; simp; have := HK.out; omega
          rw [← hLL, ← hlv] at hW
          have hW' : Bag w3 (fun b => w.heap.size ≤ b) g (rm a0) LL lv := by
            have h := hW.mono (S' := fun b => w.heap.size ≤ b) (fun b hb => hb.elim (fun h => h.1) (fun h => Nat.le_trans B1.out.size h))
            rwa [Int.zero_add] at h
          have HLL : Aside0 (∀ i, i < k → LL.getD i zT = th (rd_L1 l1 (i : Int))) := ⟨fun i hi => by
            have h1 : i < l1.length := by have := HK.out; omega
            rw [hLL]
            unfold rd_L1
            rw [Int.toNat_natCast, List.nil_append, List.getD_eq_getElem?_getD, List.getD_eq_getElem?_getD, List.getElem?_map, List.getElem?_take_of_lt hi, List.getElem?_eq_getElem h1]
            rfl⟩
          have W3 := Aside0.mk hW'
          have B3 := Aside0.mk (Beside.step B1.out hb (fun k hk => hk.1))
          have LN := Aside0.mk hLN
          have hkl : k ≤ l1.length := by have := HK.out; omega
          have hwv : wrap64 ((l1.length : Int) - (k : Int)) = (lv : Int) := by rw [w64 (by omega) (by omega)]; omega
          have hwv2 : IntKind.i64.wrap ((l1.length : Int) - (k : Int)) = (lv : Int) := (i64_w _).trans hwv
          have LV := Aside0.mk hlv
          clear hW hW' hb hLL hlv hLN
          go_wp2_with fail
          refine (Len_calls W3.out).mono ?_
          rintro e w4 ⟨rfl, rfl⟩
          have d1 : ((LL.length : Int) != (k : Int)) = false := by rw [LN.out]; simp
          have d2 : (LL.length != k) = false := by rw [LN.out]; simp
          go_wp2_with fail
          refine (Lost_calls W3.out).mono ?_
          rintro e w5 ⟨rfl, rfl⟩
          have d3 : ((lv : Int) != (lv : Int)) = false := by simp
          go_wp2_with fail
          clear d1 d2 d3 hwv hwv2
          go_loopg [8] k (fun kq v8 w' => ∃ j : Nat, v8 = .int .i64 j ∧ j ≤ k ∧ k ≤ kq + j ∧ Aside0 (Bag w' (fun b => w.heap.size ≤ b) g (rm a0) (LL.drop j) lv) ∧ Aside0 (Below w.heap.size w w'))
          case atStart => exact ⟨0, rfl, by omega, by omega, W3, B3⟩
          case round =>
            obtain ⟨j, rfl, hj, hkj, HW, HB⟩ := hrel
            by_cases hlt : j < k
            · have hlt' : decide ((j : Int) < (k : Int)) = true := decide_eq_true (by omega)
              have hlt2 : decide (j < k) = true := decide_eq_true hlt
              have hdl : (LL.drop j).length = k - j := by rw [List.length_drop, LN.out]
              have hh : has (LL.drop j) 0 = true := decide_eq_true ⟨Int.le_refl _, by omega⟩
              have hlk : lk (LL.drop j) 0 = rd_L1 l1 (j : Int) := by
                unfold lk
                rw [if_pos ⟨Int.le_refl _, by omega⟩, drop_cons (z := zT) (by rw [LN.out]; exact hlt)]
                show (LL.getD j zT).f0 = _
                rw [HLL.out j hlt]
                rfl
              have hrs : rest (LL.drop j) 0 = LL.drop (j + 1) := by
                unfold rest
                rw [if_pos ⟨Int.le_refl _, by omega⟩, drop_cons (z := zT) (by rw [LN.out]; exact hlt)]
                rfl
              have TK := Take_calls HW.out 0
              rw [hh, hlk, hrs] at TK
              have TK := Aside0.mk TK
              obtain ⟨ad, D0, d0, ea, k0, l0, g0⟩ := at_L1 HR.out (j : Int) (by omega) (by omega)
              cases ea
              rw [Int.toNat_natCast] at k0
              generalize rd_L1 l1 (j : Int) = x at *
              have K0 := Aside0.mk k0
              have G0 := Aside0.mk g0
              clear k0 l0 g0 hh hlk hrs hdl
              go_wp2_with fail
              refine TK.out.mono ?_
              rintro e w6 ⟨v, rfl, ho, hW, hb⟩
              obtain ⟨A6, c6, rfl⟩ := Kd.R_slice ho
              have W6 := Aside0.mk (hW.mono (S' := fun b => w.heap.size ≤ b) (fun b hb => hb.1))
              have B6 := Aside0.mk (Beside.step HB.out hb (fun b hb => hb))
              have s1 : ∀ q, (convert 24 9 (.slice A6 x.length c6)).run Try.prog (w6.drewN q) = .ok (.string (strOfNums x)) (w6.drewN q) := fun q => str_run (Kd.C_drewN (Kd.R_reads' ho).2.2 q)
              have s2 : ∀ q, (convert 24 9 (.slice D0 x.length d0)).run Try.prog (w6.drewN q) = .ok (.string (strOfNums x)) (w6.drewN q) := fun q => str_run (Kd.C_drewN (Kd.C_below G0.out B6.out) q)
              have k0 : w6.cell? (ad.add j) = some (.slice D0 x.length d0) := (B6.out.cell (World.block_lt_of_cell? w _ K0.out)).trans K0.out
              have pm : (0 ≤ (j : Int)) = True := eq_true (by omega)
              have qm : ((j : Int) < (l1.length : Int)) = True := eq_true (by omega)
              have hwj : wrap64 ((j : Int) + 1) = ((j + 1 : Nat) : Int) := by rw [w64 (by omega) (by omega)]; simp
              clear ho hW hb TK HW HB
              go_wp2_with fail
              go_quiet (fail)
              have W7 := Aside0.mk (W6.out.below (pw_below_drewN (Below.refl _ _) nq))
              have B7 := Aside0.mk (below_step B6.out (pw_below_drewN (Below.refl w6.heap.size w6) nq))
              go_wp2_with fail
              go_roundg (gk - 1)
              case measure => omega
              case rel => exact ⟨j + 1, rfl, by omega, by omega, W7, B7⟩
            · have hlt' : decide ((j : Int) < (k : Int)) = false := decide_eq_false (by omega)
              have hlt2 : decide (j < k) = false := decide_eq_false hlt
              obtain rfl : j = k := by omega
              have W6 : Aside0 (Bag wr (fun b => w.heap.size ≤ b) g (rm a0) [] lv) := ⟨by
                have h := HW.out
                rwa [List.drop_of_length_le (by rw [LN.out]; exact Nat.le_refl _)] at h⟩
              clear HW
              go_wp2_with fail
              refine (Len_calls W6.out).mono ?_
              rintro e w7 ⟨rfl, rfl⟩
              go_wp2_with fail
              refine (awake_calls _).mono ?_
              rintro e w8 ⟨rfl, hb⟩
              have B8 := Aside0.mk (below_step HB.out hb)
              clear hb
              go_wp2_with fail
              go_ret
              exact ⟨rfl, B8.out⟩

end Go.Proofs.Ytemgfogpeogdeaa.Walk
