/- What is put in twice comes out twice, the same, and one that is turned doesn't turn the other one. Conditions: none beyond the statement's own. -/
import Derived.Test.YtemgfogpeogdeaaWalkTurned
import Derived.Test.YtemgfogpeogdeaaWalkPut1
import Derived.Test.YtemgfogpeogdeaaArgs
import Derived.Deep.QuietTactic
import Derived.BigQuiet
import Derived.Lib.QuietBelow
import Derived.Outline
import Derived.Deep.RegionHeld3
import Derived.Deep.CutRange
namespace Go.Proofs.Ytemgfogpeogdeaa.Walk
open Go.RowKit Go.Proofs.Ytemgfogpeogdeaa.F Go.Proofs.YtemgfogpeogdeaaW.PrintWords Go.Proofs.YtemgfogpeogdeaaW.PrintLast Go.Proofs.YtemgfogpeogdeaaW.PrintMore Go.Proofs.Ytemgfogpeogdeaa.Open
open Go.Sort (grow)
attribute [local go_sem] max2_int min2_int max_two min_two max_three min_three max_four min_four
set_option linter.unusedVariables false
set_option linter.unusedSimpArgs false

/-! ### The law: twins -/
set_option maxHeartbeats 4000000 in
set_option maxRecDepth 100000 in
theorem BagTwins (A0 : Option Addr) (c0 : Nat) (l0 : List Int) (a1 a2 : Int) (w : World) (hr0 : Kd.C (Kd.int .u8) w A0 l0.length l0) (hc0 : l0.length ≤ c0)
    (w0 : l0.length ≤ maxLen ∧ ∀ x ∈ l0, (Lit.int .u8 x).wf = true) (w1 : (Lit.int .i64 a1).wf = true) (w2 : (Lit.int .u32 a2).wf = true) :
    Calls Try.prog 7 #[.slice A0 l0.length c0, .int .i64 a1, .int .u32 a2] w fun e w' => e = .returned (.bool true) ∧ Below w.heap.size w w' := by
  have HR := Aside0.mk hr0
  have HC := Aside0.mk hc0
  have HB8 : Aside0 (∀ y ∈ l0, 0 ≤ y ∧ y < 256) := ⟨fun y hy => by
    have h := w0.2 y hy
    simp [Lit.wf] at h
    have h1 : IntKind.u8.min = 0 := by decide
    have h2 : IntKind.u8.max = 255 := by decide
    omega⟩
  have ha1 : a1 ≤ 9223372036854775807 := by
    simp [Lit.wf] at w1
    have h2 : IntKind.i64.max = 9223372036854775807 := by decide
    omega
  have ha2 : 0 ≤ a2 ∧ a2 < 4294967296 := by
    simp [Lit.wf] at w2
    have h1 : IntKind.u32.min = 0 := by decide
    have h2 : IntKind.u32.max = 4294967295 := by decide
    omega
  have H0 := Aside0.mk (Below.refl w.heap.size w)
  clear w0 w1 w2 hr0 hc0
  by_cases hl : (100 : Int) < l0.length
  · have hl' : decide ((100 : Int) < l0.length) = true := decide_eq_true hl
    have hl2 : decide (100 < l0.length) = true := decide_eq_true (by omega)
    go_enter Try.func7, Try.ntmps7
    go_wp2_with fail
    refine (awake_calls _).mono ?_
    rintro e w1 ⟨rfl, hb⟩
    have B1 := Aside0.mk hb
    clear hb
    go_wp2_with fail
    go_ret
    exact ⟨rfl, B1.out⟩
  · have hl' : decide ((100 : Int) < l0.length) = false := decide_eq_false hl
    have hl2 : decide (100 < l0.length) = false := decide_eq_false (by omega)
    have hl100 : l0.length ≤ 100 := by omega
    have A1 := Aside0.mk ha1
    have A2 := Aside0.mk ha2
    clear ha1 ha2 hl
    go_enter Try.func7, Try.ntmps7
    go_wp2_with fail
    refine (New_calls 2 _).mono ?_
    rintro e w1 ⟨g, rfl, hge, hW, hb⟩
    have W1 := Aside0.mk hW.bound
    have B1 := Aside0.mk hb
    clear hge hW hb
    go_wp2_with fail
    have W2 := Aside0.mk (W1.out.below (below_alloc (Below.refl _ _) (.cells #[.slice A0 l0.length c0] 24)))
    have B2 := Aside0.mk (below_alloc B1.out (.cells #[.slice A0 l0.length c0] 24))
    have X2 := Aside0.mk (blk_new w1 (.cells #[.slice A0 l0.length c0] 24))
    generalize w1.alloc (.cells #[.slice A0 l0.length c0] 24) = w2 at *
    refine (Put1_calls W2.out X2.out (fun h => by have := h.2; omega) (fun w' hB => Kd.C_below HR.out (Beside.step B2.out hB (fun k hk => hk.1))) HC.out (by omega) (by decide)).mono ?_
    rintro e w3 ⟨rfl, hW, hb⟩
    have W3 : Aside0 (Bag w3 (fun b => w.heap.size ≤ b) g 2 [th l0] 0) := ⟨hW.mono (fun b hb => hb.elim (fun h => h.1) (fun h => Nat.le_trans B2.out.size h))⟩
    have B3 := Aside0.mk (Beside.step B2.out hb (fun k hk => hk.1))
    have e1 : putN (rm 2) [] = 1 := rfl
    rw [e1]
    clear hW hb e1
    go_wp2_with fail
    refine (Twice_calls W3.out 0).mono ?_
    rintro e w4 ⟨rfl, hW, hb⟩
    have W4 : Aside0 (Bag w4 (fun b => w.heap.size ≤ b) g 2 [th l0, th l0] 0) := ⟨hW.mono (fun b hb => hb.elim id (fun h => Nat.le_trans B3.out.size h))⟩
    have B4 := Aside0.mk (Beside.step B3.out hb (fun k hk => hk))
    have e1 : mayTwice 2 [th l0] 0 = true := rfl
    rw [e1]
    clear hW hb e1
    go_wp2_with fail
    refine (Twice_calls W4.out 0).mono ?_
    rintro e w5 ⟨rfl, hW, hb⟩
    have W5 : Aside0 (Bag w5 (fun b => w.heap.size ≤ b) g 2 [th l0, th l0] 0) := ⟨hW.mono (fun b hb => hb.elim id (fun h => Nat.le_trans B4.out.size h))⟩
    have B5 := Aside0.mk (Beside.step B4.out hb (fun k hk => hk))
    have e1 : mayTwice 2 [th l0, th l0] 0 = false := rfl
    rw [e1]
    clear hW hb e1
    obtain ⟨mb, hmb⟩ : ∃ mb, mb = mayTurn [th l0, th l0] 1 a1 a2 := ⟨_, rfl⟩
    have hmb2 : mb = decide (a2 ≠ 0 ∧ 0 ≤ a1 ∧ a1 ≤ 8 * (l0.length : Int) - 32) := by
      rw [hmb]
      unfold mayTurn
      congr 1
      exact propext ⟨fun h => ⟨h.2.1, h.2.2.1, h.2.2.2.2⟩, fun h => ⟨by simp, h.1, h.2.1, rfl, h.2.2⟩⟩
    have MB := Aside0.mk hmb
    have MB2 := Aside0.mk hmb2
    clear hmb hmb2
    go_upto_region 6 with (fail)
    go_cut [8] (fun v8 w' => v8 = .bool mb ∧ w' = w5)
    case first =>
      by_cases h1 : a2 = 0
      · have h1' : (a2 != 0) = false := by rw [h1]; rfl
        have e1 : mb = false := by rw [MB2.out]; exact decide_eq_false (fun h => h.1 h1)
        go_wp2_with fail
        go_meet
        exact ⟨by rw [e1], rfl⟩
      · have h1' : (a2 != 0) = true := bne_iff_ne.2 h1
        by_cases h2 : 0 ≤ a1
        · have h2' : decide (0 ≤ a1) = true := decide_eq_true h2
          have HWL : Aside0 (wrap64 (8 * (l0.length : Int)) = 8 * (l0.length : Int)) := ⟨w64 (by omega) (by omega)⟩
          have HWL2 : Aside0 (wrap64 (8 * (l0.length : Int) - 32) = 8 * (l0.length : Int) - 32) := ⟨w64 (by omega) (by omega)⟩
          have e1 : decide (a1 ≤ 8 * (l0.length : Int) - 32) = mb := by rw [MB2.out]; simp [h1, h2]
          have hwl := HWL.out
          have hwl2 := HWL2.out
          go_wp2_with fail
          go_meet
          exact ⟨rfl, rfl⟩
        · have h2' : decide (0 ≤ a1) = false := decide_eq_false h2
          have e1 : mb = false := by rw [MB2.out]; exact decide_eq_false (fun h => h2 h.2.1)
          go_wp2_with fail
          go_meet
          exact ⟨by rw [e1], rfl⟩
    case rest =>
      obtain ⟨rfl, rfl⟩ := hcut
      go_wp2_with fail
      refine (Turn_calls W5.out 1 a1 a2 A1.out A2.out.1 A2.out.2).mono ?_
      rintro e w6 ⟨rfl, hW, hb⟩
      rw [← MB.out]
      have d1 : (mb != mb) = false := by simp
      have B6 := Aside0.mk (Beside.step B5.out hb (fun k hk => hk))
      obtain ⟨z, hz⟩ : ∃ z, z = if mb = true then turnN a2 a1.toNat l0 32 else l0 := ⟨_, rfl⟩
      have hL : ∃ f, turn [th l0, th l0] 1 a1 a2 = [th l0, ⟨z, f⟩] := by
        unfold turn
        rw [← MB.out]
        cases mb with
        | true => exact ⟨true, by rw [hz]; rfl⟩
        | false => exact ⟨false, by rw [hz]; rfl⟩
      obtain ⟨f, hL⟩ := hL
      rw [hL] at hW
      have W6 := Aside0.mk hW
      have HZ := Aside0.mk hz
      clear hL hW hb hz
      go_wp2_with fail
      have TK := Take_calls W6.out 0
      rw [show has [th l0, ⟨z, f⟩] 0 = true from rfl, show lk [th l0, ⟨z, f⟩] 0 = l0 from rfl, show rest [th l0, ⟨z, f⟩] 0 = [⟨z, f⟩] from rfl] at TK
      refine TK.mono ?_
      rintro e w7 ⟨v, rfl, ho, hW, hb⟩
      obtain ⟨A7, c7, rfl⟩ := Kd.R_slice ho
      have W7 : Aside0 (Bag w7 (fun b => w.heap.size ≤ b ∧ b < w6.heap.size) g 2 [⟨z, f⟩] 0) := ⟨hW⟩
      have R7 : Aside0 (Kd.R (Kd.int .u8) 5 w7 w6.heap.size (fun _ => True) (.slice A7 l0.length c7) l0) := ⟨ho⟩
      have B7 := Aside0.mk (Beside.step B6.out hb (fun k hk => hk))
      clear hW hb ho d1 TK
      go_wp2_with fail
      have TK := Take_calls W7.out 0
      rw [show has [(⟨z, f⟩ : Th)] 0 = true from rfl, show lk [(⟨z, f⟩ : Th)] 0 = z from rfl, show rest [(⟨z, f⟩ : Th)] 0 = [] from rfl] at TK
      refine TK.mono ?_
      rintro e w8 ⟨v, rfl, ho, hW, hb⟩
      obtain ⟨A8, c8, rfl⟩ := Kd.R_slice ho
      have W8 : Aside0 (Bag w8 (fun b => (w.heap.size ≤ b ∧ b < w6.heap.size) ∧ b < w7.heap.size) g 2 [] 0) := ⟨hW⟩
      have R8 : Aside0 (Kd.R (Kd.int .u8) 5 w8 w7.heap.size (fun _ => True) (.slice A8 z.length c8) z) := ⟨ho⟩
      have B8 := Aside0.mk (Beside.step B7.out hb (fun k hk => hk.1))
      have Y8 := Aside0.mk (Kd.R_reads' (Kd.R_step (Kd.R_bound R7.out) (fun k hk hlt => hb.block k hlt (fun h => by have := hk.2.1; have := h.2; omega)))).2.2
      clear hW hb ho TK
      have cx : (convert 24 9 (.slice A0 l0.length c0)).run Try.prog w8 = .ok (.string (strOfNums l0)) w8 := str_run (Kd.C_below HR.out B8.out)
      have C8 := Aside0.mk cx
      cases hmb : mb with
      | true =>
        rw [hmb] at MB2 HZ
        have hm := of_decide_eq_true MB2.out.symm
        obtain ⟨a, rfl⟩ : ∃ a' : Nat, a1 = (a' : Int) := ⟨a1.toNat, by have := hm.2.1; omega⟩
        have hz : z = turnN a2 a l0 32 := by
          rw [HZ.out, if_pos rfl, Int.toNat_natCast]
        have TC := Aside0.mk (Turned_calls l0 a a2 w8 HB8.out (by omega) hm.2.2 A2.out.1 A2.out.2)
        rw [← hz] at TC
        clear hm hz
        go_wp2_with fail
        refine TC.out.mono ?_
        rintro e w9 ⟨rfl, hb⟩
        have B9 := Aside0.mk (below_step B8.out hb)
        have sy : (convert 24 9 (.slice A7 l0.length c7)).run Try.prog w9 = .ok (.string (strOfNums l0)) w9 := str_run (Kd.C_below Y8.out hb)
        have sz : (convert 24 9 (.slice A8 z.length c8)).run Try.prog w9 = .ok (.string (strOfNums z)) w9 := str_run (Kd.C_below (Kd.R_reads' R8.out).2.2 hb)
        have sx : (convert 24 9 (.slice A0 l0.length c0)).run Try.prog w9 = .ok (.string (strOfNums l0)) w9 := str_run (Kd.C_below HR.out B9.out)
        have W9 := Aside0.mk (W8.out.below hb)
        clear cx hb
        go_wp2_with fail
        refine (Len_calls W9.out).mono ?_
        rintro e w10 ⟨rfl, rfl⟩
        go_wp2_with fail
        refine (awake_calls _).mono ?_
        rintro e w11 ⟨rfl, hb⟩
        have B11 := Aside0.mk (below_step B9.out hb)
        clear hb
        go_wp2_with fail
        go_ret
        exact ⟨rfl, B11.out⟩
      | false =>
        rw [hmb] at HZ
        have hz : z = l0 := by rw [HZ.out]; exact if_neg (by simp)
        subst hz
        have sy : (convert 24 9 (.slice A7 z.length c7)).run Try.prog w8 = .ok (.string (strOfNums z)) w8 := str_run Y8.out
        have sz : (convert 24 9 (.slice A8 z.length c8)).run Try.prog w8 = .ok (.string (strOfNums z)) w8 := str_run (Kd.R_reads' R8.out).2.2
        go_wp2_with fail
        refine (Len_calls W8.out).mono ?_
        rintro e w10 ⟨rfl, rfl⟩
        go_wp2_with fail
        refine (awake_calls _).mono ?_
        rintro e w11 ⟨rfl, hb⟩
        have B11 := Aside0.mk (below_step B8.out hb)
        clear hb
        go_wp2_with fail
        go_ret
        exact ⟨rfl, B11.out⟩

end Go.Proofs.Ytemgfogpeogdeaa.Walk
