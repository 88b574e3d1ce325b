/- Rows have just those ids that they list. Conditions: none beyond the statement's own. -/
import Derived.Test.YtgcnaebhmcggoaaWalkP4
import Derived.Test.YtgcnaebhmcggoaaWalkRr
import Derived.Test.YtgcnaebhmcggoaaWalkLi
import Derived.Test.YtgcnaebhmcggoaaF33
import Derived.Test.YtgcnaebhmcggoaaF31
import Derived.Test.YtgcnaebhmcggoaaArgs
import Derived.Deep.QuietTactic
import Derived.BigQuiet
import Derived.Lib.QuietBelow
import Derived.Outline
import Derived.Deep.RegionHeld3
import Derived.Deep.CutRange
namespace Go.Proofs.Ytgcnaebhmcggoaa.Walk
open Go.RowKit Go.Proofs.Ytgcnaebhmcggoaa.F Go.Proofs.YtgcnaebhmcggoaaW.PrintWords Go.Proofs.YtgcnaebhmcggoaaW.PrintLast Go.Proofs.YtgcnaebhmcggoaaW.PrintMore Go.Proofs.Ytgcnaebhmcggoaa.Open
open Go.Sort (grow)
attribute [local go_sem] max2_int min2_int max_two min_two max_three min_three max_four min_four
set_option linter.unusedVariables false
set_option linter.unusedSimpArgs false

/-! ### IdentHas -/
attribute [local go_sem high] eqA33
theorem has_mem {l : List Rn} (ho : ∀ r ∈ l, okR r) (h : rowsF l = true) {x : I} (hx : okI x) : hasF x l = decide (x ∈ listF l) := by
  have hrun := rowsA_run h
  cases hh : hasF x l with
  | true =>
    obtain ⟨r, hr, hxr⟩ := List.any_eq_true.1 hh
    obtain ⟨h1, h2, h3, h4⟩ := (has_dec hx (ho r hr)).1 hxr
    refine (decide_eq_true ((listF_mem x).2 ⟨r, hr, (idsR_mem h1 x).2 ⟨h2.symm, h3, by omega⟩⟩)).symm
  | false =>
    refine (decide_eq_false (fun hm => ?_)).symm
    obtain ⟨r, hr, hxr⟩ := (listF_mem x).1 hm
    have hi := (run_iff (ho r hr)).1 (hrun r hr)
    obtain ⟨h2, h3, h4⟩ := (idsR_mem hi x).1 hxr
    have : hasF x l = true := List.any_eq_true.2 ⟨r, hr, (has_dec hx (ho r hr)).2 ⟨hi, h2.symm, h3, by omega⟩⟩
    rw [hh] at this
    cases this
theorem tot_len : ∀ L : List Rn, L.all runI = true → tot L = (listF L).length
  | [], _ => rfl
  | r :: L, h => by
    simp only [List.all_cons, Bool.and_eq_true] at h
    rw [tot, listF, List.length_append, tot_len L h.2, h.1, if_pos rfl]
    unfold idsR
    rw [idsN_len]
theorem list_all {l : List Rn} (ho : ∀ r ∈ l, okR r) (h : rowsF l = true) (hc : cntF l ≤ 300) : listA 300 l = listF l ∧ cntF l = ((listF l).length : Int) ∧ ∀ x ∈ listF l, okI x ∧ mayI x = true ∧ hasF x l = true := by
  have hrun := rowsA_run h
  have hall := List.all_eq_true.2 hrun
  refine ⟨?_, ?_, fun x hx => ?_⟩
  · unfold listA
    rw [if_neg (by decide), if_neg (by omega), if_pos hall]
  · rw [cntF_tot ho hc (by decide), tot_len l hall]
  · obtain ⟨r, hr, hxr⟩ := (listF_mem x).1 hx
    obtain ⟨h1, h2⟩ := idsR_may ((run_iff (ho r hr)).1 (hrun r hr)) hxr
    exact ⟨h1, h2, by rw [has_mem ho h h1]; exact decide_eq_true hx⟩
set_option maxHeartbeats 8000000 in
theorem IdentHas (A0 : Option Addr) (c0 : Nat) (l0 : List Rn) (a0 a1 : Int) (w : World) (hr : Kd.C kRn w A0 l0.length l0) (hc : l0.length ≤ c0) (hw : l0.length ≤ maxLen ∧ ∀ x ∈ l0, wf40 x) (wa : wf33 ⟨a0, a1⟩) :
    Calls Try.prog 7 #[.slice A0 l0.length c0, .agg #[.int .u8 a0, .int .u64 a1]] w fun e w' => e = .returned (.bool true) ∧ Below w.heap.size w w' := by
  have oa := okI_of wa
  have ol : ∀ r ∈ l0, okR r := fun r hr => okR_of (hw.2 r hr)
  have HR := Aside0.mk hr
  have HC := Aside0.mk hc
  have hu1 := Try.underlying33
  have AW : Aside0 (∀ W, Calls Try.prog 8 #[] W fun e w' => e = .returned (.bool true) ∧ Below W.heap.size W w') := ⟨fun W => unisonlaw03_awake.calls true W awake_eq⟩
  have BX := Aside0.mk (blk_new w (.cells #[.int .u8 a0, .int .u64 a1] tI))
  have B0 : Aside0 (Below w.heap.size w (w.alloc (.cells #[.int .u8 a0, .int .u64 a1] tI))) := ⟨below_alloc (Below.refl _ _) _⟩
  clear hr hw wa
  by_cases hl : l0.length ≤ 30
  · have hlz : ¬ ((l0.length : Int) > 30) := by omega
    have hlz2 : decide ((l0.length : Int) > 30) = false := decide_eq_false hlz
    obtain ⟨r4, e4⟩ : ∃ r4, r4 = rowsF l0 := ⟨_, rfl⟩
    obtain ⟨r6, e6⟩ : ∃ r6, r6 = cntF l0 := ⟨_, rfl⟩
    have C8 : Aside0 (∀ W, Below w.heap.size w W → Calls Try.prog 10 #[.slice A0 l0.length c0] W fun e w' => e = .returned (.bool r4) ∧ Below W.heap.size W w') := ⟨fun W hb => unisonref03_Rows.calls 1000 A0 c0 l0 r4 W (Kd.C_below HR.out hb) HC.out (by rw [e4]; exact refRows_eq ol (by omega) (by omega))⟩
    have C12 : Aside0 (∀ W, Below w.heap.size w W → Calls Try.prog 26 #[.slice A0 l0.length c0] W fun e w' => e = .returned (.int .u64 r6) ∧ Below W.heap.size W w') := ⟨fun W hb => unisonref03_Count.calls 1000 A0 c0 l0 r6 W (Kd.C_below HR.out hb) HC.out (by rw [e6]; exact refCount_eq ol (by omega) (by omega))⟩
    cases r4 with
    | false =>
      clear e4 e6
      go_enter Try.func7, Try.ntmps7
      go_wp2_with fail
      refine (C8.out _ B0.out).mono ?_
      rintro e w1 ⟨rfl, hb1⟩
      have B1 := Aside0.mk (below_step B0.out hb1)
      clear hb1
      go_wp2_with fail
      refine (AW.out _).mono ?_
      rintro e w2 ⟨rfl, hb2⟩
      have B2 := Aside0.mk (below_step B1.out hb2)
      clear hb2
      go_wp2_with fail
      go_ret
      exact ⟨rfl, B2.out⟩
    | true =>
      by_cases hc6 : r6 > 300
      · have hc6d : decide (r6 > 300) = true := decide_eq_true hc6
        clear e4 e6
        go_enter Try.func7, Try.ntmps7
        go_wp2_with fail
        refine (C8.out _ B0.out).mono ?_
        rintro e w1 ⟨rfl, hb1⟩
        have B1 := Aside0.mk (below_step B0.out hb1)
        clear hb1
        go_wp2_with fail
        refine (C12.out _ B1.out).mono ?_
        rintro e w2 ⟨rfl, hb2⟩
        have B2 := Aside0.mk (below_step B1.out hb2)
        clear hb2
        go_wp2_with fail
        refine (AW.out _).mono ?_
        rintro e w3 ⟨rfl, hb3⟩
        have B3 := Aside0.mk (below_step B2.out hb3)
        clear hb3
        go_wp2_with fail
        go_ret
        exact ⟨rfl, B3.out⟩
      · obtain ⟨l1, l2, l3⟩ := list_all ol e4.symm (by omega)
        have hc6d : decide (r6 > 300) = false := decide_eq_false hc6
        have HM := Aside0.mk (has_mem ol e4.symm oa)
        obtain ⟨D, hD⟩ : ∃ D, D = listF l0 := ⟨_, rfl⟩
        rw [← hD] at l1 l2 l3 HM
        have hDl : D.length ≤ 300 := by omega
        have L3 := Aside0.mk l3
        have C1 : Aside0 (∀ W, Below w.heap.size w W → Calls Try.prog 15 #[.int .i64 300, .slice A0 l0.length c0] W fun e w' => ∃ v0_ : Value, e = .returned v0_ ∧ Kd.R kI tI w' W.heap.size (fun _ => True) v0_ D ∧ Below W.heap.size W w') := ⟨fun W hb => ident_List.calls 100000 300 A0 c0 l0 D W (Kd.C_below HR.out hb) HC.out (by rw [← l1]; exact identList_eq ol (by omega) (by decide) (by decide))⟩
        have C2 : Aside0 (∀ W, Below w.heap.size w W → Calls Try.prog 25 #[.slice A0 l0.length c0] W fun e w' => e = .returned (.int .u64 (D.length : Int)) ∧ Below W.heap.size W w') := ⟨fun W hb => ident_Count.calls 1000 A0 c0 l0 _ W (Kd.C_below HR.out hb) HC.out (by rw [← l2]; exact identCount_eq ol (by omega) (by omega))⟩
        have C3 : Aside0 (∀ W (y : I), Below w.heap.size w W → Calls Try.prog 23 #[.agg #[.int .u8 y.f0, .int .u64 y.f1], .slice A0 l0.length c0] W fun e w' => e = .returned (.bool (hasF y l0)) ∧ Below W.heap.size W w') := ⟨fun W y hb => Has_calls y.f0 y.f1 A0 c0 l0 W (by omega) (Kd.C_below HR.out hb)⟩
        have hcv : IntKind.u64.wrap (D.length : Int) = (D.length : Int) := u64w (by omega) (by omega)
        clear l1 l2 l3 hD hlz e4 e6 ol oa
        go_enter Try.func7, Try.ntmps7
        go_wp2_with fail
        refine (C8.out _ B0.out).mono ?_
        rintro e w1 ⟨rfl, hb1⟩
        have B1 := Aside0.mk (below_step B0.out hb1)
        have X1 := Aside0.mk (blk_below BX.out hb1)
        clear hb1
        go_wp2_with fail
        refine (C12.out _ B1.out).mono ?_
        rintro e w2 ⟨rfl, hb2⟩
        have B2 := Aside0.mk (below_step B1.out hb2)
        have X2 := Aside0.mk (blk_below X1.out hb2)
        clear hb2
        go_wp2_with fail
        refine (C1.out _ B2.out).mono ?_
        rintro e w3 ⟨v, rfl, hR, hb3⟩
        have B3 := Aside0.mk (below_step B2.out hb3)
        have X3 := Aside0.mk (blk_below X2.out hb3)
        obtain ⟨Ad, cd, rfl⟩ := Kd.R_slice hR
        have R3 := Aside0.mk (Kd.R_reads' hR).2.2
        clear hb3 hR B1 B2 X1 X2 C8 C12 C1
        go_wp2_with fail
        go_loopg [6, 7] D.length (fun gg s6 s7 wr => ∃ (j : Nat) (b : Bool), s7 = .int .i64 j ∧ s6 = .bool b ∧ j ≤ D.length ∧ D.length - j ≤ gg ∧ Aside0 (b = decide (⟨a0, a1⟩ ∈ D.take j)) ∧ Aside0 (Below w3.heap.size w3 wr))
        case atStart => exact ⟨0, false, rfl, rfl, by omega, by omega, ⟨by simp⟩, ⟨Below.refl _ _⟩⟩
        case round =>
          obtain ⟨j, b, rfl, rfl, hj, hgg, EB, BR⟩ := hrel
          have B4 := Aside0.mk (below_step B3.out BR.out)
          by_cases hlt : j < D.length
          · have hltz : (j : Int) < (D.length : Int) := by omega
            obtain ⟨ad, cc, e, hcl, hK, hcc⟩ := Kd.C_get R3.out z33 (j : Int) (by omega) hltz
            cases e
            have HX : Aside0 (D[j]? = some (D.getD ((j : Int)).toNat z33)) := ⟨by rw [Int.toNat_natCast, List.getD, List.getElem?_eq_getElem hlt]; rfl⟩
            generalize D.getD ((j : Int)).toNat z33 = y at hK HX
            obtain rfl := k33_open hK
            rw [Int.toNat_natCast] at hcc
            obtain ⟨oy, my, hy⟩ := L3.out y (List.mem_of_getElem? HX.out)
            have q0 : wr.cell? (ad.add (j * 2)) = some (.int .u8 y.f0) := pw_cell_below BR.out (hcc 0 _ rfl)
            have q1 : wr.cell? ⟨(ad.add (j * 2)).block, (ad.add (j * 2)).off + 1, none⟩ = some (.int .u64 y.f1) := by
              rw [← add_field _ _ 1 (by omega)]
              exact pw_cell_below BR.out (hcc 1 _ rfl)
            have XR := Aside0.mk (blk_below X3.out BR.out)
            have k0 : wr.cell? ⟨w.heap.size, 0, none⟩ = some (.int .u8 a0) := (blk_cell XR.out 0).trans rfl
            have k1 : wr.cell? ⟨w.heap.size, 1, none⟩ = some (.int .u64 a1) := (blk_cell XR.out 1).trans rfl
            have hwj : IntKind.i64.wrap ((j : Int) + 1) = ((j + 1 : Nat) : Int) := by rw [IntKind.wrap_i64]; omega
            have HY := Aside0.mk hy
            have MY := Aside0.mk my
            clear hcc hcl hK hy my oy
            obtain ⟨s, hs⟩ : ∃ s, (y.f0 == a0 && (y.f1 == a1)) = s := ⟨_, rfl⟩
            have ES : Aside0 (s = decide (y = (⟨a0, a1⟩ : I))) := ⟨by rw [← hs]; exact I_eqb y ⟨a0, a1⟩⟩
            have EN : Aside0 ((b || s) = decide (⟨a0, a1⟩ ∈ D.take (j + 1))) := ⟨by
              rw [List.take_add_one, HX.out, EB.out, ES.out]
              simp only [Option.toList_some, List.mem_append, List.mem_singleton, Bool.decide_or]
              congr 1
              exact decide_eq_decide.2 ⟨fun h => h.symm, fun h => h.symm⟩⟩
            cases b with
            | true =>
              have EN : Aside0 (true = decide (⟨a0, a1⟩ ∈ D.take (j + 1))) := ⟨by rw [← EN.out]; rfl⟩
              go_wp2_with fail
              go_quiet (fail)
              have P4 : Aside0 (Below w.heap.size w (wr.drewN nq)) := ⟨pw_below_drewN B4.out nq⟩
              go_wp2_with fail
              refine (C3.out _ y P4.out).mono ?_
              rintro e w5 ⟨rfl, hb5⟩
              rw [HY.out]
              have B5 : Aside0 (Below w3.heap.size w3 w5) := ⟨below_step (pw_below_drewN BR.out nq) hb5⟩
              have q0' : w5.cell? (ad.add (j * 2)) = some (.int .u8 y.f0) := pw_cell_below (below_step (pw_below_drewN (Below.refl wr.heap.size wr) nq) hb5) q0
              have q1' : w5.cell? ⟨(ad.add (j * 2)).block, (ad.add (j * 2)).off + 1, none⟩ = some (.int .u64 y.f1) := pw_cell_below (below_step (pw_below_drewN (Below.refl wr.heap.size wr) nq) hb5) q1
              clear hb5 q0 q1
              go_wp2_with fail
              refine (ident_May.calls y.f0 y.f1 64 true w5 (by rw [may_f, MY.out])).mono ?_
              rintro e w6 ⟨rfl, hb6⟩
              have B6 : Aside0 (Below w3.heap.size w3 w6) := ⟨below_step B5.out hb6⟩
              clear hb6
              go_wp2_with fail
              go_roundg (D.length - (j + 1))
              case measure => omega
              case rel => exact ⟨j + 1, _, by go_num, rfl, by omega, Nat.le_refl _, EN, B6⟩
            | false =>
              have EN : Aside0 (s = decide (⟨a0, a1⟩ ∈ D.take (j + 1))) := ⟨by rw [← EN.out]; rfl⟩
              go_wp2_with fail
              go_quiet (fail)
              have P4 : Aside0 (Below w.heap.size w (wr.drewN nq)) := ⟨pw_below_drewN B4.out nq⟩
              go_wp2_with fail
              refine (C3.out _ y P4.out).mono ?_
              rintro e w5 ⟨rfl, hb5⟩
              rw [HY.out]
              have B5 : Aside0 (Below w3.heap.size w3 w5) := ⟨below_step (pw_below_drewN BR.out nq) hb5⟩
              have q0' : w5.cell? (ad.add (j * 2)) = some (.int .u8 y.f0) := pw_cell_below (below_step (pw_below_drewN (Below.refl wr.heap.size wr) nq) hb5) q0
              have q1' : w5.cell? ⟨(ad.add (j * 2)).block, (ad.add (j * 2)).off + 1, none⟩ = some (.int .u64 y.f1) := pw_cell_below (below_step (pw_below_drewN (Below.refl wr.heap.size wr) nq) hb5) q1
              clear hb5 q0 q1
              go_wp2_with fail
              refine (ident_May.calls y.f0 y.f1 64 true w5 (by rw [may_f, MY.out])).mono ?_
              rintro e w6 ⟨rfl, hb6⟩
              have B6 : Aside0 (Below w3.heap.size w3 w6) := ⟨below_step B5.out hb6⟩
              clear hb6
              go_wp2_with fail
              go_roundg (D.length - (j + 1))
              case measure => omega
              case rel => exact ⟨j + 1, _, by go_num, rfl, by omega, Nat.le_refl _, EN, B6⟩
          · obtain rfl : j = D.length := by omega
            have hltz : ¬ (D.length : Int) < (D.length : Int) := by omega
            have EB2 : Aside0 (hasF ⟨a0, a1⟩ l0 = b) := ⟨by rw [HM.out, EB.out, List.take_length]⟩
            have XR := Aside0.mk (blk_below X3.out BR.out)
            go_wp2_with fail
            refine (C2.out _ B4.out).mono ?_
            rintro e w5 ⟨rfl, hb5⟩
            have B5 := Aside0.mk (below_step B4.out hb5)
            have X5 := Aside0.mk (blk_below XR.out hb5)
            have k0 : w5.cell? ⟨w.heap.size, 0, none⟩ = some (.int .u8 a0) := (blk_cell X5.out 0).trans rfl
            have k1 : w5.cell? ⟨w.heap.size, 1, none⟩ = some (.int .u64 a1) := (blk_cell X5.out 1).trans rfl
            clear hb5
            go_wp2_with fail
            refine (C3.out _ ⟨a0, a1⟩ B5.out).mono ?_
            rintro e w6 ⟨rfl, hb6⟩
            rw [EB2.out]
            have B6 := Aside0.mk (below_step B5.out hb6)
            clear hb6
            go_wp2_with fail
            refine (AW.out _).mono ?_
            rintro e w7 ⟨rfl, hb7⟩
            have B7 := Aside0.mk (below_step B6.out hb7)
            clear hb7
            go_wp2_with fail
            go_ret
            exact ⟨rfl, B7.out⟩
  · have hlz : ((l0.length : Int) > 30) := by omega
    have hlz2 : decide ((l0.length : Int) > 30) = true := decide_eq_true hlz
    go_enter Try.func7, Try.ntmps7
    go_wp2_with fail
    refine (AW.out _).mono ?_
    rintro e w1 ⟨rfl, hb⟩
    have B1 := Aside0.mk hb
    clear hb
    go_wp2_with fail
    go_ret
    exact ⟨rfl, below_step B0.out B1.out⟩

end Go.Proofs.Ytgcnaebhmcggoaa.Walk
