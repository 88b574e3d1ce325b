/- Rows of frames that are the same. Conditions: none beyond the statement's own. -/
import Derived.Test.YtdeknknefjepnaaWalkSameP
import Derived.Test.YtdeknknefjepnaaArgs
import Derived.Deep.QuietTactic
import Derived.BigQuiet
import Derived.Lib.QuietBelow
import Derived.Outline
import Derived.Deep.RegionHeld3
import Derived.Deep.CutRange
namespace Go.Proofs.Ytdeknknefjepnaa.Walk
open Go.RowKit Go.Proofs.Ytdeknknefjepnaa.F Go.Proofs.YtdeknknefjepnaaW.PrintWords Go.Proofs.YtdeknknefjepnaaW.PrintLast Go.Proofs.YtdeknknefjepnaaW.PrintMore Go.Proofs.Ytdeknknefjepnaa.Open
open Go.Sort (grow)
attribute [local go_sem] max2_int min2_int max_two min_two max_three min_three max_four min_four
set_option linter.unusedVariables false
set_option linter.unusedSimpArgs false

/-! ### The same frames -/
theorem at_C {w : World} {A : Option Addr} {n : Nat} {xs : List Fr} (h : Kd.C kF w A n xs) (i : Int) (h0 : 0 ≤ i) (h1 : i < n) : ∃ (x : Fr) (ad : Addr) (A11 : Option Addr) (c11 : Nat) (A12 : Option Addr) (c12 : Nat) (A13 : Option Addr) (c13 : Nat) (A14 : Option Addr) (c14 : Nat) (A15 : Option Addr) (c15 : Nat),
    x = rd_T36 xs i ∧ A = some ad ∧ kF.K w x [.int .u8 x.f0.f0, .int .u8 x.f0.f1, .int .u8 x.f0.f2, .int .u8 x.f1.f0, .int .u64 x.f1.f1, .int .u64 x.f2, .int .u32 x.f3, .int .u32 x.f4, .int .u32 x.f5, .int .u64 x.f6, .int .u64 x.f7, .slice A11 x.f8.length c11, .slice A12 x.f9.length c12, .slice A13 x.f10.length c13, .slice A14 x.f11.length c14, .slice A15 x.f12.length c15] ∧ w.cell? (ad.add (i.toNat * 16)) = some (.int .u8 x.f0.f0) ∧ w.cell? ⟨(ad.add (i.toNat * 16)).block, (ad.add (i.toNat * 16)).off + 1, none⟩ = some (.int .u8 x.f0.f1) ∧ w.cell? ⟨(ad.add (i.toNat * 16)).block, (ad.add (i.toNat * 16)).off + 2, none⟩ = some (.int .u8 x.f0.f2) ∧ w.cell? ⟨(ad.add (i.toNat * 16)).block, (ad.add (i.toNat * 16)).off + 3, none⟩ = some (.int .u8 x.f1.f0) ∧ w.cell? ⟨(ad.add (i.toNat * 16)).block, (ad.add (i.toNat * 16)).off + 4, none⟩ = some (.int .u64 x.f1.f1) ∧ w.cell? ⟨(ad.add (i.toNat * 16)).block, (ad.add (i.toNat * 16)).off + 5, none⟩ = some (.int .u64 x.f2) ∧ w.cell? ⟨(ad.add (i.toNat * 16)).block, (ad.add (i.toNat * 16)).off + 6, none⟩ = some (.int .u32 x.f3) ∧ w.cell? ⟨(ad.add (i.toNat * 16)).block, (ad.add (i.toNat * 16)).off + 7, none⟩ = some (.int .u32 x.f4) ∧ w.cell? ⟨(ad.add (i.toNat * 16)).block, (ad.add (i.toNat * 16)).off + 8, none⟩ = some (.int .u32 x.f5) ∧ w.cell? ⟨(ad.add (i.toNat * 16)).block, (ad.add (i.toNat * 16)).off + 9, none⟩ = some (.int .u64 x.f6) ∧ w.cell? ⟨(ad.add (i.toNat * 16)).block, (ad.add (i.toNat * 16)).off + 10, none⟩ = some (.int .u64 x.f7) ∧ w.cell? ⟨(ad.add (i.toNat * 16)).block, (ad.add (i.toNat * 16)).off + 11, none⟩ = some (.slice A11 x.f8.length c11) ∧ w.cell? ⟨(ad.add (i.toNat * 16)).block, (ad.add (i.toNat * 16)).off + 12, none⟩ = some (.slice A12 x.f9.length c12) ∧ w.cell? ⟨(ad.add (i.toNat * 16)).block, (ad.add (i.toNat * 16)).off + 13, none⟩ = some (.slice A13 x.f10.length c13) ∧ w.cell? ⟨(ad.add (i.toNat * 16)).block, (ad.add (i.toNat * 16)).off + 14, none⟩ = some (.slice A14 x.f11.length c14) ∧ w.cell? ⟨(ad.add (i.toNat * 16)).block, (ad.add (i.toNat * 16)).off + 15, none⟩ = some (.slice A15 x.f12.length c15) := by
  obtain ⟨ad, c, e, _, hK, hc0⟩ := Kd.C_get h z36 i h0 h1
  have hc : ∀ j u, c[j]? = some u → w.cell? (ad.add (i.toNat * 16 + j)) = some u := hc0
  obtain ⟨A11, c11, A12, c12, A13, c13, A14, c14, A15, c15, rfl, _⟩ := k36_open hK
  exact ⟨_, ad, A11, c11, A12, c12, A13, c13, A14, c14, A15, c15, rfl, e, hK, hc 0 _ rfl, by rw [← add_field _ _ 1 (by omega)]; exact hc 1 _ rfl, by rw [← add_field _ _ 2 (by omega)]; exact hc 2 _ rfl, by rw [← add_field _ _ 3 (by omega)]; exact hc 3 _ rfl, by rw [← add_field _ _ 4 (by omega)]; exact hc 4 _ rfl, by rw [← add_field _ _ 5 (by omega)]; exact hc 5 _ rfl, by rw [← add_field _ _ 6 (by omega)]; exact hc 6 _ rfl, by rw [← add_field _ _ 7 (by omega)]; exact hc 7 _ rfl, by rw [← add_field _ _ 8 (by omega)]; exact hc 8 _ rfl, by rw [← add_field _ _ 9 (by omega)]; exact hc 9 _ rfl, by rw [← add_field _ _ 10 (by omega)]; exact hc 10 _ rfl, by rw [← add_field _ _ 11 (by omega)]; exact hc 11 _ rfl, by rw [← add_field _ _ 12 (by omega)]; exact hc 12 _ rfl, by rw [← add_field _ _ 13 (by omega)]; exact hc 13 _ rfl, by rw [← add_field _ _ 14 (by omega)]; exact hc 14 _ rfl, by rw [← add_field _ _ 15 (by omega)]; exact hc 15 _ rfl⟩
theorem same_one (x : Fr) {A11 A12 A13 A14 A15 : Option Addr} {c11 c12 c13 c14 c15 : Nat} {B11 B12 B13 B14 B15 : Option Addr} {d11 d12 d13 d14 d15 : Nat} (w : World) (h1 : kF.K w x [.int .u8 x.f0.f0, .int .u8 x.f0.f1, .int .u8 x.f0.f2, .int .u8 x.f1.f0, .int .u64 x.f1.f1, .int .u64 x.f2, .int .u32 x.f3, .int .u32 x.f4, .int .u32 x.f5, .int .u64 x.f6, .int .u64 x.f7, .slice A11 x.f8.length c11, .slice A12 x.f9.length c12, .slice A13 x.f10.length c13, .slice A14 x.f11.length c14, .slice A15 x.f12.length c15]) (h2 : kF.K w x [.int .u8 x.f0.f0, .int .u8 x.f0.f1, .int .u8 x.f0.f2, .int .u8 x.f1.f0, .int .u64 x.f1.f1, .int .u64 x.f2, .int .u32 x.f3, .int .u32 x.f4, .int .u32 x.f5, .int .u64 x.f6, .int .u64 x.f7, .slice B11 x.f8.length d11, .slice B12 x.f9.length d12, .slice B13 x.f10.length d13, .slice B14 x.f11.length d14, .slice B15 x.f12.length d15]) (hf : fok x) (hn : fnum x) :
    Calls Try.prog 25 #[.agg #[.int .u8 x.f0.f0, .int .u8 x.f0.f1, .int .u8 x.f0.f2, .int .u8 x.f1.f0, .int .u64 x.f1.f1, .int .u64 x.f2, .int .u32 x.f3, .int .u32 x.f4, .int .u32 x.f5, .int .u64 x.f6, .int .u64 x.f7, .slice A11 x.f8.length c11, .slice A12 x.f9.length c12, .slice A13 x.f10.length c13, .slice A14 x.f11.length c14, .slice A15 x.f12.length c15], .agg #[.int .u8 x.f0.f0, .int .u8 x.f0.f1, .int .u8 x.f0.f2, .int .u8 x.f1.f0, .int .u64 x.f1.f1, .int .u64 x.f2, .int .u32 x.f3, .int .u32 x.f4, .int .u32 x.f5, .int .u64 x.f6, .int .u64 x.f7, .slice B11 x.f8.length d11, .slice B12 x.f9.length d12, .slice B13 x.f10.length d13, .slice B14 x.f11.length d14, .slice B15 x.f12.length d15]] w fun e w' => e = .returned (.bool true) ∧ Below w.heap.size w w' := by
  obtain ⟨_, _, _, _, _, _, _, _, _, _, e1, l11, g11, l12, g12, l13, g13, l14, g14, l15, g15⟩ := k36_open h1
  cases e1
  obtain ⟨_, _, _, _, _, _, _, _, _, _, e2, m11, k11, m12, k12, m13, k13, m14, k14, m15, k15⟩ := k36_open h2
  cases e2
  exact unisonref06_Same.calls 2000000 _ _ _ _ _ _ _ _ _ _ _ _ _ _ _ _ _ _ _ _ _ _ _ _ _ _ _ _ _ _ _ _ _ _ _ _ _ _ _ _ _ _ _ _ _ _ _ _ _ _ _ _ true w g11 l11 g12 l12 g13 l13 g14 l14 g15 l15 k11 m11 k12 m12 k13 m13 k14 m14 k15 m15 (same_self x hf hn)
set_option maxHeartbeats 2000000 in
theorem Same_calls (L : List Fr) (A B : Option Addr) (c d : Nat) (w : World) (hA : Kd.C kF w A L.length L) (hB : Kd.C kF w B L.length L) (hf : ∀ x ∈ L, fok x ∧ fnum x) :
    Calls Try.prog 21 #[.slice A L.length c, .slice B L.length d] w fun e w' => e = .returned (.bool true) ∧ Below w.heap.size w w' := by
  have HA := Aside0.mk hA
  have HB := Aside0.mk hB
  have HF := Aside0.mk hf
  have hmax := Kd.C_max hA
  clear hA hB hf
  go_enter Try.func21, Try.ntmps21
  go_wp2_with fail
  go_loopg [13] L.length (fun kq v13 w' => ∃ j : Nat, v13 = .int .i64 j ∧ j ≤ L.length ∧ L.length ≤ kq + j ∧ Aside0 (Below w.heap.size w w'))
  case atStart => exact ⟨0, rfl, by omega, by omega, ⟨Below.refl _ _⟩⟩
  case round =>
    obtain ⟨j, rfl, hj, hkj, HW⟩ := hrel
    by_cases hlt : j < L.length
    · have p_ : (0 ≤ (j : Int)) = True := eq_true (by omega)
      have q_ : ((j : Int) < (L.length : Int)) = True := eq_true (by omega)
      obtain ⟨x, ad, A11, c11, A12, c12, A13, c13, A14, c14, A15, c15, hx, ea, hKA, k0, k1, k2, k3, k4, k5, k6, k7, k8, k9, k10, k11, k12, k13, k14, k15⟩ := at_C (Kd.C_below HA.out HW.out) (j : Int) (by omega) (by omega)
      obtain ⟨y, bd, B11, d11, B12, d12, B13, d13, B14, d14, B15, d15, hy, eb, hKB, q0, q1, q2, q3, q4, q5, q6, q7, q8, q9, q10, q11, q12, q13, q14, q15⟩ := at_C (Kd.C_below HB.out HW.out) (j : Int) (by omega) (by omega)
      obtain rfl : x = y := hx.trans hy.symm
      have hm : x ∈ L := by
        rw [hx]
        simp only [rd_T36, Int.toNat_natCast, List.getD]
        rw [List.getElem?_eq_getElem hlt]
        exact List.getElem_mem _
      have HX := Aside0.mk (HF.out x hm)
      have HKA := Aside0.mk hKA
      have HKB := Aside0.mk hKB
      cases ea
      cases eb
      clear hm hx hy hKA hKB
      simp only [Int.toNat_natCast] at k0 k1 k2 k3 k4 k5 k6 k7 k8 k9 k10 k11 k12 k13 k14 k15 q0 q1 q2 q3 q4 q5 q6 q7 q8 q9 q10 q11 q12 q13 q14 q15
      have SS : Aside0 (∀ d os, Calls Try.prog 25 #[.agg #[.int .u8 x.f0.f0, .int .u8 x.f0.f1, .int .u8 x.f0.f2, .int .u8 x.f1.f0, .int .u64 x.f1.f1, .int .u64 x.f2, .int .u32 x.f3, .int .u32 x.f4, .int .u32 x.f5, .int .u64 x.f6, .int .u64 x.f7, .slice A11 x.f8.length c11, .slice A12 x.f9.length c12, .slice A13 x.f10.length c13, .slice A14 x.f11.length c14, .slice A15 x.f12.length c15], .agg #[.int .u8 x.f0.f0, .int .u8 x.f0.f1, .int .u8 x.f0.f2, .int .u8 x.f1.f0, .int .u64 x.f1.f1, .int .u64 x.f2, .int .u32 x.f3, .int .u32 x.f4, .int .u32 x.f5, .int .u64 x.f6, .int .u64 x.f7, .slice B11 x.f8.length d11, .slice B12 x.f9.length d12, .slice B13 x.f10.length d13, .slice B14 x.f11.length d14, .slice B15 x.f12.length d15]] (grow (redrawn wr d) os) fun e w' => e = .returned (.bool true) ∧ Below (grow (redrawn wr d) os).heap.size (grow (redrawn wr d) os) w') := ⟨fun d os => same_one x _ (kF.K_below (below_regrown wr d os) HKA.out) (kF.K_below (below_regrown wr d os) HKB.out) HX.out.1 HX.out.2⟩
      have K0 := fun d os => cell_regrown k0 d os
      have Q0 := fun d os => cell_regrown q0 d os
      have K1 := fun d os => cell_regrown k1 d os
      have Q1 := fun d os => cell_regrown q1 d os
      have K2 := fun d os => cell_regrown k2 d os
      have Q2 := fun d os => cell_regrown q2 d os
      have K3 := fun d os => cell_regrown k3 d os
      have Q3 := fun d os => cell_regrown q3 d os
      have K4 := fun d os => cell_regrown k4 d os
      have Q4 := fun d os => cell_regrown q4 d os
      have K5 := fun d os => cell_regrown k5 d os
      have Q5 := fun d os => cell_regrown q5 d os
      have K6 := fun d os => cell_regrown k6 d os
      have Q6 := fun d os => cell_regrown q6 d os
      have K7 := fun d os => cell_regrown k7 d os
      have Q7 := fun d os => cell_regrown q7 d os
      have K8 := fun d os => cell_regrown k8 d os
      have Q8 := fun d os => cell_regrown q8 d os
      have K9 := fun d os => cell_regrown k9 d os
      have Q9 := fun d os => cell_regrown q9 d os
      have K10 := fun d os => cell_regrown k10 d os
      have Q10 := fun d os => cell_regrown q10 d os
      have K11 := fun d os => cell_regrown k11 d os
      have Q11 := fun d os => cell_regrown q11 d os
      have K12 := fun d os => cell_regrown k12 d os
      have Q12 := fun d os => cell_regrown q12 d os
      have K13 := fun d os => cell_regrown k13 d os
      have Q13 := fun d os => cell_regrown q13 d os
      have K14 := fun d os => cell_regrown k14 d os
      have Q14 := fun d os => cell_regrown q14 d os
      have K15 := fun d os => cell_regrown k15 d os
      have Q15 := fun d os => cell_regrown q15 d os
      have hlt' : decide ((j : Int) < L.length) = true := decide_eq_true (by omega)
      have wj : wrap64 ((j : Int) + 1) = j + 1 := w64 (by omega) (by omega)
      clear k0 k1 k2 k3 k4 k5 k6 k7 k8 k9 k10 k11 k12 k13 k14 k15 q0 q1 q2 q3 q4 q5 q6 q7 q8 q9 q10 q11 q12 q13 q14 q15
      go_wp2_with fail
      refine wp_region_quiet_below (by kernel_rfl) (by kernel_rfl) ?_
      repeat (go_big_quiet_step ((go_at_call 25; exact Calls.regrown_of (SS.out _ _))))
      refine wpQuiet_nil ?_
      intro _ hw'
      obtain ⟨⟨dq, osq⟩, hw''⟩ := hw'
      subst hw''
      have W4 : Aside0 (Below w.heap.size w (grow (redrawn wr dq) osq)) := ⟨below_step HW.out (below_regrown wr dq osq)⟩
      go_wp2_with fail
      go_roundg (gk - 1)
      case measure => omega
      case rel => exact ⟨j + 1, by simp, by omega, by omega, W4⟩
    · have hlt' : decide ((j : Int) < L.length) = false := decide_eq_false (by omega)
      go_wp2_with fail
      go_ret
      exact ⟨rfl, HW.out⟩

end Go.Proofs.Ytdeknknefjepnaa.Walk
