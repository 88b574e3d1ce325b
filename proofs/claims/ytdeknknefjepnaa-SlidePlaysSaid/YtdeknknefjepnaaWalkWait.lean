/- What waits in a window is told. Conditions: none beyond the statement's own. -/
import Derived.Test.YtdeknknefjepnaaWalkNew
import Derived.Test.YtdeknknefjepnaaArgs
import Derived.Deep.QuietTactic
import Derived.BigQuiet
import Derived.Lib.QuietBelow
import Derived.Outline
import Derived.Deep.RegionHeld3
import Derived.Deep.CutRange
namespace Go.Proofs.Ytdeknknefjepnaa.Walk
open Go.RowKit Go.Proofs.Ytdeknknefjepnaa.F Go.Proofs.YtdeknknefjepnaaW.PrintWords Go.Proofs.YtdeknknefjepnaaW.PrintLast Go.Proofs.YtdeknknefjepnaaW.PrintMore Go.Proofs.Ytdeknknefjepnaa.Open
open Go.Sort (grow)
attribute [local go_sem] max2_int min2_int max_two min_two max_three min_three max_four min_four
set_option linter.unusedVariables false
set_option linter.unusedSimpArgs false

/-! ### Waiting -/
set_option maxHeartbeats 4000000 in
theorem Waiting_calls {S : Nat → Prop} {g n : Nat} {last : Int} {L : List Fr} (from_ most : Int) (d : Nat) (X : List Fr) (w : World) (hW : Win w S g n last L) (hf0 : 0 ≤ from_) (hf1 : from_ < 18446744073709551616) (hd : d = (from_ - (last + 1 - L.length)).toNat) (hX : X = (L.drop d).take most.toNat) :
    Calls Try.prog 10 #[.pointer (some ⟨g, 0, none⟩), .int .u64 from_, .int .i64 most] w fun e w' => ∃ v, e = .returned v ∧ Kd.R kF eF w' w.heap.size (fun _ => True) v X ∧ Below w.heap.size w w' := by
  have HW := Aside0.mk hW
  obtain ⟨hok, hSg, ring, rb, cap, h3, h4, h5, h6⟩ := hW
  have c1 : w.cell? ⟨g, 1, none⟩ = some (.int .u64 (last + 1 - L.length)) := (blk_cell h3 1).trans rfl
  have hle := hok.le
  have hfit := hok.fit
  have h64 := hok.n64
  have hbig := hok.big
  obtain ⟨n0, hn0⟩ : ∃ n0 : Int, n0 = last + 1 - L.length + d := ⟨_, rfl⟩
  have hmax : Builtin.max2 (.int .u64 from_) (.int .u64 (last + 1 - L.length)) = pure (.int .u64 n0) := by
    rw [max2_int]
    congr 2
    split <;> omega
  have n00 : 0 ≤ n0 := by omega
  have HN := Aside0.mk hn0
  have HX := Aside0.mk hX
  have H3 := Aside0.mk h3
  have H4 := Aside0.mk h4
  have H5 := Aside0.mk h5
  have H6 := Aside0.mk h6
  have HOK := Aside0.mk hok
  have HG := Aside0.mk hSg
  have hdl : (L.drop d).length = L.length - d := List.length_drop
  clear h3 h4 h5 h6 hok hSg hn0 hX hd
  go_enter Try.func10, Try.ntmps10
  go_wp2_with fail
  go_loopg [7, 8] (L.drop d).length (fun kq v7 v8 w' => ∃ (j : Nat) (A : Option Addr) (c : Nat), v7 = .slice A j c ∧ v8 = .int .u64 (n0 + j) ∧ j ≤ (L.drop d).length ∧ (L.drop d).length ≤ kq + j ∧ (j : Int) ≤ max 0 most ∧ Aside0 (Kd.R kF eF w' w.heap.size (fun _ => True) (.slice A j c) ((L.drop d).take j)) ∧ Aside0 (Below w.heap.size w w'))
  case atStart => exact ⟨0, none, 0, rfl, by simp, by omega, by omega, by omega, ⟨Kd.R_nil _ _ _ _ _⟩, ⟨Below.refl _ _⟩⟩
  case round =>
    clear c1 hmax
    obtain ⟨j, A, c, rfl, rfl, hj, hkj, hjm, HR, HB⟩ := hrel
    have h3 := blk_below H3.out HB.out
    have c2 : wr.cell? ⟨g, 2, none⟩ = some (.int .u64 last) := (blk_cell h3 2).trans rfl
    have n1 : 0 ≤ n0 + (j : Int) := by omega
    by_cases hlt : j < (L.drop d).length
    · have hlt' : decide (n0 + (j : Int) ≤ last) = true := decide_eq_true (by have := HN.out; omega)
      by_cases hm : (j : Int) < most
      · have hm' : decide ((j : Int) < most) = true := decide_eq_true hm
        have c0 : wr.cell? ⟨g, 0, none⟩ = some (.slice (some ⟨rb, 0, none⟩) n cap) := (blk_cell h3 0).trans rfl
        obtain ⟨ix, hix⟩ : ∃ ix : Nat, (n0 + (j : Int)) % (n : Int) = (ix : Int) := ⟨((n0 + (j : Int)) % n).toNat, by have := Int.emod_nonneg (n0 + (j : Int)) (show (n : Int) ≠ 0 by have := HOK.out.n1; omega); omega⟩
        have IX := Aside0.mk hix
        have IL : Aside0 (ix < n) := ⟨by have := Int.emod_lt_of_pos (n0 + (j : Int)) (show (0 : Int) < n by have := HOK.out.n1; omega); omega⟩
        have hdj : d + j < L.length := by omega
        obtain ⟨x, hx⟩ : ∃ x, x = L[d + j] := ⟨_, rfl⟩
        have HXM : Aside0 (fok x) := ⟨by rw [hx]; exact HOK.out.fr _ (List.getElem_mem _)⟩
        have HT : Aside0 ((L.drop d).take (j + 1) = (L.drop d).take j ++ [x]) := ⟨by rw [List.take_succ_eq_append_getElem hlt, List.getElem_drop, hx]⟩
        have hrx : ring[ix]? = some x := by
          have h := H6.out (d + j) hdj
          rw [H5.out] at h
          have e : last + 1 - (L.length : Int) + ((d + j : Nat) : Int) = n0 + j := by rw [HN.out]; simp; omega
          rw [e, hix, Int.toNat_natCast] at h
          rw [h, hx]
        have h4 := Kd.R_below H4.out HB.out
        obtain ⟨cc, hcl, hM, hcc, _⟩ := Kd.R_elem h4 z36 (ix : Int) (by omega) (by have := IL.out; omega)
        have e2 : ring.getD (ix : Int).toNat z36 = x := by simp [List.getD, hrx]
        rw [e2] at hM
        obtain ⟨v11, v12, v13, v14, v15, rfl, r11, r12, r13, r14, r15⟩ := k36_openM hM
        obtain ⟨A11, c11, rfl⟩ := Kd.R_slice r11
        obtain ⟨A12, c12, rfl⟩ := Kd.R_slice r12
        obtain ⟨A13, c13, rfl⟩ := Kd.R_slice r13
        obtain ⟨A14, c14, rfl⟩ := Kd.R_slice r14
        obtain ⟨A15, c15, rfl⟩ := Kd.R_slice r15
        have KX := Aside0.mk (kF.K_of_M hM)
        have hc : ∀ (j : Nat) (u : Value), [.int .u8 x.f0.f0, .int .u8 x.f0.f1, .int .u8 x.f0.f2, .int .u8 x.f1.f0, .int .u64 x.f1.f1, .int .u64 x.f2, .int .u32 x.f3, .int .u32 x.f4, .int .u32 x.f5, .int .u64 x.f6, .int .u64 x.f7, .slice A11 x.f8.length c11, .slice A12 x.f9.length c12, .slice A13 x.f10.length c13, .slice A14 x.f11.length c14, .slice A15 x.f12.length c15][j]? = some u → wr.cell? ⟨rb, ix * 16 + j, none⟩ = some u := hcc
        have qs : wr.cell? ⟨rb, ix * 16, none⟩ = some (.int .u8 x.f0.f0) ∧ wr.cell? ⟨rb, ix * 16 + 1, none⟩ = some (.int .u8 x.f0.f1) ∧ wr.cell? ⟨rb, ix * 16 + 2, none⟩ = some (.int .u8 x.f0.f2) ∧ wr.cell? ⟨rb, ix * 16 + 3, none⟩ = some (.int .u8 x.f1.f0) ∧ wr.cell? ⟨rb, ix * 16 + 4, none⟩ = some (.int .u64 x.f1.f1) ∧ wr.cell? ⟨rb, ix * 16 + 5, none⟩ = some (.int .u64 x.f2) ∧ wr.cell? ⟨rb, ix * 16 + 6, none⟩ = some (.int .u32 x.f3) ∧ wr.cell? ⟨rb, ix * 16 + 7, none⟩ = some (.int .u32 x.f4) ∧ wr.cell? ⟨rb, ix * 16 + 8, none⟩ = some (.int .u32 x.f5) ∧ wr.cell? ⟨rb, ix * 16 + 9, none⟩ = some (.int .u64 x.f6) ∧ wr.cell? ⟨rb, ix * 16 + 10, none⟩ = some (.int .u64 x.f7) ∧ wr.cell? ⟨rb, ix * 16 + 11, none⟩ = some (.slice A11 x.f8.length c11) ∧ wr.cell? ⟨rb, ix * 16 + 12, none⟩ = some (.slice A12 x.f9.length c12) ∧ wr.cell? ⟨rb, ix * 16 + 13, none⟩ = some (.slice A13 x.f10.length c13) ∧ wr.cell? ⟨rb, ix * 16 + 14, none⟩ = some (.slice A14 x.f11.length c14) ∧ wr.cell? ⟨rb, ix * 16 + 15, none⟩ = some (.slice A15 x.f12.length c15) := ⟨hc 0 _ rfl, hc 1 _ rfl, hc 2 _ rfl, hc 3 _ rfl, hc 4 _ rfl, hc 5 _ rfl, hc 6 _ rfl, hc 7 _ rfl, hc 8 _ rfl, hc 9 _ rfl, hc 10 _ rfl, hc 11 _ rfl, hc 12 _ rfl, hc 13 _ rfl, hc 14 _ rfl, hc 15 _ rfl⟩
        obtain ⟨q0, q1, q2, q3, q4, q5, q6, q7, q8, q9, q10, q11, q12, q13, q14, q15⟩ := qs
        have hwj : IntKind.u64.wrap (n0 + (j : Int) + 1) = n0 + ((j + 1 : Nat) : Int) := by rw [wu64 (by omega) (by have := HN.out; omega)]; simp; omega
        have LL := Aside0.mk hdl
        clear hcc hcl hM r11 r12 r13 r14 r15 hc h3 h4 c2 hix hx e2 hrx
        have c2 : wr.cell? ⟨g, 2, none⟩ = some (.int .u64 last) := (blk_cell (blk_below H3.out HB.out) 2).trans rfl
        go_wp2_with fail
        refine (at_calls g rb cap n (n0 + (j : Int)) _ c0 HOK.out.n1 HOK.out.n64 n1 ix IX.out).mono ?_
        rintro e wa ⟨rfl, q, rfl⟩
        go_wp2_with fail
        refine (own_M x [.int .u8 x.f0.f0, .int .u8 x.f0.f1, .int .u8 x.f0.f2, .int .u8 x.f1.f0, .int .u64 x.f1.f1, .int .u64 x.f2, .int .u32 x.f3, .int .u32 x.f4, .int .u32 x.f5, .int .u64 x.f6, .int .u64 x.f7, .slice A11 x.f8.length c11, .slice A12 x.f9.length c12, .slice A13 x.f10.length c13, .slice A14 x.f11.length c14, .slice A15 x.f12.length c15] _ (kF.K_below (pw_below_drewN (Below.refl _ _) q) KX.out) HXM.out).mono ?_
        rintro e w3 ⟨cs', rfl, hM, hb⟩
        have B3 := Aside0.mk (below_step (pw_below_drewN HB.out q) hb)
        have R3 : Aside0 (Kd.R kF eF w3 w.heap.size (fun _ => True) (.slice A j c) ((L.drop d).take j)) := ⟨Kd.R_below (Kd.R_drewN HR.out q) hb⟩
        have HLT : Aside0 (∀ k, (Value.slice A j c).ownBlock = some k → k < wr.heap.size) := ⟨Kd.R_lt HR.out⟩
        have M3 : Aside0 (kF.M w3 w.heap.size (fun b => wr.heap.size ≤ b) x cs') := ⟨kF.M_lower HB.out.size (kF.M_mono (fun b hb => hb.2.1) (kF.M_bound hM))⟩
        clear hM hb c0 c2 q0 q1 q2 q3 q4 q5 q6 q7 q8 q9 q10 q11 q12 q13 q14 q15 HR HB KX
        obtain ⟨v11, v12, v13, v14, v15, rfl, r11, r12, r13, r14, r15⟩ := k36_openM M3.out
        obtain ⟨B11, d11, rfl⟩ := Kd.R_slice r11
        obtain ⟨B12, d12, rfl⟩ := Kd.R_slice r12
        obtain ⟨B13, d13, rfl⟩ := Kd.R_slice r13
        obtain ⟨B14, d14, rfl⟩ := Kd.R_slice r14
        obtain ⟨B15, d15, rfl⟩ := Kd.R_slice r15
        clear r11 r12 r13 r14 r15
        have tl : ((L.drop d).take j).length = j := by simp; omega
        go_wp2_with ((with_reducible refine gate_dst (N := 40) rfl ?_); refine Kd.R_append kF (w0 := w) w.heap.size rfl (.tmp 32) (.tmp 39) 37 eF _ 184 rfl Try.underlying37 info36 rfl (by decide) (by decide) (.slice A j c) ((L.drop d).take j) x [.int .u8 x.f0.f0, .int .u8 x.f0.f1, .int .u8 x.f0.f2, .int .u8 x.f1.f0, .int .u64 x.f1.f1, .int .u64 x.f2, .int .u32 x.f3, .int .u32 x.f4, .int .u32 x.f5, .int .u64 x.f6, .int .u64 x.f7, .slice B11 x.f8.length d11, .slice B12 x.f9.length d12, .slice B13 x.f10.length d13, .slice B14 x.f11.length d14, .slice B15 x.f12.length d15] (fun _ => True) (fun b => wr.heap.size ≤ b) rfl rfl M3.out (fun b hb => ⟨trivial, fun he => by have := HLT.out b he.symm; omega⟩) (fun _ _ => trivial) R3.out B3.out B3.out.size (by rw [tl]; omega) ?_; intro v4 w4 ho hb hg hat; obtain ⟨A4, c4, rfl⟩ := Kd.R_slice ho; rw [show ((L.drop d).take j ++ [x]).length = j + 1 by simp [tl]] at ho; rw [← HT.out] at ho; have R4 := Aside0.mk ho; have B4 := Aside0.mk hb; clear ho hb hg hat)
        go_roundg (gk - 1)
        case measure => omega
        case rel => exact ⟨j + 1, A4, c4, by rfl, by rfl, by omega, by omega, by omega, R4, B4⟩
      · have hm' : decide ((j : Int) < most) = false := decide_eq_false hm
        have hXj : X = (L.drop d).take j := by
          rw [HX.out]
          congr 1
          omega
        have HXj := Aside0.mk hXj
        clear hXj
        go_wp2_with fail
        go_ret
        rw [HXj.out]
        exact ⟨_, rfl, HR.out, HB.out⟩
    · have hlt' : decide (n0 + (j : Int) ≤ last) = false := decide_eq_false (by have := HN.out; omega)
      have hXj : X = (L.drop d).take j := by
        rw [HX.out, List.take_of_length_le (by omega), List.take_of_length_le (by omega)]
      have HXj := Aside0.mk hXj
      clear hXj
      go_wp2_with fail
      go_ret
      rw [HXj.out]
      exact ⟨_, rfl, HR.out, HB.out⟩

end Go.Proofs.Ytdeknknefjepnaa.Walk
