/- Frames are put into a window as there is room. Conditions: none beyond the statement's own. -/
import Derived.Test.YtdeknknefjepnaaWalkPutLem
import Derived.Test.YtdeknknefjepnaaArgs
import Derived.Deep.QuietTactic
import Derived.BigQuiet
import Derived.Lib.QuietBelow
import Derived.Outline
import Derived.Deep.RegionHeld3
import Derived.Deep.CutRange
namespace Go.Proofs.Ytdeknknefjepnaa.Walk
open Go.RowKit Go.Proofs.Ytdeknknefjepnaa.F Go.Proofs.YtdeknknefjepnaaW.PrintWords Go.Proofs.YtdeknknefjepnaaW.PrintLast Go.Proofs.YtdeknknefjepnaaW.PrintMore Go.Proofs.Ytdeknknefjepnaa.Open
open Go.Sort (grow)
attribute [local go_sem] max2_int min2_int max_two min_two max_three min_three max_four min_four
set_option linter.unusedVariables false
set_option linter.unusedSimpArgs false

/-! ### Put -/
set_option maxHeartbeats 4000000 in
set_option maxRecDepth 100000 in
theorem Put_calls {S : Nat → Prop} {g n : Nat} {last : Int} {L : List Fr} {A : Option Addr} {c : Nat} (l : List Fr) (k : Nat) (w : World) (hW : Win w S g n last L) (hr : Kd.F kF w (fun b => ¬ S b) A l.length l) (hc : l.length ≤ c) (hl : ∀ f ∈ l, fok f) (hlast : last + l.length ≤ 4611686018427387904) (hk : k = min l.length (n - L.length)) :
    Calls Try.prog 9 #[.pointer (some ⟨g, 0, none⟩), .slice A l.length c] w fun e w' => e = .returned (.int .i64 k) ∧ Win w' (fun b => S b ∨ w.heap.size ≤ b) g n (last + k) (L ++ numb last (l.take k)) ∧ Beside S w w' := by
  have HW := Aside0.mk hW
  have HR := Aside0.mk hr
  have HC := Aside0.mk hc
  have HL := Aside0.mk hl
  have HT := Aside0.mk hlast
  have HK := Aside0.mk hk
  have hlm := (Kd.F_now hr).2.1
  have hfit := hW.ok.fit
  have h64 := hW.ok.n64
  obtain ⟨r, hr0⟩ : ∃ r : Nat, (n : Int) - L.length = (r : Int) := ⟨n - L.length, by omega⟩
  have hmin : Builtin.min2 (.int .i64 (l.length : Int)) (.int .i64 (r : Int)) = pure (.int .i64 (k : Int)) := by
    rw [min2_int]
    congr 2
    split <;> omega
  have hkl : k ≤ l.length := by omega
  obtain ⟨B', hcut, hCT, hlc⟩ := kcut_to (P := Try.prog) kF 37 eF .i64 Try.underlying37 (by rfl) A c l k hkl hc
  have HRT : Aside0 (Kd.F kF w (fun b => ¬ S b ∧ b < w.heap.size) B' (l.take k).length (l.take k)) := ⟨Kd.F_bound (Kd.F_imp hr (fun W' h => hCT W' h))⟩
  have htl : (l.take k).length = k := by simp; omega
  have HTM : Aside0 (∀ f ∈ l.take k, fok f) := ⟨fun f hf => hl f (List.mem_of_mem_take hf)⟩
  have RM := Aside0.mk (Room_calls hW)
  rw [hr0] at RM
  have hkn : (k : Int) ≤ 64 := by omega
  clear hW hr hc hl hlast hk hCT hfit h64 hlm
  generalize hTT : l.take k = T at *
  have ET := Aside0.mk hTT
  have EL := Aside0.mk htl
  clear hTT htl
  go_enter Try.func9, Try.ntmps9
  go_wp2_with fail
  refine (RM.out).mono ?_
  rintro e w1 ⟨rfl, q, rfl⟩
  have W1 := Aside0.mk (HW.out.below (pw_below_drewN (Below.refl w.heap.size w) q))
  have B1 : Aside0 (Beside S w (w.drewN q)) := ⟨(Beside.refl S w).drewN q⟩
  generalize w.drewN q = w1 at *
  go_wp2_with fail
  go_loopg [17] T.length (fun kq v17 w' => ∃ j : Nat, v17 = .int .i64 j ∧ j ≤ T.length ∧ T.length ≤ kq + j ∧ Aside0 (Win w' (fun b => S b ∨ w.heap.size ≤ b) g n (last + j) (L ++ numb last (T.take j))) ∧ Aside0 (Beside S w w'))
  case atStart => exact ⟨0, rfl, by omega, by omega, ⟨by simpa [numb] using W1.out.mono (fun b hb => Or.inl hb)⟩, B1⟩
  case round =>
    clear W1 B1
    obtain ⟨j, rfl, hj, hkj, HW1, HB1⟩ := hrel
    by_cases hlt : j < T.length
    · have hlt' : decide ((j : Int) < T.length) = true := decide_eq_true (by omega)
      have hF := Kd.F_step HRT.out (fun k hk hlt => HB1.out.block k hlt hk.1)
      obtain ⟨x, ad, A11, c11, A12, c12, A13, c13, A14, c14, A15, c15, hx, e, hFK, k0, k1, k2, k3, k4, k5, k6, k7, k8, k9, k10, k11, k12, k13, k14, k15⟩ := at_F hF (j : Int) (by omega) (by omega)
      cases e
      have HFK := Aside0.mk hFK
      clear hF hFK
      have hxm : x ∈ T := by simp [hx, rd_T36, List.getD, hlt]
      have HX := Aside0.mk (HTM.out _ hxm)
      have HN : Aside0 (numb last (T.take (j + 1)) = numb last (T.take j) ++ [{ x with f2 := last + j + 1 }]) := ⟨by
        rw [List.take_succ_eq_append_getElem hlt, numb_snoc]
        have : x = T[j] := by simp [hx, rd_T36, List.getD, hlt]
        rw [this, List.length_take, Nat.min_eq_left (by omega)]⟩
      clear hxm
      simp only [Int.toNat_natCast] at k0 k1 k2 k3 k4 k5 k6 k7 k8 k9 k10 k11 k12 k13 k14 k15
      clear hx
      have hmb : last + j + 1 ≤ 4611686018427387904 := by have := HT.out; have := EL.out; omega
      have hrm : (L ++ numb last (T.take j)).length < n := by rw [List.length_append, numb_length, List.length_take]; have := HK.out; have := EL.out; omega
      have HN2 : Aside0 (∀ M L', M = last + (j : Int) → L' = L ++ numb last (T.take j) → last + ((j + 1 : Nat) : Int) = M + 1 ∧ L ++ numb last (T.take (j + 1)) = L' ++ [{ x with f2 := M + 1 }]) := ⟨fun M L' h1 h2 => by
        subst h1 h2
        exact ⟨by simp; omega, by rw [HN.out, List.append_assoc]⟩⟩
      obtain ⟨m, hm⟩ : ∃ m, m = last + (j : Int) := ⟨_, rfl⟩
      obtain ⟨L', hL'⟩ : ∃ L', L' = L ++ numb last (T.take j) := ⟨_, rfl⟩
      have HN3 := Aside0.mk (HN2.out m L' hm hL')
      rw [← hm, ← hL'] at HW1
      rw [← hm] at hmb
      rw [← hL'] at hrm
      clear HN HN2 hm hL'
      have HM := Aside0.mk hmb
      have HRM := Aside0.mk hrm
      clear hmb hrm
      obtain ⟨hok, hSg, ring, rb, cap, h3, h4, h5, h6⟩ := HW1.out
      have c2 : wr.cell? ⟨g, 2, none⟩ = some (.int .u64 m) := (blk_cell h3 2).trans rfl
      have z2 := blk_frozen h3 2
      have a2 : ∀ o, (wr.alloc o).cell? ⟨g, 2, none⟩ = some (.int .u64 m) := fun o => (blk_cell (blk_alloc h3 o) 2).trans rfl
      have za2 : ∀ o, (wr.alloc o).frozen? ⟨g, 2, none⟩ = false := fun o => blk_frozen (blk_alloc h3 o) 2
      have gne : g ≠ wr.heap.size := by have := blk_lt h3; omega
      have gne' : wr.heap.size ≠ g := by have := blk_lt h3; omega
      have H3 := Aside0.mk h3
      have H4 := Aside0.mk h4
      have H5 := Aside0.mk h5
      have H6 := Aside0.mk h6
      have HOK := Aside0.mk hok
      clear h3 h4 h5 h6 hok hSg
      have hw : IntKind.u64.wrap (m + 1) = m + 1 := wu64 (by have := HOK.out.le; omega) (by have := HM.out; omega)
      have pm : (0 ≤ (j : Int)) = True := eq_true (by omega)
      have qm : ((j : Int) < (T.length : Int)) = True := eq_true (by omega)
      go_wp2_with fail
      obtain ⟨w2, hw2⟩ : ∃ w2, w2 = ((wr.alloc (.cells #[.int .u8 x.f0.f0, .int .u8 x.f0.f1, .int .u8 x.f0.f2, .int .u8 x.f1.f0, .int .u64 x.f1.f1, .int .u64 x.f2, .int .u32 x.f3, .int .u32 x.f4, .int .u32 x.f5, .int .u64 x.f6, .int .u64 x.f7, .slice A11 x.f8.length c11, .slice A12 x.f9.length c12, .slice A13 x.f10.length c13, .slice A14 x.f11.length c14, .slice A15 x.f12.length c15] 36)).setCell ⟨g, 2, none⟩ (.int .u64 (m + 1))).setCell ⟨wr.heap.size, 5, none⟩ (.int .u64 (m + 1)) := ⟨_, rfl⟩
      rw [← hw2]
      obtain ⟨p1, p2, p3, p4, p5, p6, p7⟩ := put_w2 (cs' := #[.int .u8 x.f0.f0, .int .u8 x.f0.f1, .int .u8 x.f0.f2, .int .u8 x.f1.f0, .int .u64 x.f1.f1, .int .u64 (m + 1), .int .u32 x.f3, .int .u32 x.f4, .int .u32 x.f5, .int .u64 x.f6, .int .u64 x.f7, .slice A11 x.f8.length c11, .slice A12 x.f9.length c12, .slice A13 x.f10.length c13, .slice A14 x.f11.length c14, .slice A15 x.f12.length c15]) HB1.out HW.out.S_g H3.out H4.out rfl rfl hw2
      have FK2 := Kd.FK_step HFK.out (fun k hk hlt => ((p3.block k hk.2 hk.1).trans (HB1.out.block k hk.2 hk.1).symm))
      have HK2 := Aside0.mk (put_own (v := m + 1) FK2)
      have P1 := Aside0.mk p1
      have P2 := Aside0.mk p2
      have P3 := Aside0.mk p3
      have P4 := Aside0.mk p4
      have P5 := Aside0.mk p5
      have P6 := Aside0.mk p6
      have P7 := Aside0.mk p7
      clear c2 z2 a2 za2 k0 k1 k2 k3 k4 k5 k6 k7 k8 k9 k10 k11 k12 k13 k14 k15 hw2 p1 p2 p3 p4 p5 p6 p7 FK2 H3 H4 HFK
      have d2 : w2.cell? ⟨g, 2, none⟩ = some (.int .u64 (m + 1)) := (blk_cell P2.out 2).trans rfl
      have D0 : Aside0 (w2.cell? ⟨g, 0, none⟩ = some (.slice (some ⟨rb, 0, none⟩) n cap)) := ⟨(blk_cell P2.out 0).trans rfl⟩
      have bb0 : w2.cell? ⟨wr.heap.size, 0, none⟩ = some (.int .u8 x.f0.f0) := (blk_cell P1.out 0).trans rfl
      have bb1 : w2.cell? ⟨wr.heap.size, 1, none⟩ = some (.int .u8 x.f0.f1) := (blk_cell P1.out 1).trans rfl
      have bb2 : w2.cell? ⟨wr.heap.size, 2, none⟩ = some (.int .u8 x.f0.f2) := (blk_cell P1.out 2).trans rfl
      have bb3 : w2.cell? ⟨wr.heap.size, 3, none⟩ = some (.int .u8 x.f1.f0) := (blk_cell P1.out 3).trans rfl
      have bb4 : w2.cell? ⟨wr.heap.size, 4, none⟩ = some (.int .u64 x.f1.f1) := (blk_cell P1.out 4).trans rfl
      have bb5 : w2.cell? ⟨wr.heap.size, 5, none⟩ = some (.int .u64 (m + 1)) := (blk_cell P1.out 5).trans rfl
      have bb6 : w2.cell? ⟨wr.heap.size, 6, none⟩ = some (.int .u32 x.f3) := (blk_cell P1.out 6).trans rfl
      have bb7 : w2.cell? ⟨wr.heap.size, 7, none⟩ = some (.int .u32 x.f4) := (blk_cell P1.out 7).trans rfl
      have bb8 : w2.cell? ⟨wr.heap.size, 8, none⟩ = some (.int .u32 x.f5) := (blk_cell P1.out 8).trans rfl
      have bb9 : w2.cell? ⟨wr.heap.size, 9, none⟩ = some (.int .u64 x.f6) := (blk_cell P1.out 9).trans rfl
      have bb10 : w2.cell? ⟨wr.heap.size, 10, none⟩ = some (.int .u64 x.f7) := (blk_cell P1.out 10).trans rfl
      have bb11 : w2.cell? ⟨wr.heap.size, 11, none⟩ = some (.slice A11 x.f8.length c11) := (blk_cell P1.out 11).trans rfl
      have bb12 : w2.cell? ⟨wr.heap.size, 12, none⟩ = some (.slice A12 x.f9.length c12) := (blk_cell P1.out 12).trans rfl
      have bb13 : w2.cell? ⟨wr.heap.size, 13, none⟩ = some (.slice A13 x.f10.length c13) := (blk_cell P1.out 13).trans rfl
      have bb14 : w2.cell? ⟨wr.heap.size, 14, none⟩ = some (.slice A14 x.f11.length c14) := (blk_cell P1.out 14).trans rfl
      have bb15 : w2.cell? ⟨wr.heap.size, 15, none⟩ = some (.slice A15 x.f12.length c15) := (blk_cell P1.out 15).trans rfl
      have FX := Aside0.mk (HX.out.num (m + 1))
      have m0 : 0 ≤ m + 1 := by have := HOK.out.le; omega
      obtain ⟨ix, hix⟩ : ∃ ix : Nat, (m + 1) % (n : Int) = (ix : Int) := ⟨((m + 1) % n).toNat, by have := Int.emod_nonneg (m + 1) (show (n : Int) ≠ 0 by have := HOK.out.n1; omega); omega⟩
      have IX : Aside0 ((m + 1) % (n : Int) = (ix : Int)) := ⟨hix⟩
      have IL : Aside0 (ix < n) := ⟨by have := Int.emod_lt_of_pos (m + 1) (show (0 : Int) < n by have := HOK.out.n1; omega); omega⟩
      clear hix
      go_region_held3 (fun w' => w'.cell? ⟨g, 2, none⟩ = some (.int .u64 (m + 1)) ∧ w'.cell? ⟨wr.heap.size, 0, none⟩ = some (.int .u8 x.f0.f0) ∧ w'.cell? ⟨wr.heap.size, 1, none⟩ = some (.int .u8 x.f0.f1) ∧ w'.cell? ⟨wr.heap.size, 2, none⟩ = some (.int .u8 x.f0.f2) ∧ w'.cell? ⟨wr.heap.size, 3, none⟩ = some (.int .u8 x.f1.f0) ∧ w'.cell? ⟨wr.heap.size, 4, none⟩ = some (.int .u64 x.f1.f1) ∧ w'.cell? ⟨wr.heap.size, 5, none⟩ = some (.int .u64 (m + 1)) ∧ w'.cell? ⟨wr.heap.size, 6, none⟩ = some (.int .u32 x.f3) ∧ w'.cell? ⟨wr.heap.size, 7, none⟩ = some (.int .u32 x.f4) ∧ w'.cell? ⟨wr.heap.size, 8, none⟩ = some (.int .u32 x.f5) ∧ w'.cell? ⟨wr.heap.size, 9, none⟩ = some (.int .u64 x.f6) ∧ w'.cell? ⟨wr.heap.size, 10, none⟩ = some (.int .u64 x.f7) ∧ w'.cell? ⟨wr.heap.size, 11, none⟩ = some (.slice A11 x.f8.length c11) ∧ w'.cell? ⟨wr.heap.size, 12, none⟩ = some (.slice A12 x.f9.length c12) ∧ w'.cell? ⟨wr.heap.size, 13, none⟩ = some (.slice A13 x.f10.length c13) ∧ w'.cell? ⟨wr.heap.size, 14, none⟩ = some (.slice A14 x.f11.length c14) ∧ w'.cell? ⟨wr.heap.size, 15, none⟩ = some (.slice A15 x.f12.length c15)) (first | go_keep | exact ⟨z2, zb0, zb1, zb2, zb3, zb4, zb5, zb6, zb7, zb8, zb9, zb10, zb11, zb12, zb13, zb14, zb15⟩)
        ((first
          | (go_at_call 24; refine (at_calls g rb cap n (m + 1) _ (by first | exact D0.out | exact D3.out) HOK.out.n1 HOK.out.n64 m0 ix IX.out).mono ?_; rintro e wa ⟨rfl, q, rfl⟩)
          | (go_at_call 23; refine (own_M { x with f2 := m + 1 } [.int .u8 x.f0.f0, .int .u8 x.f0.f1, .int .u8 x.f0.f2, .int .u8 x.f1.f0, .int .u64 x.f1.f1, .int .u64 (m + 1), .int .u32 x.f3, .int .u32 x.f4, .int .u32 x.f5, .int .u64 x.f6, .int .u64 x.f7, .slice A11 x.f8.length c11, .slice A12 x.f9.length c12, .slice A13 x.f10.length c13, .slice A14 x.f11.length c14, .slice A15 x.f12.length c15] _ (by first | exact HK2.out | exact kF.K_below (by repeat (first | exact Below.refl _ _ | apply below_drew | apply pw_below_drewN)) HK2.out) FX.out).mono ?_; rintro e w3 ⟨cs', rfl, hM, hb⟩; have M3 := Aside0.mk hM; have B3 : Aside0 (Below w2.heap.size w2 w3) := ⟨below_step (by repeat (first | exact Below.refl _ _ | apply below_drew | apply pw_below_drewN)) hb⟩; clear hM hb; have D3 : Aside0 (w3.cell? ⟨g, 0, none⟩ = some (.slice (some ⟨rb, 0, none⟩) n cap)) := ⟨(blk_cell (blk_below P2.out B3.out) 0).trans rfl⟩; have y2 : w3.cell? ⟨g, 2, none⟩ = some (.int .u64 (m + 1)) := (blk_cell (blk_below P2.out B3.out) 2).trans rfl; have yb0 : w3.cell? ⟨wr.heap.size, 0, none⟩ = some (.int .u8 x.f0.f0) := (blk_cell (blk_below P1.out B3.out) 0).trans rfl; have yb1 : w3.cell? ⟨wr.heap.size, 1, none⟩ = some (.int .u8 x.f0.f1) := (blk_cell (blk_below P1.out B3.out) 1).trans rfl; have yb2 : w3.cell? ⟨wr.heap.size, 2, none⟩ = some (.int .u8 x.f0.f2) := (blk_cell (blk_below P1.out B3.out) 2).trans rfl; have yb3 : w3.cell? ⟨wr.heap.size, 3, none⟩ = some (.int .u8 x.f1.f0) := (blk_cell (blk_below P1.out B3.out) 3).trans rfl; have yb4 : w3.cell? ⟨wr.heap.size, 4, none⟩ = some (.int .u64 x.f1.f1) := (blk_cell (blk_below P1.out B3.out) 4).trans rfl; have yb5 : w3.cell? ⟨wr.heap.size, 5, none⟩ = some (.int .u64 (m + 1)) := (blk_cell (blk_below P1.out B3.out) 5).trans rfl; have yb6 : w3.cell? ⟨wr.heap.size, 6, none⟩ = some (.int .u32 x.f3) := (blk_cell (blk_below P1.out B3.out) 6).trans rfl; have yb7 : w3.cell? ⟨wr.heap.size, 7, none⟩ = some (.int .u32 x.f4) := (blk_cell (blk_below P1.out B3.out) 7).trans rfl; have yb8 : w3.cell? ⟨wr.heap.size, 8, none⟩ = some (.int .u32 x.f5) := (blk_cell (blk_below P1.out B3.out) 8).trans rfl; have yb9 : w3.cell? ⟨wr.heap.size, 9, none⟩ = some (.int .u64 x.f6) := (blk_cell (blk_below P1.out B3.out) 9).trans rfl; have yb10 : w3.cell? ⟨wr.heap.size, 10, none⟩ = some (.int .u64 x.f7) := (blk_cell (blk_below P1.out B3.out) 10).trans rfl; have yb11 : w3.cell? ⟨wr.heap.size, 11, none⟩ = some (.slice A11 x.f8.length c11) := (blk_cell (blk_below P1.out B3.out) 11).trans rfl; have yb12 : w3.cell? ⟨wr.heap.size, 12, none⟩ = some (.slice A12 x.f9.length c12) := (blk_cell (blk_below P1.out B3.out) 12).trans rfl; have yb13 : w3.cell? ⟨wr.heap.size, 13, none⟩ = some (.slice A13 x.f10.length c13) := (blk_cell (blk_below P1.out B3.out) 13).trans rfl; have yb14 : w3.cell? ⟨wr.heap.size, 14, none⟩ = some (.slice A14 x.f11.length c14) := (blk_cell (blk_below P1.out B3.out) 14).trans rfl; have yb15 : w3.cell? ⟨wr.heap.size, 15, none⟩ = some (.slice A15 x.f12.length c15) := (blk_cell (blk_below P1.out B3.out) 15).trans rfl; obtain ⟨sl, st, ro, gr⟩ := Kd.run_whole Try.prog kF ix z36 (Kd.R_step P4.out (fun b _ hlt => B3.out.block b hlt)) IL.out (kF.M_lower (Nat.zero_le _) (kF.M_mono (fun b hb => hb.2.1) (kF.M_bound M3.out))) (fun b hb => ⟨⟨Or.inr (by have := HB1.out.size; have := P7.out; have h9 : w2.heap.size ≤ b := hb; omega), by have := blk_lt P2.out; have h9 : w2.heap.size ≤ b := hb; omega⟩, by have := P5.out; have := P7.out; have h9 : w2.heap.size ≤ b := hb; omega⟩); obtain ⟨w4, hw4⟩ : ∃ w4, w4 = w3.setCells rb (ix * kF.sz) cs' := ⟨_, rfl⟩; rw [← hw4] at st ro gr; have R4 := Aside0.mk ro; have G4 := Aside0.mk gr; clear ro gr hw4; have sz : cs'.length = 16 := sl; have sz2 : cs'.toArray.size = 16 := sl; have st1 : ∀ q, (storeCells ⟨rb, ix * 16, none⟩ cs').run Try.prog (w3.drewN q) = .ok () (w4.drewN q) := st; have st0 : (storeCells ⟨rb, ix * 16, none⟩ cs').run Try.prog w3 = .ok () w4 := st 0; clear st; have z2 : w4.cell? ⟨g, 2, none⟩ = some (.int .u64 (m + 1)) := G4.out.cell y2 (fun he => P6.out (Option.some.inj he).symm); have zb0 := G4.out.cell yb0 (fun he => absurd (Option.some.inj he) (Nat.ne_of_gt P5.out)); have zb1 := G4.out.cell yb1 (fun he => absurd (Option.some.inj he) (Nat.ne_of_gt P5.out)); have zb2 := G4.out.cell yb2 (fun he => absurd (Option.some.inj he) (Nat.ne_of_gt P5.out)); have zb3 := G4.out.cell yb3 (fun he => absurd (Option.some.inj he) (Nat.ne_of_gt P5.out)); have zb4 := G4.out.cell yb4 (fun he => absurd (Option.some.inj he) (Nat.ne_of_gt P5.out)); have zb5 := G4.out.cell yb5 (fun he => absurd (Option.some.inj he) (Nat.ne_of_gt P5.out)); have zb6 := G4.out.cell yb6 (fun he => absurd (Option.some.inj he) (Nat.ne_of_gt P5.out)); have zb7 := G4.out.cell yb7 (fun he => absurd (Option.some.inj he) (Nat.ne_of_gt P5.out)); have zb8 := G4.out.cell yb8 (fun he => absurd (Option.some.inj he) (Nat.ne_of_gt P5.out)); have zb9 := G4.out.cell yb9 (fun he => absurd (Option.some.inj he) (Nat.ne_of_gt P5.out)); have zb10 := G4.out.cell yb10 (fun he => absurd (Option.some.inj he) (Nat.ne_of_gt P5.out)); have zb11 := G4.out.cell yb11 (fun he => absurd (Option.some.inj he) (Nat.ne_of_gt P5.out)); have zb12 := G4.out.cell yb12 (fun he => absurd (Option.some.inj he) (Nat.ne_of_gt P5.out)); have zb13 := G4.out.cell yb13 (fun he => absurd (Option.some.inj he) (Nat.ne_of_gt P5.out)); have zb14 := G4.out.cell yb14 (fun he => absurd (Option.some.inj he) (Nat.ne_of_gt P5.out)); have zb15 := G4.out.cell yb15 (fun he => absurd (Option.some.inj he) (Nat.ne_of_gt P5.out)))))
      have WE := put_end HOK.out HRM.out HM.out FX.out (Or.inl HW.out.S_g) P2.out B3.out (by rw [IX.out, Int.toNat_natCast]; exact R4.out) G4.out P6.out H5.out H6.out
      obtain ⟨e1, e2⟩ := HN3.out
      rw [← e2, ← e1] at WE
      have BE : Beside S w w4 := (P3.out.then_below B3.out).then_ (S2 := fun b => b = rb) ⟨G4.out.os, G4.out.tape, G4.out.output, G4.out.size, fun b hb hn => G4.out.block b hb (fun he => hn (Option.some.inj he))⟩ (fun b hb => by
        have := (P4.out.1 rb (by simp [Value.ownBlock])).1
        rw [hb]
        exact this)
      have WE2 := Aside0.mk WE
      have BE2 := Aside0.mk BE
      clear WE BE e1 e2 d2 bb0 bb1 bb2 bb3 bb4 bb5 bb6 bb7 bb8 bb9 bb10 bb11 bb12 bb13 bb14 bb15 z2 zb0 zb1 zb2 zb3 zb4 zb5 zb6 zb7 zb8 zb9 zb10 zb11 zb12 zb13 zb14 zb15 st0 st1 sz sz2 y2 yb0 yb1 yb2 yb3 yb4 yb5 yb6 yb7 yb8 yb9 yb10 yb11 yb12 yb13 yb14 yb15
      go_wp2_with fail
      go_roundg (gk - 1)
      case measure => omega
      case rel => exact ⟨j + 1, (by have e9 := EL.out; simp; exact w64 (by omega) (by omega)), by omega, by omega, WE2, BE2⟩
    · have hlt' : decide ((j : Int) < T.length) = false := decide_eq_false (by omega)
      have hje : j = T.length := by omega
      subst hje
      have HE : Aside0 (Win wr (fun b => S b ∨ w.heap.size ≤ b) g n (last + k) (L ++ numb last T)) := ⟨by
        have h := HW1.out
        rw [List.take_length, EL.out] at h
        exact h⟩
      clear HW1
      go_wp2_with fail
      go_ret
      exact ⟨rfl, HE.out, HB1.out⟩

end Go.Proofs.Ytdeknknefjepnaa.Walk
