/- Inst, Done, Held and Gone. Conditions: none beyond the statement's own. -/
import Derived.Test.YtahdbiddpphepaaWalkMat
import Derived.Test.YtahdbiddpphepaaF3
import Derived.Test.YtahdbiddpphepaaArgs
import Derived.Deep.QuietTactic
import Derived.BigQuiet
import Derived.Lib.QuietBelow
import Derived.Outline
import Derived.Deep.RegionHeld3
import Derived.Deep.CutRange
namespace Go.Proofs.Ytahdbiddpphepaa.Walk
open Go.RowKit Go.Proofs.Ytahdbiddpphepaa.F Go.Proofs.YtahdbiddpphepaaW.PrintWords Go.Proofs.YtahdbiddpphepaaW.PrintLast Go.Proofs.YtahdbiddpphepaaW.PrintMore Go.Proofs.Ytahdbiddpphepaa.Open
open Go.Sort (grow)
attribute [local go_sem] max2_int min2_int max_two min_two max_three min_three max_four min_four
set_option linter.unusedVariables false
set_option linter.unusedSimpArgs false

/-! ### Inst, Done, Held, Gone -/
def at_ (L : List X) (p : Int) : Option X := if 0 ≤ p then L[p.toNat]? else none
theorem at_some {L : List X} {p : Int} {x : X} (h : at_ L p = some x) : ∃ q : Nat, p = q ∧ q < L.length ∧ L[q]? = some x := by
  unfold at_ at h
  by_cases h0 : 0 ≤ p
  · rw [if_pos h0] at h
    exact ⟨p.toNat, by omega, (List.getElem?_eq_some_iff.1 h).1, h⟩
  · rw [if_neg h0] at h
    cases h
theorem at_none {L : List X} {p : Int} (h : at_ L p = none) : p < 0 ∨ (L.length : Int) ≤ p := by
  unfold at_ at h
  by_cases h0 : 0 ≤ p
  · rw [if_pos h0] at h
    have := List.getElem?_eq_none_iff.1 h
    omega
  · omega
def instOf (L : List X) (p : Int) : Int := match at_ L p with | some x => x.f0 | none => 0
def doneOf (L : List X) (p : Int) : List Int := match at_ L p with | some x => x.f1 | none => []
def heldOf (L : List X) (p : Int) : List Int := match at_ L p with | some x => x.f2 | none => []
section
variable {w : World} {S : Nat → Prop} {g rb cp : Nat} {L : List X}
theorem Inst_calls (h : Mat w S g rb cp L) (p : Int) : Calls Try.prog 17 #[.pointer (some ⟨g, 0, none⟩), .int .i64 p] w fun e w' => e = .returned (.int .u64 (instOf L p)) ∧ w' = w := by
  cases hx : at_ L p with
  | none =>
    have OF := Aside0.mk (of_none h p (at_none hx))
    rw [show instOf L p = 0 by unfold instOf; rw [hx]]
    clear hx
    go_enter Try.func17, Try.ntmps17
    go_wp2_with fail
    refine (OF.out).mono ?_
    rintro e w1 ⟨rfl, rfl⟩
    go_wp2_with fail
    go_ret
    exact ⟨rfl, rfl⟩
  | some x =>
    obtain ⟨q, rfl, hq, hL⟩ := at_some hx
    have OF := Aside0.mk (of_calls h q hq)
    obtain ⟨A1, c1, A2, c2, ⟨k0, _, _, _⟩, _, _, _⟩ := h.elem hL
    rw [show instOf L q = x.f0 by unfold instOf; rw [hx]]
    clear hx hL
    go_enter Try.func17, Try.ntmps17
    go_wp2_with fail
    refine (OF.out).mono ?_
    rintro e w1 ⟨rfl, rfl⟩
    go_wp2_with fail
    go_ret
    exact ⟨rfl, rfl⟩
theorem Done_calls (h : Mat w S g rb cp L) (p : Int) : Calls Try.prog 18 #[.pointer (some ⟨g, 0, none⟩), .int .i64 p] w fun e w' => ∃ v, e = .returned v ∧ Kd.R kU tU w' w.heap.size (fun _ => True) v (doneOf L p) ∧ Below w.heap.size w w' := by
  cases hx : at_ L p with
  | none =>
    have OF := Aside0.mk (of_none h p (at_none hx))
    rw [show doneOf L p = [] by unfold doneOf; rw [hx]]
    clear hx
    go_enter Try.func18, Try.ntmps18
    go_wp2_with fail
    refine (OF.out).mono ?_
    rintro e w1 ⟨rfl, rfl⟩
    go_wp2_with fail
    go_ret
    exact ⟨_, rfl, Kd.R_nil _ _ _ _ _, Below.refl _ _⟩
  | some x =>
    obtain ⟨q, rfl, hq, hL⟩ := at_some hx
    have OF := Aside0.mk (of_calls h q hq)
    obtain ⟨A1, c1, A2, c2, ⟨_, k1, _, _⟩, _, r1, _⟩ := h.elem hL
    obtain ⟨_, hc1, hC1⟩ := Kd.R_reads' r1
    have hok : x.f1.length ≤ 64 := by rw [(h.ok.row x (List.mem_of_getElem? hL)).l1]; exact h.ok.n2
    have CL := Aside0.mk (slices_Clone_uint64_uint64.calls A1 c1 x.f1 x.f1 w hC1 hc1 (by unfold slices_Clone_uint64_uint64.f; rw [if_pos (by omega)]))
    rw [show doneOf L q = x.f1 by unfold doneOf; rw [hx]]
    clear hx hL hC1 r1 hc1
    go_enter Try.func18, Try.ntmps18
    go_wp2_with fail
    refine (OF.out).mono ?_
    rintro e w1 ⟨rfl, rfl⟩
    go_wp2_with fail
    refine (CL.out).mono ?_
    rintro e w2 ⟨v, rfl, hR, hb⟩
    have R2 := Aside0.mk hR
    have B2 := Aside0.mk hb
    clear hR hb
    go_wp2_with fail
    go_ret
    exact ⟨_, rfl, R2.out, B2.out⟩
theorem Held_calls (h : Mat w S g rb cp L) (p : Int) : Calls Try.prog 19 #[.pointer (some ⟨g, 0, none⟩), .int .i64 p] w fun e w' => ∃ v, e = .returned v ∧ Kd.R kU tU w' w.heap.size (fun _ => True) v (heldOf L p) ∧ Below w.heap.size w w' := by
  cases hx : at_ L p with
  | none =>
    have OF := Aside0.mk (of_none h p (at_none hx))
    rw [show heldOf L p = [] by unfold heldOf; rw [hx]]
    clear hx
    go_enter Try.func19, Try.ntmps19
    go_wp2_with fail
    refine (OF.out).mono ?_
    rintro e w1 ⟨rfl, rfl⟩
    go_wp2_with fail
    go_ret
    exact ⟨_, rfl, Kd.R_nil _ _ _ _ _, Below.refl _ _⟩
  | some x =>
    obtain ⟨q, rfl, hq, hL⟩ := at_some hx
    have OF := Aside0.mk (of_calls h q hq)
    obtain ⟨A1, c1, A2, c2, ⟨_, _, k2, _⟩, _, _, r2⟩ := h.elem hL
    obtain ⟨_, hc2, hC2⟩ := Kd.R_reads' r2
    have hok : x.f2.length ≤ 64 := by rw [(h.ok.row x (List.mem_of_getElem? hL)).l2]; exact h.ok.n2
    have CL := Aside0.mk (slices_Clone_uint64_uint64.calls A2 c2 x.f2 x.f2 w hC2 hc2 (by unfold slices_Clone_uint64_uint64.f; rw [if_pos (by omega)]))
    rw [show heldOf L q = x.f2 by unfold heldOf; rw [hx]]
    clear hx hL hC2 r2 hc2
    go_enter Try.func19, Try.ntmps19
    go_wp2_with fail
    refine (OF.out).mono ?_
    rintro e w1 ⟨rfl, rfl⟩
    go_wp2_with fail
    refine (CL.out).mono ?_
    rintro e w2 ⟨v, rfl, hR, hb⟩
    have R2 := Aside0.mk hR
    have B2 := Aside0.mk hb
    clear hR hb
    go_wp2_with fail
    go_ret
    exact ⟨_, rfl, R2.out, B2.out⟩
/-! Gone -/
def goneX (x : X) : X := ⟨x.f0, x.f1, x.f2, true⟩
def goneL (L : List X) (p : Int) : List X := match at_ L p with | some x => if x.f3 = true then L else L.set p.toNat (goneX x) | none => L
def goneK (L : List X) (p : Int) : Int := match at_ L p with | some x => if x.f3 = true then 0 else 1 | none => 0
set_option maxHeartbeats 2000000 in
theorem Gone_calls (h : Mat w S g rb cp L) (p : Int) (b c : Nat) (hc : w.cell? ⟨b, 0, none⟩ = some (.int .i64 p)) : Calls Try.prog 11 #[.pointer (some ⟨g, 0, none⟩), .slice (some ⟨b, 0, none⟩) 1 c] w fun e w' => e = .returned (.int .i64 (goneK L p)) ∧ Mat w' S g rb cp (goneL L p) ∧ Beside S w w' := by
  have HM := Aside0.mk h
  cases hx : at_ L p with
  | none =>
    have OF := Aside0.mk (of_none h p (at_none hx))
    rw [show goneK L p = 0 by unfold goneK; rw [hx], show goneL L p = L by unfold goneL; rw [hx]]
    clear hx
    go_enter Try.func11, Try.ntmps11
    go_wp2_with fail
    go_loopg [5, 11] 1 (fun gg s5 s11 wr => ∃ i : Nat, s11 = .int .i64 i ∧ i ≤ 1 ∧ 1 - i ≤ gg ∧ s5 = .int .i64 0 ∧ wr = w)
    case atStart => exact ⟨0, rfl, by omega, by omega, rfl, rfl⟩
    case round =>
      obtain ⟨i, rfl, hi, hgg, rfl, rfl⟩ := hrel
      rcases Nat.lt_or_ge i 1 with hlt | hge
      · obtain rfl : i = 0 := by omega
        go_wp2_with fail
        refine OF.out.mono ?_
        rintro e w1 ⟨rfl, rfl⟩
        go_wp2_with fail
        go_roundg 0
        case measure => omega
        case rel => exact ⟨1, by go_num, by omega, by omega, rfl, rfl⟩
      · obtain rfl : i = 1 := by omega
        go_wp2_with fail
        go_ret
        exact ⟨rfl, HM.out, Beside.refl _ _⟩
  | some x =>
    obtain ⟨q, rfl, hq, hL⟩ := at_some hx
    have OF := Aside0.mk (of_calls h q hq)
    obtain ⟨A1, c1, A2, c2, ⟨k0, k1, k2, k3⟩, kf, r1, r2⟩ := h.elem hL
    have f3 := kf 3
    obtain ⟨gn, hgn⟩ : ∃ gn, x.f3 = gn := ⟨_, rfl⟩
    cases gn with
    | true =>
      rw [show goneK L q = 0 by unfold goneK; rw [hx]; exact if_pos hgn, show goneL L q = L by unfold goneL; rw [hx]; exact if_pos hgn]
      rw [hgn] at k3
      clear hx hL k0 k1 k2 kf
      go_enter Try.func11, Try.ntmps11
      go_wp2_with fail
      go_loopg [5, 11] 1 (fun gg s5 s11 wr => ∃ i : Nat, s11 = .int .i64 i ∧ i ≤ 1 ∧ 1 - i ≤ gg ∧ s5 = .int .i64 0 ∧ wr = w)
      case atStart => exact ⟨0, rfl, by omega, by omega, rfl, rfl⟩
      case round =>
        obtain ⟨i, rfl, hi, hgg, rfl, rfl⟩ := hrel
        rcases Nat.lt_or_ge i 1 with hlt | hge
        · obtain rfl : i = 0 := by omega
          go_wp2_with fail
          refine OF.out.mono ?_
          rintro e w1 ⟨rfl, rfl⟩
          go_wp2_with fail
          go_roundg 0
          case measure => omega
          case rel => exact ⟨1, by go_num, by omega, by omega, rfl, rfl⟩
        · obtain rfl : i = 1 := by omega
          go_wp2_with fail
          go_ret
          exact ⟨rfl, HM.out, Beside.refl _ _⟩
    | false =>
      rw [show goneK L q = 1 by unfold goneK; rw [hx]; exact if_neg (by simp [hgn]), show goneL L q = L.set q (goneX x) by unfold goneL; rw [hx]; dsimp only; rw [if_neg (by simp [hgn]), Int.toNat_natCast]]
      have hox := h.ok.row x (List.mem_of_getElem? hL)
      have SF := Aside0.mk (Mat.setF h (p := q) (x' := goneX x) hq (c := [.int .u64 x.f0, .slice A1 x.f1.length c1, .slice A2 x.f2.length c2, .bool x.f3]) rfl (fun j u hj => by
        match j, hj with
        | 0, hj => cases hj; exact k0
        | 1, hj => cases hj; exact k1
        | 2, hj => cases hj; exact k2
        | 3, hj => cases hj; exact k3) 3 [.bool true] (by show 3 + 1 ≤ 4; exact Nat.le_refl _) (k62_mkM _ _ _ (goneX x) (Kd.R_mono r1 (fun k hk => ⟨⟨hk.1, hk.2.1⟩, hk.2.2⟩)) (Kd.R_mono r2 (fun k hk => ⟨⟨hk.1, hk.2.1⟩, hk.2.2⟩))) ⟨hox.l1, hox.l2, hox.u0, hox.u1, hox.u2⟩)
      have SB : Aside0 (Beside S w (w.setCell ⟨rb, q * 4 + 3, none⟩ (.bool true))) := ⟨(Beside.refl S w).setCell (p := ⟨rb, q * 4 + 3, none⟩) h.S_rb.1 _⟩
      rw [hgn] at k3
      clear hx hL k0 k1 k2 kf r1 r2 hox
      go_enter Try.func11, Try.ntmps11
      go_wp2_with fail
      go_loopg [5, 11] 1 (fun gg s5 s11 wr => ∃ i : Nat, s11 = .int .i64 i ∧ i ≤ 1 ∧ 1 - i ≤ gg ∧ ((i = 0 ∧ s5 = .int .i64 0 ∧ wr = w) ∨ (i = 1 ∧ s5 = .int .i64 1 ∧ Aside0 (wr = w.setCell ⟨rb, q * 4 + 3, none⟩ (.bool true)))))
      case atStart => exact ⟨0, rfl, by omega, by omega, .inl ⟨rfl, rfl, rfl⟩⟩
      case round =>
        obtain ⟨i, rfl, hi, hgg, ⟨rfl, rfl, rfl⟩ | ⟨rfl, rfl, EW⟩⟩ := hrel
        · go_wp2_with fail
          refine OF.out.mono ?_
          rintro e w1 ⟨rfl, rfl⟩
          go_wp2_with fail
          go_roundg 0
          case measure => omega
          case rel => exact ⟨1, by go_num, by omega, by omega, .inr ⟨rfl, by go_num, ⟨rfl⟩⟩⟩
        · go_wp2_with fail
          go_ret
          rw [EW.out]
          exact ⟨rfl, SF.out, SB.out⟩
end

end Go.Proofs.Ytahdbiddpphepaa.Walk
