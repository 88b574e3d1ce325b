/- A process of the matrix, who is gone. Conditions: none beyond the statement's own. -/
import Derived.Test.YtncofecfljocgaaWalkMat
import Derived.Test.YtncofecfljocgaaArgs
import Derived.Deep.QuietTactic
import Derived.BigQuiet
import Derived.Lib.QuietBelow
import Derived.Outline
import Derived.Deep.RegionHeld3
import Derived.Deep.CutRange
namespace Go.Proofs.Ytncofecfljocgaa.Walk
open Go.RowKit Go.Proofs.Ytncofecfljocgaa.F Go.Proofs.YtncofecfljocgaaW.PrintWords Go.Proofs.YtncofecfljocgaaW.PrintLast Go.Proofs.YtncofecfljocgaaW.PrintMore Go.Proofs.Ytncofecfljocgaa.Open
open Go.Sort (grow)
attribute [local go_sem] max2_int min2_int max_two min_two max_three min_three max_four min_four
set_option linter.unusedVariables false
set_option linter.unusedSimpArgs false

/-! ### A process of the matrix; who is gone -/
def at_ (L : List X) (p : Int) : Option X := if 0 ≤ p then L[p.toNat]? else none
theorem at_some {L : List X} {p : Int} {x : X} (h : at_ L p = some x) : ∃ q : Nat, p = q ∧ q < L.length ∧ L[q]? = some x := by
  unfold at_ at h
  by_cases h0 : 0 ≤ p
  · rw [if_pos h0] at h
    exact ⟨p.toNat, by omega, (List.getElem?_eq_some_iff.1 h).1, h⟩
  · rw [if_neg h0] at h
    cases h
theorem at_none {L : List X} {p : Int} (h : at_ L p = none) : p < 0 ∨ (L.length : Int) ≤ p := by
  unfold at_ at h
  by_cases h0 : 0 ≤ p
  · rw [if_pos h0] at h
    have := List.getElem?_eq_none_iff.1 h
    omega
  · omega
section
variable {w : World} {S : Nat → Prop} {g rb cp : Nat} {L : List X}
def goneX (x : X) : X := ⟨x.f0, x.f1, x.f2, true⟩
def goneL (L : List X) (p : Int) : List X := match at_ L p with | some x => if x.f3 = true then L else L.set p.toNat (goneX x) | none => L
def goneK (L : List X) (p : Int) : Int := match at_ L p with | some x => if x.f3 = true then 0 else 1 | none => 0
set_option maxHeartbeats 2000000 in
theorem Gone_calls (h : Mat w S g rb cp L) (p : Int) (b c : Nat) (hc : w.cell? ⟨b, 0, none⟩ = some (.int .i64 p)) : Calls Try.prog 14 #[.pointer (some ⟨g, 0, none⟩), .slice (some ⟨b, 0, none⟩) 1 c] w fun e w' => e = .returned (.int .i64 (goneK L p)) ∧ Mat w' S g rb cp (goneL L p) ∧ Beside S w w' := by
  have HM := Aside0.mk h
  cases hx : at_ L p with
  | none =>
    have OF := Aside0.mk (of_none h p (at_none hx))
    rw [show goneK L p = 0 by unfold goneK; rw [hx], show goneL L p = L by unfold goneL; rw [hx]]
    clear hx
    go_enter Try.func14, Try.ntmps14
    go_wp2_with fail
    go_loopg [5, 11] 1 (fun gg s5 s11 wr => ∃ i : Nat, s11 = .int .i64 i ∧ i ≤ 1 ∧ 1 - i ≤ gg ∧ s5 = .int .i64 0 ∧ wr = w)
    case atStart => exact ⟨0, rfl, by omega, by omega, rfl, rfl⟩
    case round =>
      obtain ⟨i, rfl, hi, hgg, rfl, rfl⟩ := hrel
      rcases Nat.lt_or_ge i 1 with hlt | hge
      · obtain rfl : i = 0 := by omega
        go_wp2_with fail
        refine OF.out.mono ?_
        rintro e w1 ⟨rfl, rfl⟩
        go_wp2_with fail
        go_roundg 0
        case measure => omega
        case rel => exact ⟨1, by go_num, by omega, by omega, rfl, rfl⟩
      · obtain rfl : i = 1 := by omega
        go_wp2_with fail
        go_ret
        exact ⟨rfl, HM.out, Beside.refl _ _⟩
  | some x =>
    obtain ⟨q, rfl, hq, hL⟩ := at_some hx
    have OF := Aside0.mk (of_calls h q hq)
    obtain ⟨A1, c1, A2, c2, ⟨k0, k1, k2, k3⟩, kf, r1, r2⟩ := h.elem hL
    have f3 := kf 3
    obtain ⟨gn, hgn⟩ : ∃ gn, x.f3 = gn := ⟨_, rfl⟩
    cases gn with
    | true =>
      rw [show goneK L q = 0 by unfold goneK; rw [hx]; exact if_pos hgn, show goneL L q = L by unfold goneL; rw [hx]; exact if_pos hgn]
      rw [hgn] at k3
      clear hx hL k0 k1 k2 kf
      go_enter Try.func14, Try.ntmps14
      go_wp2_with fail
      go_loopg [5, 11] 1 (fun gg s5 s11 wr => ∃ i : Nat, s11 = .int .i64 i ∧ i ≤ 1 ∧ 1 - i ≤ gg ∧ s5 = .int .i64 0 ∧ wr = w)
      case atStart => exact ⟨0, rfl, by omega, by omega, rfl, rfl⟩
      case round =>
        obtain ⟨i, rfl, hi, hgg, rfl, rfl⟩ := hrel
        rcases Nat.lt_or_ge i 1 with hlt | hge
        · obtain rfl : i = 0 := by omega
          go_wp2_with fail
          refine OF.out.mono ?_
          rintro e w1 ⟨rfl, rfl⟩
          go_wp2_with fail
          go_roundg 0
          case measure => omega
          case rel => exact ⟨1, by go_num, by omega, by omega, rfl, rfl⟩
        · obtain rfl : i = 1 := by omega
          go_wp2_with fail
          go_ret
          exact ⟨rfl, HM.out, Beside.refl _ _⟩
    | false =>
      rw [show goneK L q = 1 by unfold goneK; rw [hx]; exact if_neg (by simp [hgn]), show goneL L q = L.set q (goneX x) by unfold goneL; rw [hx]; dsimp only; rw [if_neg (by simp [hgn]), Int.toNat_natCast]]
      have hox := h.ok.row x (List.mem_of_getElem? hL)
      have SF := Aside0.mk (Mat.setF h (p := q) (x' := goneX x) hq (c := [.int .u64 x.f0, .slice A1 x.f1.length c1, .slice A2 x.f2.length c2, .bool x.f3]) rfl (fun j u hj => by
        match j, hj with
        | 0, hj => cases hj; exact k0
        | 1, hj => cases hj; exact k1
        | 2, hj => cases hj; exact k2
        | 3, hj => cases hj; exact k3) 3 [.bool true] (by show 3 + 1 ≤ 4; exact Nat.le_refl _) (k65_mkM _ _ _ (goneX x) (Kd.R_mono r1 (fun k hk => ⟨⟨hk.1, hk.2.1⟩, hk.2.2⟩)) (Kd.R_mono r2 (fun k hk => ⟨⟨hk.1, hk.2.1⟩, hk.2.2⟩))) ⟨hox.l1, hox.l2, hox.u0, hox.u1, hox.u2⟩)
      have SB : Aside0 (Beside S w (w.setCell ⟨rb, q * 4 + 3, none⟩ (.bool true))) := ⟨(Beside.refl S w).setCell (p := ⟨rb, q * 4 + 3, none⟩) h.S_rb.1 _⟩
      rw [hgn] at k3
      clear hx hL k0 k1 k2 kf r1 r2 hox
      go_enter Try.func14, Try.ntmps14
      go_wp2_with fail
      go_loopg [5, 11] 1 (fun gg s5 s11 wr => ∃ i : Nat, s11 = .int .i64 i ∧ i ≤ 1 ∧ 1 - i ≤ gg ∧ ((i = 0 ∧ s5 = .int .i64 0 ∧ wr = w) ∨ (i = 1 ∧ s5 = .int .i64 1 ∧ Aside0 (wr = w.setCell ⟨rb, q * 4 + 3, none⟩ (.bool true)))))
      case atStart => exact ⟨0, rfl, by omega, by omega, .inl ⟨rfl, rfl, rfl⟩⟩
      case round =>
        obtain ⟨i, rfl, hi, hgg, ⟨rfl, rfl, rfl⟩ | ⟨rfl, rfl, EW⟩⟩ := hrel
        · go_wp2_with fail
          refine OF.out.mono ?_
          rintro e w1 ⟨rfl, rfl⟩
          go_wp2_with fail
          go_roundg 0
          case measure => omega
          case rel => exact ⟨1, by go_num, by omega, by omega, .inr ⟨rfl, by go_num, ⟨rfl⟩⟩⟩
        · go_wp2_with fail
          go_ret
          rw [EW.out]
          exact ⟨rfl, SF.out, SB.out⟩
end

end Go.Proofs.Ytncofecfljocgaa.Walk
