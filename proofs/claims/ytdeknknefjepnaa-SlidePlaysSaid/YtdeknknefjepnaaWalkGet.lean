/- How much waits in a window, how much room there is, and which numbers are its first and last. Conditions: none beyond the statement's own. -/
import Derived.Test.YtdeknknefjepnaaWalkOwn
import Derived.Test.YtdeknknefjepnaaArgs
import Derived.Deep.QuietTactic
import Derived.BigQuiet
import Derived.Lib.QuietBelow
import Derived.Outline
import Derived.Deep.RegionHeld3
import Derived.Deep.CutRange
namespace Go.Proofs.Ytdeknknefjepnaa.Walk
open Go.RowKit Go.Proofs.Ytdeknknefjepnaa.F Go.Proofs.YtdeknknefjepnaaW.PrintWords Go.Proofs.YtdeknknefjepnaaW.PrintLast Go.Proofs.YtdeknknefjepnaaW.PrintMore Go.Proofs.Ytdeknknefjepnaa.Open
open Go.Sort (grow)
attribute [local go_sem] max2_int min2_int max_two min_two max_three min_three max_four min_four
set_option linter.unusedVariables false
set_option linter.unusedSimpArgs false

/-! ### The window's small functions -/
theorem quiet_of {P : Program} {f : FuncId} {args : Array Value} {w : World} {n : Nat} {v : Value} (h : Calls P f args (w.drewN n) fun e w' => e = .returned v ∧ ∃ q, w' = (w.drewN n).drewN q) : Calls P f args (w.drewN n) fun e w'' => e = .returned v ∧ ∃ m, w'' = w.drewN m :=
  h.mono fun _ _ ⟨he, q, hq⟩ => ⟨he, n + q, hq.trans (World.drewN_drewN _ _ _)⟩
theorem at_calls (g rb cap n : Nat) (m : Int) (w : World) (hc : w.cell? ⟨g, 0, none⟩ = some (.slice (some ⟨rb, 0, none⟩) n cap)) (h1 : 1 ≤ n) (h2 : n ≤ 64) (hm : 0 ≤ m) (i : Nat) (hi : m % (n : Int) = (i : Int)) :
    Calls Try.prog 24 #[.pointer (some ⟨g, 0, none⟩), .int .u64 m] w fun e w' => e = .returned (.pointer (some ⟨rb, i * 16, none⟩)) ∧ ∃ q, w' = w.drewN q := by
  have e1 : IntKind.u64.wrap (n : Int) = n := wu64 (by omega) (by omega)
  have e2 := Int.emod_nonneg m (show (n : Int) ≠ 0 by omega)
  have e3 := Int.emod_lt_of_pos m (show (0 : Int) < n by omega)
  have e4 : ((n : Int) == 0) = false := beq_eq_false_iff_ne.2 (by omega)
  have hin : i < n := by omega
  have p1 : ((i : Int) < (n : Int)) = True := eq_true (by omega)
  go_enter Try.func24, Try.ntmps24
  go_wp2
  go_quiet (fail)
  go_wp2
  go_ret
  exact ⟨rfl, ⟨_, rfl⟩⟩
theorem Waits_calls {S : Nat → Prop} {g n : Nat} {last : Int} {L : List Fr} {w : World} (h : Win w S g n last L) :
    Calls Try.prog 16 #[.pointer (some ⟨g, 0, none⟩)] w fun e w' => e = .returned (.int .i64 L.length) ∧ ∃ q, w' = w.drewN q := by
  obtain ⟨⟨n1, n64, le, fit, big, _⟩, h2, ring, rb, cap, h3, h4, h5, h6⟩ := h
  have c1 : w.cell? ⟨g, 1, none⟩ = some (.int .u64 (last + 1 - L.length)) := (blk_cell h3 1).trans rfl
  have c2 : w.cell? ⟨g, 2, none⟩ = some (.int .u64 last) := (blk_cell h3 2).trans rfl
  clear h2 h3 h4 h5 h6
  have e1 : IntKind.u64.wrap (last + 1) = last + 1 := wu64 (by omega) (by omega)
  have e2 : IntKind.u64.wrap (last + 1 - (last + 1 - L.length)) = L.length := by rw [wu64 (by omega) (by omega)]; omega
  have e3 : wrap64 (L.length : Int) = L.length := w64 (by omega) (by omega)
  go_enter Try.func16, Try.ntmps16
  go_wp2
  go_quiet (fail)
  go_wp2
  go_ret
  exact ⟨rfl, ⟨_, rfl⟩⟩
theorem Room_calls {S : Nat → Prop} {g n : Nat} {last : Int} {L : List Fr} {w : World} (h : Win w S g n last L) :
    Calls Try.prog 17 #[.pointer (some ⟨g, 0, none⟩)] w fun e w' => e = .returned (.int .i64 (n - L.length)) ∧ ∃ q, w' = w.drewN q := by
  have HW := fun q => Waits_calls (w := w.drewN q) (h.below (pw_below_drewN (Below.refl _ _) q))
  have H1 := Aside0.mk HW
  obtain ⟨⟨n1, n64, le, fit, big, _⟩, h2, ring, rb, cap, h3, h4, h5, h6⟩ := h
  have c0 : w.cell? ⟨g, 0, none⟩ = some (.slice (some ⟨rb, 0, none⟩) n cap) := (blk_cell h3 0).trans rfl
  clear h2 h3 h4 h5 h6 HW
  have e3 : wrap64 ((n : Int) - L.length) = n - L.length := w64 (by omega) (by omega)
  go_enter Try.func17, Try.ntmps17
  go_wp2_with fail
  go_quiet ((go_at_call 16; exact quiet_of (H1.out _)))
  go_wp2
  go_ret
  exact ⟨rfl, ⟨_, rfl⟩⟩
theorem First_calls {S : Nat → Prop} {g n : Nat} {last : Int} {L : List Fr} {w : World} (h : Win w S g n last L) :
    Calls Try.prog 18 #[.pointer (some ⟨g, 0, none⟩)] w fun e w' => e = .returned (.int .u64 (last + 1 - L.length)) ∧ w' = w := by
  obtain ⟨_, h2, ring, rb, cap, h3, h4, h5, h6⟩ := h
  have c1 : w.cell? ⟨g, 1, none⟩ = some (.int .u64 (last + 1 - L.length)) := (blk_cell h3 1).trans rfl
  clear h2 h3 h4 h5 h6
  go_enter Try.func18, Try.ntmps18
  go_wp2
  go_ret
  exact ⟨rfl, rfl⟩
theorem Last_calls {S : Nat → Prop} {g n : Nat} {last : Int} {L : List Fr} {w : World} (h : Win w S g n last L) :
    Calls Try.prog 20 #[.pointer (some ⟨g, 0, none⟩)] w fun e w' => e = .returned (.int .u64 last) ∧ w' = w := by
  obtain ⟨_, h2, ring, rb, cap, h3, h4, h5, h6⟩ := h
  have c2 : w.cell? ⟨g, 2, none⟩ = some (.int .u64 last) := (blk_cell h3 2).trans rfl
  clear h2 h3 h4 h5 h6
  go_enter Try.func20, Try.ntmps20
  go_wp2
  go_ret
  exact ⟨rfl, rfl⟩

end Go.Proofs.Ytdeknknefjepnaa.Walk
