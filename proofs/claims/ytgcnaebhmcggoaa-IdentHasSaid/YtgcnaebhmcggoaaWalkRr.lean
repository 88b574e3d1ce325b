/- The document's Rows, in plain Lean. Conditions: none beyond the statement's own. -/
import Derived.Test.YtgcnaebhmcggoaaWalkP2
import Derived.Test.YtgcnaebhmcggoaaF15
import Derived.Test.YtgcnaebhmcggoaaArgs
import Derived.Deep.QuietTactic
import Derived.BigQuiet
import Derived.Lib.QuietBelow
import Derived.Outline
import Derived.Deep.RegionHeld3
import Derived.Deep.CutRange
namespace Go.Proofs.Ytgcnaebhmcggoaa.Walk
open Go.RowKit Go.Proofs.Ytgcnaebhmcggoaa.F Go.Proofs.YtgcnaebhmcggoaaW.PrintWords Go.Proofs.YtgcnaebhmcggoaaW.PrintLast Go.Proofs.YtgcnaebhmcggoaaW.PrintMore Go.Proofs.Ytgcnaebhmcggoaa.Open
open Go.Sort (grow)
attribute [local go_sem] max2_int min2_int max_two min_two max_three min_three max_four min_four
set_option linter.unusedVariables false
set_option linter.unusedSimpArgs false

/-! ### the document's Rows -/
theorem refRows_loop {L : List Rn} (hL : ∀ r ∈ L, okR r) (hm : L.length ≤ 1000000) : ∀ d i k, i + d = L.length → d < k → (i = 0 ∨ ∃ p, L[i - 1]? = some p ∧ isR p) → unisonref03_Rows.l0 k L (L.length : Int) (i : Int) = some (rowsA (prev L i) (L.drop i)) := by
  intro d
  induction d with
  | zero =>
    intro i k hi hk _
    obtain ⟨k, rfl⟩ : ∃ m, k = m + 1 := ⟨k - 1, by omega⟩
    simp only [unisonref03_Rows.l0]
    rw [if_neg (by omega), List.drop_of_length_le (by omega)]
    cases prev L i <;> rfl
  | succ d ih =>
    intro i k hi hk hp
    obtain ⟨k, rfl⟩ : ∃ m, k = m + 1 := ⟨k - 1, by omega⟩
    have hlt : i < L.length := by omega
    have hx : L[i]? = some L[i] := List.getElem?_eq_getElem hlt
    have hok := hL L[i] (List.getElem_mem hlt)
    rw [List.drop_eq_getElem_cons hlt]
    have hst := rdR hx
    generalize L[i] = x at hx hok hst ⊢
    have hw : wrap64 ((i : Int) + 1) = ((i + 1 : Nat) : Int) := by rw [i64w (by omega) (by omega)]; omega
    simp only [unisonref03_Rows.l0]
    rw [if_pos (by omega), if_pos (by omega), if_pos (by omega), hst, refRun hok]
    simp only [Option.bind_some]
    cases hr : runI x with
    | false =>
      cases prev L i <;> simp [rowsA, hr]
    | true =>
      have hi1 := (run_iff hok).1 hr
      have hih := ih (i + 1) k (by omega) (by omega) (.inr ⟨x, by simpa using hx, hi1⟩)
      have hpv : prev L (i + 1) = some x := by unfold prev; rw [if_neg (by omega)]; simpa using hx
      rw [hpv] at hih
      rw [if_pos rfl]
      by_cases h0 : i = 0
      · subst h0
        rw [if_neg (by simp), hw, hih]
        simp [rowsA, prev, hr]
      · obtain ⟨p, hpx, hpr⟩ := hp.resolve_left h0
        have hw1 : wrap64 ((i : Int) - 1) = ((i - 1 : Nat) : Int) := by rw [i64w (by omega) (by omega)]; omega
        have hp1 : prev L i = some p := by unfold prev; rw [if_neg h0]; exact hpx
        rw [if_pos (by omega), hw1, if_pos (by omega), if_pos (by omega), rdR hpx, hw, hih, hp1, refLast hpr]
        obtain ⟨p0, p1, p2, p3, p4⟩ := hpr
        simp only [Option.bind_some]
        rw [u64w (x := p.f1 + p.f2 - 1 + 1) (by omega) (by omega)]
        simp only [rowsA, hr, Bool.true_and]
        by_cases c1 : x.f0 < p.f0
        · rw [if_pos c1, show after p x = false from decide_eq_false (by omega)]
          rfl
        · rw [if_neg c1]
          by_cases c2 : x.f0 = p.f0
          · rw [if_pos c2]
            by_cases c3 : x.f1 ≤ p.f1 + p.f2 - 1 + 1
            · rw [if_pos c3, show after p x = false from decide_eq_false (by omega)]
              rfl
            · rw [if_neg c3, show after p x = true from decide_eq_true (by omega), Bool.true_and]
          · rw [if_neg c2, show after p x = true from decide_eq_true (by omega), Bool.true_and]
theorem refRows_eq {L : List Rn} (hL : ∀ r ∈ L, okR r) (hm : L.length ≤ 1000000) {k : Nat} (hk : L.length < k) : unisonref03_Rows.f k L = some (rowsF L) :=
  refRows_loop hL hm L.length 0 k (by omega) hk (.inl rfl)

end Go.Proofs.Ytgcnaebhmcggoaa.Walk
