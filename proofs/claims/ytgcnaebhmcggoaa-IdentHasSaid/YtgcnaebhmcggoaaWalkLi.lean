/- List, in plain Lean. Conditions: none beyond the statement's own. -/
import Derived.Test.YtgcnaebhmcggoaaWalkP2
import Derived.Test.YtgcnaebhmcggoaaF28
import Derived.Test.YtgcnaebhmcggoaaArgs
import Derived.Deep.QuietTactic
import Derived.BigQuiet
import Derived.Lib.QuietBelow
import Derived.Outline
import Derived.Deep.RegionHeld3
import Derived.Deep.CutRange
namespace Go.Proofs.Ytgcnaebhmcggoaa.Walk
open Go.RowKit Go.Proofs.Ytgcnaebhmcggoaa.F Go.Proofs.YtgcnaebhmcggoaaW.PrintWords Go.Proofs.YtgcnaebhmcggoaaW.PrintLast Go.Proofs.YtgcnaebhmcggoaaW.PrintMore Go.Proofs.Ytgcnaebhmcggoaa.Open
open Go.Sort (grow)
attribute [local go_sem] max2_int min2_int max_two min_two max_three min_three max_four min_four
set_option linter.unusedVariables false
set_option linter.unusedSimpArgs false

/-! ### List -/
theorem identIds {L : List Rn} {idx : Nat} {r : Rn} (hr : L[idx]? = some r) (hi : isR r) (hm : L.length ≤ 1000000) : ∀ (e : Nat) (i : Int) (k' : Nat) (acc : List I), i + e = r.f2 → 0 ≤ i → acc.length + e < 1000000000 →
    ident_List.l1 (e + 1 + k') acc L (L.length : Int) (idx : Int) r.f2 i r.f0 r.f1 r.f2 = ident_List.l0 k' (acc ++ idsN r.f0 (r.f1 + i) e) L (L.length : Int) ((idx + 1 : Nat) : Int) := by
  have hlt : idx < L.length := (List.getElem?_eq_some_iff.1 hr).1
  obtain ⟨h0, h1, h2, h3, h4⟩ := hi
  have hw : wrap64 ((idx : Int) + 1) = ((idx + 1 : Nat) : Int) := by rw [i64w (by omega) (by omega)]; omega
  intro e
  induction e with
  | zero =>
    intro i k' acc hie hi0 hl
    rw [show 0 + 1 + k' = k' + 1 by omega]
    simp only [ident_List.l1]
    rw [if_neg (by omega), hw]
    simp [idsN]
  | succ e ih =>
    intro i k' acc hie hi0 hl
    rw [show e + 1 + 1 + k' = (e + 1 + k') + 1 by omega]
    rw [ident_List.l1]
    rw [if_pos (by omega), if_pos (by omega), u64w (x := r.f1 + i) (by omega) (by omega), u64w (x := i + 1) (by omega) (by omega)]
    rw [ih (i + 1) k' _ (by omega) (by omega) (by simp; omega), idsN, List.append_assoc]
    rw [show r.f1 + (i + 1) = r.f1 + i + 1 by omega]
    rfl
theorem identList_loop {L : List Rn} (hL : ∀ r ∈ L, okR r) (hm : L.length ≤ 1000000) : ∀ d i k (acc : List I), i + d = L.length → 2 * d + tot (L.drop i) < k → acc.length + tot (L.drop i) < 1000000000 →
    ident_List.l0 k acc L (L.length : Int) (i : Int) = some (if (L.drop i).all runI = true then acc ++ listF (L.drop i) else []) := by
  intro d
  induction d with
  | zero =>
    intro i k acc hi hk _
    obtain ⟨k, rfl⟩ : ∃ m, k = m + 1 := ⟨k - 1, by omega⟩
    simp only [ident_List.l0]
    rw [if_neg (by omega), List.drop_of_length_le (by omega)]
    simp [listF]
  | succ d ih =>
    intro i k acc hid hk hacc
    have hlt : i < L.length := by omega
    have hx : L[i]? = some L[i] := List.getElem?_eq_getElem hlt
    have hok := hL L[i] (List.getElem_mem hlt)
    rw [List.drop_eq_getElem_cons hlt] at hk hacc ⊢
    generalize L[i] = x at hx hok hk hacc ⊢
    cases hr : runI x with
    | false =>
      obtain ⟨k, rfl⟩ : ∃ m, k = m + 1 := ⟨k - 1, by omega⟩
      rw [ident_List.l0, if_pos (by omega), if_pos (by omega), if_pos (by omega), rdR hx, run_f, hr]
      simp [hr]
    | true =>
      have hi := (run_iff hok).1 hr
      simp only [tot, hr, if_true] at hk hacc
      have hi' := hi
      unfold isR at hi'
      obtain ⟨k', rfl⟩ : ∃ k', k = (x.f2.toNat + 1 + k') + 1 := ⟨k - (x.f2.toNat + 2), by omega⟩
      rw [ident_List.l0, if_pos (by omega), if_pos (by omega), if_pos (by omega), rdR hx, run_f, hr]
      simp only [Option.bind_some, if_true]
      rw [identIds hx hi hm x.f2.toNat 0 k' acc (by omega) (by omega) (by omega)]
      rw [ih (i + 1) k' _ (by omega) (by omega) (by rw [List.length_append, idsN_len]; omega), listF, Int.add_zero]
      simp only [List.all_cons, hr, Bool.true_and, List.append_assoc]
      rfl
theorem identList_eq {L : List Rn} (hL : ∀ r ∈ L, okR r) (hm : L.length ≤ 1000) {most : Int} (h1 : most ≤ 1000) {k : Nat} (hk : 10000 < k) : ident_List.f k most L = some (listA most L) := by
  unfold ident_List.f listA
  obtain ⟨k, rfl⟩ : ∃ m, k = m + 1 := ⟨k - 1, by omega⟩
  by_cases h0 : most < 0
  · rw [if_pos h0, if_pos h0]
    simp [ident_List.j0]
  · rw [if_neg h0, if_neg h0, identCount_eq hL (by omega) (by omega)]
    simp only [Option.bind_some]
    rw [u64w (by omega) (by omega)]
    by_cases h2 : cntF L > most
    · rw [if_pos h2, decide_eq_true h2]
      simp [ident_List.j0]
    · rw [if_neg h2, decide_eq_false h2]
      simp only [ident_List.j0, Bool.false_eq_true, if_false]
      have ht := cntF_tot hL (m := most) (by omega) (by omega)
      have h' := identList_loop hL (by omega) L.length 0 k [] (by omega) (by simp; omega) (by simp; omega)
      simpa using h'

end Go.Proofs.Ytgcnaebhmcggoaa.Walk
