/- The document's List, in plain Lean. Conditions: none beyond the statement's own. -/
import Derived.Test.YtgcnaebhmcggoaaWalkP2
import Derived.Test.YtgcnaebhmcggoaaF18
import Derived.Test.YtgcnaebhmcggoaaF16
import Derived.Test.YtgcnaebhmcggoaaArgs
import Derived.Deep.QuietTactic
import Derived.BigQuiet
import Derived.Lib.QuietBelow
import Derived.Outline
import Derived.Deep.RegionHeld3
import Derived.Deep.CutRange
namespace Go.Proofs.Ytgcnaebhmcggoaa.Walk
open Go.RowKit Go.Proofs.Ytgcnaebhmcggoaa.F Go.Proofs.YtgcnaebhmcggoaaW.PrintWords Go.Proofs.YtgcnaebhmcggoaaW.PrintLast Go.Proofs.YtgcnaebhmcggoaaW.PrintMore Go.Proofs.Ytgcnaebhmcggoaa.Open
open Go.Sort (grow)
attribute [local go_sem] max2_int min2_int max_two min_two max_three min_three max_four min_four
set_option linter.unusedVariables false
set_option linter.unusedSimpArgs false

/-! ### the document's List -/
theorem refIds {L : List Rn} {idx : Nat} {r : Rn} (hr : L[idx]? = some r) (hi : isR r) (hm : L.length ≤ 1000000) : ∀ (e : Nat) (i : Int) (k' : Nat) (acc : List I), i + e = r.f2 → 0 ≤ i → acc.length + e < 1000000000 →
    unisonref03_List.l2 (e + 1 + k') L acc (idx : Int) i (L.length : Int) (idx : Int) = unisonref03_List.l1 k' L (acc ++ idsN r.f0 (r.f1 + i) e) (L.length : Int) ((idx + 1 : Nat) : Int) := by
  have hlt : idx < L.length := (List.getElem?_eq_some_iff.1 hr).1
  obtain ⟨h0, h1, h2, h3, h4⟩ := hi
  have hw : wrap64 ((idx : Int) + 1) = ((idx + 1 : Nat) : Int) := by rw [i64w (by omega) (by omega)]; omega
  intro e
  induction e with
  | zero =>
    intro i k' acc hie hi0 hl
    rw [show 0 + 1 + k' = k' + 1 by omega]
    simp only [unisonref03_List.l2]
    rw [if_pos (by omega), if_pos (by omega), rdR hr, if_neg (by omega), hw]
    simp [idsN]
  | succ e ih =>
    intro i k' acc hie hi0 hl
    rw [show e + 1 + 1 + k' = (e + 1 + k') + 1 by omega]
    rw [unisonref03_List.l2]
    rw [if_pos (by omega), if_pos (by omega), rdR hr, if_pos (by omega), if_pos (by omega), u64w (x := r.f1 + i) (by omega) (by omega), u64w (x := i + 1) (by omega) (by omega)]
    rw [ih (i + 1) k' _ (by omega) (by omega) (by simp; omega), idsN, List.append_assoc]
    rw [show r.f1 + (i + 1) = r.f1 + i + 1 by omega]
    rfl
theorem refList_loop1 {L : List Rn} (hL : ∀ r ∈ L, isR r ∧ okR r) (hm : L.length ≤ 1000000) : ∀ d i k (acc : List I), i + d = L.length → 2 * d + tot (L.drop i) < k → acc.length + tot (L.drop i) < 1000000000 →
    unisonref03_List.l1 k L acc (L.length : Int) (i : Int) = some (acc ++ listF (L.drop i)) := by
  intro d
  induction d with
  | zero =>
    intro i k acc hi hk _
    obtain ⟨k, rfl⟩ : ∃ m, k = m + 1 := ⟨k - 1, by omega⟩
    simp only [unisonref03_List.l1]
    rw [if_neg (by omega), List.drop_of_length_le (by omega)]
    simp [listF]
  | succ d ih =>
    intro i k acc hid hk hacc
    have hlt : i < L.length := by omega
    have hx : L[i]? = some L[i] := List.getElem?_eq_getElem hlt
    obtain ⟨hi, hok⟩ := hL L[i] (List.getElem_mem hlt)
    rw [List.drop_eq_getElem_cons hlt] at hk hacc ⊢
    generalize L[i] = x at hx hok hi hk hacc ⊢
    have hr := (run_iff hok).2 hi
    simp only [tot, hr, if_true] at hk hacc
    have hi' := hi
    unfold isR at hi'
    obtain ⟨k', rfl⟩ : ∃ k', k = (x.f2.toNat + 1 + k') + 1 := ⟨k - (x.f2.toNat + 2), by omega⟩
    rw [unisonref03_List.l1, if_pos (by omega)]
    rw [refIds hx hi hm x.f2.toNat 0 k' acc (by omega) (by omega) (by omega)]
    rw [ih (i + 1) k' _ (by omega) (by omega) (by rw [List.length_append, idsN_len]; omega), listF, Int.add_zero, List.append_assoc]
    rfl
theorem refList_loop0 {L : List Rn} (hL : ∀ r ∈ L, okR r) (hm : L.length ≤ 1000000) (acc : List I) : ∀ d i k, i + d = L.length → d < k → (L.drop i).all runI = false → unisonref03_List.l0 k L acc (L.length : Int) (i : Int) = some [] := by
  intro d
  induction d with
  | zero =>
    intro i k hi hk ha
    rw [List.drop_of_length_le (by omega)] at ha
    cases ha
  | succ d ih =>
    intro i k hid hk ha
    obtain ⟨k, rfl⟩ : ∃ m, k = m + 1 := ⟨k - 1, by omega⟩
    have hlt : i < L.length := by omega
    have hx : L[i]? = some L[i] := List.getElem?_eq_getElem hlt
    have hok := hL L[i] (List.getElem_mem hlt)
    rw [List.drop_eq_getElem_cons hlt] at ha
    generalize L[i] = x at hx hok ha
    have hw : wrap64 ((i : Int) + 1) = ((i + 1 : Nat) : Int) := by rw [i64w (by omega) (by omega)]; omega
    simp only [unisonref03_List.l0]
    rw [if_pos (by omega), if_pos (by omega), if_pos (by omega), rdR hx, refRun hok, hw]
    simp only [Option.bind_some]
    cases hr : runI x with
    | false => simp
    | true =>
      rw [if_pos rfl]
      simp only [List.all_cons, hr, Bool.true_and] at ha
      exact ih (i + 1) k (by omega) (by omega) ha
theorem refList_loop0' {L : List Rn} (hL : ∀ r ∈ L, okR r) (hm : L.length ≤ 1000000) (acc : List I) : ∀ d i k', i + d = L.length → (L.drop i).all runI = true → unisonref03_List.l0 (d + 1 + k') L acc (L.length : Int) (i : Int) = unisonref03_List.l1 k' L acc (L.length : Int) 0 := by
  intro d
  induction d with
  | zero =>
    intro i k' hi ha
    rw [show 0 + 1 + k' = k' + 1 by omega]
    simp only [unisonref03_List.l0]
    rw [if_neg (by omega)]
  | succ d ih =>
    intro i k' hid ha
    rw [show d + 1 + 1 + k' = (d + 1 + k') + 1 by omega]
    have hlt : i < L.length := by omega
    have hx : L[i]? = some L[i] := List.getElem?_eq_getElem hlt
    have hok := hL L[i] (List.getElem_mem hlt)
    rw [List.drop_eq_getElem_cons hlt] at ha
    generalize L[i] = x at hx hok ha
    simp only [List.all_cons, Bool.and_eq_true] at ha
    have hw : wrap64 ((i : Int) + 1) = ((i + 1 : Nat) : Int) := by rw [i64w (by omega) (by omega)]; omega
    rw [unisonref03_List.l0]
    rw [if_pos (by omega), if_pos (by omega), if_pos (by omega), rdR hx, refRun hok, hw, ha.1]
    simp only [Option.bind_some, if_true]
    exact ih (i + 1) k' (by omega) ha.2
theorem refList_eq {L : List Rn} (hL : ∀ r ∈ L, okR r) (hm : L.length ≤ 1000) {most : Int} (h1 : most ≤ 1000) {k : Nat} (hk : 10000 < k) : unisonref03_List.f k most L = some (listA most L) := by
  unfold unisonref03_List.f listA
  simp only [Option.bind_some]
  obtain ⟨k, rfl⟩ : ∃ m, k = m + 1 := ⟨k - 1, by omega⟩
  by_cases h0 : most < 0
  · rw [if_pos h0, if_pos h0]
    simp [unisonref03_List.j0]
  · rw [if_neg h0, if_neg h0, refCount_eq hL (by omega) (by omega)]
    simp only [Option.bind_some]
    rw [u64w (by omega) (by omega)]
    by_cases h2 : cntF L > most
    · rw [if_pos h2, decide_eq_true h2]
      simp [unisonref03_List.j0]
    · rw [if_neg h2, decide_eq_false h2]
      simp only [unisonref03_List.j0, Bool.false_eq_true, if_false]
      have ht := cntF_tot hL (m := most) (by omega) (by omega)
      cases ha : L.all runI with
      | false => exact refList_loop0 hL (by omega) [] L.length 0 k (by omega) (by omega) ha
      | true =>
        have hall : ∀ r ∈ L, isR r ∧ okR r := fun r hr => ⟨(run_iff (hL r hr)).1 (List.all_eq_true.1 ha r hr), hL r hr⟩
        obtain ⟨k', rfl⟩ : ∃ k', k = L.length + 1 + k' := ⟨k - (L.length + 1), by omega⟩
        have h := refList_loop0' hL (by omega) [] L.length 0 k' (by omega) ha
        have h' := refList_loop1 hall (by omega) L.length 0 k' [] (by omega) (by simp; omega) (by simp; omega)
        simp only [Int.ofNat_zero, Int.natCast_zero, List.drop_zero, List.nil_append] at h h'
        rw [h]
        simpa using h'
theorem sameIDs_self {L : List I} (hm : L.length ≤ 1000000) {k : Nat} (hk : L.length < k) : unisonref03_SameIDs.f k L L = some true := by
  have loop : ∀ d i k, i + d = L.length → d < k → unisonref03_SameIDs.l0 k L L (L.length : Int) (i : Int) = some true := by
    intro d
    induction d with
    | zero =>
      intro i k hi hk
      obtain ⟨k, rfl⟩ : ∃ m, k = m + 1 := ⟨k - 1, by omega⟩
      simp only [unisonref03_SameIDs.l0]
      rw [if_neg (by omega)]
    | succ d ih =>
      intro i k hid hk
      obtain ⟨k, rfl⟩ : ∃ m, k = m + 1 := ⟨k - 1, by omega⟩
      have hw : wrap64 ((i : Int) + 1) = ((i + 1 : Nat) : Int) := by rw [i64w (by omega) (by omega)]; omega
      simp only [unisonref03_SameIDs.l0]
      rw [if_pos (by omega), if_pos (by omega), if_pos (by omega), if_pos (by omega), hw, ih (i + 1) k (by omega) (by omega)]
      simp
  unfold unisonref03_SameIDs.f
  rw [if_pos rfl]
  exact loop L.length 0 k (by omega) hk

end Go.Proofs.Ytgcnaebhmcggoaa.Walk
