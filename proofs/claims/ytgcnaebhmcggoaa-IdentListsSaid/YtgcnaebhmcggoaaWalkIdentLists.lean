/- The ids of any runs, or none, are the document's; and rows are joined of their own ids. Conditions: none beyond the statement's own. -/
import Derived.Test.YtgcnaebhmcggoaaWalkP4
import Derived.Test.YtgcnaebhmcggoaaWalkRr
import Derived.Test.YtgcnaebhmcggoaaWalkLr
import Derived.Test.YtgcnaebhmcggoaaWalkLi
import Derived.Test.YtgcnaebhmcggoaaF29
import Derived.Test.YtgcnaebhmcggoaaF30
import Derived.Test.YtgcnaebhmcggoaaArgs
import Derived.Deep.QuietTactic
import Derived.BigQuiet
import Derived.Lib.QuietBelow
import Derived.Outline
import Derived.Deep.RegionHeld3
import Derived.Deep.CutRange
namespace Go.Proofs.Ytgcnaebhmcggoaa.Walk
open Go.RowKit Go.Proofs.Ytgcnaebhmcggoaa.F Go.Proofs.YtgcnaebhmcggoaaW.PrintWords Go.Proofs.YtgcnaebhmcggoaaW.PrintLast Go.Proofs.YtgcnaebhmcggoaaW.PrintMore Go.Proofs.Ytgcnaebhmcggoaa.Open
open Go.Sort (grow)
attribute [local go_sem] max2_int min2_int max_two min_two max_three min_three max_four min_four
set_option linter.unusedVariables false
set_option linter.unusedSimpArgs false

theorem same_self {L : List Rn} (hm : L.length ≤ 1000000) {k : Nat} (hk : L.length < k) : unisonref03_Same.f k L L = some true := by
  have loop : ∀ d i k, i + d = L.length → d < k → unisonref03_Same.l0 k L L (L.length : Int) (i : Int) = some true := by
    intro d
    induction d with
    | zero =>
      intro i k hi hk
      obtain ⟨k, rfl⟩ : ∃ m, k = m + 1 := ⟨k - 1, by omega⟩
      simp only [unisonref03_Same.l0]
      rw [if_neg (by omega)]
    | succ d ih =>
      intro i k hid hk
      obtain ⟨k, rfl⟩ : ∃ m, k = m + 1 := ⟨k - 1, by omega⟩
      have hw : wrap64 ((i : Int) + 1) = ((i + 1 : Nat) : Int) := by rw [i64w (by omega) (by omega)]; omega
      simp only [unisonref03_Same.l0]
      rw [if_pos (by omega), if_pos (by omega), if_pos (by omega), if_pos (by omega), hw, ih (i + 1) k (by omega) (by omega)]
      simp
  unfold unisonref03_Same.f
  rw [if_pos rfl]
  exact loop L.length 0 k (by omega) hk
theorem lists_eq {l : List Rn} (ho : ∀ r ∈ l, okR r) (most : Int) : ∃ k, unisonlaw03_IdentLists.f k most l = some true := by
  refine ⟨100000, ?_⟩
  unfold unisonlaw03_IdentLists.f
  have ht : unisonlaw03_IdentLists.j0 100000 most l true = some true := by
    rw [show (100000 : Nat) = 99999 + 1 from rfl]
    simp only [unisonlaw03_IdentLists.j0, if_true, awake_eq, Option.bind_some]
  by_cases hl : (l.length : Int) > 30
  · rw [if_pos hl, ht]
  · rw [if_neg hl]
    by_cases hm : most > 300
    · rw [decide_eq_true hm, ht]
    · rw [decide_eq_false hm, show (100000 : Nat) = 99999 + 1 from rfl]
      simp only [unisonlaw03_IdentLists.j0, Bool.false_eq_true, if_false]
      rw [identList_eq ho (by omega) (by omega) (by decide), refList_eq ho (by omega) (by omega) (by decide)]
      simp only [Option.bind_some]
      have hlen : (listA most l).length ≤ 300 := by
        unfold listA
        split
        · simp
        · split
          · simp
          · split
            · rename_i h1 h2 h3
              have ht := cntF_tot ho (m := most) (by omega) (by omega)
              have : ∀ L : List Rn, L.all runI = true → tot L = (listF L).length := by
                intro L
                induction L with
                | nil => intro _; rfl
                | cons r L ih =>
                  intro h
                  simp only [List.all_cons, Bool.and_eq_true] at h
                  rw [tot, listF, List.length_append, ih h.2, h.1, if_pos rfl]
                  unfold idsR
                  rw [idsN_len]
              have h4 := this l h3
              omega
            · simp
      rw [sameIDs_self (by omega) (by omega)]
      simp only [Option.bind_some, if_true]
      have ht2 : ∀ x5, unisonlaw03_IdentLists.j1 99999 l x5 true = some true := by
        intro x5
        rw [show (99999 : Nat) = 99998 + 1 from rfl]
        simp only [unisonlaw03_IdentLists.j1, if_true, awake_eq, Option.bind_some]
      by_cases h0 : ((listA most l).length : Int) = 0
      · rw [if_pos h0, ht2]
      · rw [if_neg h0, refRows_eq ho (by omega) (by omega)]
        simp only [Option.bind_some]
        cases hr : rowsF l with
        | false => exact ht2 _
        | true =>
          rw [show (99999 : Nat) = 99998 + 1 from rfl]
          simp only [unisonlaw03_IdentLists.j1, Bool.not_true, Bool.false_eq_true, if_false]
          have hA : listA most l = listF l := by
            unfold listA at h0 ⊢
            split
            · rename_i h; rw [if_pos h] at h0; simp at h0
            · split
              · rename_i h1 h2; rw [if_neg h1, if_pos h2] at h0; simp at h0
              · rw [if_pos (List.all_eq_true.2 (rowsA_run hr))]
          have hj : ident_Join.f (listA most l) = some l := by
            unfold ident_Join.f
            rw [if_pos (by omega), hA]
            exact congrArg some (join_rows ho hr)
          rw [hj]
          simp only [Option.bind_some]
          rw [same_self (by omega) (by omega), awake_eq]
          rfl
theorem IdentLists (a0 : Int) (A1 : Option Addr) (c1 : Nat) (l1 : List Rn) (w : World) (hr : Kd.C kRn w A1 l1.length l1) (hc : l1.length ≤ c1) (_ : (Lit.int .i64 a0).wf = true) (hw : l1.length ≤ maxLen ∧ ∀ x ∈ l1, wf40 x) :
    Calls Try.prog 5 #[.int .i64 a0, .slice A1 l1.length c1] w fun e w' => e = .returned (.bool true) ∧ Below w.heap.size w w' := by
  obtain ⟨k, hk⟩ := lists_eq (l := l1) (fun x hx => okR_of (hw.2 x hx)) a0
  exact unisonlaw03_IdentLists.calls k a0 A1 c1 l1 true w hr hc hk

end Go.Proofs.Ytgcnaebhmcggoaa.Walk
