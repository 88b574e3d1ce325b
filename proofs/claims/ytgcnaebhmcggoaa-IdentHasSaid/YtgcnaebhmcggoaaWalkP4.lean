/- Rows of ids, in plain Lean. Conditions: none beyond the statement's own. -/
import Derived.Test.YtgcnaebhmcggoaaWalkP2
import Derived.Test.YtgcnaebhmcggoaaArgs
import Derived.Deep.QuietTactic
import Derived.BigQuiet
import Derived.Lib.QuietBelow
import Derived.Outline
import Derived.Deep.RegionHeld3
import Derived.Deep.CutRange
namespace Go.Proofs.Ytgcnaebhmcggoaa.Walk
open Go.RowKit Go.Proofs.Ytgcnaebhmcggoaa.F Go.Proofs.YtgcnaebhmcggoaaW.PrintWords Go.Proofs.YtgcnaebhmcggoaaW.PrintLast Go.Proofs.YtgcnaebhmcggoaaW.PrintMore Go.Proofs.Ytgcnaebhmcggoaa.Open
open Go.Sort (grow)
attribute [local go_sem] max2_int min2_int max_two min_two max_three min_three max_four min_four
set_option linter.unusedVariables false
set_option linter.unusedSimpArgs false

/-! ### the document's order of ids; rows and lists -/
theorem idsN_mem (f0 : Int) : ∀ (n : Nat) (f1 : Int) (x : I), x ∈ idsN f0 f1 n ↔ x.f0 = f0 ∧ f1 ≤ x.f1 ∧ x.f1 < f1 + n
  | 0, f1, x => by
    simp only [idsN, List.not_mem_nil, false_iff]
    omega
  | n + 1, f1, x => by
    rw [idsN, List.mem_cons, idsN_mem f0 n (f1 + 1) x]
    constructor
    · rintro (rfl | ⟨h1, h2, h3⟩)
      · exact ⟨rfl, Int.le_refl _, by show f1 < f1 + ((n + 1 : Nat) : Int); omega⟩
      · exact ⟨h1, by omega, by omega⟩
    · rintro ⟨h1, h2, h3⟩
      by_cases h : x.f1 = f1
      · exact .inl (I_ext h1 h)
      · exact .inr ⟨h1, by omega, by omega⟩
theorem idsN_up (f0 : Int) : ∀ (n : Nat) (f1 : Int), Up (idsN f0 f1 n)
  | 0, _ => List.Pairwise.nil
  | n + 1, f1 => List.Pairwise.cons (fun y hy => by
      obtain ⟨h1, h2, h3⟩ := (idsN_mem f0 n (f1 + 1) y).1 hy
      rw [lt_iff]
      exact .inr ⟨h1.symm, by show f1 < y.f1; omega⟩) (idsN_up f0 n (f1 + 1))
theorem idsR_mem {r : Rn} (h : isR r) (x : I) : x ∈ idsR r ↔ x.f0 = r.f0 ∧ r.f1 ≤ x.f1 ∧ x.f1 < r.f1 + r.f2 := by
  unfold idsR
  rw [idsN_mem]
  unfold isR at h
  rw [Int.toNat_of_nonneg (by omega)]
theorem idsR_may {r : Rn} (h : isR r) {x : I} (hx : x ∈ idsR r) : okI x ∧ mayI x = true := by
  have h' := h
  unfold isR at h'
  obtain ⟨h1, h2, h3⟩ := (idsR_mem h x).1 hx
  have ho : okI x := ⟨by omega, by omega, by omega, by omega⟩
  exact ⟨ho, (may_iff ho).2 ⟨by omega, by omega, by omega⟩⟩
theorem listF_mem {l : List Rn} (x : I) : x ∈ listF l ↔ ∃ r ∈ l, x ∈ idsR r := by
  induction l with
  | nil => simp [listF]
  | cons r l ih => simp [listF, ih]
/-- Rows that may be: each run behind the one ahead. -/
theorem rowsA_run : ∀ {l : List Rn} {q : Option Rn}, rowsA q l = true → ∀ r ∈ l, runI r = true
  | [], _, _, r, hr => by cases hr
  | s :: l, q, h, r, hr => by
    have h2 : runI s = true ∧ rowsA (some s) l = true := by
      cases q with
      | none => simpa [rowsA] using h
      | some p => simp only [rowsA, Bool.and_eq_true] at h; exact ⟨h.1, h.2.2⟩
    rcases List.mem_cons.1 hr with rfl | hr
    · exact h2.1
    · exact rowsA_run h2.2 r hr
theorem rowsA_after : ∀ {l : List Rn} {p : Rn}, (∀ r ∈ l, okR r) → rowsA (some p) l = true → ∀ r ∈ l, p.f0 < r.f0 ∨ (p.f0 = r.f0 ∧ p.f1 + p.f2 < r.f1)
  | [], _, _, _, r, hr => by cases hr
  | s :: l, p, ho, h, r, hr => by
    simp only [rowsA, Bool.and_eq_true, after, decide_eq_true_eq] at h
    rcases List.mem_cons.1 hr with rfl | hr
    · exact h.2.1
    · have h3 := rowsA_after (fun r hr => ho r (List.mem_cons_of_mem _ hr)) h.2.2 r hr
      have hs := (run_iff (ho s List.mem_cons_self)).1 h.1
      unfold isR at hs
      omega
theorem listF_up : ∀ {l : List Rn} {q : Option Rn}, (∀ r ∈ l, okR r) → rowsA q l = true → Up (listF l)
  | [], _, _, _ => List.Pairwise.nil
  | s :: l, q, ho, h => by
    have h2 : runI s = true ∧ rowsA (some s) l = true := by
      cases q with
      | none => simpa [rowsA] using h
      | some p => simp only [rowsA, Bool.and_eq_true] at h; exact ⟨h.1, h.2.2⟩
    have hol : ∀ r ∈ l, okR r := fun r hr => ho r (List.mem_cons_of_mem _ hr)
    have hs := (run_iff (ho s List.mem_cons_self)).1 h2.1
    rw [listF, Up, List.pairwise_append]
    refine ⟨idsN_up _ _ _, listF_up hol h2.2, fun a ha b hb => ?_⟩
    obtain ⟨r, hr, hbr⟩ := (listF_mem b).1 hb
    have hrr := (run_iff (hol r hr)).1 (rowsA_run h2.2 r hr)
    obtain ⟨a1, a2, a3⟩ := (idsR_mem hs a).1 ha
    obtain ⟨b1, b2, b3⟩ := (idsR_mem hrr b).1 hbr
    have h3 := rowsA_after hol h2.2 r hr
    rw [lt_iff]
    omega
/-! the fold of Join gives rows back -/
theorem step_run (r : Rn) : ∀ (n : Nat) (out : List Rn) (c : Int), 1 ≤ c → 0 ≤ r.f1 → r.f1 + c + n ≤ 4611686018427387905 → (idsN r.f0 (r.f1 + c) n).foldl stepJ (out ++ [⟨r.f0, r.f1, c⟩]) = out ++ [⟨r.f0, r.f1, c + n⟩]
  | 0, out, c, _, _, _ => by simp [idsN]
  | n + 1, out, c, hc, h1, hb => by
    rw [idsN, List.foldl_cons]
    have e : stepJ (out ++ [⟨r.f0, r.f1, c⟩]) ⟨r.f0, r.f1 + c⟩ = out ++ [⟨r.f0, r.f1, c + 1⟩] := by
      simp only [stepJ, List.getLast?_append, List.getLast?_singleton, Option.some_or]
      rw [u64w (x := r.f1 + c) (by omega) (by omega), u64w (x := c + 1) (by omega) (by omega)]
      simp
    rw [e, show r.f1 + c + 1 = r.f1 + (c + 1) by omega, step_run r n out (c + 1) (by omega) h1 (by omega)]
    congr 3
    omega
theorem step_first {r : Rn} (h : isR r) {out : List Rn} (hn : ∀ p, out.getLast? = some p → ¬ (p.f0 = r.f0 ∧ IntKind.u64.wrap (p.f1 + p.f2) = r.f1)) : (idsR r).foldl stepJ out = out ++ [r] := by
  unfold isR at h
  unfold idsR
  obtain ⟨m, hm⟩ : ∃ m, r.f2.toNat = m + 1 := ⟨r.f2.toNat - 1, by omega⟩
  rw [hm, idsN, List.foldl_cons]
  have e : stepJ out ⟨r.f0, r.f1⟩ = out ++ [⟨r.f0, r.f1, 1⟩] := by
    unfold stepJ
    cases hl : out.getLast? with
    | none =>
      have : out = [] := by simpa using hl
      subst this
      rfl
    | some p =>
      dsimp only
      rw [if_neg (hn p hl)]
  rw [e, step_run r m out 1 (by omega) (by omega) (by omega)]
  congr 2
  cases r
  congr 1
  simp at hm ⊢
  omega
theorem fold_rows : ∀ {l : List Rn} (out : List Rn), (∀ r ∈ l, okR r) → rowsA out.getLast? l = true → (∀ p, out.getLast? = some p → isR p) → (listF l).foldl stepJ out = out ++ l
  | [], out, _, _, _ => by simp [listF]
  | s :: l, out, ho, h, hp => by
    have hol : ∀ r ∈ l, okR r := fun r hr => ho r (List.mem_cons_of_mem _ hr)
    have h2 : runI s = true ∧ rowsA (some s) l = true ∧ ∀ p, out.getLast? = some p → after p s = true := by
      cases hq : out.getLast? with
      | none => rw [hq] at h; simp only [rowsA, Bool.and_eq_true] at h; exact ⟨h.1, h.2, by simp⟩
      | some p => rw [hq] at h; simp only [rowsA, Bool.and_eq_true] at h; exact ⟨h.1, h.2.2, fun p' e => by cases e; exact h.2.1⟩
    have hs := (run_iff (ho s List.mem_cons_self)).1 h2.1
    rw [listF, List.foldl_append, step_first hs (fun p hpl hc => by
      have h3 := h2.2.2 p hpl
      have h4 := hp p hpl
      unfold isR at h4
      rw [u64w (by omega) (by omega)] at hc
      simp only [after, decide_eq_true_eq] at h3
      omega)]
    rw [fold_rows (out ++ [s]) hol (by simpa using h2.2.1) (fun p e => by simp at e; rw [← e]; exact hs), List.append_assoc]
    rfl
theorem join_rows {l : List Rn} (ho : ∀ r ∈ l, okR r) (h : rowsF l = true) : joinF (listF l) = l := by
  have hrun := rowsA_run h
  have hself : idsJ (listF l) = listF l := ids_self (listF_up ho h) (fun x hx => by
    obtain ⟨r, hr, hxr⟩ := (listF_mem x).1 hx
    exact (idsR_may ((run_iff (ho r hr)).1 (hrun r hr)) hxr).2)
  rw [joinF, hself]
  have := fold_rows (l := l) [] ho h (fun p e => by cases e)
  simpa using this

end Go.Proofs.Ytgcnaebhmcggoaa.Walk
