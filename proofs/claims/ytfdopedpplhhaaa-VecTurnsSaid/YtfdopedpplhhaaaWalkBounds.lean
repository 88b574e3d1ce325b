/- What covers, and what is covered, in plain Lean. Conditions: none beyond the statement's own. -/
import Derived.Test.YtfdopedpplhhaaaWalkPure
import Derived.Test.YtfdopedpplhhaaaArgs
import Derived.Deep.QuietTactic
import Derived.BigQuiet
import Derived.Lib.QuietBelow
import Derived.Outline
import Derived.Deep.RegionHeld3
import Derived.Deep.CutRange
namespace Go.Proofs.Ytfdopedpplhhaaa.Walk
open Go.RowKit Go.Proofs.Ytfdopedpplhhaaa.F Go.Proofs.YtfdopedpplhhaaaW.PrintWords Go.Proofs.YtfdopedpplhhaaaW.PrintLast Go.Proofs.YtfdopedpplhhaaaW.PrintMore Go.Proofs.Ytfdopedpplhhaaa.Open
open Go.Sort (grow)
attribute [local go_sem] max2_int min2_int max_two min_two max_three min_three max_four min_four
set_option linter.unusedVariables false
set_option linter.unusedSimpArgs false

theorem foldl_zeros (op : Int → Int → Int) (h : op 0 0 = 0) (i : Int) : ∀ (l : List (List Int)), (∀ a ∈ l, rd a i = 0) → l.foldl (fun n a => op n (rd a i)) 0 = 0
  | [], _ => rfl
  | a :: l, hl => by
    rw [List.foldl_cons, hl a (List.mem_cons_self), h]
    exact foldl_zeros op h i l (fun b hb => hl b (List.mem_cons_of_mem _ hb))
theorem foldAll_rdz (op : Int → Int → Int) (h : op 0 0 = 0) (l : List (List Int)) (i : Nat) : rd (foldAll op l) (i : Int) = foldv op l (i : Int) := by
  by_cases hi : i < longest l
  · exact foldAll_rd op l i hi
  · rw [rd_over (by rw [foldAll_len]; omega)]
    have hz : ∀ a ∈ l, rd a (i : Int) = 0 := fun a ha => rd_over (by have := longest_mem ha; omega)
    unfold foldv
    cases l with
    | nil => rfl
    | cons a l =>
      show 0 = l.foldl _ (rd a (i : Int))
      rw [hz a (List.mem_cons_self), foldl_zeros op h _ l (fun b hb => hz b (List.mem_cons_of_mem _ hb))]
theorem foldl_mx (i : Int) : ∀ (l : List (List Int)) (v : Int), v ≤ l.foldl (fun n a => mx n (rd a i)) v ∧ (∀ a ∈ l, rd a i ≤ l.foldl (fun n a => mx n (rd a i)) v) ∧ ∀ u, v ≤ u → (∀ a ∈ l, rd a i ≤ u) → l.foldl (fun n a => mx n (rd a i)) v ≤ u
  | [], v => ⟨Int.le_refl _, by simp, fun u h _ => h⟩
  | b :: l, v => by
    obtain ⟨h1, h2, h3⟩ := foldl_mx i l (mx v (rd b i))
    have e1 : v ≤ mx v (rd b i) := by unfold mx; split <;> omega
    have e2 : rd b i ≤ mx v (rd b i) := by unfold mx; split <;> omega
    rw [List.foldl_cons]
    refine ⟨by omega, fun a ha => ?_, fun u hv hu => h3 u ?_ (fun a ha => hu a (List.mem_cons_of_mem _ ha))⟩
    · rcases List.mem_cons.1 ha with rfl | ha
      · omega
      · exact h2 a ha
    · have := hu b (List.mem_cons_self)
      unfold mx
      split <;> omega
theorem foldl_mn (i : Int) : ∀ (l : List (List Int)) (v : Int), l.foldl (fun n a => mn n (rd a i)) v ≤ v ∧ (∀ a ∈ l, l.foldl (fun n a => mn n (rd a i)) v ≤ rd a i) ∧ ∀ u, u ≤ v → (∀ a ∈ l, u ≤ rd a i) → u ≤ l.foldl (fun n a => mn n (rd a i)) v
  | [], v => ⟨Int.le_refl _, by simp, fun u h _ => h⟩
  | b :: l, v => by
    obtain ⟨h1, h2, h3⟩ := foldl_mn i l (mn v (rd b i))
    have e1 : mn v (rd b i) ≤ v := by unfold mn; split <;> omega
    have e2 : mn v (rd b i) ≤ rd b i := by unfold mn; split <;> omega
    rw [List.foldl_cons]
    refine ⟨by omega, fun a ha => ?_, fun u hv hu => h3 u ?_ (fun a ha => hu a (List.mem_cons_of_mem _ ha))⟩
    · rcases List.mem_cons.1 ha with rfl | ha
      · omega
      · exact h2 a ha
    · have := hu b (List.mem_cons_self)
      unfold mn
      split <;> omega
theorem most_ge {l : List (List Int)} {b : List Int} (hb : b ∈ l) (i : Nat) : rd b (i : Int) ≤ rd (foldAll mx l) (i : Int) := by
  rw [foldAll_rdz mx rfl]
  cases l with
  | nil => simp at hb
  | cons a l =>
    obtain ⟨h1, h2, _⟩ := foldl_mx (i : Int) l (rd a (i : Int))
    rcases List.mem_cons.1 hb with rfl | hb
    · exact h1
    · exact h2 b hb
theorem most_le {l : List (List Int)} (hl : 0 < l.length) (i : Nat) (u : Int) (h : ∀ b ∈ l, rd b (i : Int) ≤ u) : rd (foldAll mx l) (i : Int) ≤ u := by
  rw [foldAll_rdz mx rfl]
  cases l with
  | nil => simp at hl
  | cons a l => exact (foldl_mx (i : Int) l (rd a (i : Int))).2.2 u (h a (List.mem_cons_self)) (fun b hb => h b (List.mem_cons_of_mem _ hb))
theorem least_le {l : List (List Int)} {b : List Int} (hb : b ∈ l) (i : Nat) : rd (foldAll mn l) (i : Int) ≤ rd b (i : Int) := by
  rw [foldAll_rdz mn rfl]
  cases l with
  | nil => simp at hb
  | cons a l =>
    obtain ⟨h1, h2, _⟩ := foldl_mn (i : Int) l (rd a (i : Int))
    rcases List.mem_cons.1 hb with rfl | hb
    · exact h1
    · exact h2 b hb
theorem least_ge {l : List (List Int)} (hl : 0 < l.length) (i : Nat) (u : Int) (h : ∀ b ∈ l, u ≤ rd b (i : Int)) : u ≤ rd (foldAll mn l) (i : Int) := by
  rw [foldAll_rdz mn rfl]
  cases l with
  | nil => simp at hl
  | cons a l => exact (foldl_mn (i : Int) l (rd a (i : Int))).2.2 u (h a (List.mem_cons_self)) (fun b hb => h b (List.mem_cons_of_mem _ hb))
theorem most_cov {l : List (List Int)} {b : List Int} (hb : b ∈ l) : covv (foldAll mx l) b := fun i _ => most_ge hb i
theorem cov_least {l : List (List Int)} {b : List Int} (hb : b ∈ l) : covv b (foldAll mn l) := fun i _ => least_le hb i
theorem cov_most {a : List Int} {l : List (List Int)} (ha : u64s a) (hl : 0 < l.length) : covv a (foldAll mx l) ↔ ∀ b ∈ l, covv a b := by
  constructor
  · intro h b hb i hi
    have h1 := h i (by rw [foldAll_len]; have := longest_mem hb; omega)
    have h2 := most_ge hb i
    omega
  · intro h i _
    refine most_le hl i _ (fun b hb => ?_)
    by_cases hi : i < b.length
    · exact h b hb i hi
    · rw [rd_over (by omega)]
      exact (u64s_rd ha _).1
theorem least_cov {a : List Int} {l : List (List Int)} (hl : 0 < l.length) : covv (foldAll mn l) a ↔ ∀ b ∈ l, covv b a := by
  constructor
  · intro h b hb i hi
    have h1 := h i hi
    have h2 := least_le hb i
    omega
  · intro h i hi
    exact least_ge hl i _ (fun b hb => h b hb i hi)
theorem each_cov (a : List Int) (l : List (List Int)) (ha : u64s a) : eachAll covH a l = decide (∀ b ∈ l, covv a b) := by
  rw [Bool.eq_iff_iff, decide_eq_true_iff]
  simp only [eachAll, List.all_eq_true]
  constructor
  · intro h b hb
    have := h b hb
    rw [cov_iff a b ha, decide_eq_true_iff] at this
    exact this
  · intro h b hb
    rw [cov_iff a b ha, decide_eq_true_iff]
    exact h b hb
theorem most_u64 {l : List (List Int)} (hl : 0 < l.length) (hu : ∀ b ∈ l, u64s b) (op : Int → Int → Int) (hop : op = mx ∨ op = mn) : u64s (foldAll op l) := by
  intro x hx
  obtain ⟨i, hi, rfl⟩ := List.mem_iff_getElem.1 hx
  have e : (foldAll op l)[i] = rd (foldAll op l) (i : Int) := by simp [rd, List.getD, hi]
  rw [e]
  obtain ⟨b, hb⟩ : ∃ b, b ∈ l := by cases l with | nil => simp at hl | cons a l => exact ⟨a, List.mem_cons_self⟩
  have h0 := u64s_rd (hu b hb) (i : Int)
  rcases hop with rfl | rfl
  · have h1 := most_ge hb i
    have h2 := most_le hl i 18446744073709551615 (fun b hb => by have := u64s_rd (hu b hb) (i : Int); omega)
    omega
  · have h1 := least_le hb i
    have h2 := least_ge hl i 0 (fun b hb => (u64s_rd (hu b hb) (i : Int)).1)
    omega

end Go.Proofs.Ytfdopedpplhhaaa.Walk
