/- In whatever order vectors are told, their least and greatest numbers are the same, in plain Lean. Conditions: none beyond the statement's own. -/
import Derived.Test.YtfdopedpplhhaaaWalkBounds
import Derived.Test.YtfdopedpplhhaaaArgs
import Derived.Deep.QuietTactic
import Derived.BigQuiet
import Derived.Lib.QuietBelow
import Derived.Outline
import Derived.Deep.RegionHeld3
import Derived.Deep.CutRange
namespace Go.Proofs.Ytfdopedpplhhaaa.Walk
open Go.RowKit Go.Proofs.Ytfdopedpplhhaaa.F Go.Proofs.YtfdopedpplhhaaaW.PrintWords Go.Proofs.YtfdopedpplhhaaaW.PrintLast Go.Proofs.YtfdopedpplhhaaaW.PrintMore Go.Proofs.Ytfdopedpplhhaaa.Open
open Go.Sort (grow)
attribute [local go_sem] max2_int min2_int max_two min_two max_three min_three max_four min_four
set_option linter.unusedVariables false
set_option linter.unusedSimpArgs false

theorem list_ext_rd {a b : List Int} (hl : a.length = b.length) (h : ∀ i : Nat, rd a (i : Int) = rd b (i : Int)) : a = b := by
  apply List.ext_getElem hl
  intro i h1 h2
  have := h i
  simpa [rd, List.getD, h1, h2] using this
theorem most_eq {X Y : List (List Int)} (hx : 0 < X.length) (hy : 0 < Y.length) (hl : longest X = longest Y) (h1 : ∀ b ∈ X, ∀ i : Nat, rd b (i : Int) ≤ rd (foldAll mx Y) (i : Int)) (h2 : ∀ b ∈ Y, ∀ i : Nat, rd b (i : Int) ≤ rd (foldAll mx X) (i : Int)) : foldAll mx X = foldAll mx Y := by
  refine list_ext_rd (by rw [foldAll_len, foldAll_len, hl]) (fun i => ?_)
  have a1 := most_le hx i _ (fun b hb => h1 b hb i)
  have a2 := most_le hy i _ (fun b hb => h2 b hb i)
  omega
theorem least_eq {X Y : List (List Int)} (hx : 0 < X.length) (hy : 0 < Y.length) (hl : longest X = longest Y) (h1 : ∀ b ∈ X, ∀ i : Nat, rd (foldAll mn Y) (i : Int) ≤ rd b (i : Int)) (h2 : ∀ b ∈ Y, ∀ i : Nat, rd (foldAll mn X) (i : Int) ≤ rd b (i : Int)) : foldAll mn X = foldAll mn Y := by
  refine list_ext_rd (by rw [foldAll_len, foldAll_len, hl]) (fun i => ?_)
  have a1 := least_ge hx i _ (fun b hb => h1 b hb i)
  have a2 := least_ge hy i _ (fun b hb => h2 b hb i)
  omega
theorem longest_drop (l : List (List Int)) (k : Nat) : longest (l.drop k) ≤ longest l := by
  have := congrArg longest (List.take_append_drop k l)
  rw [longest_append] at this
  omega
theorem longest_split (l : List (List Int)) (k : Nat) : longest l = max (longest (l.take k)) (longest (l.drop k)) := by
  have := congrArg longest (List.take_append_drop k l)
  rw [longest_append] at this
  omega
theorem turned_longest (l : List (List Int)) (k : Nat) : longest (l.drop k ++ l) = longest l := by
  rw [longest_append]
  have := longest_drop l k
  omega
theorem turned_mem {l : List (List Int)} {k : Nat} {b : List Int} (hb : b ∈ l.drop k ++ l) : b ∈ l := by
  rcases List.mem_append.1 hb with hb | hb
  · exact List.mem_of_mem_drop hb
  · exact hb
theorem turned_mx (l : List (List Int)) (k : Nat) (hl : 0 < l.length) : foldAll mx (l.drop k ++ l) = foldAll mx l :=
  most_eq (by simp; omega) hl (turned_longest l k) (fun b hb i => most_ge (turned_mem hb) i) (fun b hb i => most_ge (List.mem_append_right _ hb) i)
theorem turned_mn (l : List (List Int)) (k : Nat) (hl : 0 < l.length) : foldAll mn (l.drop k ++ l) = foldAll mn l :=
  least_eq (by simp; omega) hl (turned_longest l k) (fun b hb i => least_le (turned_mem hb) i) (fun b hb i => least_le (List.mem_append_right _ hb) i)
theorem part_longest (l : List (List Int)) (k : Nat) : longest (foldAll mx (l.take k) :: l.drop k) = longest l := by
  show max (foldAll mx (l.take k)).length (longest (l.drop k)) = _
  rw [foldAll_len, ← longest_split]
theorem part_mx (l : List (List Int)) (k : Nat) (hl : 0 < l.length) (hu : ∀ b ∈ l, u64s b) : foldAll mx (foldAll mx (l.take k) :: l.drop k) = foldAll mx l := by
  have h0 : ∀ i : Nat, 0 ≤ rd (foldAll mx l) (i : Int) := fun i => (u64s_rd (most_u64 hl hu mx (Or.inl rfl)) (i : Int)).1
  refine most_eq (by simp) hl (part_longest l k) (fun b hb i => ?_) (fun b hb i => ?_)
  · rcases List.mem_cons.1 hb with rfl | hb
    · by_cases hk : 0 < (l.take k).length
      · exact most_le hk i _ (fun c hc => most_ge (List.mem_of_mem_take hc) i)
      · have e : l.take k = [] := List.eq_nil_of_length_eq_zero (by omega)
        rw [e]
        have : rd (foldAll mx []) (i : Int) = 0 := rd_over (by rw [foldAll_len]; simp [longest])
        rw [this]
        exact h0 i
    · exact most_ge (List.mem_of_mem_drop hb) i
  · rw [← List.take_append_drop k l] at hb
    rcases List.mem_append.1 hb with hb | hb
    · have a1 := most_ge hb i
      have a2 := most_ge (l := foldAll mx (l.take k) :: l.drop k) (List.mem_cons_self) i
      omega
    · exact most_ge (List.mem_cons_of_mem _ hb) i

end Go.Proofs.Ytfdopedpplhhaaa.Walk
