/- The reference's gate comes to what the Lean functions beside it tell. Conditions: none beyond the statement's own. -/
import Derived.Test.YtfhhpliofajiaaaWalkLaw
import Derived.Test.YtfhhpliofajiaaaF1
import Derived.Test.YtfhhpliofajiaaaArgs
import Derived.Deep.QuietTactic
import Derived.BigQuiet
import Derived.Lib.QuietBelow
import Derived.Outline
import Derived.Deep.RegionHeld3
import Derived.Deep.CutRange
namespace Go.Proofs.Ytfhhpliofajiaaa.Walk
open Go.RowKit Go.Proofs.Ytfhhpliofajiaaa.F Go.Proofs.YtfhhpliofajiaaaW.PrintWords Go.Proofs.YtfhhpliofajiaaaW.PrintLast Go.Proofs.YtfhhpliofajiaaaW.PrintMore Go.Proofs.Ytfhhpliofajiaaa.Open
open Go.Sort (grow)
attribute [local go_sem] max2_int min2_int max_two min_two max_three min_three max_four min_four
set_option linter.unusedVariables false
set_option linter.unusedSimpArgs false

/-! ### The reference's gate, in plain Lean -/
theorem ref_Take (L : List Int) (t : GS) (o : Bool) (n : Int) (hL : L.length ≤ 1000) (hu : ok64 t.u) (hn : ok64 n) : unisonref09_G_Take.f L t.u o n = some (L ++ [(took t n).2], (took t n).1.u, true, (took t n).2) := by
  unfold unisonref09_G_Take.f
  have e1 : ([] : List Int).length + L.length < 140737488355328 := by simp; omega
  have e2 : ([] ++ L : List Int).length < 140737488355328 := by simp; omega
  by_cases h1 : n ≤ t.u
  · have ht : took t n = ({ t with o := true, c2 := up t.c2 }, 2) := if_pos h1
    rw [ht]
    simp only [if_pos h1, Option.bind_some, if_pos e1, if_pos e2]
    rfl
  · have hw : IntKind.u64.wrap (t.u + 1) = t.u + 1 := wu64 (by have := hu.1; omega) (by have := hn.2; omega)
    by_cases h2 : n = t.u + 1
    · have ht : took t n = ({ t with u := n, o := true, c1 := up t.c1 }, 1) := (if_neg h1).trans (if_pos h2)
      rw [ht, hw]
      simp only [if_neg h1, if_pos h2, Option.bind_some, if_pos e1, if_pos e2]
      rfl
    · have ht : took t n = ({ t with o := true, c3 := up t.c3 }, 3) := (if_neg h1).trans (if_neg h2)
      rw [ht, hw]
      simp only [if_neg h1, if_neg h2, Option.bind_some, if_pos e1, if_pos e2]
      rfl
theorem ref_Count_loop (what a : Int) (o : Bool) (L : List Int) (hL : L.length ≤ 1000) : ∀ (d i k : Nat), L.length - i = d → i ≤ L.length → d < k →
    unisonref09_G_Count.l0 k what ((L.take i).count what : Int) (L.length : Int) (i : Int) L a o = some (L.count what : Int) := by
  intro d
  induction d with
  | zero =>
    intro i k hd hi hk
    obtain ⟨k, rfl⟩ : ∃ m, k = m + 1 := ⟨k - 1, by omega⟩
    simp only [unisonref09_G_Count.l0]
    rw [if_neg (by omega), List.take_of_length_le (by omega)]
  | succ d ih =>
    intro i k hd hi hk
    obtain ⟨k, rfl⟩ : ∃ m, k = m + 1 := ⟨k - 1, by omega⟩
    have hlt : i < L.length := by omega
    have hr : rd L (i : Int) = L[i] := by simp [rd, List.getD, hlt]
    have ht : L.take (i + 1) = L.take i ++ [L[i]] := by rw [List.take_add_one, List.getElem?_eq_getElem hlt]; rfl
    have hc : (L.take i).count what ≤ 1000 := Nat.le_trans List.count_le_length (by simp; omega)
    have hn := ih (i + 1) k (by omega) (by omega) (by omega)
    simp only [unisonref09_G_Count.l0]
    rw [if_pos (by omega), if_pos (by omega), if_pos (by omega), hr]
    rw [ht, List.count_append] at hn
    have hw : wrap64 ((i : Int) + 1) = ((i + 1 : Nat) : Int) := by rw [w64 (by omega) (by omega)]; simp
    by_cases he : L[i] = what
    · rw [if_pos he, hw, wu64 (by omega) (by omega)]
      rw [he] at hn
      simpa using hn
    · rw [if_neg he, hw]
      rw [List.count_singleton, if_neg (by simpa using he)] at hn
      simpa using hn
theorem ref_Count (what a : Int) (o : Bool) (L : List Int) (hL : L.length ≤ 1000) (k : Nat) (hk : L.length < k) : unisonref09_G_Count.f k L a o what = some (L.count what : Int) := by
  have := ref_Count_loop what a o L hL L.length 0 k (by omega) (by omega) hk
  simpa [unisonref09_G_Count.f] using this
/-- How many of each kind came. -/
structure Inv (t : GS) (L : List Int) : Prop where
  c1 : t.c1 = L.count 1
  c2 : t.c2 = L.count 2
  c3 : t.c3 = L.count 3
  all : ∀ x ∈ L, x = 1 ∨ x = 2 ∨ x = 3
theorem Inv.took_ {t : GS} {L : List Int} (h : Inv t L) (hL : L.length ≤ 1000) (n : Int) : Inv (took t n).1 (L ++ [(took t n).2]) := by
  have u (x : Int) : up (L.count x : Int) = ((L.count x + 1 : Nat) : Int) := by
    have : L.count x ≤ L.length := List.count_le_length
    rw [up, wu64 (by omega) (by omega)]
    simp
  have e (x y : Int) : (L ++ [y]).count x = L.count x + if y = x then 1 else 0 := by
    rw [List.count_append, List.count_singleton]
    simp
  unfold took
  split
  · refine ⟨?_, ?_, ?_, ?_⟩
    · rw [e]; simpa using h.c1
    · rw [e]; show up t.c2 = _; rw [h.c2, u]; simp
    · rw [e]; simpa using h.c3
    · intro x hx; rcases List.mem_append.1 hx with hx | hx; exact h.all x hx; simp at hx; omega
  · split
    · refine ⟨?_, ?_, ?_, ?_⟩
      · rw [e]; show up t.c1 = _; rw [h.c1, u]; simp
      · rw [e]; simpa using h.c2
      · rw [e]; simpa using h.c3
      · intro x hx; rcases List.mem_append.1 hx with hx | hx; exact h.all x hx; simp at hx; omega
    · refine ⟨?_, ?_, ?_, ?_⟩
      · rw [e]; simpa using h.c1
      · rw [e]; simpa using h.c2
      · rw [e]; show up t.c3 = _; rw [h.c3, u]; simp
      · intro x hx; rcases List.mem_append.1 hx with hx | hx; exact h.all x hx; simp at hx; omega
theorem Inv.cnt_ {t : GS} {L : List Int} (h : Inv t L) (k : Int) : cnt t k = L.count k := by
  unfold cnt
  split
  · rename_i e; rw [e]; exact h.c1
  · split
    · rename_i e; rw [e]; exact h.c2
    · split
      · rename_i e; rw [e]; exact h.c3
      · rename_i h1 h2 h3
        rw [List.count_eq_zero_of_not_mem (fun hm => by rcases h.all k hm with e | e | e <;> contradiction)]
        rfl
theorem Inv.told {t : GS} {L : List Int} (h : Inv t L) : Inv { t with o := false } L := ⟨h.c1, h.c2, h.c3, h.all⟩
theorem inv0 : Inv g0 [] := ⟨rfl, rfl, rfl, by simp⟩
theorem took_o (t : GS) (n : Int) : (took t n).1.o = true := by
  unfold took
  split
  · rfl
  · split <;> rfl

end Go.Proofs.Ytfhhpliofajiaaa.Walk
