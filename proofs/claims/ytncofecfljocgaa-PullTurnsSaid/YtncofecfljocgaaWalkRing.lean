/- The ring, in plain Lean. Conditions: none beyond the statement's own. -/
import Derived.Test.YtncofecfljocgaaWalkDelI
import Derived.Test.YtncofecfljocgaaF4
import Derived.Test.YtncofecfljocgaaF3
import Derived.Test.YtncofecfljocgaaF2
import Derived.Test.YtncofecfljocgaaArgs
import Derived.Deep.QuietTactic
import Derived.BigQuiet
import Derived.Lib.QuietBelow
import Derived.Outline
import Derived.Deep.RegionHeld3
import Derived.Deep.CutRange
namespace Go.Proofs.Ytncofecfljocgaa.Walk
open Go.RowKit Go.Proofs.Ytncofecfljocgaa.F Go.Proofs.YtncofecfljocgaaW.PrintWords Go.Proofs.YtncofecfljocgaaW.PrintLast Go.Proofs.YtncofecfljocgaaW.PrintMore Go.Proofs.Ytncofecfljocgaa.Open
open Go.Sort (grow)
attribute [local go_sem] max2_int min2_int max_two min_two max_three min_three max_four min_four
set_option linter.unusedVariables false
set_option linter.unusedSimpArgs false

/-! ### The ring, in plain Lean -/
theorem w64 {x : Int} (h0 : -9223372036854775808 ≤ x) (h1 : x ≤ 9223372036854775807) : wrap64 x = x := by unfold wrap64; omega
theorem rd_at (l : List Int) (i : Nat) (h : i < l.length) : rd l (i : Int) = l[i] := by simp [rd, List.getD, h]

theorem of_loop (n : Int) (l : List Int) (hl : l.length ≤ 1000000) : ∀ (d i k : Nat), l.length - i = d → i ≤ l.length → d < k →
    ring_of.l0 k n l (l.length : Int) (i : Int) = some ((l.drop i).all fun x => decide (0 ≤ x ∧ x < n)) := by
  intro d
  induction d with
  | zero =>
    intro i k hd hi hk
    obtain ⟨k, rfl⟩ : ∃ m, k = m + 1 := ⟨k - 1, by omega⟩
    obtain rfl : i = l.length := by omega
    simp only [ring_of.l0]
    rw [if_neg (by omega)]
    simp
  | succ d ih =>
    intro i k hd hi hk
    obtain ⟨k, rfl⟩ : ∃ m, k = m + 1 := ⟨k - 1, by omega⟩
    have hlt : i < l.length := by omega
    have hdrop : l.drop i = l[i] :: l.drop (i + 1) := List.drop_eq_getElem_cons hlt
    simp only [ring_of.l0]
    rw [if_pos (by omega), if_pos (by omega), if_pos (by omega), rd_at l i hlt, hdrop, List.all_cons]
    by_cases h1 : l[i] < 0
    · rw [if_pos h1]
      have : decide (0 ≤ l[i] ∧ l[i] < n) = false := by simp; omega
      rw [this, Bool.false_and]
    · rw [if_neg h1]
      by_cases h2 : l[i] ≥ n
      · rw [if_pos h2]
        have : decide (0 ≤ l[i] ∧ l[i] < n) = false := by simp; omega
        rw [this, Bool.false_and]
      · rw [if_neg h2]
        have : decide (0 ≤ l[i] ∧ l[i] < n) = true := by simp; omega
        rw [this, Bool.true_and, w64 (by omega) (by omega), show ((i : Int) + 1) = ((i + 1 : Nat) : Int) by omega]
        exact ih (i + 1) k (by omega) (by omega) (by omega)

def inR (n i : Int) : Prop := 1 ≤ n ∧ n ≤ 64 ∧ 0 ≤ i ∧ i < n
instance (n i : Int) : Decidable (inR n i) := inferInstanceAs (Decidable (_ ∧ _))

theorem of_ev (n : Int) (l : List Int) (hl : l.length ≤ 1000000) (k : Nat) (hk : l.length + 2 < k) :
    ring_of.f k n l = some (decide (1 ≤ n ∧ n ≤ 64) && l.all fun x => decide (0 ≤ x ∧ x < n)) := by
  obtain ⟨k, rfl⟩ : ∃ m, k = m + 1 := ⟨k - 1, by omega⟩
  unfold ring_of.f
  by_cases h1 : n < 1
  · rw [if_pos h1]
    simp only [ring_of.j0]
    have : decide (1 ≤ n ∧ n ≤ 64) = false := by simp; omega
    simp [this]
  · rw [if_neg h1]
    simp only [ring_of.j0]
    by_cases h2 : n > 64
    · have : decide (1 ≤ n ∧ n ≤ 64) = false := by simp; omega
      simp [this, h2]
    · have : decide (1 ≤ n ∧ n ≤ 64) = true := by simp; omega
      have h3 : decide (n > 64) = false := by simp; omega
      rw [h3, if_neg (by simp), this, Bool.true_and]
      have := of_loop n l hl l.length 0 k (by omega) (by omega) (by omega)
      simpa using this

theorem of1 (n i : Int) (k : Nat) (hk : 3 < k) : ring_of.f k n [i] = some (decide (inR n i)) := by
  rw [of_ev n [i] (by simp) k (by simpa using hk)]
  congr 1
  rw [Bool.eq_iff_iff]
  simp only [Bool.and_eq_true, decide_eq_true_eq, List.all_cons, List.all_nil, and_true]
  unfold inR
  exact ⟨fun ⟨⟨a, b⟩, c, d⟩ => ⟨a, b, c, d⟩, fun ⟨a, b, c, d⟩ => ⟨⟨a, b⟩, c, d⟩⟩

theorem of2 (n i j : Int) (k : Nat) (hk : 4 < k) : ring_of.f k n [i, j] = some (decide (inR n i ∧ inR n j)) := by
  rw [of_ev n [i, j] (by simp) k (by simpa using hk)]
  congr 1
  rw [Bool.eq_iff_iff]
  simp only [Bool.and_eq_true, decide_eq_true_eq, List.all_cons, List.all_nil, and_true]
  unfold inR
  exact ⟨fun ⟨⟨a, b⟩, ⟨c, d⟩, e, f⟩ => ⟨⟨a, b, c, d⟩, a, b, e, f⟩, fun ⟨⟨a, b, c, d⟩, _, _, e, f⟩ => ⟨⟨a, b⟩, ⟨c, d⟩, e, f⟩⟩

theorem index_loop (l : List Int) (x : Int) (hl : l.length ≤ 1000000) : ∀ (d i k : Nat), l.length - i = d → i ≤ l.length → d < k →
    ∃ r, slices_Index_int_int.l0 k l x (l.length : Int) (i : Int) = some r ∧ (0 ≤ r ↔ x ∈ l.drop i) := by
  intro d
  induction d with
  | zero =>
    intro i k hd hi hk
    obtain ⟨k, rfl⟩ : ∃ m, k = m + 1 := ⟨k - 1, by omega⟩
    obtain rfl : i = l.length := by omega
    simp only [slices_Index_int_int.l0]
    rw [if_neg (by omega)]
    exact ⟨-1, rfl, by simp⟩
  | succ d ih =>
    intro i k hd hi hk
    obtain ⟨k, rfl⟩ : ∃ m, k = m + 1 := ⟨k - 1, by omega⟩
    have hlt : i < l.length := by omega
    have hdrop : l.drop i = l[i] :: l.drop (i + 1) := List.drop_eq_getElem_cons hlt
    simp only [slices_Index_int_int.l0]
    rw [if_pos (by omega), if_pos (by omega), if_pos (by omega), rd_at l i hlt, hdrop]
    by_cases h1 : x = l[i]
    · rw [if_pos h1]
      exact ⟨i, rfl, fun _ => by rw [h1]; exact List.mem_cons_self, fun _ => by omega⟩
    · rw [if_neg h1, w64 (by omega) (by omega), show ((i : Int) + 1) = ((i + 1 : Nat) : Int) by omega]
      obtain ⟨r, hr, hp⟩ := ih (i + 1) k (by omega) (by omega) (by omega)
      exact ⟨r, hr, by rw [hp, List.mem_cons]; exact ⟨Or.inr, fun h => h.resolve_left h1⟩⟩

theorem contains_ev (l : List Int) (x : Int) (hl : l.length ≤ 1000000) (k : Nat) (hk : l.length < k) :
    slices_Contains_int_int.f k l x = some (decide (x ∈ l)) := by
  obtain ⟨r, hr, hp⟩ := index_loop l x hl l.length 0 k (by omega) (by omega) hk
  have hr' : slices_Index_int_int.f k l x = some r := by unfold slices_Index_int_int.f; simpa using hr
  unfold slices_Contains_int_int.f
  rw [hr']
  simp only [Option.bind_some, List.drop_zero] at hp ⊢
  congr 1
  exact decide_eq_decide.mpr hp

/-- (me + i) mod n, for i up to n. -/
def md (n a : Int) : Int := if a < n then a else a - n
theorem emod_md {n a : Int} (h0 : 0 ≤ a) (h1 : a < n + n) : a % n = md n a := by
  unfold md
  split
  · exact Int.emod_eq_of_lt h0 (by omega)
  · have : (a - n) % n = a - n := Int.emod_eq_of_lt (by omega) (by omega)
    rw [← this, Int.sub_emod_right]
theorem tmod_md {n a : Int} (h0 : 0 ≤ a) (h1 : a < n + n) : a.tmod n = md n a := by
  rw [Int.tmod_eq_emod_of_nonneg h0, emod_md h0 h1]

/-- The steps j of a way. -/
def js (n me : Int) (skip : List Int) : Nat → Int → List Int
  | 0, _ => []
  | d + 1, i => if md n (me + i) ∈ skip then js n me skip d (i + 1) else i :: js n me skip d (i + 1)
def way (n me : Int) (skip : List Int) : List Int := (js n me skip (n - 1).toNat 1).map fun j => md n (me + j)

theorem way_loop (n me : Int) (skip : List Int) (hs : skip.length ≤ 1000000) (h : inR n me) : ∀ (d k : Nat) (i : Int) (acc : List Int), (n - i).toNat = d → 1 ≤ i → i ≤ n → acc.length ≤ i → skip.length + d + 1 < k →
    ring_Way.l0 k n me skip acc i = some (acc ++ (js n me skip d i).map fun j => md n (me + j)) := by
  obtain ⟨h1, h2, h3, h4⟩ := h
  intro d
  induction d with
  | zero =>
    intro k i acc hd hi hin ha hk
    obtain ⟨k, rfl⟩ : ∃ m, k = m + 1 := ⟨k - 1, by omega⟩
    simp only [ring_Way.l0]
    rw [if_neg (by omega)]
    simp [js]
  | succ d ih =>
    intro k i acc hd hi hin ha hk
    obtain ⟨k, rfl⟩ : ∃ m, k = m + 1 := ⟨k - 1, by omega⟩
    simp only [ring_Way.l0]
    rw [if_pos (by omega), if_neg (by omega), w64 (x := me + i) (by omega) (by omega), w64 (x := i + 1) (by omega) (by omega), tmod_md (by omega) (by omega), contains_ev skip _ hs k (by omega)]
    simp only [Option.bind_some, decide_eq_true_eq, js]
    by_cases hm : md n (me + i) ∈ skip
    · rw [if_pos hm, if_pos hm]
      exact ih k (i + 1) acc (by omega) (by omega) (by omega) (by omega) (by omega)
    · rw [if_neg hm, if_neg hm, if_pos (by omega), ih k (i + 1) _ (by omega) (by omega) (by omega) (by simp; omega) (by omega)]
      simp

theorem way_ev (n me : Int) (skip : List Int) (hs : skip.length ≤ 1000000) (k : Nat) (hk : skip.length + 100 < k) :
    ring_Way.f k n me skip = some (if inR n me then way n me skip else []) := by
  unfold ring_Way.f
  rw [of1 n me k (by omega)]
  simp only [Option.bind_some, decide_eq_true_eq]
  by_cases h : inR n me
  · rw [if_pos h, if_pos h, way_loop n me skip hs h (n - 1).toNat k 1 [] rfl (by omega) h.1 (by simp) (by have := h.2.1; omega)]
    simp [way]
  · rw [if_neg h, if_neg h]

theorem js_le (n me : Int) (skip : List Int) : ∀ (d : Nat) (i : Int), (js n me skip d i).length ≤ d
  | 0, _ => by simp [js]
  | d + 1, i => by
    have := js_le n me skip d (i + 1)
    unfold js
    split
    · omega
    · simp; omega


end Go.Proofs.Ytncofecfljocgaa.Walk
