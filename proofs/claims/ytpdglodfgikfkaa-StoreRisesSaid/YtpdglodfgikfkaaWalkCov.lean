/- What covers, in plain Lean. Conditions: none beyond the statement's own. -/
import Derived.Test.YtpdglodfgikfkaaF3
import Derived.Test.YtpdglodfgikfkaaF2
import Derived.Test.YtpdglodfgikfkaaWalkAwake
import Derived.Test.YtpdglodfgikfkaaArgs
import Derived.Deep.QuietTactic
import Derived.BigQuiet
import Derived.Lib.QuietBelow
import Derived.Outline
import Derived.Deep.RegionHeld3
import Derived.Deep.CutRange
namespace Go.Proofs.Ytpdglodfgikfkaa.Walk
open Go.RowKit Go.Proofs.Ytpdglodfgikfkaa.F Go.Proofs.YtpdglodfgikfkaaW.PrintWords Go.Proofs.YtpdglodfgikfkaaW.PrintLast Go.Proofs.YtpdglodfgikfkaaW.PrintMore Go.Proofs.Ytpdglodfgikfkaa.Open
open Go.Sort (grow)
attribute [local go_sem] max2_int min2_int max_two min_two max_three min_three max_four min_four
set_option linter.unusedVariables false
set_option linter.unusedSimpArgs false

/-! ### what covers, in plain Lean -/
def covv (a b : List Int) : Prop := ∀ i : Nat, i < b.length → rd b (i : Int) ≤ rd a (i : Int)
theorem covv.refl (a : List Int) : covv a a := fun _ _ => Int.le_refl _
theorem i64w {x : Int} (h0 : -9223372036854775808 ≤ x) (h1 : x ≤ 9223372036854775807) : wrap64 x = x := by unfold wrap64; omega
theorem at_f (a : List Int) (i : Nat) : unisonref04_At.f a (i : Int) = some (rd a i) := by
  unfold unisonref04_At.f
  rw [if_pos (by omega)]
  by_cases h : i < a.length
  · rw [if_pos (by omega), if_pos (by omega)]
  · rw [if_neg (by omega), rd_over (by omega)]
theorem covers_f {a b : List Int} (h : covv a b) (hl : b.length ≤ 100000) {k : Nat} (hk : b.length < k) : unisonref04_Covers.f k a b = some true := by
  have loop : ∀ d i k, i + d = b.length → d < k → unisonref04_Covers.l0 k a b (b.length : Int) (i : Int) = some true := by
    intro d
    induction d with
    | zero =>
      intro i k hi hk
      obtain ⟨k, rfl⟩ : ∃ m, k = m + 1 := ⟨k - 1, by omega⟩
      simp only [unisonref04_Covers.l0]
      rw [if_neg (by omega)]
    | succ d ih =>
      intro i k hid hk
      obtain ⟨k, rfl⟩ : ∃ m, k = m + 1 := ⟨k - 1, by omega⟩
      have hw : wrap64 ((i : Int) + 1) = ((i + 1 : Nat) : Int) := by rw [i64w (by omega) (by omega)]; omega
      have := h i (by omega)
      simp only [unisonref04_Covers.l0]
      rw [if_pos (by omega), at_f]
      simp only [Option.bind_some]
      rw [if_pos (by omega), if_pos (by omega), if_neg (by omega), hw, ih (i + 1) k (by omega) (by omega)]
  exact loop b.length 0 k (by omega) hk
theorem same_f {a b : List Int} (h : covv a b) (h' : covv b a) (hl : a.length ≤ 100000) (hl' : b.length ≤ 100000) {k : Nat} (hk : a.length < k) (hk' : b.length < k) : unisonref04_Same.f k a b = some true := by
  unfold unisonref04_Same.f
  rw [covers_f h hl' hk', covers_f h' hl hk]
  rfl
theorem equal_self {a : List Int} (hl : a.length ≤ 100000) {k : Nat} (hk : a.length < k) : unisonref04_Equal.f k a a = some true := by
  unfold unisonref04_Equal.f
  rw [if_pos rfl, same_f (covv.refl a) (covv.refl a) hl hl hk hk]
  rfl

end Go.Proofs.Ytpdglodfgikfkaa.Walk
