/- Frames that are the same, in plain Lean. Conditions: none beyond the statement's own. -/
import Derived.Test.YtdeknknefjepnaaWalkLit
import Derived.Test.YtdeknknefjepnaaF10
import Derived.Test.YtdeknknefjepnaaArgs
import Derived.Deep.QuietTactic
import Derived.BigQuiet
import Derived.Lib.QuietBelow
import Derived.Outline
import Derived.Deep.RegionHeld3
import Derived.Deep.CutRange
namespace Go.Proofs.Ytdeknknefjepnaa.Walk
open Go.RowKit Go.Proofs.Ytdeknknefjepnaa.F Go.Proofs.YtdeknknefjepnaaW.PrintWords Go.Proofs.YtdeknknefjepnaaW.PrintLast Go.Proofs.YtdeknknefjepnaaW.PrintMore Go.Proofs.Ytdeknknefjepnaa.Open
open Go.Sort (grow)
attribute [local go_sem] max2_int min2_int max_two min_two max_three min_three max_four min_four
set_option linter.unusedVariables false
set_option linter.unusedSimpArgs false

/-! ### Frames that are the same, in plain Lean -/
theorem leO_le {α : Type} {f : Nat → Option α} (h : ∀ k, LeO (f k) (f (k + 1))) {n m : Nat} (hnm : n ≤ m) : LeO (f n) (f m) := by
  induction hnm with
  | refl => exact LeO.refl _
  | step _ ih => exact ih.trans (h _)
theorem num_ok : ∀ (j : Nat) (x : Int) (xs : List Int), j ≤ 8 → 0 ≤ x → x < 256 ^ j → xs.length ≤ 1000 - j → ∃ r, unisonref01_Num.l0 (j + 1) x xs = some r ∧ r.length ≤ xs.length + j + 1
  | 0, x, xs, _, h0, h1, hl => by
    have hx : x = 0 := by simp at h1; omega
    subst hx
    refine ⟨[((xs.length : Int)) % 256] ++ xs, ?_, by simp <;> omega⟩
    unfold unisonref01_Num.l0
    rw [if_neg (by omega)]
    show (if ([((xs.length : Int)) % 256] : List Int).length + xs.length < 140737488355328 then some ([((xs.length : Int)) % 256] ++ xs) else none) = _
    rw [if_pos (by simp <;> omega)]
  | j + 1, x, xs, hj, h0, h1, hl => by
    by_cases hx : x > 0
    · have h3 : x / 256 < 256 ^ j := by
        rw [Int.pow_succ] at h1
        exact Int.ediv_lt_of_lt_mul (by decide) h1
      have h4 : ((256 : Nat) ^ j : Nat) ≤ 72057594037927936 := Nat.pow_le_pow_right (n := 256) (by decide) (show j ≤ 7 by omega)
      have h4' : ((256 ^ j : Nat) : Int) = (256 : Int) ^ j := Int.natCast_pow 256 j
      have h5 : IntKind.u64.wrap (Int.tdiv x 256) = x / 256 := by
        rw [Int.tdiv_eq_ediv_of_nonneg h0]
        refine wu64 (Int.ediv_nonneg h0 (by decide)) ?_
        rw [← h4'] at h3
        omega
      obtain ⟨r, hr, hrl⟩ := num_ok j (x / 256) (xs ++ [(Int.tmod x 256) % 256]) (by omega) (Int.ediv_nonneg h0 (by decide)) h3 (by simp <;> omega)
      refine ⟨r, ?_, by simp at hrl; omega⟩
      unfold unisonref01_Num.l0
      rw [if_pos hx, if_pos (by omega), h5]
      exact hr
    · have hx0 : x = 0 := by omega
      subst hx0
      refine ⟨[((xs.length : Int)) % 256] ++ xs, ?_, by simp <;> omega⟩
      unfold unisonref01_Num.l0
      rw [if_neg (by omega)]
      show (if ([((xs.length : Int)) % 256] : List Int).length + xs.length < 140737488355328 then some ([((xs.length : Int)) % 256] ++ xs) else none) = _
      rw [if_pos (by simp <;> omega)]
theorem Num_ok (x : Int) (k : Nat) (h0 : 0 ≤ x) (h1 : x < 18446744073709551616) (hk : 9 ≤ k) : ∃ r, unisonref01_Num.f k x = some r ∧ r.length ≤ 9 := by
  obtain ⟨r, hr, hl⟩ := num_ok 8 x [] (by decide) h0 (by rw [show (256 : Int) ^ 8 = 18446744073709551616 from rfl]; exact h1) (by simp)
  refine ⟨r, ?_, by simpa using hl⟩
  exact leO_le (f := fun k => unisonref01_Num.f k x) (fun k => unisonref01_Num.mono_l k x []) hk r hr
def u64r (l : List Int) : Prop := ∀ x ∈ l, 0 ≤ x ∧ x < 18446744073709551616
theorem nums_l0_ok (l : List Int) (hl : l.length ≤ 1000000) (hu : u64r l) : ∀ (d i k : Nat) (xs : List Int), i + d = l.length → d + 10 ≤ k → xs.length + 9 * d ≤ 100000000 → ∃ r, unisonref06_nums.l0 k l xs (l.length : Int) (i : Int) = some r
  | 0, i, k + 1, xs, hi, hk, hx => by
    unfold unisonref06_nums.l0
    rw [if_neg (by omega)]
    exact ⟨_, rfl⟩
  | d + 1, i, k + 1, xs, hi, hk, hx => by
    have hm : rd l (i : Int) ∈ l := by
      simp only [rd, Int.toNat_natCast, List.getD]
      rw [List.getElem?_eq_getElem (by omega)]
      exact List.getElem_mem _
    obtain ⟨r1, h1, h2⟩ := Num_ok (rd l (i : Int)) k (hu _ hm).1 (hu _ hm).2 (by omega)
    obtain ⟨r, hr⟩ := nums_l0_ok l hl hu d (i + 1) k (xs ++ r1) (by omega) (by omega) (by simp <;> omega)
    refine ⟨r, ?_⟩
    unfold unisonref06_nums.l0
    rw [if_pos (by omega), if_pos (by omega), if_pos (by omega), h1]
    show (if xs.length + r1.length < 140737488355328 then _ else none) = _
    rw [if_pos (by omega), w64 (by omega) (by omega)]
    exact_mod_cast hr
theorem nums_ok (l : List Int) (k : Nat) (hl : l.length ≤ 1000000) (hu : u64r l) (hk : l.length + 10 ≤ k) : ∃ r, unisonref06_nums.f k l = some r := by
  obtain ⟨r1, h1, h2⟩ := Num_ok (l.length : Int) k (by omega) (by omega) (by omega)
  obtain ⟨r, hr⟩ := nums_l0_ok l hl hu l.length 0 k r1 (by omega) hk (by omega)
  refine ⟨r, ?_⟩
  unfold unisonref06_nums.f
  rw [wu64 (by omega) (by omega), h1]
  exact hr
theorem same3_l0 (l : List S66) (hl : l.length ≤ 1000000) : ∀ (d i k : Nat), i + d = l.length → d + 1 ≤ k → unisonref03_Same.l0 k l l (l.length : Int) (i : Int) = some true
  | 0, i, k + 1, hi, hk => by
    unfold unisonref03_Same.l0
    rw [if_neg (by omega)]
  | d + 1, i, k + 1, hi, hk => by
    unfold unisonref03_Same.l0
    rw [if_pos (by omega), if_pos (by omega), if_pos (by omega), if_pos (by omega), if_neg (by simp), w64 (by omega) (by omega)]
    exact_mod_cast same3_l0 l hl d (i + 1) k (by omega) (by omega)
theorem same3_ok (l : List S66) (k : Nat) (hl : l.length ≤ 1000000) (hk : l.length + 1 ≤ k) : unisonref03_Same.f k l l = some true := by
  unfold unisonref03_Same.f
  rw [if_pos rfl]
  exact same3_l0 l hl l.length 0 k (by omega) hk
/-- A frame's rows of numbers are numbers. -/
structure fnum (f : Fr) : Prop where
  n10 : u64r f.f10
  n11 : u64r f.f11
/-- A frame is the same as itself. -/
theorem same_self (f : Fr) (hf : fok f) (hn : fnum f) : unisonref06_Same.f 2000000 f.f0.f0 f.f0.f1 f.f0.f2 f.f1.f0 f.f1.f1 f.f2 f.f3 f.f4 f.f5 f.f6 f.f7 f.f8 f.f9 f.f10 f.f11 f.f12 f.f0.f0 f.f0.f1 f.f0.f2 f.f1.f0 f.f1.f1 f.f2 f.f3 f.f4 f.f5 f.f6 f.f7 f.f8 f.f9 f.f10 f.f11 f.f12 = some true := by
  have h8 := hf.l8
  have h9 := hf.l9
  have h10 := hf.l10
  have h11 := hf.l11
  obtain ⟨r1, e1⟩ := nums_ok f.f10 2000000 hf.l10 hn.n10 (by omega)
  obtain ⟨r2, e2⟩ := nums_ok f.f11 2000000 hf.l11 hn.n11 (by omega)
  unfold unisonref06_Same.f
  rw [if_pos (by simp [eqI, eqL]), same3_ok f.f8 2000000 hf.l8 (by omega), same3_ok f.f9 2000000 hf.l9 (by omega), e1, e2]
  rfl

end Go.Proofs.Ytdeknknefjepnaa.Walk
