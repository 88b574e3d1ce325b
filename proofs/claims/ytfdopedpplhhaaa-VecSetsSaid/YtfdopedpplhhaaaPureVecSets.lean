/- A vector with another number for a process has that, and for all others what it had. Conditions: none beyond the statement's own. -/
import Derived.Test.YtfdopedpplhhaaaF10
namespace Go.Proofs.Ytfdopedpplhhaaa.Pure
open Go.RowKit Go.Proofs.Ytfdopedpplhhaaa.F Go.Proofs.YtfdopedpplhhaaaW.PrintWords Go.Proofs.YtfdopedpplhhaaaW.PrintLast Go.Proofs.YtfdopedpplhhaaaW.PrintMore

theorem w64 {x : Int} (h0 : -9223372036854775808 ≤ x) (h1 : x ≤ 9223372036854775807) : wrap64 x = x := by unfold wrap64; omega
theorem awake_eq : unisonlaw04_awake.f = some true := by rfl
/-- With another number for a process. -/
def setv (l : List Int) (i n : Int) : List Int := if i < 0 ∨ 64 ≤ i then l else (l ++ List.replicate (i.toNat + 1 - l.length) 0).set i.toNat n
theorem Set_loop (i n : Int) (h0 : 0 ≤ i) (h1 : i < 64) : ∀ (d k : Nat) (x : List Int), i.toNat + 1 - x.length = d → x.length ≤ 1000 → d < k →
    vec_Set.l0 k i n x = some ((x ++ List.replicate (i.toNat + 1 - x.length) 0).set i.toNat n) := by
  intro d
  induction d with
  | zero =>
    intro k x hd hx hk
    obtain ⟨k, rfl⟩ : ∃ m, k = m + 1 := ⟨k - 1, by omega⟩
    simp only [vec_Set.l0]
    rw [if_neg (by omega), if_pos h0, if_pos (by omega), hd]
    simp
  | succ d ih =>
    intro k x hd hx hk
    obtain ⟨k, rfl⟩ : ∃ m, k = m + 1 := ⟨k - 1, by omega⟩
    have hn := ih k (x ++ [0]) (by simp; omega) (by simp; omega) (by omega)
    simp only [vec_Set.l0]
    rw [if_pos (by omega), if_pos (by omega), hn, hd]
    have e : i.toNat + 1 - (x ++ [0]).length = d := by simp; omega
    rw [e, List.replicate_succ]
    simp
theorem Set_eq (l : List Int) (i n : Int) (hl : l.length ≤ 100) (k : Nat) (hk : 100 ≤ k) : vec_Set.f k l i n = some (setv l i n) := by
  obtain ⟨k, rfl⟩ : ∃ m, k = m + 1 := ⟨k - 1, by omega⟩
  unfold vec_Set.f slices_Clone_uint64_uint64.f setv
  rw [if_pos (by omega)]
  simp only [Option.bind_some]
  by_cases h0 : i < 0
  · rw [if_pos h0, if_pos (Or.inl h0)]
    simp [vec_Set.j0]
  · rw [if_neg h0]
    by_cases h1 : i ≥ 64
    · rw [if_pos (Or.inr h1), decide_eq_true h1]
      simp [vec_Set.j0]
    · rw [if_neg (by omega), decide_eq_false h1]
      simp only [vec_Set.j0]
      rw [if_neg (by simp)]
      exact Set_loop i n (by omega) (by omega) _ k l rfl (by omega) (by omega)

theorem setv_len {l : List Int} {i n : Int} (h0 : 0 ≤ i) (h1 : i < 64) : (setv l i n).length = max l.length (i.toNat + 1) := by
  unfold setv
  rw [if_neg (by omega)]
  simp
  omega
theorem setv_rd {l : List Int} {i n : Int} (h0 : 0 ≤ i) (h1 : i < 64) (j : Int) (hj : 0 ≤ j) : rd (setv l i n) j = if j = i then n else rd l j := by
  unfold setv
  rw [if_neg (by omega)]
  unfold rd
  by_cases e : j = i
  · subst e
    rw [if_pos rfl]
    simp only [List.getD]
    rw [List.getElem?_set_self (by simp; omega)]
    rfl
  · rw [if_neg e]
    simp only [List.getD]
    rw [List.getElem?_set_ne (by omega), List.getElem?_append]
    split
    · rfl
    · rw [List.getElem?_eq_none (show l.length ≤ j.toNat by omega), List.getElem?_replicate]
      split <;> rfl
theorem sets_loop (l0 : List Int) (p n : Int) (p0 : 0 ≤ p) (p1 : p < 64) : ∀ (d i k : Nat), 64 - i = d → i ≤ 64 → d < k → unisonlaw04_VecSets.l0 k l0 p (setv l0 p n) (i : Int) = some true := by
  intro d
  induction d with
  | zero =>
    intro i k hd hi hk
    obtain ⟨k, rfl⟩ : ∃ m, k = m + 1 := ⟨k - 1, by omega⟩
    simp only [unisonlaw04_VecSets.l0]
    rw [if_neg (by omega), awake_eq]
    rfl
  | succ d ih =>
    intro i k hd hi hk
    obtain ⟨k, rfl⟩ : ∃ m, k = m + 1 := ⟨k - 1, by omega⟩
    have hn := ih (i + 1) k (by omega) (by omega) (by omega)
    have ew : wrap64 ((i : Int) + 1) = ((i + 1 : Nat) : Int) := by rw [w64 (by omega) (by omega)]; simp
    have h64 : (i : Int) < 64 := by omega
    have h0 : 0 ≤ (i : Int) := by omega
    clear ih hd hi hk
    simp only [unisonlaw04_VecSets.l0]
    rw [if_pos h64, ew]
    by_cases hip : (i : Int) = p
    · rw [if_pos hip]; exact hn
    · rw [if_neg hip, At_eq _ _ h0, At_eq _ _ h0, setv_rd p0 p1 _ h0, if_neg hip]
      simp only [Option.bind_some, if_true]
      exact hn
theorem VecSets : unisonlaw04_VecSets.Pure := by
  intro l0 a1 a2 _ _ w0 w1 _
  have b1 : 0 ≤ a1 ∧ a1 ≤ 255 := by
    simp [Lit.wf, IntKind.min, IntKind.max, IntKind.signed, IntKind.bits] at w1
    omega
  obtain ⟨K, hK⟩ : ∃ K : Nat, 2000 ≤ K := ⟨2000, Nat.le_refl _⟩
  refine ⟨K + 1, ?_⟩
  unfold unisonlaw04_VecSets.f
  by_cases h : (l0.length : Int) > 64
  · rw [if_pos h, awake_eq]; rfl
  · rw [if_neg h]
    have hp : wrap64 (Int.tmod a1 64) = a1 % 64 := by
      rw [Int.tmod_eq_emod_of_nonneg b1.1, w64 (by omega) (by omega)]
    rw [hp]
    have p0 : 0 ≤ a1 % 64 ∧ a1 % 64 < 64 := by omega
    generalize a1 % 64 = p at *
    rw [Set_eq l0 p a2 (by omega) (K + 1) (by omega)]
    simp only [Option.bind_some]
    rw [At_eq _ p p0.1, setv_rd p0.1 p0.2 p p0.1, if_pos rfl]
    simp only [Option.bind_some, if_true]
    have e : ((setv l0 p a2).length : Int) = mx (l0.length : Int) (wrap64 (p + 1)) := by
      rw [setv_len p0.1 p0.2, w64 (by omega) (by omega)]
      unfold mx
      split <;> omega
    have e' : (((setv l0 p a2).length : Int) != mx (l0.length : Int) (wrap64 (p + 1))) = false := by simp [e]
    rw [e']
    simp only [unisonlaw04_VecSets.j0, Bool.false_eq_true, if_false]
    exact sets_loop l0 p a2 p0.1 p0.2 64 0 K rfl (Nat.zero_le _) (by omega)

end Go.Proofs.Ytfdopedpplhhaaa.Pure
