/- The number of a process, a vector with another one, and by how much one falls short, are what the reference tells; what is handed in stays. Conditions: none beyond the statement's own. -/
import Derived.Test.YtfdopedpplhhaaaF13
namespace Go.Proofs.Ytfdopedpplhhaaa.Pure
open Go.RowKit Go.Proofs.Ytfdopedpplhhaaa.F Go.Proofs.YtfdopedpplhhaaaW.PrintWords Go.Proofs.YtfdopedpplhhaaaW.PrintLast Go.Proofs.YtfdopedpplhhaaaW.PrintMore

theorem w64 {x : Int} (h0 : -9223372036854775808 ≤ x) (h1 : x ≤ 9223372036854775807) : wrap64 x = x := by unfold wrap64; omega
theorem awake_eq : unisonlaw04_awake.f = some true := by rfl
/-- With another number for a process. -/
def setv (l : List Int) (i n : Int) : List Int := if i < 0 ∨ 64 ≤ i then l else (l ++ List.replicate (i.toNat + 1 - l.length) 0).set i.toNat n
theorem Set_loop (i n : Int) (h0 : 0 ≤ i) (h1 : i < 64) : ∀ (d k : Nat) (x : List Int), i.toNat + 1 - x.length = d → x.length ≤ 1000 → d < k →
    vec_Set.l0 k i n x = some ((x ++ List.replicate (i.toNat + 1 - x.length) 0).set i.toNat n) := by
  intro d
  induction d with
  | zero =>
    intro k x hd hx hk
    obtain ⟨k, rfl⟩ : ∃ m, k = m + 1 := ⟨k - 1, by omega⟩
    simp only [vec_Set.l0]
    rw [if_neg (by omega), if_pos h0, if_pos (by omega), hd]
    simp
  | succ d ih =>
    intro k x hd hx hk
    obtain ⟨k, rfl⟩ : ∃ m, k = m + 1 := ⟨k - 1, by omega⟩
    have hn := ih k (x ++ [0]) (by simp; omega) (by simp; omega) (by omega)
    simp only [vec_Set.l0]
    rw [if_pos (by omega), if_pos (by omega), hn, hd]
    have e : i.toNat + 1 - (x ++ [0]).length = d := by simp; omega
    rw [e, List.replicate_succ]
    simp
theorem Set_eq (l : List Int) (i n : Int) (hl : l.length ≤ 100) (k : Nat) (hk : 100 ≤ k) : vec_Set.f k l i n = some (setv l i n) := by
  obtain ⟨k, rfl⟩ : ∃ m, k = m + 1 := ⟨k - 1, by omega⟩
  unfold vec_Set.f slices_Clone_uint64_uint64.f setv
  rw [if_pos (by omega)]
  simp only [Option.bind_some]
  by_cases h0 : i < 0
  · rw [if_pos h0, if_pos (Or.inl h0)]
    simp [vec_Set.j0]
  · rw [if_neg h0]
    by_cases h1 : i ≥ 64
    · rw [if_pos (Or.inr h1), decide_eq_true h1]
      simp [vec_Set.j0]
    · rw [if_neg (by omega), decide_eq_false h1]
      simp only [vec_Set.j0]
      rw [if_neg (by simp)]
      exact Set_loop i n (by omega) (by omega) _ k l rfl (by omega) (by omega)

theorem rAt_eq (l : List Int) (i : Int) (h : 0 ≤ i) : unisonref04_At.f l i = some (rd l i) := by
  unfold unisonref04_At.f
  rw [if_pos (by omega)]
  by_cases hq : i < (l.length : Int)
  · rw [if_pos hq, if_pos (by omega)]
  · rw [if_neg hq, rd_over (by omega)]
theorem rSet_loop (i n : Int) (h0 : 0 ≤ i) (h1 : i < 64) : ∀ (d k : Nat) (x : List Int), i.toNat + 1 - x.length = d → x.length ≤ 1000 → d < k →
    unisonref04_Set.l0 k i n x = some ((x ++ List.replicate (i.toNat + 1 - x.length) 0).set i.toNat n) := by
  intro d
  induction d with
  | zero =>
    intro k x hd hx hk
    obtain ⟨k, rfl⟩ : ∃ m, k = m + 1 := ⟨k - 1, by omega⟩
    simp only [unisonref04_Set.l0]
    rw [w64 (by omega) (by omega), if_neg (by omega), if_pos h0, if_pos (by omega), hd]
    simp
  | succ d ih =>
    intro k x hd hx hk
    obtain ⟨k, rfl⟩ : ∃ m, k = m + 1 := ⟨k - 1, by omega⟩
    have hn := ih k (x ++ [0]) (by simp; omega) (by simp; omega) (by omega)
    simp only [unisonref04_Set.l0]
    rw [w64 (by omega) (by omega), if_pos (by omega), if_pos (by omega), hn, hd]
    have e : i.toNat + 1 - (x ++ [0]).length = d := by simp; omega
    rw [e, List.replicate_succ]
    simp
theorem rSet_eq (l : List Int) (i n : Int) (hl : l.length ≤ 100) (k : Nat) (hk : 100 ≤ k) : unisonref04_Set.f k l i n = some (setv l i n) := by
  obtain ⟨k, rfl⟩ : ∃ m, k = m + 1 := ⟨k - 1, by omega⟩
  unfold unisonref04_Set.f setv
  simp only [Option.bind_some, List.nil_append]
  rw [if_pos (by simp; omega)]
  by_cases h0 : i < 0
  · rw [if_pos h0, if_pos (Or.inl h0)]
    simp [unisonref04_Set.j0]
  · rw [if_neg h0]
    by_cases h1 : i > 63
    · rw [if_pos (Or.inr (by omega)), decide_eq_true h1]
      simp [unisonref04_Set.j0]
    · rw [if_neg (by omega), decide_eq_false h1]
      simp only [unisonref04_Set.j0]
      rw [if_neg (by simp)]
      exact rSet_loop i n (by omega) (by omega) _ k l rfl (by omega) (by omega)
/-- Is a at least b? -/
def covv (a b : List Int) : Prop := ∀ i : Nat, i < b.length → rd b (i : Int) ≤ rd a (i : Int)
instance (a b : List Int) : Decidable (covv a b) := Nat.decidableBallLT b.length (fun i _ => rd b (i : Int) ≤ rd a (i : Int))
theorem Covers_loop (a b : List Int) (hb : b.length ≤ 1000) : ∀ (d i k : Nat), b.length - i = d → i ≤ b.length → d < k → (∀ j : Nat, j < i → rd b (j : Int) ≤ rd a (j : Int)) →
    unisonref04_Covers.l0 k a b (b.length : Int) (i : Int) = some (decide (covv a b)) := by
  intro d
  induction d with
  | zero =>
    intro i k hd hi hk h
    obtain ⟨k, rfl⟩ : ∃ m, k = m + 1 := ⟨k - 1, by omega⟩
    simp only [unisonref04_Covers.l0]
    rw [if_neg (by omega), decide_eq_true (show covv a b from fun j hj => h j (by omega))]
  | succ d ih =>
    intro i k hd hi hk h
    obtain ⟨k, rfl⟩ : ∃ m, k = m + 1 := ⟨k - 1, by omega⟩
    simp only [unisonref04_Covers.l0]
    rw [if_pos (by omega), rAt_eq a i (by omega)]
    simp only [Option.bind_some]
    rw [if_pos (by omega), if_pos (by omega)]
    by_cases hc : rd a (i : Int) < rd b (i : Int)
    · rw [if_pos hc, decide_eq_false (fun hn => by have := hn i (by omega); omega)]
    · rw [if_neg hc, w64 (by omega) (by omega)]
      have := ih (i + 1) k (by omega) (by omega) (by omega) (fun j hj => by
        rcases Nat.lt_or_ge j i with h' | h'
        · exact h j h'
        · obtain rfl : j = i := by omega
          omega)
      simpa using this
theorem Covers_eq (a b : List Int) (hb : b.length ≤ 1000) (k : Nat) (hk : b.length < k) : unisonref04_Covers.f k a b = some (decide (covv a b)) := by
  have := Covers_loop a b hb b.length 0 k (by omega) (by omega) hk (fun j hj => by omega)
  simpa [unisonref04_Covers.f] using this
theorem Same_eq (a b : List Int) (ha : a.length ≤ 1000) (hb : b.length ≤ 1000) (k : Nat) (hk : 1000 < k) : unisonref04_Same.f k a b = some (decide (covv a b ∧ covv b a)) := by
  unfold unisonref04_Same.f
  rw [Covers_eq a b hb k (by omega), Covers_eq b a ha k (by omega)]
  simp only [Option.bind_some]
  by_cases h : covv a b <;> simp [h]
theorem Equal_refl (a : List Int) (ha : a.length ≤ 1000) (k : Nat) (hk : 1000 < k) : unisonref04_Equal.f k a a = some true := by
  unfold unisonref04_Equal.f
  rw [if_pos rfl, Same_eq a a ha ha k hk]
  simp only [Option.bind_some]
  rw [decide_eq_true (show covv a a ∧ covv a a from ⟨fun _ _ => Int.le_refl _, fun _ _ => Int.le_refl _⟩)]
theorem Lack_loop (a b : List Int) (hb : b.length ≤ 1000) (ha : u64s a) (hb2 : u64s b) : ∀ (d i k : Nat) (s : Int), b.length - i = d → i ≤ b.length → d < k → 0 ≤ s → s < 18446744073709551616 →
    vec_Lack.l0 k a s b (b.length : Int) (i : Int) = some (lackFrom a i s (b.drop i)) := by
  intro d
  induction d with
  | zero =>
    intro i k s hd hi hk h0 h1
    obtain ⟨k, rfl⟩ : ∃ m, k = m + 1 := ⟨k - 1, by omega⟩
    simp only [vec_Lack.l0]
    rw [if_neg (by omega), List.drop_eq_nil_iff.2 (by omega)]
    rfl
  | succ d ih =>
    intro i k s hd hi hk h0 h1
    obtain ⟨k, rfl⟩ : ∃ m, k = m + 1 := ⟨k - 1, by omega⟩
    have hlt : i < b.length := by omega
    have e : b.drop i = rd b (i : Int) :: b.drop (i + 1) := by
      rw [List.drop_eq_getElem_cons hlt]
      simp [rd, List.getD, hlt]
    have hx := u64s_rd ha (i : Int)
    have hn := u64s_rd hb2 (i : Int)
    have e1 : IntKind.u64.wrap (rd b (i : Int) - mn (rd b (i : Int)) (rd a (i : Int))) = shortOf (rd a (i : Int)) (rd b (i : Int)) := by
      have : rd b (i : Int) - mn (rd b (i : Int)) (rd a (i : Int)) = shortOf (rd a (i : Int)) (rd b (i : Int)) := by unfold mn shortOf; split <;> omega
      rw [this]
      have h : 0 ≤ shortOf (rd a (i : Int)) (rd b (i : Int)) ∧ shortOf (rd a (i : Int)) (rd b (i : Int)) < 18446744073709551616 := by unfold shortOf; split <;> omega
      simpa using u64_add_no (s := shortOf (rd a (i : Int)) (rd b (i : Int))) (m := 0) h.1 (by omega) (by omega)
    have e2 : IntKind.u64.wrap (18446744073709551615 - s) = 18446744073709551615 - s := by simpa using u64_add_no (s := 18446744073709551615 - s) (m := 0) (by omega) (by omega) (by omega)
    have hs : 0 ≤ shortOf (rd a (i : Int)) (rd b (i : Int)) := by unfold shortOf; split <;> omega
    simp only [vec_Lack.l0]
    rw [if_pos (by omega), if_pos (by omega), if_pos (by omega), At_eq a i (by omega)]
    simp only [Option.bind_some]
    rw [e1, e2, e]
    simp only [lackFrom]
    by_cases hc : 18446744073709551615 < s + shortOf (rd a (i : Int)) (rd b (i : Int))
    · rw [if_pos hc, if_pos (by omega)]
    · rw [if_neg hc, if_neg (by omega), u64_add_no h0 hs (by omega), w64 (by omega) (by omega)]
      have := ih (i + 1) k (s + shortOf (rd a (i : Int)) (rd b (i : Int))) (by omega) (by omega) (by omega) (by omega) (by omega)
      simpa using this
theorem Lack_eq (a b : List Int) (hb : b.length ≤ 1000) (ha : u64s a) (hb2 : u64s b) (k : Nat) (hk : b.length < k) : vec_Lack.f k a b = some (lackFrom a 0 0 b) := by
  have := Lack_loop a b hb ha hb2 b.length 0 k 0 (by omega) (by omega) hk (by decide) (by decide)
  simpa [vec_Lack.f] using this
theorem rLack_eq (a b : List Int) (hb : b.length ≤ 1000) (ha : u64s a) (hb2 : u64s b) : unisonref04_Lack.f a b = some (lackFrom a 0 0 b) := if_pos ⟨hb, ha, hb2⟩
theorem wf_u64s {l : List Int} (h : ∀ x ∈ l, (Lit.int .u64 x).wf = true) : u64s l := fun x hx => by
  have := h x hx
  simp [Lit.wf, IntKind.min, IntKind.max, IntKind.signed, IntKind.bits] at this
  omega

theorem VecIs : unisonlaw04_VecIs.Pure := by
  intro l0 l1 a2 a3 _ _ w0 _ _ w1 _ _
  have u0 := wf_u64s w0
  have u1 := wf_u64s w1
  obtain ⟨K, hK⟩ : ∃ K : Nat, 2000 ≤ K := ⟨2000, Nat.le_refl _⟩
  refine ⟨K + 2, ?_⟩
  have hA : vec_At.f l0 a2 = unisonref04_At.f l0 a2 := by
    by_cases h : a2 < 0
    · unfold vec_At.f unisonref04_At.f
      rw [if_pos h, if_neg (by omega)]
    · rw [At_eq l0 a2 (by omega), rAt_eq l0 a2 (by omega)]
  have far : unisonlaw04_VecIs.j0 (K + 2) l0 l1 a2 a3 true = some true := by
    simp [unisonlaw04_VecIs.j0, awake_eq]
  unfold unisonlaw04_VecIs.f
  by_cases h : (l0.length : Int) > 100
  · rw [if_pos h]; exact far
  · rw [if_neg h]
    by_cases h1 : (l1.length : Int) > 100
    · rw [decide_eq_true h1]; exact far
    · rw [decide_eq_false h1]
      have hs : (setv l0 a2 a3).length ≤ 1000 := by
        unfold setv
        split
        · omega
        · simp; omega
      simp only [unisonlaw04_VecIs.j0, Bool.false_eq_true, if_false, Option.bind_some, List.nil_append]
      rw [if_pos (by simp; omega), Set_eq l0 a2 a3 (by omega) (K + 1) (by omega), Equal_refl l0 (by omega) (K + 1) (by omega)]
      simp only [Option.bind_some, if_true]
      rw [rSet_eq l0 a2 a3 (by omega) (K + 1) (by omega)]
      simp only [Option.bind_some]
      rw [Equal_refl _ hs (K + 1) (by omega)]
      simp only [Option.bind_some, Bool.not_true, unisonlaw04_VecIs.j1, Bool.false_eq_true, if_false]
      rw [hA]
      obtain ⟨x, hx⟩ : ∃ x, unisonref04_At.f l0 a2 = some x := by
        by_cases h : a2 < 0
        · exact ⟨0, by unfold unisonref04_At.f; rw [if_neg (by omega)]⟩
        · exact ⟨_, rAt_eq l0 a2 (by omega)⟩
      rw [hx]
      simp only [Option.bind_some, if_true]
      rw [Lack_eq l0 l1 (by omega) u0 u1 K (by omega), rLack_eq l0 l1 (by omega) u0 u1, awake_eq]
      simp

end Go.Proofs.Ytfdopedpplhhaaa.Pure
