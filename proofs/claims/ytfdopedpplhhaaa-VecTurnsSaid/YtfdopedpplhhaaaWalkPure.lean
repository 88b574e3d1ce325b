/- What the laws of vectors lean on, in plain Lean. Conditions: none beyond the statement's own. -/
import Derived.Test.YtfdopedpplhhaaaF6
import Derived.Test.YtfdopedpplhhaaaF8
import Derived.Test.YtfdopedpplhhaaaF3
import Derived.Test.YtfdopedpplhhaaaF2
import Derived.Test.YtfdopedpplhhaaaF12
import Derived.Test.YtfdopedpplhhaaaF4
import Derived.Test.YtfdopedpplhhaaaF5
import Derived.Test.YtfdopedpplhhaaaF1
import Derived.Test.YtfdopedpplhhaaaArgs
import Derived.Deep.QuietTactic
import Derived.BigQuiet
import Derived.Lib.QuietBelow
import Derived.Outline
import Derived.Deep.RegionHeld3
import Derived.Deep.CutRange
namespace Go.Proofs.Ytfdopedpplhhaaa.Walk
open Go.RowKit Go.Proofs.Ytfdopedpplhhaaa.F Go.Proofs.YtfdopedpplhhaaaW.PrintWords Go.Proofs.YtfdopedpplhhaaaW.PrintLast Go.Proofs.YtfdopedpplhhaaaW.PrintMore Go.Proofs.Ytfdopedpplhhaaa.Open
open Go.Sort (grow)
attribute [local go_sem] max2_int min2_int max_two min_two max_three min_three max_four min_four
set_option linter.unusedVariables false
set_option linter.unusedSimpArgs false

theorem w64 {x : Int} (h0 : -9223372036854775808 ≤ x) (h1 : x ≤ 9223372036854775807) : wrap64 x = x := by unfold wrap64; omega
theorem awake_eq : unisonlaw04_awake.f = some true := by rfl
theorem wf_u64s {l : List Int} (h : ∀ x ∈ l, (Lit.int .u64 x).wf = true) : u64s l := fun x hx => by
  have := h x hx
  simp [Lit.wf, IntKind.min, IntKind.max, IntKind.signed, IntKind.bits] at this
  omega

theorem rAt_eq (l : List Int) (i : Int) (h : 0 ≤ i) : unisonref04_At.f l i = some (rd l i) := by
  unfold unisonref04_At.f
  rw [if_pos (by omega)]
  by_cases hq : i < (l.length : Int)
  · rw [if_pos hq, if_pos (by omega)]
  · rw [if_neg hq, rd_over (by omega)]
/-- Is a at least b? -/
def covv (a b : List Int) : Prop := ∀ i : Nat, i < b.length → rd b (i : Int) ≤ rd a (i : Int)
instance (a b : List Int) : Decidable (covv a b) := Nat.decidableBallLT b.length (fun i _ => rd b (i : Int) ≤ rd a (i : Int))
theorem Covers_loop (a b : List Int) (hb : b.length ≤ 1000) : ∀ (d i k : Nat), b.length - i = d → i ≤ b.length → d < k → (∀ j : Nat, j < i → rd b (j : Int) ≤ rd a (j : Int)) →
    unisonref04_Covers.l0 k a b (b.length : Int) (i : Int) = some (decide (covv a b)) := by
  intro d
  induction d with
  | zero =>
    intro i k hd hi hk h
    obtain ⟨k, rfl⟩ : ∃ m, k = m + 1 := ⟨k - 1, by omega⟩
    simp only [unisonref04_Covers.l0]
    rw [if_neg (by omega), decide_eq_true (show covv a b from fun j hj => h j (by omega))]
  | succ d ih =>
    intro i k hd hi hk h
    obtain ⟨k, rfl⟩ : ∃ m, k = m + 1 := ⟨k - 1, by omega⟩
    simp only [unisonref04_Covers.l0]
    rw [if_pos (by omega), rAt_eq a i (by omega)]
    simp only [Option.bind_some]
    rw [if_pos (by omega), if_pos (by omega)]
    by_cases hc : rd a (i : Int) < rd b (i : Int)
    · rw [if_pos hc, decide_eq_false (fun hn => by have := hn i (by omega); omega)]
    · rw [if_neg hc, w64 (by omega) (by omega)]
      have := ih (i + 1) k (by omega) (by omega) (by omega) (fun j hj => by
        rcases Nat.lt_or_ge j i with h' | h'
        · exact h j h'
        · obtain rfl : j = i := by omega
          omega)
      simpa using this
theorem Covers_eq (a b : List Int) (hb : b.length ≤ 1000) (k : Nat) (hk : b.length < k) : unisonref04_Covers.f k a b = some (decide (covv a b)) := by
  have := Covers_loop a b hb b.length 0 k (by omega) (by omega) hk (fun j hj => by omega)
  simpa [unisonref04_Covers.f] using this
theorem Same_eq (a b : List Int) (ha : a.length ≤ 1000) (hb : b.length ≤ 1000) (k : Nat) (hk : 1000 < k) : unisonref04_Same.f k a b = some (decide (covv a b ∧ covv b a)) := by
  unfold unisonref04_Same.f
  rw [Covers_eq a b hb k (by omega), Covers_eq b a ha k (by omega)]
  simp only [Option.bind_some]
  by_cases h : covv a b <;> simp [h]
theorem Equal_refl (a : List Int) (ha : a.length ≤ 1000) (k : Nat) (hk : 1000 < k) : unisonref04_Equal.f k a a = some true := by
  unfold unisonref04_Equal.f
  rw [if_pos rfl, Same_eq a a ha ha k hk]
  simp only [Option.bind_some]
  rw [decide_eq_true (show covv a a ∧ covv a a from ⟨fun _ _ => Int.le_refl _, fun _ _ => Int.le_refl _⟩)]

theorem Lack_loop (a b : List Int) (hb : b.length ≤ 1000) (ha : u64s a) (hb2 : u64s b) : ∀ (d i k : Nat) (s : Int), b.length - i = d → i ≤ b.length → d < k → 0 ≤ s → s < 18446744073709551616 →
    vec_Lack.l0 k a s b (b.length : Int) (i : Int) = some (lackFrom a i s (b.drop i)) := by
  intro d
  induction d with
  | zero =>
    intro i k s hd hi hk h0 h1
    obtain ⟨k, rfl⟩ : ∃ m, k = m + 1 := ⟨k - 1, by omega⟩
    simp only [vec_Lack.l0]
    rw [if_neg (by omega), List.drop_eq_nil_iff.2 (by omega)]
    rfl
  | succ d ih =>
    intro i k s hd hi hk h0 h1
    obtain ⟨k, rfl⟩ : ∃ m, k = m + 1 := ⟨k - 1, by omega⟩
    have hlt : i < b.length := by omega
    have e : b.drop i = rd b (i : Int) :: b.drop (i + 1) := by
      rw [List.drop_eq_getElem_cons hlt]
      simp [rd, List.getD, hlt]
    have hx := u64s_rd ha (i : Int)
    have hn := u64s_rd hb2 (i : Int)
    have e1 : IntKind.u64.wrap (rd b (i : Int) - mn (rd b (i : Int)) (rd a (i : Int))) = shortOf (rd a (i : Int)) (rd b (i : Int)) := by
      have : rd b (i : Int) - mn (rd b (i : Int)) (rd a (i : Int)) = shortOf (rd a (i : Int)) (rd b (i : Int)) := by unfold mn shortOf; split <;> omega
      rw [this]
      have h : 0 ≤ shortOf (rd a (i : Int)) (rd b (i : Int)) ∧ shortOf (rd a (i : Int)) (rd b (i : Int)) < 18446744073709551616 := by unfold shortOf; split <;> omega
      simpa using u64_add_no (s := shortOf (rd a (i : Int)) (rd b (i : Int))) (m := 0) h.1 (by omega) (by omega)
    have e2 : IntKind.u64.wrap (18446744073709551615 - s) = 18446744073709551615 - s := by simpa using u64_add_no (s := 18446744073709551615 - s) (m := 0) (by omega) (by omega) (by omega)
    have hs : 0 ≤ shortOf (rd a (i : Int)) (rd b (i : Int)) := by unfold shortOf; split <;> omega
    simp only [vec_Lack.l0]
    rw [if_pos (by omega), if_pos (by omega), if_pos (by omega), At_eq a i (by omega)]
    simp only [Option.bind_some]
    rw [e1, e2, e]
    simp only [lackFrom]
    by_cases hc : 18446744073709551615 < s + shortOf (rd a (i : Int)) (rd b (i : Int))
    · rw [if_pos hc, if_pos (by omega)]
    · rw [if_neg hc, if_neg (by omega), u64_add_no h0 hs (by omega), w64 (by omega) (by omega)]
      have := ih (i + 1) k (s + shortOf (rd a (i : Int)) (rd b (i : Int))) (by omega) (by omega) (by omega) (by omega) (by omega)
      simpa using this
theorem Lack_eq (a b : List Int) (hb : b.length ≤ 1000) (ha : u64s a) (hb2 : u64s b) (k : Nat) (hk : b.length < k) : vec_Lack.f k a b = some (lackFrom a 0 0 b) := by
  have := Lack_loop a b hb ha hb2 b.length 0 k 0 (by omega) (by omega) hk (by decide) (by decide)
  simpa [vec_Lack.f] using this
theorem rLack_eq (a b : List Int) (hb : b.length ≤ 1000) (ha : u64s a) (hb2 : u64s b) : unisonref04_Lack.f a b = some (lackFrom a 0 0 b) := if_pos ⟨hb, ha, hb2⟩

theorem fold_once (op : Int → Int → Int) (hop : ∀ x, op x x = x) (l : List (List Int)) (i : Int) (hl : 0 < l.length) : l.foldl (fun n a => op n (rd a i)) (rd (l.headD []) i) = foldv op l i := by
  cases l with
  | nil => simp at hl
  | cons a l => simp [foldv, hop]
theorem mx_self (x : Int) : mx x x = x := by unfold mx; split <;> rfl
theorem mn_self (x : Int) : mn x x = x := by unfold mn; split <;> rfl
def opOf (most : Bool) : Int → Int → Int := if most = true then mx else mn
theorem opOf_self (most : Bool) (x : Int) : opOf most x x = x := by cases most <;> simp [opOf, mx_self, mn_self]
theorem getD_take (l : List (List Int)) (i : Nat) (hi : i < l.length) : l.take (i + 1) = l.take i ++ [l.getD i []] := by rw [List.take_add_one, List.getElem?_eq_getElem hi]; simp [List.getD, hi]
theorem Of_l2 (most : Bool) (l : List (List Int)) (hl : l.length ≤ 1000) (out : List Int) (n x : Int) (hx : 0 ≤ x) (r : List Int) : ∀ (d i k : Nat) (v : Int), l.length - i = d → i ≤ l.length → d < k →
    (∀ k', k < k' + d + 2 → out.length < 17592186044416 ∧ unisonref04_Of.l1 k' most l (out ++ [(l.drop i).foldl (fun n a => opOf most n (rd a x)) v]) n (wrap64 (x + 1)) = some r) →
    unisonref04_Of.l2 k most l out n x v (l.length : Int) (i : Int) = some r := by
  intro d
  induction d with
  | zero =>
    intro i k v hd hi hk h
    obtain ⟨k, rfl⟩ : ∃ m, k = m + 1 := ⟨k - 1, by omega⟩
    obtain ⟨h1, h2⟩ := h k (by omega)
    simp only [unisonref04_Of.l2]
    rw [if_neg (by omega), if_pos h1]
    rw [List.drop_eq_nil_iff.2 (by omega)] at h2
    exact h2
  | succ d ih =>
    intro i k v hd hi hk h
    obtain ⟨k, rfl⟩ : ∃ m, k = m + 1 := ⟨k - 1, by omega⟩
    have hlt : i < l.length := by omega
    have hr : rd_L1 l (i : Int) = l.getD i [] := by simp [rd_L1]
    have hdr : l.drop i = l.getD i [] :: l.drop (i + 1) := by rw [List.drop_eq_getElem_cons hlt]; simp [List.getD, hlt]
    have ew : wrap64 ((i : Int) + 1) = ((i + 1 : Nat) : Int) := by rw [w64 (by omega) (by omega)]; simp
    rw [hdr] at h
    simp only [List.foldl_cons] at h
    have hn := ih (i + 1) k (opOf most v (rd (l.getD i []) x)) (by omega) (by omega) (by omega) (fun k' hk' => h k' (by omega))
    have b1 : (i : Int) < (l.length : Int) := by omega
    have b2 : 0 ≤ (i : Int) := by omega
    clear ih h
    simp only [unisonref04_Of.l2]
    rw [if_pos b1, if_pos b2, if_pos b1, hr, rAt_eq _ x hx]
    simp only [Option.bind_some]
    rw [ew]
    generalize rd (l.getD i []) x = y at *
    cases most
    · rw [if_neg (by simp)]
      by_cases hc : y < v
      · rw [if_pos hc]
        rw [show opOf false v y = y by simp [opOf, mn, hc]] at hn
        exact hn
      · rw [if_neg hc]
        rw [show opOf false v y = v by simp [opOf, mn, hc]] at hn
        exact hn
    · rw [if_pos rfl]
      by_cases hc : y > v
      · rw [if_pos hc]
        rw [show opOf true v y = y by simp [opOf, mx, show v < y from hc]] at hn
        exact hn
      · rw [if_neg hc]
        rw [show opOf true v y = v by simp [opOf, mx, show ¬ v < y from hc]] at hn
        exact hn
theorem Of_l1 (most : Bool) (l : List (List Int)) (hl : l.length ≤ 1000) (hm : longest l ≤ 1000) : ∀ (d j k : Nat), longest l - j = d → j ≤ longest l → (d + 1) * (l.length + 3) < k →
    unisonref04_Of.l1 k most l ((List.range j).map fun (i : Nat) => foldv (opOf most) l (i : Int)) (longest l : Int) (j : Int) = some (foldAll (opOf most) l) := by
  intro d
  induction d with
  | zero =>
    intro j k hd hj hk
    obtain ⟨k, rfl⟩ : ∃ m, k = m + 1 := ⟨k - 1, by omega⟩
    simp only [unisonref04_Of.l1]
    rw [if_neg (by omega)]
    obtain rfl : j = longest l := by omega
    rfl
  | succ d ih =>
    intro j k hd hj hk
    obtain ⟨k, rfl⟩ : ∃ m, k = m + 1 := ⟨k - 1, by omega⟩
    have hlt : j < longest l := by omega
    have hne : 0 < l.length := by
      cases l with
      | nil => simp [longest] at hlt
      | cons a l => simp
    have hr : rd_L1 l 0 = l.headD [] := by cases l <;> rfl
    have b1 : (j : Int) < (longest l : Int) := by omega
    have b2 : (0 : Int) < (l.length : Int) := by omega
    have b3 : 0 ≤ (j : Int) := by omega
    have ew : wrap64 ((j : Int) + 1) = ((j + 1 : Nat) : Int) := by rw [w64 (by omega) (by omega)]; simp
    have hk2 : (d + 1) * (l.length + 3) + l.length + 3 < k + 1 := by
      have : (d + 1 + 1) * (l.length + 3) = (d + 1) * (l.length + 3) + (l.length + 3) := Nat.succ_mul _ _
      omega
    simp only [unisonref04_Of.l1]
    rw [if_pos b1, if_pos b2, hr, rAt_eq _ _ b3]
    simp only [Option.bind_some]
    refine Of_l2 most l hl _ _ (j : Int) b3 _ l.length 0 k _ (by omega) (by omega) ?_ ?_
    · have : 0 < (d + 1) * (l.length + 3) := Nat.mul_pos (by omega) (by omega)
      omega
    · intro k' hk'
      refine ⟨by simp; omega, ?_⟩
      rw [List.drop_zero, fold_once _ (opOf_self most) l _ hne, ew]
      have := ih (j + 1) k' (by omega) (by omega) (by omega)
      rw [List.range_succ, List.map_append] at this
      exact this
theorem Of_l0 (most : Bool) (l : List (List Int)) (hl : l.length ≤ 1000) (hm : longest l ≤ 1000) : ∀ (d i k : Nat), l.length - i = d → i ≤ l.length → d + (longest l + 1) * (l.length + 3) + 1 < k →
    unisonref04_Of.l0 k most l [] (longest (l.take i) : Int) (l.length : Int) (i : Int) = some (foldAll (opOf most) l) := by
  intro d
  induction d with
  | zero =>
    intro i k hd hi hk
    obtain ⟨k, rfl⟩ : ∃ m, k = m + 1 := ⟨k - 1, by omega⟩
    simp only [unisonref04_Of.l0]
    rw [if_neg (by omega), List.take_of_length_le (by omega)]
    exact Of_l1 most l hl hm (longest l) 0 k (by omega) (by omega) (by omega)
  | succ d ih =>
    intro i k hd hi hk
    obtain ⟨k, rfl⟩ : ∃ m, k = m + 1 := ⟨k - 1, by omega⟩
    have hlt : i < l.length := by omega
    have hr : rd_L1 l (i : Int) = l.getD i [] := by simp [rd_L1]
    have hn := ih (i + 1) k (by omega) (by omega) (by omega)
    have ew : wrap64 ((i : Int) + 1) = ((i + 1 : Nat) : Int) := by rw [w64 (by omega) (by omega)]; simp
    have b1 : (i : Int) < (l.length : Int) := by omega
    have b2 : 0 ≤ (i : Int) := by omega
    have hT : longest (l.take (i + 1)) = max (longest (l.take i)) (l.getD i []).length := by
      rw [getD_take l i hlt, longest_append]
      congr 1
      exact Nat.max_zero _
    clear ih
    simp only [unisonref04_Of.l0]
    rw [if_pos b1, if_pos b2, if_pos b1, hr, ew]
    rw [hT] at hn
    by_cases hc : ((l.getD i []).length : Int) > (longest (l.take i) : Int)
    · rw [if_pos hc]
      rw [Nat.max_eq_right (by omega)] at hn
      exact hn
    · rw [if_neg hc]
      rw [Nat.max_eq_left (by omega)] at hn
      exact hn
theorem Of_eq (most : Bool) (l : List (List Int)) (h : okV l) (k : Nat) (hk : l.length + (longest l + 1) * (l.length + 3) + 1 < k) : unisonref04_Of.f k most l = some (foldAll (opOf most) l) :=
  Of_l0 most l h.1 h.2 l.length 0 k (by omega) (by omega) hk
theorem foldAll_len (op : Int → Int → Int) (l : List (List Int)) : (foldAll op l).length = longest l := by simp [foldAll]
/-- What covers and is the same, by the reference's word. -/
theorem cov_iff (a b : List Int) (ha : u64s a) : each1 covH a b (longest [a, b]) = decide (covv a b) := by
  rw [Bool.eq_iff_iff, decide_eq_true_iff]
  simp only [each1, List.all_eq_true, List.mem_range, covH, decide_eq_true_iff]
  constructor
  · intro h i hi
    exact h i (by simp [longest]; omega)
  · intro h i _
    by_cases hb : i < b.length
    · exact h i hb
    · rw [rd_over (by omega)]
      exact (u64s_rd ha _).1
theorem sam_iff (a b : List Int) (ha : u64s a) (hb : u64s b) : each1 samH a b (longest [a, b]) = decide (covv a b ∧ covv b a) := by
  rw [Bool.eq_iff_iff, decide_eq_true_iff]
  simp only [each1, List.all_eq_true, List.mem_range, samH, beq_iff_eq]
  constructor
  · intro h
    exact ⟨fun i hi => by have := h i (by simp [longest]; omega); omega, fun i hi => by have := h i (by simp [longest]; omega); omega⟩
  · rintro ⟨h1, h2⟩ i _
    have e1 : rd b (i : Int) ≤ rd a (i : Int) := by
      by_cases hi : i < b.length
      · exact h1 i hi
      · rw [rd_over (by omega)]
        exact (u64s_rd ha _).1
    have e2 : rd a (i : Int) ≤ rd b (i : Int) := by
      by_cases hi : i < a.length
      · exact h2 i hi
      · rw [rd_over (by omega)]
        exact (u64s_rd hb _).1
    omega
/-- More than 30, or one of more than 100? -/
theorem great_loop (l : List (List Int)) (hl : l.length ≤ 30) : ∀ (d i k : Nat), l.length - i = d → i ≤ l.length → d < k → (∀ a ∈ l.take i, a.length ≤ 100) →
    unisonlaw04_great.l0 k l (i : Int) = some true ∨ (unisonlaw04_great.l0 k l (i : Int) = some false ∧ ∀ a ∈ l, a.length ≤ 100) := by
  intro d
  induction d with
  | zero =>
    intro i k hd hi hk h
    obtain ⟨k, rfl⟩ : ∃ m, k = m + 1 := ⟨k - 1, by omega⟩
    refine Or.inr ⟨?_, ?_⟩
    · simp only [unisonlaw04_great.l0]
      rw [if_neg (by omega)]
    · rwa [List.take_of_length_le (by omega)] at h
  | succ d ih =>
    intro i k hd hi hk h
    obtain ⟨k, rfl⟩ : ∃ m, k = m + 1 := ⟨k - 1, by omega⟩
    have hlt : i < l.length := by omega
    have hr : rd_L1 l (i : Int) = l.getD i [] := by simp [rd_L1]
    have ew : wrap64 ((i : Int) + 1) = ((i + 1 : Nat) : Int) := by rw [w64 (by omega) (by omega)]; simp
    have b1 : (i : Int) < (l.length : Int) := by omega
    have b2 : 0 ≤ (i : Int) := by omega
    simp only [unisonlaw04_great.l0]
    rw [if_pos b1, if_pos b2, hr, ew]
    by_cases hc : ((l.getD i []).length : Int) > 100
    · rw [if_pos hc]
      exact Or.inl rfl
    · rw [if_neg hc]
      refine ih (i + 1) k (by omega) (by omega) (by omega) ?_
      intro a ha
      rw [getD_take l i hlt] at ha
      rcases List.mem_append.1 ha with ha | ha
      · exact h a ha
      · simp at ha
        rw [ha]
        have : (l.getD i []) = l[i]?.getD [] := rfl
        rw [this] at hc
        omega
theorem longest_le {l : List (List Int)} {m : Nat} (h : ∀ a ∈ l, a.length ≤ m) : longest l ≤ m := by
  induction l with
  | nil => simp [longest]
  | cons a l ih => exact Nat.max_le.2 ⟨h a (List.mem_cons_self), ih (fun b hb => h b (List.mem_cons_of_mem _ hb))⟩
theorem great_eq (l : List (List Int)) (k : Nat) (hk : 40 < k) : unisonlaw04_great.f k l = some true ∨ (unisonlaw04_great.f k l = some false ∧ l.length ≤ 30 ∧ longest l ≤ 100) := by
  unfold unisonlaw04_great.f
  by_cases h : (l.length : Int) > 30
  · rw [if_pos h]; exact Or.inl rfl
  · rw [if_neg h]
    rcases great_loop l (by omega) l.length 0 k (by omega) (by omega) (by omega) (by simp) with h1 | ⟨h1, h2⟩
    · exact Or.inl h1
    · exact Or.inr ⟨h1, by omega, longest_le h2⟩

/-- The sum, held at the greatest number. -/
def sat : Int → List Int → Int
  | s, [] => s
  | s, x :: l => if 18446744073709551615 < s + x then 18446744073709551615 else sat (s + x) l
def shorts (a b : List Int) (i : Nat) : List Int := (List.range b.length).map fun (j : Nat) => shortOf (rd a ((i + j : Nat) : Int)) (rd b (j : Int))
theorem shorts_cons (a : List Int) (n : Int) (b : List Int) (i : Nat) : shorts a (n :: b) i = shortOf (rd a (i : Int)) n :: shorts a b (i + 1) := by
  unfold shorts
  rw [List.length_cons, List.range_succ_eq_map, List.map_cons, List.map_map]
  congr 1
  apply List.map_congr_left
  intro j _
  show shortOf (rd a ((i + (j + 1) : Nat) : Int)) (rd (n :: b) ((j + 1 : Nat) : Int)) = shortOf (rd a ((i + 1 + j : Nat) : Int)) (rd b (j : Int))
  rw [show i + (j + 1) = i + 1 + j by omega]
  rfl
theorem lack_sat (a : List Int) : ∀ (b : List Int) (i : Nat) (s : Int), lackFrom a i s b = sat s (shorts a b i)
  | [], _, _ => rfl
  | n :: b, i, s => by
    rw [shorts_cons]
    simp only [lackFrom, sat]
    rw [lack_sat a b (i + 1)]
theorem short_nonneg (x n : Int) : 0 ≤ shortOf x n := by unfold shortOf; split <;> omega
theorem sat_ge : ∀ (l : List Int) (s : Int), (∀ x ∈ l, 0 ≤ x) → s ≤ 18446744073709551615 → s ≤ sat s l
  | [], s, _, _ => Int.le_refl _
  | x :: l, s, h, hs => by
    have h0 := h x (List.mem_cons_self)
    simp only [sat]
    split
    · exact hs
    · have := sat_ge l (s + x) (fun y hy => h y (List.mem_cons_of_mem _ hy)) (by omega)
      omega
theorem sat_zero : ∀ (l : List Int) (s : Int), (∀ x ∈ l, 0 ≤ x) → 0 ≤ s → s ≤ 18446744073709551615 → (sat s l = s ↔ ∀ x ∈ l, x = 0 ∨ s = 18446744073709551615)
  | [], s, _, _, _ => by simp [sat]
  | x :: l, s, h, h0, hs => by
    have hx := h x (List.mem_cons_self)
    have hl := fun y hy => h y (List.mem_cons_of_mem x hy)
    simp only [sat]
    by_cases hc : 18446744073709551615 < s + x
    · rw [if_pos hc]
      constructor
      · intro e y _
        exact Or.inr e.symm
      · intro hh
        rcases hh x (List.mem_cons_self) with e | e <;> omega
    · rw [if_neg hc]
      constructor
      · intro e
        have := sat_ge l (s + x) hl (by omega)
        have hx0 : x = 0 := by omega
        subst hx0
        rw [Int.add_zero] at e
        have := (sat_zero l s hl h0 hs).1 e
        intro y hy
        rcases List.mem_cons.1 hy with rfl | hy
        · exact Or.inl rfl
        · exact this y hy
      · intro hh
        have hx0 : x = 0 := by rcases hh x (List.mem_cons_self) with e | e <;> omega
        subst hx0
        rw [Int.add_zero]
        exact (sat_zero l s hl h0 hs).2 (fun y hy => hh y (List.mem_cons_of_mem _ hy))
theorem sat_zeros : ∀ (l z : List Int) (s : Int), (∀ x ∈ z, x = 0) → s ≤ 18446744073709551615 → sat s (l ++ z) = sat s l
  | [], [], _, _, _ => rfl
  | [], x :: z, s, h, hs => by
    have hx := h x (List.mem_cons_self)
    subst hx
    have := sat_zeros [] z s (fun y hy => h y (List.mem_cons_of_mem _ hy)) hs
    simp only [List.nil_append, sat, Int.add_zero] at this ⊢
    rw [if_neg (by omega)]
    exact this
  | x :: l, z, s, h, hs => by
    simp only [List.cons_append, sat]
    split
    · rfl
    · exact sat_zeros l z (s + x) h (by omega)
def maxv (a b : List Int) : List Int := foldAll mx [a, b]
theorem maxv_len (a b : List Int) : (maxv a b).length = max a.length b.length := by
  rw [maxv, foldAll_len]
  simp [longest]
theorem foldAll_rd (op : Int → Int → Int) (l : List (List Int)) (i : Nat) (hi : i < longest l) : rd (foldAll op l) (i : Int) = foldv op l (i : Int) := by
  simp [rd, foldAll, List.getD, hi]
theorem maxv_rd (a b : List Int) (ha : u64s a) (hb : u64s b) (i : Nat) : rd (maxv a b) (i : Int) = mx (rd a (i : Int)) (rd b (i : Int)) := by
  by_cases h : i < longest [a, b]
  · exact foldAll_rd mx [a, b] i h
  · have h' : max a.length b.length ≤ i := by simp [longest] at h; omega
    rw [rd_over (by rw [maxv_len]; omega), rd_over (l := a) (by omega), rd_over (l := b) (by omega)]
    rfl
theorem maxv_u64 {a b : List Int} (ha : u64s a) (hb : u64s b) : u64s (maxv a b) := by
  intro x hx
  obtain ⟨i, hi, rfl⟩ := List.mem_iff_getElem.1 hx
  have : (maxv a b)[i] = rd (maxv a b) (i : Int) := by simp [rd, List.getD, hi]
  rw [this, maxv_rd a b ha hb]
  have h1 := u64s_rd ha (i : Int)
  have h2 := u64s_rd hb (i : Int)
  unfold mx
  split <;> omega
theorem lack_zero (a b : List Int) : lackFrom a 0 0 b = 0 ↔ covv a b := by
  rw [lack_sat, sat_zero _ _ (by intro x hx; simp only [shorts, List.mem_map] at hx; obtain ⟨j, _, rfl⟩ := hx; exact short_nonneg _ _) (by decide) (by decide)]
  simp only [shorts, List.mem_map, List.mem_range]
  constructor
  · intro h i hi
    rcases h _ ⟨i, hi, rfl⟩ with e | e
    · rw [Nat.zero_add] at e
      unfold shortOf at e
      split at e <;> omega
    · cases e
  · rintro h x ⟨i, hi, rfl⟩
    left
    have := h i hi
    rw [Nat.zero_add]
    unfold shortOf
    rw [if_neg (by omega)]
theorem short_mx (x y : Int) : shortOf x (mx x y) = shortOf x y := by
  unfold shortOf mx
  by_cases h : x < y <;> simp [h]
theorem short_mx0 (x : Int) (h : 0 ≤ x) : shortOf x (mx x 0) = 0 := by
  rw [short_mx]
  unfold shortOf
  rw [if_neg (by omega)]
theorem lack_max (a b : List Int) (ha : u64s a) (hb : u64s b) : lackFrom a 0 0 (maxv a b) = lackFrom a 0 0 b := by
  rw [lack_sat, lack_sat]
  have e : shorts a (maxv a b) 0 = shorts a b 0 ++ ((List.range ((maxv a b).length - b.length)).map fun (j : Nat) => shortOf (rd a ((b.length + j : Nat) : Int)) (rd (maxv a b) ((b.length + j : Nat) : Int))) := by
    unfold shorts
    have hl : (maxv a b).length = b.length + ((maxv a b).length - b.length) := by have := maxv_len a b; omega
    rw [hl, List.range_add, List.map_append, List.map_map]
    congr 1
    · apply List.map_congr_left
      intro j _
      rw [maxv_rd a b ha hb, Nat.zero_add, short_mx]
    · rw [← hl]
      apply List.map_congr_left
      intro j _
      show shortOf (rd a ((0 + (b.length + j) : Nat) : Int)) _ = _
      rw [Nat.zero_add]
  rw [e]
  refine sat_zeros _ _ _ ?_ (by decide)
  intro x hx
  simp only [List.mem_map] at hx
  obtain ⟨j, _, rfl⟩ := hx
  rw [maxv_rd a b ha hb, rd_over (l := b) (by omega)]
  exact short_mx0 _ (u64s_rd ha ((b.length + j : Nat) : Int)).1
theorem lack_of_max (a b : List Int) (ha : u64s a) (hb : u64s b) : lackFrom (maxv a b) 0 0 b = 0 := by
  rw [lack_zero]
  intro i _
  rw [maxv_rd a b ha hb]
  unfold mx
  split <;> omega

end Go.Proofs.Ytfdopedpplhhaaa.Walk
