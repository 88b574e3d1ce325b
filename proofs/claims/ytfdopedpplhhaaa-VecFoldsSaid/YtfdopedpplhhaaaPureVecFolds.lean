/- The least and the greatest numbers of any vectors, and whether one covers, or is the same as, all of them, are what the reference tells. Conditions: none beyond the statement's own. -/
import Derived.Test.YtfdopedpplhhaaaF7
namespace Go.Proofs.Ytfdopedpplhhaaa.Pure
open Go.RowKit Go.Proofs.Ytfdopedpplhhaaa.F Go.Proofs.YtfdopedpplhhaaaW.PrintWords Go.Proofs.YtfdopedpplhhaaaW.PrintLast Go.Proofs.YtfdopedpplhhaaaW.PrintMore

theorem w64 {x : Int} (h0 : -9223372036854775808 ≤ x) (h1 : x ≤ 9223372036854775807) : wrap64 x = x := by unfold wrap64; omega
theorem awake_eq : unisonlaw04_awake.f = some true := by rfl
theorem wf_u64s {l : List Int} (h : ∀ x ∈ l, (Lit.int .u64 x).wf = true) : u64s l := fun x hx => by
  have := h x hx
  simp [Lit.wf, IntKind.min, IntKind.max, IntKind.signed, IntKind.bits] at this
  omega

theorem rAt_eq (l : List Int) (i : Int) (h : 0 ≤ i) : unisonref04_At.f l i = some (rd l i) := by
  unfold unisonref04_At.f
  rw [if_pos (by omega)]
  by_cases hq : i < (l.length : Int)
  · rw [if_pos hq, if_pos (by omega)]
  · rw [if_neg hq, rd_over (by omega)]
/-- Is a at least b? -/
def covv (a b : List Int) : Prop := ∀ i : Nat, i < b.length → rd b (i : Int) ≤ rd a (i : Int)
instance (a b : List Int) : Decidable (covv a b) := Nat.decidableBallLT b.length (fun i _ => rd b (i : Int) ≤ rd a (i : Int))
theorem Covers_loop (a b : List Int) (hb : b.length ≤ 1000) : ∀ (d i k : Nat), b.length - i = d → i ≤ b.length → d < k → (∀ j : Nat, j < i → rd b (j : Int) ≤ rd a (j : Int)) →
    unisonref04_Covers.l0 k a b (b.length : Int) (i : Int) = some (decide (covv a b)) := by
  intro d
  induction d with
  | zero =>
    intro i k hd hi hk h
    obtain ⟨k, rfl⟩ : ∃ m, k = m + 1 := ⟨k - 1, by omega⟩
    simp only [unisonref04_Covers.l0]
    rw [if_neg (by omega), decide_eq_true (show covv a b from fun j hj => h j (by omega))]
  | succ d ih =>
    intro i k hd hi hk h
    obtain ⟨k, rfl⟩ : ∃ m, k = m + 1 := ⟨k - 1, by omega⟩
    simp only [unisonref04_Covers.l0]
    rw [if_pos (by omega), rAt_eq a i (by omega)]
    simp only [Option.bind_some]
    rw [if_pos (by omega), if_pos (by omega)]
    by_cases hc : rd a (i : Int) < rd b (i : Int)
    · rw [if_pos hc, decide_eq_false (fun hn => by have := hn i (by omega); omega)]
    · rw [if_neg hc, w64 (by omega) (by omega)]
      have := ih (i + 1) k (by omega) (by omega) (by omega) (fun j hj => by
        rcases Nat.lt_or_ge j i with h' | h'
        · exact h j h'
        · obtain rfl : j = i := by omega
          omega)
      simpa using this
theorem Covers_eq (a b : List Int) (hb : b.length ≤ 1000) (k : Nat) (hk : b.length < k) : unisonref04_Covers.f k a b = some (decide (covv a b)) := by
  have := Covers_loop a b hb b.length 0 k (by omega) (by omega) hk (fun j hj => by omega)
  simpa [unisonref04_Covers.f] using this
theorem Same_eq (a b : List Int) (ha : a.length ≤ 1000) (hb : b.length ≤ 1000) (k : Nat) (hk : 1000 < k) : unisonref04_Same.f k a b = some (decide (covv a b ∧ covv b a)) := by
  unfold unisonref04_Same.f
  rw [Covers_eq a b hb k (by omega), Covers_eq b a ha k (by omega)]
  simp only [Option.bind_some]
  by_cases h : covv a b <;> simp [h]
theorem Equal_refl (a : List Int) (ha : a.length ≤ 1000) (k : Nat) (hk : 1000 < k) : unisonref04_Equal.f k a a = some true := by
  unfold unisonref04_Equal.f
  rw [if_pos rfl, Same_eq a a ha ha k hk]
  simp only [Option.bind_some]
  rw [decide_eq_true (show covv a a ∧ covv a a from ⟨fun _ _ => Int.le_refl _, fun _ _ => Int.le_refl _⟩)]

theorem fold_once (op : Int → Int → Int) (hop : ∀ x, op x x = x) (l : List (List Int)) (i : Int) (hl : 0 < l.length) : l.foldl (fun n a => op n (rd a i)) (rd (l.headD []) i) = foldv op l i := by
  cases l with
  | nil => simp at hl
  | cons a l => simp [foldv, hop]
theorem mx_self (x : Int) : mx x x = x := by unfold mx; split <;> rfl
theorem mn_self (x : Int) : mn x x = x := by unfold mn; split <;> rfl
def opOf (most : Bool) : Int → Int → Int := if most = true then mx else mn
theorem opOf_self (most : Bool) (x : Int) : opOf most x x = x := by cases most <;> simp [opOf, mx_self, mn_self]
theorem getD_take (l : List (List Int)) (i : Nat) (hi : i < l.length) : l.take (i + 1) = l.take i ++ [l.getD i []] := by rw [List.take_add_one, List.getElem?_eq_getElem hi]; simp [List.getD, hi]
theorem Of_l2 (most : Bool) (l : List (List Int)) (hl : l.length ≤ 1000) (out : List Int) (n x : Int) (hx : 0 ≤ x) (r : List Int) : ∀ (d i k : Nat) (v : Int), l.length - i = d → i ≤ l.length → d < k →
    (∀ k', k < k' + d + 2 → out.length < 17592186044416 ∧ unisonref04_Of.l1 k' most l (out ++ [(l.drop i).foldl (fun n a => opOf most n (rd a x)) v]) n (wrap64 (x + 1)) = some r) →
    unisonref04_Of.l2 k most l out n x v (l.length : Int) (i : Int) = some r := by
  intro d
  induction d with
  | zero =>
    intro i k v hd hi hk h
    obtain ⟨k, rfl⟩ : ∃ m, k = m + 1 := ⟨k - 1, by omega⟩
    obtain ⟨h1, h2⟩ := h k (by omega)
    simp only [unisonref04_Of.l2]
    rw [if_neg (by omega), if_pos h1]
    rw [List.drop_eq_nil_iff.2 (by omega)] at h2
    exact h2
  | succ d ih =>
    intro i k v hd hi hk h
    obtain ⟨k, rfl⟩ : ∃ m, k = m + 1 := ⟨k - 1, by omega⟩
    have hlt : i < l.length := by omega
    have hr : rd_L1 l (i : Int) = l.getD i [] := by simp [rd_L1]
    have hdr : l.drop i = l.getD i [] :: l.drop (i + 1) := by rw [List.drop_eq_getElem_cons hlt]; simp [List.getD, hlt]
    have ew : wrap64 ((i : Int) + 1) = ((i + 1 : Nat) : Int) := by rw [w64 (by omega) (by omega)]; simp
    rw [hdr] at h
    simp only [List.foldl_cons] at h
    have hn := ih (i + 1) k (opOf most v (rd (l.getD i []) x)) (by omega) (by omega) (by omega) (fun k' hk' => h k' (by omega))
    have b1 : (i : Int) < (l.length : Int) := by omega
    have b2 : 0 ≤ (i : Int) := by omega
    clear ih h
    simp only [unisonref04_Of.l2]
    rw [if_pos b1, if_pos b2, if_pos b1, hr, rAt_eq _ x hx]
    simp only [Option.bind_some]
    rw [ew]
    generalize rd (l.getD i []) x = y at *
    cases most
    · rw [if_neg (by simp)]
      by_cases hc : y < v
      · rw [if_pos hc]
        rw [show opOf false v y = y by simp [opOf, mn, hc]] at hn
        exact hn
      · rw [if_neg hc]
        rw [show opOf false v y = v by simp [opOf, mn, hc]] at hn
        exact hn
    · rw [if_pos rfl]
      by_cases hc : y > v
      · rw [if_pos hc]
        rw [show opOf true v y = y by simp [opOf, mx, show v < y from hc]] at hn
        exact hn
      · rw [if_neg hc]
        rw [show opOf true v y = v by simp [opOf, mx, show ¬ v < y from hc]] at hn
        exact hn
theorem Of_l1 (most : Bool) (l : List (List Int)) (hl : l.length ≤ 1000) (hm : longest l ≤ 1000) : ∀ (d j k : Nat), longest l - j = d → j ≤ longest l → (d + 1) * (l.length + 3) < k →
    unisonref04_Of.l1 k most l ((List.range j).map fun (i : Nat) => foldv (opOf most) l (i : Int)) (longest l : Int) (j : Int) = some (foldAll (opOf most) l) := by
  intro d
  induction d with
  | zero =>
    intro j k hd hj hk
    obtain ⟨k, rfl⟩ : ∃ m, k = m + 1 := ⟨k - 1, by omega⟩
    simp only [unisonref04_Of.l1]
    rw [if_neg (by omega)]
    obtain rfl : j = longest l := by omega
    rfl
  | succ d ih =>
    intro j k hd hj hk
    obtain ⟨k, rfl⟩ : ∃ m, k = m + 1 := ⟨k - 1, by omega⟩
    have hlt : j < longest l := by omega
    have hne : 0 < l.length := by
      cases l with
      | nil => simp [longest] at hlt
      | cons a l => simp
    have hr : rd_L1 l 0 = l.headD [] := by cases l <;> rfl
    have b1 : (j : Int) < (longest l : Int) := by omega
    have b2 : (0 : Int) < (l.length : Int) := by omega
    have b3 : 0 ≤ (j : Int) := by omega
    have ew : wrap64 ((j : Int) + 1) = ((j + 1 : Nat) : Int) := by rw [w64 (by omega) (by omega)]; simp
    have hk2 : (d + 1) * (l.length + 3) + l.length + 3 < k + 1 := by
      have : (d + 1 + 1) * (l.length + 3) = (d + 1) * (l.length + 3) + (l.length + 3) := Nat.succ_mul _ _
      omega
    simp only [unisonref04_Of.l1]
    rw [if_pos b1, if_pos b2, hr, rAt_eq _ _ b3]
    simp only [Option.bind_some]
    refine Of_l2 most l hl _ _ (j : Int) b3 _ l.length 0 k _ (by omega) (by omega) ?_ ?_
    · have : 0 < (d + 1) * (l.length + 3) := Nat.mul_pos (by omega) (by omega)
      omega
    · intro k' hk'
      refine ⟨by simp; omega, ?_⟩
      rw [List.drop_zero, fold_once _ (opOf_self most) l _ hne, ew]
      have := ih (j + 1) k' (by omega) (by omega) (by omega)
      rw [List.range_succ, List.map_append] at this
      exact this
theorem Of_l0 (most : Bool) (l : List (List Int)) (hl : l.length ≤ 1000) (hm : longest l ≤ 1000) : ∀ (d i k : Nat), l.length - i = d → i ≤ l.length → d + (longest l + 1) * (l.length + 3) + 1 < k →
    unisonref04_Of.l0 k most l [] (longest (l.take i) : Int) (l.length : Int) (i : Int) = some (foldAll (opOf most) l) := by
  intro d
  induction d with
  | zero =>
    intro i k hd hi hk
    obtain ⟨k, rfl⟩ : ∃ m, k = m + 1 := ⟨k - 1, by omega⟩
    simp only [unisonref04_Of.l0]
    rw [if_neg (by omega), List.take_of_length_le (by omega)]
    exact Of_l1 most l hl hm (longest l) 0 k (by omega) (by omega) (by omega)
  | succ d ih =>
    intro i k hd hi hk
    obtain ⟨k, rfl⟩ : ∃ m, k = m + 1 := ⟨k - 1, by omega⟩
    have hlt : i < l.length := by omega
    have hr : rd_L1 l (i : Int) = l.getD i [] := by simp [rd_L1]
    have hn := ih (i + 1) k (by omega) (by omega) (by omega)
    have ew : wrap64 ((i : Int) + 1) = ((i + 1 : Nat) : Int) := by rw [w64 (by omega) (by omega)]; simp
    have b1 : (i : Int) < (l.length : Int) := by omega
    have b2 : 0 ≤ (i : Int) := by omega
    have hT : longest (l.take (i + 1)) = max (longest (l.take i)) (l.getD i []).length := by
      rw [getD_take l i hlt, longest_append]
      congr 1
      exact Nat.max_zero _
    clear ih
    simp only [unisonref04_Of.l0]
    rw [if_pos b1, if_pos b2, if_pos b1, hr, ew]
    rw [hT] at hn
    by_cases hc : ((l.getD i []).length : Int) > (longest (l.take i) : Int)
    · rw [if_pos hc]
      rw [Nat.max_eq_right (by omega)] at hn
      exact hn
    · rw [if_neg hc]
      rw [Nat.max_eq_left (by omega)] at hn
      exact hn
theorem Of_eq (most : Bool) (l : List (List Int)) (h : okV l) (k : Nat) (hk : l.length + (longest l + 1) * (l.length + 3) + 1 < k) : unisonref04_Of.f k most l = some (foldAll (opOf most) l) :=
  Of_l0 most l h.1 h.2 l.length 0 k (by omega) (by omega) hk
theorem foldAll_len (op : Int → Int → Int) (l : List (List Int)) : (foldAll op l).length = longest l := by simp [foldAll]
/-- What covers and is the same, by the reference's word. -/
theorem cov_iff (a b : List Int) (ha : u64s a) : each1 covH a b (longest [a, b]) = decide (covv a b) := by
  rw [Bool.eq_iff_iff, decide_eq_true_iff]
  simp only [each1, List.all_eq_true, List.mem_range, covH, decide_eq_true_iff]
  constructor
  · intro h i hi
    exact h i (by simp [longest]; omega)
  · intro h i _
    by_cases hb : i < b.length
    · exact h i hb
    · rw [rd_over (by omega)]
      exact (u64s_rd ha _).1
theorem sam_iff (a b : List Int) (ha : u64s a) (hb : u64s b) : each1 samH a b (longest [a, b]) = decide (covv a b ∧ covv b a) := by
  rw [Bool.eq_iff_iff, decide_eq_true_iff]
  simp only [each1, List.all_eq_true, List.mem_range, samH, beq_iff_eq]
  constructor
  · intro h
    exact ⟨fun i hi => by have := h i (by simp [longest]; omega); omega, fun i hi => by have := h i (by simp [longest]; omega); omega⟩
  · rintro ⟨h1, h2⟩ i _
    have e1 : rd b (i : Int) ≤ rd a (i : Int) := by
      by_cases hi : i < b.length
      · exact h1 i hi
      · rw [rd_over (by omega)]
        exact (u64s_rd ha _).1
    have e2 : rd a (i : Int) ≤ rd b (i : Int) := by
      by_cases hi : i < a.length
      · exact h2 i hi
      · rw [rd_over (by omega)]
        exact (u64s_rd hb _).1
    omega
/-- More than 30, or one of more than 100? -/
theorem great_loop (l : List (List Int)) (hl : l.length ≤ 30) : ∀ (d i k : Nat), l.length - i = d → i ≤ l.length → d < k → (∀ a ∈ l.take i, a.length ≤ 100) →
    unisonlaw04_great.l0 k l (i : Int) = some true ∨ (unisonlaw04_great.l0 k l (i : Int) = some false ∧ ∀ a ∈ l, a.length ≤ 100) := by
  intro d
  induction d with
  | zero =>
    intro i k hd hi hk h
    obtain ⟨k, rfl⟩ : ∃ m, k = m + 1 := ⟨k - 1, by omega⟩
    refine Or.inr ⟨?_, ?_⟩
    · simp only [unisonlaw04_great.l0]
      rw [if_neg (by omega)]
    · rwa [List.take_of_length_le (by omega)] at h
  | succ d ih =>
    intro i k hd hi hk h
    obtain ⟨k, rfl⟩ : ∃ m, k = m + 1 := ⟨k - 1, by omega⟩
    have hlt : i < l.length := by omega
    have hr : rd_L1 l (i : Int) = l.getD i [] := by simp [rd_L1]
    have ew : wrap64 ((i : Int) + 1) = ((i + 1 : Nat) : Int) := by rw [w64 (by omega) (by omega)]; simp
    have b1 : (i : Int) < (l.length : Int) := by omega
    have b2 : 0 ≤ (i : Int) := by omega
    simp only [unisonlaw04_great.l0]
    rw [if_pos b1, if_pos b2, hr, ew]
    by_cases hc : ((l.getD i []).length : Int) > 100
    · rw [if_pos hc]
      exact Or.inl rfl
    · rw [if_neg hc]
      refine ih (i + 1) k (by omega) (by omega) (by omega) ?_
      intro a ha
      rw [getD_take l i hlt] at ha
      rcases List.mem_append.1 ha with ha | ha
      · exact h a ha
      · simp at ha
        rw [ha]
        have : (l.getD i []) = l[i]?.getD [] := rfl
        rw [this] at hc
        omega
theorem longest_le {l : List (List Int)} {m : Nat} (h : ∀ a ∈ l, a.length ≤ m) : longest l ≤ m := by
  induction l with
  | nil => simp [longest]
  | cons a l ih => exact Nat.max_le.2 ⟨h a (List.mem_cons_self), ih (fun b hb => h b (List.mem_cons_of_mem _ hb))⟩
theorem great_eq (l : List (List Int)) (k : Nat) (hk : 40 < k) : unisonlaw04_great.f k l = some true ∨ (unisonlaw04_great.f k l = some false ∧ l.length ≤ 30 ∧ longest l ≤ 100) := by
  unfold unisonlaw04_great.f
  by_cases h : (l.length : Int) > 30
  · rw [if_pos h]; exact Or.inl rfl
  · rw [if_neg h]
    rcases great_loop l (by omega) l.length 0 k (by omega) (by omega) (by omega) (by simp) with h1 | ⟨h1, h2⟩
    · exact Or.inl h1
    · exact Or.inr ⟨h1, by omega, longest_le h2⟩

theorem folds_loop (a : List Int) (l : List (List Int)) (ha : u64s a) (hu : ∀ b ∈ l, u64s b) (hal : a.length ≤ 100) (hl : l.length ≤ 30) (hm : longest l ≤ 100) : ∀ (d i k : Nat), l.length - i = d → i ≤ l.length → d + 6000 < k →
    unisonlaw04_VecFolds.l0 k a l (eachAll covH a (l.take i)) (eachAll samH a (l.take i)) (i : Int) = some true := by
  intro d
  induction d with
  | zero =>
    intro i k hd hi hk
    obtain ⟨k, rfl⟩ : ∃ m, k = m + 1 := ⟨k - 1, by omega⟩
    have ok : okV l := ⟨by omega, by omega⟩
    have hb : l.length + (longest l + 1) * (l.length + 3) + 1 < k := by
      have : (longest l + 1) * (l.length + 3) ≤ 101 * 33 := Nat.mul_le_mul (by omega) (by omega)
      omega
    have o1 := Of_eq false l ok k hb
    have o2 := Of_eq true l ok k hb
    have e1 := Equal_refl (foldAll mn l) (by rw [foldAll_len]; omega) k (by omega)
    have e2 := Equal_refl (foldAll mx l) (by rw [foldAll_len]; omega) k (by omega)
    simp only [unisonlaw04_VecFolds.l0]
    rw [if_neg (by omega), List.take_of_length_le (by omega)]
    rw [show vec_Min.f l = some (foldAll mn l) from if_pos ok, o1, show vec_Max.f l = some (foldAll mx l) from if_pos ok, o2]
    simp only [Option.bind_some]
    rw [show foldAll (opOf false) l = foldAll mn l from rfl, e1, show foldAll (opOf true) l = foldAll mx l from rfl, e2]
    simp only [Option.bind_some, if_true]
    rw [show vec_Covers.f a l = some (eachAll covH a l) from if_pos ⟨by omega, ok⟩, show vec_Same.f a l = some (eachAll samH a l) from if_pos ⟨by omega, ok⟩, awake_eq]
    simp
  | succ d ih =>
    intro i k hd hi hk
    obtain ⟨k, rfl⟩ : ∃ m, k = m + 1 := ⟨k - 1, by omega⟩
    have hlt : i < l.length := by omega
    have hr : rd_L1 l (i : Int) = l.getD i [] := by simp [rd_L1]
    have hmem : l.getD i [] ∈ l := by simp [List.getD, hlt]
    have hbl : (l.getD i []).length ≤ 100 := Nat.le_trans (longest_mem hmem) hm
    have hub := hu _ hmem
    have ew : wrap64 ((i : Int) + 1) = ((i + 1 : Nat) : Int) := by rw [w64 (by omega) (by omega)]; simp
    have b1 : (i : Int) < (l.length : Int) := by omega
    have b2 : 0 ≤ (i : Int) := by omega
    have hn := ih (i + 1) k (by omega) (by omega) (by omega)
    rw [getD_take l i hlt, eachAll_append, eachAll_append] at hn
    generalize l.getD i [] = b at *
    have q1 : eachAll covH a [b] = decide (covv a b) := by simp [eachAll, cov_iff a b ha]
    have q2 : eachAll samH a [b] = decide (covv a b ∧ covv b a) := by simp only [eachAll, List.all_cons, List.all_nil, Bool.and_true]; exact sam_iff a b ha hub
    have c1 := Covers_eq a b (by omega) k (by omega)
    have c2 := Same_eq a b (by omega) (by omega) k (by omega)
    rw [q1, q2] at hn
    clear ih
    simp only [unisonlaw04_VecFolds.l0]
    rw [if_pos b1, hr, ew]
    generalize eachAll covH a (l.take i) = p at *
    generalize eachAll samH a (l.take i) = q at *
    cases p <;> cases q <;> simp only [Bool.true_and, Bool.false_and] at hn
    · simpa using hn
    · rw [if_neg (by simp), if_pos rfl, if_pos b2, c2]
      exact hn
    · rw [if_pos rfl, if_pos b2, c1]
      simp only [Option.bind_some]
      rw [if_neg (by simp)]
      exact hn
    · rw [if_pos rfl, if_pos b2, c1]
      simp only [Option.bind_some, if_true]
      rw [c2]
      exact hn
theorem VecFolds (l0 : List Int) (l1 : List (List Int)) (w0 : l0.length ≤ maxLen ∧ ∀ x ∈ l0, (Lit.int .u64 x).wf = true) (w1 : l1.length ≤ maxLen ∧ ∀ x ∈ l1, (x.length ≤ maxLen ∧ ∀ y ∈ x, (Lit.int .u64 y).wf = true)) : ∃ k, unisonlaw04_VecFolds.f k l0 l1 = some true := by
  have u0 := wf_u64s w0.2
  have u1 : ∀ b ∈ l1, u64s b := fun b hb => wf_u64s (w1.2 b hb).2
  obtain ⟨K, hK⟩ : ∃ K : Nat, 7000 ≤ K := ⟨7000, Nat.le_refl _⟩
  refine ⟨K + 1, ?_⟩
  have far : unisonlaw04_VecFolds.j0 (K + 1) l0 l1 true = some true := by
    simp [unisonlaw04_VecFolds.j0, awake_eq]
  unfold unisonlaw04_VecFolds.f
  rcases great_eq l1 (K + 1) (by omega) with h | ⟨h, h1, h2⟩
  · rw [h]
    exact far
  · rw [h]
    simp only [Option.bind_some, Bool.false_eq_true, if_false]
    by_cases hc : (l0.length : Int) > 100
    · rw [decide_eq_true hc]; exact far
    · rw [decide_eq_false hc]
      simp only [unisonlaw04_VecFolds.j0, Bool.false_eq_true, if_false]
      exact folds_loop l0 l1 u0 u1 (by omega) h1 h2 l1.length 0 K rfl (Nat.zero_le _) (by omega)

end Go.Proofs.Ytfdopedpplhhaaa.Pure
