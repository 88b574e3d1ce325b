/- There and back in a ring is once round, or nothing, and what comes on a way comes farther and farther. Conditions: none beyond the statement's own. -/
import Derived.Test.YtinbghiinpngeaaF10
namespace Go.Proofs.Ytinbghiinpngeaa.Pure
open Go.RowKit Go.Proofs.Ytinbghiinpngeaa.F Go.Proofs.YtinbghiinpngeaaW.PrintWords Go.Proofs.YtinbghiinpngeaaW.PrintLast Go.Proofs.YtinbghiinpngeaaW.PrintMore

theorem w64 {x : Int} (h0 : -9223372036854775808 ≤ x) (h1 : x ≤ 9223372036854775807) : wrap64 x = x := by unfold wrap64; omega
theorem rd_at (l : List Int) (i : Nat) (h : i < l.length) : rd l (i : Int) = l[i] := by simp [rd, List.getD, h]

theorem of_loop (n : Int) (l : List Int) (hl : l.length ≤ 1000000) : ∀ (d i k : Nat), l.length - i = d → i ≤ l.length → d < k →
    ring_of.l0 k n l (l.length : Int) (i : Int) = some ((l.drop i).all fun x => decide (0 ≤ x ∧ x < n)) := by
  intro d
  induction d with
  | zero =>
    intro i k hd hi hk
    obtain ⟨k, rfl⟩ : ∃ m, k = m + 1 := ⟨k - 1, by omega⟩
    obtain rfl : i = l.length := by omega
    simp only [ring_of.l0]
    rw [if_neg (by omega)]
    simp
  | succ d ih =>
    intro i k hd hi hk
    obtain ⟨k, rfl⟩ : ∃ m, k = m + 1 := ⟨k - 1, by omega⟩
    have hlt : i < l.length := by omega
    have hdrop : l.drop i = l[i] :: l.drop (i + 1) := List.drop_eq_getElem_cons hlt
    simp only [ring_of.l0]
    rw [if_pos (by omega), if_pos (by omega), if_pos (by omega), rd_at l i hlt, hdrop, List.all_cons]
    by_cases h1 : l[i] < 0
    · rw [if_pos h1]
      have : decide (0 ≤ l[i] ∧ l[i] < n) = false := by simp; omega
      rw [this, Bool.false_and]
    · rw [if_neg h1]
      by_cases h2 : l[i] ≥ n
      · rw [if_pos h2]
        have : decide (0 ≤ l[i] ∧ l[i] < n) = false := by simp; omega
        rw [this, Bool.false_and]
      · rw [if_neg h2]
        have : decide (0 ≤ l[i] ∧ l[i] < n) = true := by simp; omega
        rw [this, Bool.true_and, w64 (by omega) (by omega), show ((i : Int) + 1) = ((i + 1 : Nat) : Int) by omega]
        exact ih (i + 1) k (by omega) (by omega) (by omega)

def inR (n i : Int) : Prop := 1 ≤ n ∧ n ≤ 64 ∧ 0 ≤ i ∧ i < n
instance (n i : Int) : Decidable (inR n i) := inferInstanceAs (Decidable (_ ∧ _))

theorem of_ev (n : Int) (l : List Int) (hl : l.length ≤ 1000000) (k : Nat) (hk : l.length + 2 < k) :
    ring_of.f k n l = some (decide (1 ≤ n ∧ n ≤ 64) && l.all fun x => decide (0 ≤ x ∧ x < n)) := by
  obtain ⟨k, rfl⟩ : ∃ m, k = m + 1 := ⟨k - 1, by omega⟩
  unfold ring_of.f
  by_cases h1 : n < 1
  · rw [if_pos h1]
    simp only [ring_of.j0]
    have : decide (1 ≤ n ∧ n ≤ 64) = false := by simp; omega
    simp [this]
  · rw [if_neg h1]
    simp only [ring_of.j0]
    by_cases h2 : n > 64
    · have : decide (1 ≤ n ∧ n ≤ 64) = false := by simp; omega
      simp [this, h2]
    · have : decide (1 ≤ n ∧ n ≤ 64) = true := by simp; omega
      have h3 : decide (n > 64) = false := by simp; omega
      rw [h3, if_neg (by simp), this, Bool.true_and]
      have := of_loop n l hl l.length 0 k (by omega) (by omega) (by omega)
      simpa using this

theorem of1 (n i : Int) (k : Nat) (hk : 3 < k) : ring_of.f k n [i] = some (decide (inR n i)) := by
  rw [of_ev n [i] (by simp) k (by simpa using hk)]
  congr 1
  rw [Bool.eq_iff_iff]
  simp only [Bool.and_eq_true, decide_eq_true_eq, List.all_cons, List.all_nil, and_true]
  unfold inR
  exact ⟨fun ⟨⟨a, b⟩, c, d⟩ => ⟨a, b, c, d⟩, fun ⟨a, b, c, d⟩ => ⟨⟨a, b⟩, c, d⟩⟩

theorem of2 (n i j : Int) (k : Nat) (hk : 4 < k) : ring_of.f k n [i, j] = some (decide (inR n i ∧ inR n j)) := by
  rw [of_ev n [i, j] (by simp) k (by simpa using hk)]
  congr 1
  rw [Bool.eq_iff_iff]
  simp only [Bool.and_eq_true, decide_eq_true_eq, List.all_cons, List.all_nil, and_true]
  unfold inR
  exact ⟨fun ⟨⟨a, b⟩, ⟨c, d⟩, e, f⟩ => ⟨⟨a, b, c, d⟩, a, b, e, f⟩, fun ⟨⟨a, b, c, d⟩, _, _, e, f⟩ => ⟨⟨a, b⟩, ⟨c, d⟩, e, f⟩⟩

theorem index_loop (l : List Int) (x : Int) (hl : l.length ≤ 1000000) : ∀ (d i k : Nat), l.length - i = d → i ≤ l.length → d < k →
    ∃ r, slices_Index_int_int.l0 k l x (l.length : Int) (i : Int) = some r ∧ (0 ≤ r ↔ x ∈ l.drop i) := by
  intro d
  induction d with
  | zero =>
    intro i k hd hi hk
    obtain ⟨k, rfl⟩ : ∃ m, k = m + 1 := ⟨k - 1, by omega⟩
    obtain rfl : i = l.length := by omega
    simp only [slices_Index_int_int.l0]
    rw [if_neg (by omega)]
    exact ⟨-1, rfl, by simp⟩
  | succ d ih =>
    intro i k hd hi hk
    obtain ⟨k, rfl⟩ : ∃ m, k = m + 1 := ⟨k - 1, by omega⟩
    have hlt : i < l.length := by omega
    have hdrop : l.drop i = l[i] :: l.drop (i + 1) := List.drop_eq_getElem_cons hlt
    simp only [slices_Index_int_int.l0]
    rw [if_pos (by omega), if_pos (by omega), if_pos (by omega), rd_at l i hlt, hdrop]
    by_cases h1 : x = l[i]
    · rw [if_pos h1]
      exact ⟨i, rfl, fun _ => by rw [h1]; exact List.mem_cons_self, fun _ => by omega⟩
    · rw [if_neg h1, w64 (by omega) (by omega), show ((i : Int) + 1) = ((i + 1 : Nat) : Int) by omega]
      obtain ⟨r, hr, hp⟩ := ih (i + 1) k (by omega) (by omega) (by omega)
      exact ⟨r, hr, by rw [hp, List.mem_cons]; exact ⟨Or.inr, fun h => h.resolve_left h1⟩⟩

theorem contains_ev (l : List Int) (x : Int) (hl : l.length ≤ 1000000) (k : Nat) (hk : l.length < k) :
    slices_Contains_int_int.f k l x = some (decide (x ∈ l)) := by
  obtain ⟨r, hr, hp⟩ := index_loop l x hl l.length 0 k (by omega) (by omega) hk
  have hr' : slices_Index_int_int.f k l x = some r := by unfold slices_Index_int_int.f; simpa using hr
  unfold slices_Contains_int_int.f
  rw [hr']
  simp only [Option.bind_some, List.drop_zero] at hp ⊢
  congr 1
  exact decide_eq_decide.mpr hp

/-- (me + i) mod n, for i up to n. -/
def md (n a : Int) : Int := if a < n then a else a - n
theorem emod_md {n a : Int} (h0 : 0 ≤ a) (h1 : a < n + n) : a % n = md n a := by
  unfold md
  split
  · exact Int.emod_eq_of_lt h0 (by omega)
  · have : (a - n) % n = a - n := Int.emod_eq_of_lt (by omega) (by omega)
    rw [← this, Int.sub_emod_right]
theorem tmod_md {n a : Int} (h0 : 0 ≤ a) (h1 : a < n + n) : a.tmod n = md n a := by
  rw [Int.tmod_eq_emod_of_nonneg h0, emod_md h0 h1]

/-- The steps j of a way. -/
def js (n me : Int) (skip : List Int) : Nat → Int → List Int
  | 0, _ => []
  | d + 1, i => if md n (me + i) ∈ skip then js n me skip d (i + 1) else i :: js n me skip d (i + 1)
def way (n me : Int) (skip : List Int) : List Int := (js n me skip (n - 1).toNat 1).map fun j => md n (me + j)

theorem way_loop (n me : Int) (skip : List Int) (hs : skip.length ≤ 1000000) (h : inR n me) : ∀ (d k : Nat) (i : Int) (acc : List Int), (n - i).toNat = d → 1 ≤ i → i ≤ n → acc.length ≤ i → skip.length + d + 1 < k →
    ring_Way.l0 k n me skip acc i = some (acc ++ (js n me skip d i).map fun j => md n (me + j)) := by
  obtain ⟨h1, h2, h3, h4⟩ := h
  intro d
  induction d with
  | zero =>
    intro k i acc hd hi hin ha hk
    obtain ⟨k, rfl⟩ : ∃ m, k = m + 1 := ⟨k - 1, by omega⟩
    simp only [ring_Way.l0]
    rw [if_neg (by omega)]
    simp [js]
  | succ d ih =>
    intro k i acc hd hi hin ha hk
    obtain ⟨k, rfl⟩ : ∃ m, k = m + 1 := ⟨k - 1, by omega⟩
    simp only [ring_Way.l0]
    rw [if_pos (by omega), if_neg (by omega), w64 (x := me + i) (by omega) (by omega), w64 (x := i + 1) (by omega) (by omega), tmod_md (by omega) (by omega), contains_ev skip _ hs k (by omega)]
    simp only [Option.bind_some, decide_eq_true_eq, js]
    by_cases hm : md n (me + i) ∈ skip
    · rw [if_pos hm, if_pos hm]
      exact ih k (i + 1) acc (by omega) (by omega) (by omega) (by omega) (by omega)
    · rw [if_neg hm, if_neg hm, if_pos (by omega), ih k (i + 1) _ (by omega) (by omega) (by omega) (by simp; omega) (by omega)]
      simp

theorem way_ev (n me : Int) (skip : List Int) (hs : skip.length ≤ 1000000) (k : Nat) (hk : skip.length + 100 < k) :
    ring_Way.f k n me skip = some (if inR n me then way n me skip else []) := by
  unfold ring_Way.f
  rw [of1 n me k (by omega)]
  simp only [Option.bind_some, decide_eq_true_eq]
  by_cases h : inR n me
  · rw [if_pos h, if_pos h, way_loop n me skip hs h (n - 1).toNat k 1 [] rfl (by omega) h.1 (by simp) (by have := h.2.1; omega)]
    simp [way]
  · rw [if_neg h, if_neg h]

theorem js_le (n me : Int) (skip : List Int) : ∀ (d : Nat) (i : Int), (js n me skip d i).length ≤ d
  | 0, _ => by simp [js]
  | d + 1, i => by
    have := js_le n me skip d (i + 1)
    unfold js
    split
    · omega
    · simp; omega

theorem next_ev (n me : Int) (skip : List Int) (hs : skip.length ≤ 1000000) (k : Nat) (hk : skip.length + 100 < k) :
    ring_Next.f k n me skip = some (if inR n me then ((way n me skip).head?.getD me) else -1) := by
  unfold ring_Next.f
  rw [of1 n me k (by omega), way_ev n me skip hs k hk]
  simp only [Option.bind_some, decide_eq_true_eq]
  by_cases h : inR n me
  · rw [if_pos h, if_pos h, if_pos h]
    have hl : (way n me skip).length ≤ 64 := by
      have := js_le n me skip (n - 1).toNat 1
      have := h.2.1
      unfold way; rw [List.length_map]; omega
    rw [if_pos (by omega), if_pos (by simp)]
    cases way n me skip <;> simp [rd]
  · rw [if_neg h, if_neg h]

def dist (n a b : Int) : Int := if a ≤ b then b - a else b - a + n
theorem steps_ev (n a b : Int) (k : Nat) (hk : 4 < k) : ring_Steps.f k n a b = some (if inR n a ∧ inR n b then dist n a b else -1) := by
  unfold ring_Steps.f
  rw [of2 n a b k hk]
  simp only [Option.bind_some, decide_eq_true_eq]
  by_cases h : inR n a ∧ inR n b
  · rw [if_pos h, if_pos h]
    obtain ⟨⟨h1, h2, h3, h4⟩, h5, h6, h7, h8⟩ := h
    rw [if_neg (by omega), w64 (x := b - a) (by omega) (by omega), w64 (by omega) (by omega), tmod_md (by omega) (by omega)]
    congr 1
    unfold md dist
    split <;> split <;> omega
  · rw [if_neg h, if_neg h]

theorem Of_eq (n i : Int) : unisonref15_Of.f n i = some (decide (inR n i)) := by
  unfold unisonref15_Of.f
  by_cases h1 : n ≥ 1 <;> by_cases h2 : n ≤ 64 <;> by_cases h3 : i ≥ 0 <;> simp [inR, h1, h2, h3] <;> omega

theorem awake_at (k : Nat) (hk : 200 ≤ k) : unisonlaw15_awake.f k = some true := by
  unfold unisonlaw15_awake.f
  rw [next_ev 4 2 [3] (by simp) k (by simp; omega), next_ev 4 2 [] (by simp) k (by simp; omega), next_ev 1 0 [] (by simp) k (by simp; omega)]
  decide

theorem js_bound (n me : Int) (skip : List Int) : ∀ (d : Nat) (i : Int), ∀ j ∈ js n me skip d i, i ≤ j ∧ j < i + d := by
  intro d
  induction d with
  | zero => intro i j h; simp [js] at h
  | succ d ih =>
    intro i j h
    unfold js at h
    split at h
    · have := ih (i + 1) j h; omega
    · rcases List.mem_cons.1 h with rfl | h
      · omega
      · have := ih (i + 1) j h; omega
theorem js_sorted (n me : Int) (skip : List Int) : ∀ (d : Nat) (i : Int), (js n me skip d i).Pairwise (· < ·) := by
  intro d
  induction d with
  | zero => intro i; simp [js]
  | succ d ih =>
    intro i
    unfold js
    split
    · exact ih (i + 1)
    · refine List.pairwise_cons.2 ⟨fun j hj => ?_, ih (i + 1)⟩
      have := js_bound n me skip d (i + 1) j hj
      omega
theorem dist_md {n me j : Int} (h : inR n me) (h0 : 0 < j) (hj : j < n) : dist n me (md n (me + j)) = j ∧ inR n (md n (me + j)) ∧ md n (me + j) ≠ me := by
  obtain ⟨h1, h2, h3, h4⟩ := h
  refine ⟨?_, ⟨h1, h2, ?_, ?_⟩, ?_⟩
  · unfold dist md; repeat' split
    all_goals omega
  · unfold md; split <;> omega
  · unfold md; split <;> omega
  · unfold md; split <;> omega

theorem steps_loop (n a : Int) (J : List Int) (ha : inR n a) (hJ : ∀ j ∈ J, 0 < j ∧ j < n) (hs : J.Pairwise (· < ·)) (hl : J.length ≤ 100) : ∀ (d i k : Nat), J.length - i = d → i ≤ J.length → 1000 + d < k →
    unisonlaw15_RingSteps.l0 k n a (J.map fun j => md n (a + j)) (i : Int) = some true := by
  intro d
  induction d with
  | zero =>
    intro i k hd hi hk
    obtain ⟨k, rfl⟩ : ∃ m, k = m + 1 := ⟨k - 1, by omega⟩
    obtain rfl : i = J.length := by omega
    simp only [unisonlaw15_RingSteps.l0]
    rw [if_neg (by simp), awake_at k (by omega)]; rfl
  | succ d ih =>
    intro i k hd hi hk
    obtain ⟨k, rfl⟩ : ∃ m, k = m + 1 := ⟨k - 1, by omega⟩
    have hlt : i < J.length := by omega
    have hm : i < (J.map fun j => md n (a + j)).length := by simpa using hlt
    have hg : rd (J.map fun j => md n (a + j)) (i : Int) = md n (a + J[i]) := by rw [rd_at _ i hm]; simp
    have hJi := hJ J[i] (List.getElem_mem hlt)
    obtain ⟨d1, d2, d3⟩ := dist_md ha hJi.1 hJi.2
    have next : unisonlaw15_RingSteps.l0 k n a (J.map fun j => md n (a + j)) (wrap64 ((i : Int) + 1)) = some true := by
      rw [w64 (by omega) (by omega), show ((i : Int) + 1) = ((i + 1 : Nat) : Int) by omega]
      exact ih (i + 1) k (by omega) (by omega) (by omega)
    simp only [unisonlaw15_RingSteps.l0]
    rw [if_pos (by simp; omega), if_pos (by omega), hg, if_neg d3]
    by_cases h0 : (i : Int) > 0
    · obtain ⟨p, rfl⟩ : ∃ p, i = p + 1 := ⟨i - 1, by omega⟩
      have hp : p < J.length := by omega
      have hmp : p < (J.map fun j => md n (a + j)).length := by simpa using hp
      have hw : wrap64 (((p + 1 : Nat) : Int) - 1) = (p : Int) := by rw [w64 (by omega) (by omega)]; omega
      have hJp := hJ J[p] (List.getElem_mem hp)
      obtain ⟨e1, e2, e3⟩ := dist_md ha hJp.1 hJp.2
      have hgp : rd (J.map fun j => md n (a + j)) (p : Int) = md n (a + J[p]) := by rw [rd_at _ p hmp]; simp
      have hlt2 : J[p] < J[p + 1] := List.pairwise_iff_getElem.1 hs p (p + 1) hp hlt (by omega)
      rw [if_pos h0, hw, if_pos (by omega), if_pos (by simp; omega), hgp, steps_ev n a _ k (by omega), if_pos ⟨ha, e2⟩, steps_ev n a _ k (by omega), if_pos ⟨ha, d2⟩, e1, d1]
      simp only [Option.bind_some]
      rw [if_neg (by omega)]
      exact next
    · rw [if_neg h0]
      exact next

theorem RingSteps : unisonlaw15_RingSteps.Pure := by
  intro a0 a1 a2 l3 w0 w1 w2 hm hy hw
  obtain ⟨K, hK⟩ : ∃ K : Nat, 5000 ≤ K := ⟨5000, Nat.le_refl _⟩
  refine ⟨K + 2, ?_⟩
  unfold unisonlaw15_RingSteps.f
  by_cases h : (l3.length : Int) > 100
  · rw [if_pos h]
    simp only [unisonlaw15_RingSteps.j0, if_true]
    rw [awake_at (K + 1) (by omega)]; rfl
  · rw [if_neg h, Of_eq, Of_eq]
    simp only [Option.bind_some, decide_eq_true_eq]
    by_cases h1 : inR a0 a1
    · rw [if_pos h1]
      simp only [unisonlaw15_RingSteps.j0]
      by_cases h2 : inR a0 a2
      · simp only [h2, decide_true, Bool.not_true, Bool.false_eq_true, if_false]
        rw [steps_ev a0 a1 a2 (K + 1) (by omega), if_pos ⟨h1, h2⟩, steps_ev a0 a2 a1 (K + 1) (by omega), if_pos ⟨h2, h1⟩]
        simp only [Option.bind_some]
        have next : unisonlaw15_RingSteps.j1 (K + 1) a0 a1 l3 false = some true := by
          simp only [unisonlaw15_RingSteps.j1, Bool.false_eq_true, if_false]
          rw [way_ev a0 a1 l3 (by omega) K (by omega), if_pos h1]
          simp only [Option.bind_some]
          have hl : (js a0 a1 l3 (a0 - 1).toNat 1).length ≤ 64 := by have := js_le a0 a1 l3 (a0 - 1).toNat 1; have := h1.2.1; omega
          refine steps_loop a0 a1 (js a0 a1 l3 (a0 - 1).toNat 1) h1 (fun j hj => ?_) (js_sorted _ _ _ _ _) (by omega) _ 0 K rfl (by omega) (by omega)
          have := js_bound a0 a1 l3 _ 1 j hj
          have := h1.1
          omega
        have hsum : (a1 = a2 → dist a0 a1 a2 + dist a0 a2 a1 = 0) ∧ (a1 ≠ a2 → dist a0 a1 a2 + dist a0 a2 a1 = a0) ∧ 0 ≤ dist a0 a1 a2 + dist a0 a2 a1 ∧ dist a0 a1 a2 + dist a0 a2 a1 ≤ 200 := by
          obtain ⟨_, _, _, _⟩ := h1
          obtain ⟨_, _, _, _⟩ := h2
          unfold dist
          refine ⟨fun e => ?_, fun e => ?_, ?_, ?_⟩ <;> (split <;> split <;> omega)
        rw [w64 (by omega) (by omega)]
        by_cases he : a1 = a2
        · rw [if_pos he, if_pos (hsum.1 he)]
          exact next
        · rw [if_neg he, hsum.2.1 he]
          simpa using next
      · simp only [h2, decide_false, Bool.not_false, if_true]
        rw [awake_at (K + 1) (by omega)]; rfl
    · rw [if_neg h1]
      simp only [unisonlaw15_RingSteps.j0, if_true]
      rw [awake_at (K + 1) (by omega)]; rfl

end Go.Proofs.Ytinbghiinpngeaa.Pure
