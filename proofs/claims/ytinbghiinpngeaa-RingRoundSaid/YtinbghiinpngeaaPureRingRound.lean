/- Whoever isn't skipped is come to from any other such one by going on, within n steps, each on the way once. Conditions: none beyond the statement's own. -/
import Derived.Test.YtinbghiinpngeaaF9
namespace Go.Proofs.Ytinbghiinpngeaa.Pure
open Go.RowKit Go.Proofs.Ytinbghiinpngeaa.F Go.Proofs.YtinbghiinpngeaaW.PrintWords Go.Proofs.YtinbghiinpngeaaW.PrintLast Go.Proofs.YtinbghiinpngeaaW.PrintMore

theorem w64 {x : Int} (h0 : -9223372036854775808 ≤ x) (h1 : x ≤ 9223372036854775807) : wrap64 x = x := by unfold wrap64; omega
theorem rd_at (l : List Int) (i : Nat) (h : i < l.length) : rd l (i : Int) = l[i] := by simp [rd, List.getD, h]

theorem of_loop (n : Int) (l : List Int) (hl : l.length ≤ 1000000) : ∀ (d i k : Nat), l.length - i = d → i ≤ l.length → d < k →
    ring_of.l0 k n l (l.length : Int) (i : Int) = some ((l.drop i).all fun x => decide (0 ≤ x ∧ x < n)) := by
  intro d
  induction d with
  | zero =>
    intro i k hd hi hk
    obtain ⟨k, rfl⟩ : ∃ m, k = m + 1 := ⟨k - 1, by omega⟩
    obtain rfl : i = l.length := by omega
    simp only [ring_of.l0]
    rw [if_neg (by omega)]
    simp
  | succ d ih =>
    intro i k hd hi hk
    obtain ⟨k, rfl⟩ : ∃ m, k = m + 1 := ⟨k - 1, by omega⟩
    have hlt : i < l.length := by omega
    have hdrop : l.drop i = l[i] :: l.drop (i + 1) := List.drop_eq_getElem_cons hlt
    simp only [ring_of.l0]
    rw [if_pos (by omega), if_pos (by omega), if_pos (by omega), rd_at l i hlt, hdrop, List.all_cons]
    by_cases h1 : l[i] < 0
    · rw [if_pos h1]
      have : decide (0 ≤ l[i] ∧ l[i] < n) = false := by simp; omega
      rw [this, Bool.false_and]
    · rw [if_neg h1]
      by_cases h2 : l[i] ≥ n
      · rw [if_pos h2]
        have : decide (0 ≤ l[i] ∧ l[i] < n) = false := by simp; omega
        rw [this, Bool.false_and]
      · rw [if_neg h2]
        have : decide (0 ≤ l[i] ∧ l[i] < n) = true := by simp; omega
        rw [this, Bool.true_and, w64 (by omega) (by omega), show ((i : Int) + 1) = ((i + 1 : Nat) : Int) by omega]
        exact ih (i + 1) k (by omega) (by omega) (by omega)

def inR (n i : Int) : Prop := 1 ≤ n ∧ n ≤ 64 ∧ 0 ≤ i ∧ i < n
instance (n i : Int) : Decidable (inR n i) := inferInstanceAs (Decidable (_ ∧ _))

theorem of_ev (n : Int) (l : List Int) (hl : l.length ≤ 1000000) (k : Nat) (hk : l.length + 2 < k) :
    ring_of.f k n l = some (decide (1 ≤ n ∧ n ≤ 64) && l.all fun x => decide (0 ≤ x ∧ x < n)) := by
  obtain ⟨k, rfl⟩ : ∃ m, k = m + 1 := ⟨k - 1, by omega⟩
  unfold ring_of.f
  by_cases h1 : n < 1
  · rw [if_pos h1]
    simp only [ring_of.j0]
    have : decide (1 ≤ n ∧ n ≤ 64) = false := by simp; omega
    simp [this]
  · rw [if_neg h1]
    simp only [ring_of.j0]
    by_cases h2 : n > 64
    · have : decide (1 ≤ n ∧ n ≤ 64) = false := by simp; omega
      simp [this, h2]
    · have : decide (1 ≤ n ∧ n ≤ 64) = true := by simp; omega
      have h3 : decide (n > 64) = false := by simp; omega
      rw [h3, if_neg (by simp), this, Bool.true_and]
      have := of_loop n l hl l.length 0 k (by omega) (by omega) (by omega)
      simpa using this

theorem of1 (n i : Int) (k : Nat) (hk : 3 < k) : ring_of.f k n [i] = some (decide (inR n i)) := by
  rw [of_ev n [i] (by simp) k (by simpa using hk)]
  congr 1
  rw [Bool.eq_iff_iff]
  simp only [Bool.and_eq_true, decide_eq_true_eq, List.all_cons, List.all_nil, and_true]
  unfold inR
  exact ⟨fun ⟨⟨a, b⟩, c, d⟩ => ⟨a, b, c, d⟩, fun ⟨a, b, c, d⟩ => ⟨⟨a, b⟩, c, d⟩⟩

theorem of2 (n i j : Int) (k : Nat) (hk : 4 < k) : ring_of.f k n [i, j] = some (decide (inR n i ∧ inR n j)) := by
  rw [of_ev n [i, j] (by simp) k (by simpa using hk)]
  congr 1
  rw [Bool.eq_iff_iff]
  simp only [Bool.and_eq_true, decide_eq_true_eq, List.all_cons, List.all_nil, and_true]
  unfold inR
  exact ⟨fun ⟨⟨a, b⟩, ⟨c, d⟩, e, f⟩ => ⟨⟨a, b, c, d⟩, a, b, e, f⟩, fun ⟨⟨a, b, c, d⟩, _, _, e, f⟩ => ⟨⟨a, b⟩, ⟨c, d⟩, e, f⟩⟩

theorem index_loop (l : List Int) (x : Int) (hl : l.length ≤ 1000000) : ∀ (d i k : Nat), l.length - i = d → i ≤ l.length → d < k →
    ∃ r, slices_Index_int_int.l0 k l x (l.length : Int) (i : Int) = some r ∧ (0 ≤ r ↔ x ∈ l.drop i) := by
  intro d
  induction d with
  | zero =>
    intro i k hd hi hk
    obtain ⟨k, rfl⟩ : ∃ m, k = m + 1 := ⟨k - 1, by omega⟩
    obtain rfl : i = l.length := by omega
    simp only [slices_Index_int_int.l0]
    rw [if_neg (by omega)]
    exact ⟨-1, rfl, by simp⟩
  | succ d ih =>
    intro i k hd hi hk
    obtain ⟨k, rfl⟩ : ∃ m, k = m + 1 := ⟨k - 1, by omega⟩
    have hlt : i < l.length := by omega
    have hdrop : l.drop i = l[i] :: l.drop (i + 1) := List.drop_eq_getElem_cons hlt
    simp only [slices_Index_int_int.l0]
    rw [if_pos (by omega), if_pos (by omega), if_pos (by omega), rd_at l i hlt, hdrop]
    by_cases h1 : x = l[i]
    · rw [if_pos h1]
      exact ⟨i, rfl, fun _ => by rw [h1]; exact List.mem_cons_self, fun _ => by omega⟩
    · rw [if_neg h1, w64 (by omega) (by omega), show ((i : Int) + 1) = ((i + 1 : Nat) : Int) by omega]
      obtain ⟨r, hr, hp⟩ := ih (i + 1) k (by omega) (by omega) (by omega)
      exact ⟨r, hr, by rw [hp, List.mem_cons]; exact ⟨Or.inr, fun h => h.resolve_left h1⟩⟩

theorem contains_ev (l : List Int) (x : Int) (hl : l.length ≤ 1000000) (k : Nat) (hk : l.length < k) :
    slices_Contains_int_int.f k l x = some (decide (x ∈ l)) := by
  obtain ⟨r, hr, hp⟩ := index_loop l x hl l.length 0 k (by omega) (by omega) hk
  have hr' : slices_Index_int_int.f k l x = some r := by unfold slices_Index_int_int.f; simpa using hr
  unfold slices_Contains_int_int.f
  rw [hr']
  simp only [Option.bind_some, List.drop_zero] at hp ⊢
  congr 1
  exact decide_eq_decide.mpr hp

/-- (me + i) mod n, for i up to n. -/
def md (n a : Int) : Int := if a < n then a else a - n
theorem emod_md {n a : Int} (h0 : 0 ≤ a) (h1 : a < n + n) : a % n = md n a := by
  unfold md
  split
  · exact Int.emod_eq_of_lt h0 (by omega)
  · have : (a - n) % n = a - n := Int.emod_eq_of_lt (by omega) (by omega)
    rw [← this, Int.sub_emod_right]
theorem tmod_md {n a : Int} (h0 : 0 ≤ a) (h1 : a < n + n) : a.tmod n = md n a := by
  rw [Int.tmod_eq_emod_of_nonneg h0, emod_md h0 h1]

/-- The steps j of a way. -/
def js (n me : Int) (skip : List Int) : Nat → Int → List Int
  | 0, _ => []
  | d + 1, i => if md n (me + i) ∈ skip then js n me skip d (i + 1) else i :: js n me skip d (i + 1)
def way (n me : Int) (skip : List Int) : List Int := (js n me skip (n - 1).toNat 1).map fun j => md n (me + j)

theorem way_loop (n me : Int) (skip : List Int) (hs : skip.length ≤ 1000000) (h : inR n me) : ∀ (d k : Nat) (i : Int) (acc : List Int), (n - i).toNat = d → 1 ≤ i → i ≤ n → acc.length ≤ i → skip.length + d + 1 < k →
    ring_Way.l0 k n me skip acc i = some (acc ++ (js n me skip d i).map fun j => md n (me + j)) := by
  obtain ⟨h1, h2, h3, h4⟩ := h
  intro d
  induction d with
  | zero =>
    intro k i acc hd hi hin ha hk
    obtain ⟨k, rfl⟩ : ∃ m, k = m + 1 := ⟨k - 1, by omega⟩
    simp only [ring_Way.l0]
    rw [if_neg (by omega)]
    simp [js]
  | succ d ih =>
    intro k i acc hd hi hin ha hk
    obtain ⟨k, rfl⟩ : ∃ m, k = m + 1 := ⟨k - 1, by omega⟩
    simp only [ring_Way.l0]
    rw [if_pos (by omega), if_neg (by omega), w64 (x := me + i) (by omega) (by omega), w64 (x := i + 1) (by omega) (by omega), tmod_md (by omega) (by omega), contains_ev skip _ hs k (by omega)]
    simp only [Option.bind_some, decide_eq_true_eq, js]
    by_cases hm : md n (me + i) ∈ skip
    · rw [if_pos hm, if_pos hm]
      exact ih k (i + 1) acc (by omega) (by omega) (by omega) (by omega) (by omega)
    · rw [if_neg hm, if_neg hm, if_pos (by omega), ih k (i + 1) _ (by omega) (by omega) (by omega) (by simp; omega) (by omega)]
      simp

theorem way_ev (n me : Int) (skip : List Int) (hs : skip.length ≤ 1000000) (k : Nat) (hk : skip.length + 100 < k) :
    ring_Way.f k n me skip = some (if inR n me then way n me skip else []) := by
  unfold ring_Way.f
  rw [of1 n me k (by omega)]
  simp only [Option.bind_some, decide_eq_true_eq]
  by_cases h : inR n me
  · rw [if_pos h, if_pos h, way_loop n me skip hs h (n - 1).toNat k 1 [] rfl (by omega) h.1 (by simp) (by have := h.2.1; omega)]
    simp [way]
  · rw [if_neg h, if_neg h]

theorem js_le (n me : Int) (skip : List Int) : ∀ (d : Nat) (i : Int), (js n me skip d i).length ≤ d
  | 0, _ => by simp [js]
  | d + 1, i => by
    have := js_le n me skip d (i + 1)
    unfold js
    split
    · omega
    · simp; omega

theorem next_ev (n me : Int) (skip : List Int) (hs : skip.length ≤ 1000000) (k : Nat) (hk : skip.length + 100 < k) :
    ring_Next.f k n me skip = some (if inR n me then ((way n me skip).head?.getD me) else -1) := by
  unfold ring_Next.f
  rw [of1 n me k (by omega), way_ev n me skip hs k hk]
  simp only [Option.bind_some, decide_eq_true_eq]
  by_cases h : inR n me
  · rw [if_pos h, if_pos h, if_pos h]
    have hl : (way n me skip).length ≤ 64 := by
      have := js_le n me skip (n - 1).toNat 1
      have := h.2.1
      unfold way; rw [List.length_map]; omega
    rw [if_pos (by omega), if_pos (by simp)]
    cases way n me skip <;> simp [rd]
  · rw [if_neg h, if_neg h]

def dist (n a b : Int) : Int := if a ≤ b then b - a else b - a + n
theorem steps_ev (n a b : Int) (k : Nat) (hk : 4 < k) : ring_Steps.f k n a b = some (if inR n a ∧ inR n b then dist n a b else -1) := by
  unfold ring_Steps.f
  rw [of2 n a b k hk]
  simp only [Option.bind_some, decide_eq_true_eq]
  by_cases h : inR n a ∧ inR n b
  · rw [if_pos h, if_pos h]
    obtain ⟨⟨h1, h2, h3, h4⟩, h5, h6, h7, h8⟩ := h
    rw [if_neg (by omega), w64 (x := b - a) (by omega) (by omega), w64 (by omega) (by omega), tmod_md (by omega) (by omega)]
    congr 1
    unfold md dist
    split <;> split <;> omega
  · rw [if_neg h, if_neg h]

theorem Of_eq (n i : Int) : unisonref15_Of.f n i = some (decide (inR n i)) := by
  unfold unisonref15_Of.f
  by_cases h1 : n ≥ 1 <;> by_cases h2 : n ≤ 64 <;> by_cases h3 : i ≥ 0 <;> simp [inR, h1, h2, h3] <;> omega

theorem awake_at (k : Nat) (hk : 200 ≤ k) : unisonlaw15_awake.f k = some true := by
  unfold unisonlaw15_awake.f
  rw [next_ev 4 2 [3] (by simp) k (by simp; omega), next_ev 4 2 [] (by simp) k (by simp; omega), next_ev 1 0 [] (by simp) k (by simp; omega)]
  decide

/-- The first one on the way that isn't skipped, if there is one at a distance s, comes no later. -/
theorem js_head (n me : Int) (skip : List Int) (s : Int) (hs : ¬ md n (me + s) ∈ skip) : ∀ (d : Nat) (i : Int), i ≤ s → s < i + d →
    ∃ j r, js n me skip d i = j :: r ∧ i ≤ j ∧ j ≤ s := by
  intro d
  induction d with
  | zero => intro i h1 h2; omega
  | succ d ih =>
    intro i h1 h2
    unfold js
    by_cases hm : md n (me + i) ∈ skip
    · rw [if_pos hm]
      have : i ≠ s := by rintro rfl; exact hs hm
      obtain ⟨j, r, h, h3, h4⟩ := ih (i + 1) (by omega) (by omega)
      exact ⟨j, r, h, by omega, h4⟩
    · rw [if_neg hm]
      exact ⟨i, _, rfl, by omega, h1⟩

theorem next_nearer (n a b : Int) (skip : List Int) (ha : inR n a) (hb : inR n b) (hs : ¬ b ∈ skip) (hne : a ≠ b) :
    ∃ c, (way n a skip).head?.getD a = c ∧ inR n c ∧ dist n c b < dist n a b := by
  have ha' := ha
  have hb' := hb
  obtain ⟨a1, a2, a3, a4⟩ := ha
  obtain ⟨b1, b2, b3, b4⟩ := hb
  have hd1 : 1 ≤ dist n a b ∧ dist n a b < n := by unfold dist; split <;> omega
  have hmd : md n (a + dist n a b) = b := by unfold md dist; split <;> split <;> omega
  obtain ⟨j, r, hj, h1, h2⟩ := js_head n a skip (dist n a b) (by rw [hmd]; exact hs) (n - 1).toNat 1 (by omega) (by omega)
  refine ⟨md n (a + j), by unfold way; rw [hj]; rfl, ⟨a1, a2, ?_, ?_⟩, ?_⟩
  · unfold md; split <;> omega
  · unfold md; split <;> omega
  · revert h1 h2 hd1
    unfold dist md
    repeat' split
    all_goals omega

theorem round_loop (n b : Int) (skip : List Int) (hs : skip.length ≤ 100) (hb : inR n b) (hns : ¬ b ∈ skip) : ∀ (d k : Nat) (i at_ : Int), (n - i).toNat = d → 0 ≤ i → i ≤ n → inR n at_ → dist n at_ b ≤ n - i → 1000 + 3 * d < k →
    unisonlaw15_RingRound.l1 k n b skip at_ i = some true := by
  obtain ⟨b1, b2, b3, b4⟩ := id hb
  intro d
  induction d with
  | zero =>
    intro k i x hd h0 hi hx hdist hk
    obtain ⟨k, rfl⟩ : ∃ m, k = m + 2 := ⟨k - 2, by omega⟩
    obtain ⟨x1, x2, x3, x4⟩ := hx
    simp only [unisonlaw15_RingRound.l1]
    rw [if_neg (by omega)]
    simp only [unisonlaw15_RingRound.j3]
    rw [if_neg (by simp), if_pos (by unfold dist at hdist; split at hdist <;> omega), awake_at k (by omega)]
    rfl
  | succ d ih =>
    intro k i x hd h0 hi hx hdist hk
    obtain ⟨k, rfl⟩ : ∃ m, k = m + 2 := ⟨k - 2, by omega⟩
    simp only [unisonlaw15_RingRound.l1]
    rw [if_pos (by omega)]
    simp only [unisonlaw15_RingRound.j3]
    by_cases hxb : x = b
    · rw [if_neg (by simp [hxb]), if_pos hxb, awake_at k (by omega)]
      rfl
    · rw [if_pos (by simp [hxb])]
      obtain ⟨c, hc, hcr, hcd⟩ := next_nearer n x b skip hx hb hns hxb
      rw [next_ev n x skip (by omega) k (by omega), if_pos hx, hc]
      simp only [Option.bind_some]
      rw [Of_eq]
      simp only [Option.bind_some, decide_eq_true_eq]
      rw [if_pos hcr, steps_ev n c b k (by omega), steps_ev n x b k (by omega), if_pos ⟨hcr, hb⟩, if_pos ⟨hx, hb⟩]
      simp only [Option.bind_some]
      rw [if_neg (by omega), w64 (by omega) (by omega)]
      exact ih k (i + 1) c (by omega) (by omega) (by omega) hcr (by omega) (by omega)

theorem skip_loop (n a b : Int) (skip : List Int) (hs : skip.length ≤ 100) (ha : inR n a) (hb : inR n b) : ∀ (d i k : Nat), skip.length - i = d → i ≤ skip.length → (∀ x ∈ skip.take i, x ≠ b) → 2000 + d < k →
    unisonlaw15_RingRound.l0 k n a b skip (i : Int) = some true := by
  intro d
  induction d with
  | zero =>
    intro i k hd hi hno hk
    obtain ⟨k, rfl⟩ : ∃ m, k = m + 1 := ⟨k - 1, by omega⟩
    obtain rfl : i = skip.length := by omega
    simp only [unisonlaw15_RingRound.l0]
    rw [if_neg (by omega)]
    rw [List.take_length] at hno
    refine round_loop n b skip hs hb (fun h => hno b h rfl) n.toNat k 0 a (by omega) (by omega) (by have := hb.1; omega) ha ?_ (by have := hb.2.1; omega)
    obtain ⟨_, _, _, _⟩ := ha
    obtain ⟨_, _, _, _⟩ := hb
    unfold dist; split <;> omega
  | succ d ih =>
    intro i k hd hi hno hk
    obtain ⟨k, rfl⟩ : ∃ m, k = m + 1 := ⟨k - 1, by omega⟩
    have hlt : i < skip.length := by omega
    simp only [unisonlaw15_RingRound.l0]
    rw [if_pos (by omega), if_pos (by omega), rd_at skip i hlt]
    by_cases h1 : skip[i] = a
    · rw [if_pos h1, awake_at k (by omega)]; rfl
    · rw [if_neg h1]
      by_cases h2 : skip[i] = b
      · rw [if_pos h2, awake_at k (by omega)]; rfl
      · rw [if_neg h2, w64 (by omega) (by omega), show ((i : Int) + 1) = ((i + 1 : Nat) : Int) by omega]
        refine ih (i + 1) k (by omega) (by omega) ?_ (by omega)
        intro x hx
        rw [List.take_succ_eq_append_getElem hlt] at hx
        rcases List.mem_append.1 hx with hx | hx
        · exact hno x hx
        · rw [List.mem_singleton.1 hx]; exact h2

theorem RingRound : unisonlaw15_RingRound.Pure := by
  intro a0 a1 a2 l3 w0 w1 w2 hm hy hw
  obtain ⟨K, hK⟩ : ∃ K : Nat, 5000 ≤ K := ⟨5000, Nat.le_refl _⟩
  refine ⟨K + 1, ?_⟩
  unfold unisonlaw15_RingRound.f
  by_cases h : (l3.length : Int) > 100
  · rw [if_pos h]
    simp only [unisonlaw15_RingRound.j0, if_true]
    rw [awake_at K (by omega)]; rfl
  · rw [if_neg h, Of_eq, Of_eq]
    simp only [Option.bind_some, decide_eq_true_eq]
    by_cases h1 : inR a0 a1
    · rw [if_pos h1]
      simp only [unisonlaw15_RingRound.j0]
      by_cases h2 : inR a0 a2
      · simp only [h2, decide_true, Bool.not_true, Bool.false_eq_true, if_false]
        exact skip_loop a0 a1 a2 l3 (by omega) h1 h2 l3.length 0 K (by omega) (by omega) (by simp) (by omega)
      · simp only [h2, decide_false, Bool.not_false, if_true]
        rw [awake_at K (by omega)]; rfl
    · rw [if_neg h1]
      simp only [unisonlaw15_RingRound.j0, if_true]
      rw [awake_at K (by omega)]; rfl

end Go.Proofs.Ytinbghiinpngeaa.Pure
