/- Who comes next in a ring, all that come, and how far it is, are what the reference tells, whatever is handed in. Conditions: none beyond the statement's own. -/
import Derived.Test.YtinbghiinpngeaaF8
namespace Go.Proofs.Ytinbghiinpngeaa.Pure
open Go.RowKit Go.Proofs.Ytinbghiinpngeaa.F Go.Proofs.YtinbghiinpngeaaW.PrintWords Go.Proofs.YtinbghiinpngeaaW.PrintLast Go.Proofs.YtinbghiinpngeaaW.PrintMore

theorem w64 {x : Int} (h0 : -9223372036854775808 ≤ x) (h1 : x ≤ 9223372036854775807) : wrap64 x = x := by unfold wrap64; omega
theorem rd_at (l : List Int) (i : Nat) (h : i < l.length) : rd l (i : Int) = l[i] := by simp [rd, List.getD, h]

theorem of_loop (n : Int) (l : List Int) (hl : l.length ≤ 1000000) : ∀ (d i k : Nat), l.length - i = d → i ≤ l.length → d < k →
    ring_of.l0 k n l (l.length : Int) (i : Int) = some ((l.drop i).all fun x => decide (0 ≤ x ∧ x < n)) := by
  intro d
  induction d with
  | zero =>
    intro i k hd hi hk
    obtain ⟨k, rfl⟩ : ∃ m, k = m + 1 := ⟨k - 1, by omega⟩
    obtain rfl : i = l.length := by omega
    simp only [ring_of.l0]
    rw [if_neg (by omega)]
    simp
  | succ d ih =>
    intro i k hd hi hk
    obtain ⟨k, rfl⟩ : ∃ m, k = m + 1 := ⟨k - 1, by omega⟩
    have hlt : i < l.length := by omega
    have hdrop : l.drop i = l[i] :: l.drop (i + 1) := List.drop_eq_getElem_cons hlt
    simp only [ring_of.l0]
    rw [if_pos (by omega), if_pos (by omega), if_pos (by omega), rd_at l i hlt, hdrop, List.all_cons]
    by_cases h1 : l[i] < 0
    · rw [if_pos h1]
      have : decide (0 ≤ l[i] ∧ l[i] < n) = false := by simp; omega
      rw [this, Bool.false_and]
    · rw [if_neg h1]
      by_cases h2 : l[i] ≥ n
      · rw [if_pos h2]
        have : decide (0 ≤ l[i] ∧ l[i] < n) = false := by simp; omega
        rw [this, Bool.false_and]
      · rw [if_neg h2]
        have : decide (0 ≤ l[i] ∧ l[i] < n) = true := by simp; omega
        rw [this, Bool.true_and, w64 (by omega) (by omega), show ((i : Int) + 1) = ((i + 1 : Nat) : Int) by omega]
        exact ih (i + 1) k (by omega) (by omega) (by omega)

def inR (n i : Int) : Prop := 1 ≤ n ∧ n ≤ 64 ∧ 0 ≤ i ∧ i < n
instance (n i : Int) : Decidable (inR n i) := inferInstanceAs (Decidable (_ ∧ _))

theorem of_ev (n : Int) (l : List Int) (hl : l.length ≤ 1000000) (k : Nat) (hk : l.length + 2 < k) :
    ring_of.f k n l = some (decide (1 ≤ n ∧ n ≤ 64) && l.all fun x => decide (0 ≤ x ∧ x < n)) := by
  obtain ⟨k, rfl⟩ : ∃ m, k = m + 1 := ⟨k - 1, by omega⟩
  unfold ring_of.f
  by_cases h1 : n < 1
  · rw [if_pos h1]
    simp only [ring_of.j0]
    have : decide (1 ≤ n ∧ n ≤ 64) = false := by simp; omega
    simp [this]
  · rw [if_neg h1]
    simp only [ring_of.j0]
    by_cases h2 : n > 64
    · have : decide (1 ≤ n ∧ n ≤ 64) = false := by simp; omega
      simp [this, h2]
    · have : decide (1 ≤ n ∧ n ≤ 64) = true := by simp; omega
      have h3 : decide (n > 64) = false := by simp; omega
      rw [h3, if_neg (by simp), this, Bool.true_and]
      have := of_loop n l hl l.length 0 k (by omega) (by omega) (by omega)
      simpa using this

theorem of1 (n i : Int) (k : Nat) (hk : 3 < k) : ring_of.f k n [i] = some (decide (inR n i)) := by
  rw [of_ev n [i] (by simp) k (by simpa using hk)]
  congr 1
  rw [Bool.eq_iff_iff]
  simp only [Bool.and_eq_true, decide_eq_true_eq, List.all_cons, List.all_nil, and_true]
  unfold inR
  exact ⟨fun ⟨⟨a, b⟩, c, d⟩ => ⟨a, b, c, d⟩, fun ⟨a, b, c, d⟩ => ⟨⟨a, b⟩, c, d⟩⟩

theorem of2 (n i j : Int) (k : Nat) (hk : 4 < k) : ring_of.f k n [i, j] = some (decide (inR n i ∧ inR n j)) := by
  rw [of_ev n [i, j] (by simp) k (by simpa using hk)]
  congr 1
  rw [Bool.eq_iff_iff]
  simp only [Bool.and_eq_true, decide_eq_true_eq, List.all_cons, List.all_nil, and_true]
  unfold inR
  exact ⟨fun ⟨⟨a, b⟩, ⟨c, d⟩, e, f⟩ => ⟨⟨a, b, c, d⟩, a, b, e, f⟩, fun ⟨⟨a, b, c, d⟩, _, _, e, f⟩ => ⟨⟨a, b⟩, ⟨c, d⟩, e, f⟩⟩

theorem index_loop (l : List Int) (x : Int) (hl : l.length ≤ 1000000) : ∀ (d i k : Nat), l.length - i = d → i ≤ l.length → d < k →
    ∃ r, slices_Index_int_int.l0 k l x (l.length : Int) (i : Int) = some r ∧ (0 ≤ r ↔ x ∈ l.drop i) := by
  intro d
  induction d with
  | zero =>
    intro i k hd hi hk
    obtain ⟨k, rfl⟩ : ∃ m, k = m + 1 := ⟨k - 1, by omega⟩
    obtain rfl : i = l.length := by omega
    simp only [slices_Index_int_int.l0]
    rw [if_neg (by omega)]
    exact ⟨-1, rfl, by simp⟩
  | succ d ih =>
    intro i k hd hi hk
    obtain ⟨k, rfl⟩ : ∃ m, k = m + 1 := ⟨k - 1, by omega⟩
    have hlt : i < l.length := by omega
    have hdrop : l.drop i = l[i] :: l.drop (i + 1) := List.drop_eq_getElem_cons hlt
    simp only [slices_Index_int_int.l0]
    rw [if_pos (by omega), if_pos (by omega), if_pos (by omega), rd_at l i hlt, hdrop]
    by_cases h1 : x = l[i]
    · rw [if_pos h1]
      exact ⟨i, rfl, fun _ => by rw [h1]; exact List.mem_cons_self, fun _ => by omega⟩
    · rw [if_neg h1, w64 (by omega) (by omega), show ((i : Int) + 1) = ((i + 1 : Nat) : Int) by omega]
      obtain ⟨r, hr, hp⟩ := ih (i + 1) k (by omega) (by omega) (by omega)
      exact ⟨r, hr, by rw [hp, List.mem_cons]; exact ⟨Or.inr, fun h => h.resolve_left h1⟩⟩

theorem contains_ev (l : List Int) (x : Int) (hl : l.length ≤ 1000000) (k : Nat) (hk : l.length < k) :
    slices_Contains_int_int.f k l x = some (decide (x ∈ l)) := by
  obtain ⟨r, hr, hp⟩ := index_loop l x hl l.length 0 k (by omega) (by omega) hk
  have hr' : slices_Index_int_int.f k l x = some r := by unfold slices_Index_int_int.f; simpa using hr
  unfold slices_Contains_int_int.f
  rw [hr']
  simp only [Option.bind_some, List.drop_zero] at hp ⊢
  congr 1
  exact decide_eq_decide.mpr hp

/-- (me + i) mod n, for i up to n. -/
def md (n a : Int) : Int := if a < n then a else a - n
theorem emod_md {n a : Int} (h0 : 0 ≤ a) (h1 : a < n + n) : a % n = md n a := by
  unfold md
  split
  · exact Int.emod_eq_of_lt h0 (by omega)
  · have : (a - n) % n = a - n := Int.emod_eq_of_lt (by omega) (by omega)
    rw [← this, Int.sub_emod_right]
theorem tmod_md {n a : Int} (h0 : 0 ≤ a) (h1 : a < n + n) : a.tmod n = md n a := by
  rw [Int.tmod_eq_emod_of_nonneg h0, emod_md h0 h1]

/-- The steps j of a way. -/
def js (n me : Int) (skip : List Int) : Nat → Int → List Int
  | 0, _ => []
  | d + 1, i => if md n (me + i) ∈ skip then js n me skip d (i + 1) else i :: js n me skip d (i + 1)
def way (n me : Int) (skip : List Int) : List Int := (js n me skip (n - 1).toNat 1).map fun j => md n (me + j)

theorem way_loop (n me : Int) (skip : List Int) (hs : skip.length ≤ 1000000) (h : inR n me) : ∀ (d k : Nat) (i : Int) (acc : List Int), (n - i).toNat = d → 1 ≤ i → i ≤ n → acc.length ≤ i → skip.length + d + 1 < k →
    ring_Way.l0 k n me skip acc i = some (acc ++ (js n me skip d i).map fun j => md n (me + j)) := by
  obtain ⟨h1, h2, h3, h4⟩ := h
  intro d
  induction d with
  | zero =>
    intro k i acc hd hi hin ha hk
    obtain ⟨k, rfl⟩ : ∃ m, k = m + 1 := ⟨k - 1, by omega⟩
    simp only [ring_Way.l0]
    rw [if_neg (by omega)]
    simp [js]
  | succ d ih =>
    intro k i acc hd hi hin ha hk
    obtain ⟨k, rfl⟩ : ∃ m, k = m + 1 := ⟨k - 1, by omega⟩
    simp only [ring_Way.l0]
    rw [if_pos (by omega), if_neg (by omega), w64 (x := me + i) (by omega) (by omega), w64 (x := i + 1) (by omega) (by omega), tmod_md (by omega) (by omega), contains_ev skip _ hs k (by omega)]
    simp only [Option.bind_some, decide_eq_true_eq, js]
    by_cases hm : md n (me + i) ∈ skip
    · rw [if_pos hm, if_pos hm]
      exact ih k (i + 1) acc (by omega) (by omega) (by omega) (by omega) (by omega)
    · rw [if_neg hm, if_neg hm, if_pos (by omega), ih k (i + 1) _ (by omega) (by omega) (by omega) (by simp; omega) (by omega)]
      simp

theorem way_ev (n me : Int) (skip : List Int) (hs : skip.length ≤ 1000000) (k : Nat) (hk : skip.length + 100 < k) :
    ring_Way.f k n me skip = some (if inR n me then way n me skip else []) := by
  unfold ring_Way.f
  rw [of1 n me k (by omega)]
  simp only [Option.bind_some, decide_eq_true_eq]
  by_cases h : inR n me
  · rw [if_pos h, if_pos h, way_loop n me skip hs h (n - 1).toNat k 1 [] rfl (by omega) h.1 (by simp) (by have := h.2.1; omega)]
    simp [way]
  · rw [if_neg h, if_neg h]

theorem js_le (n me : Int) (skip : List Int) : ∀ (d : Nat) (i : Int), (js n me skip d i).length ≤ d
  | 0, _ => by simp [js]
  | d + 1, i => by
    have := js_le n me skip d (i + 1)
    unfold js
    split
    · omega
    · simp; omega

theorem next_ev (n me : Int) (skip : List Int) (hs : skip.length ≤ 1000000) (k : Nat) (hk : skip.length + 100 < k) :
    ring_Next.f k n me skip = some (if inR n me then ((way n me skip).head?.getD me) else -1) := by
  unfold ring_Next.f
  rw [of1 n me k (by omega), way_ev n me skip hs k hk]
  simp only [Option.bind_some, decide_eq_true_eq]
  by_cases h : inR n me
  · rw [if_pos h, if_pos h, if_pos h]
    have hl : (way n me skip).length ≤ 64 := by
      have := js_le n me skip (n - 1).toNat 1
      have := h.2.1
      unfold way; rw [List.length_map]; omega
    rw [if_pos (by omega), if_pos (by simp)]
    cases way n me skip <;> simp [rd]
  · rw [if_neg h, if_neg h]

def dist (n a b : Int) : Int := if a ≤ b then b - a else b - a + n
theorem steps_ev (n a b : Int) (k : Nat) (hk : 4 < k) : ring_Steps.f k n a b = some (if inR n a ∧ inR n b then dist n a b else -1) := by
  unfold ring_Steps.f
  rw [of2 n a b k hk]
  simp only [Option.bind_some, decide_eq_true_eq]
  by_cases h : inR n a ∧ inR n b
  · rw [if_pos h, if_pos h]
    obtain ⟨⟨h1, h2, h3, h4⟩, h5, h6, h7, h8⟩ := h
    rw [if_neg (by omega), w64 (x := b - a) (by omega) (by omega), w64 (by omega) (by omega), tmod_md (by omega) (by omega)]
    congr 1
    unfold md dist
    split <;> split <;> omega
  · rw [if_neg h, if_neg h]

theorem Of_eq (n i : Int) : unisonref15_Of.f n i = some (decide (inR n i)) := by
  unfold unisonref15_Of.f
  by_cases h1 : n ≥ 1 <;> by_cases h2 : n ≤ 64 <;> by_cases h3 : i ≥ 0 <;> simp [inR, h1, h2, h3] <;> omega

theorem awake_at (k : Nat) (hk : 200 ≤ k) : unisonlaw15_awake.f k = some true := by
  unfold unisonlaw15_awake.f
  rw [next_ev 4 2 [3] (by simp) k (by simp; omega), next_ev 4 2 [] (by simp) k (by simp; omega), next_ev 1 0 [] (by simp) k (by simp; omega)]
  decide

theorem in_loop (l : List Int) (x : Int) (hl : l.length ≤ 1000000) : ∀ (d i k : Nat), l.length - i = d → i ≤ l.length → d < k →
    unisonref15_in.l0 k l x (l.length : Int) (i : Int) = some (decide (x ∈ l.drop i)) := by
  intro d
  induction d with
  | zero =>
    intro i k hd hi hk
    obtain ⟨k, rfl⟩ : ∃ m, k = m + 1 := ⟨k - 1, by omega⟩
    obtain rfl : i = l.length := by omega
    simp only [unisonref15_in.l0]
    rw [if_neg (by omega)]
    simp
  | succ d ih =>
    intro i k hd hi hk
    obtain ⟨k, rfl⟩ : ∃ m, k = m + 1 := ⟨k - 1, by omega⟩
    have hlt : i < l.length := by omega
    have hdrop : l.drop i = l[i] :: l.drop (i + 1) := List.drop_eq_getElem_cons hlt
    simp only [unisonref15_in.l0]
    rw [if_pos (by omega), if_pos (by omega), if_pos (by omega), rd_at l i hlt, hdrop]
    by_cases h1 : l[i] = x
    · rw [if_pos h1]
      simp [h1]
    · rw [if_neg h1, w64 (by omega) (by omega), show ((i : Int) + 1) = ((i + 1 : Nat) : Int) by omega, ih (i + 1) k (by omega) (by omega) (by omega)]
      congr 1
      exact decide_eq_decide.mpr (by rw [List.mem_cons]; exact ⟨Or.inr, fun h => h.resolve_left (fun e => h1 e.symm)⟩)
theorem in_ev (l : List Int) (x : Int) (hl : l.length ≤ 1000000) (k : Nat) (hk : l.length < k) : unisonref15_in.f k l x = some (decide (x ∈ l)) := by
  have := in_loop l x hl l.length 0 k (by omega) (by omega) hk
  unfold unisonref15_in.f
  simpa using this

theorem behind_md {n me i : Int} (h : inR n me) (hi : 0 ≤ i) (hin : i < n) : unisonref15_behind.f n (md n (me + i)) = some (md n (me + (i + 1))) := by
  obtain ⟨h1, h2, h3, h4⟩ := h
  unfold unisonref15_behind.f md
  split
  · rw [w64 (by omega) (by omega)]
    split
    · rw [if_neg (by omega)]; congr 1; omega
    · rw [if_pos (by omega)]; congr 1; omega
  · rw [w64 (by omega) (by omega), if_neg (by omega), if_neg (by omega)]
    congr 1; omega

theorem refway_loop (n me : Int) (skip : List Int) (hs : skip.length ≤ 1000000) (h : inR n me) : ∀ (d k : Nat) (i : Int) (acc : List Int), (n - i).toNat = d → 1 ≤ i → i ≤ n → acc.length ≤ i → skip.length + d + 1 < k →
    unisonref15_Way.l0 k n me skip acc (md n (me + i)) = some (acc ++ (js n me skip d i).map fun j => md n (me + j)) := by
  have hh := h
  obtain ⟨h1, h2, h3, h4⟩ := hh
  intro d
  induction d with
  | zero =>
    intro k i acc hd hi hin ha hk
    obtain ⟨k, rfl⟩ : ∃ m, k = m + 1 := ⟨k - 1, by omega⟩
    simp only [unisonref15_Way.l0]
    rw [if_pos (by unfold md; split <;> omega)]
    simp [js]
  | succ d ih =>
    intro k i acc hd hi hin ha hk
    obtain ⟨k, rfl⟩ : ∃ m, k = m + 1 := ⟨k - 1, by omega⟩
    simp only [unisonref15_Way.l0]
    rw [if_neg (by unfold md; split <;> omega), in_ev skip _ hs k (by omega), behind_md h (by omega) (by omega)]
    simp only [Option.bind_some, decide_eq_true_eq, js]
    by_cases hm : md n (me + i) ∈ skip
    · rw [if_pos hm, if_pos hm]
      exact ih k (i + 1) acc (by omega) (by omega) (by omega) (by omega) (by omega)
    · rw [if_neg hm, if_neg hm, if_pos (by omega), ih k (i + 1) _ (by omega) (by omega) (by omega) (by simp; omega) (by omega)]
      simp

theorem refway_ev (n me : Int) (skip : List Int) (hs : skip.length ≤ 1000000) (k : Nat) (hk : skip.length + 100 < k) :
    unisonref15_Way.f k n me skip = some (if inR n me then way n me skip else []) := by
  unfold unisonref15_Way.f
  rw [Of_eq]
  simp only [Option.bind_some, decide_eq_true_eq]
  by_cases h : inR n me
  · rw [if_pos h, if_pos h]
    have e : me = md n (me + 0) := by obtain ⟨h1, h2, h3, h4⟩ := h; unfold md; split <;> omega
    have hb : unisonref15_behind.f n me = some (md n (me + 1)) := by
      have := behind_md (i := 0) h (by omega) (by have := h.1; omega)
      rwa [← e] at this
    rw [hb]
    simp only [Option.bind_some]
    rw [refway_loop n me skip hs h (n - 1).toNat k 1 [] rfl (by omega) h.1 (by simp) (by have := h.2.1; omega)]
    simp [way]
  · rw [if_neg h, if_neg h]

theorem refnext_ev (n me : Int) (skip : List Int) (hs : skip.length ≤ 1000000) (k : Nat) (hk : skip.length + 100 < k) :
    unisonref15_Next.f k n me skip = some (if inR n me then ((way n me skip).head?.getD me) else -1) := by
  unfold unisonref15_Next.f
  rw [Of_eq, refway_ev n me skip hs k hk]
  simp only [Option.bind_some, decide_eq_true_eq]
  by_cases h : inR n me
  · rw [if_pos h, if_pos h, if_pos h]
    cases way n me skip with
    | nil => simp
    | cons x r => rw [if_neg (by simp; omega), if_pos (by simp)]; simp [rd]
  · rw [if_neg h, if_neg h]

theorem same_loop (l : List Int) (hl : l.length ≤ 1000000) : ∀ (d i k : Nat), l.length - i = d → i ≤ l.length → d < k →
    unisonref15_Same.l0 k l l (l.length : Int) (i : Int) = some true := by
  intro d
  induction d with
  | zero =>
    intro i k hd hi hk
    obtain ⟨k, rfl⟩ : ∃ m, k = m + 1 := ⟨k - 1, by omega⟩
    obtain rfl : i = l.length := by omega
    simp only [unisonref15_Same.l0]
    rw [if_neg (by omega)]
  | succ d ih =>
    intro i k hd hi hk
    obtain ⟨k, rfl⟩ : ∃ m, k = m + 1 := ⟨k - 1, by omega⟩
    simp only [unisonref15_Same.l0, if_true]
    rw [if_pos (by omega), if_pos (by omega), if_pos (by omega), if_pos (by omega), w64 (by omega) (by omega), show ((i : Int) + 1) = ((i + 1 : Nat) : Int) by omega]
    exact ih (i + 1) k (by omega) (by omega) (by omega)
theorem same_ev (l : List Int) (hl : l.length ≤ 1000000) (k : Nat) (hk : l.length < k) : unisonref15_Same.f k l l = some true := by
  unfold unisonref15_Same.f
  rw [if_pos rfl]
  exact same_loop l hl l.length 0 k (by omega) (by omega) hk

theorem refsteps_loop (n b : Int) (hb : inR n b) : ∀ (d k : Nat) (i x : Int), (dist n x b).toNat = d → inR n x → 0 ≤ i → i + dist n x b ≤ 64 → d < k →
    unisonref15_Steps.l0 k n b i x = some (i + dist n x b) := by
  intro d
  induction d with
  | zero =>
    intro k i x hd hx hi hs hk
    obtain ⟨k, rfl⟩ : ∃ m, k = m + 1 := ⟨k - 1, by omega⟩
    obtain ⟨x1, x2, x3, x4⟩ := hx
    obtain ⟨b1, b2, b3, b4⟩ := hb
    simp only [unisonref15_Steps.l0]
    have e : x = b := by unfold dist at hd; split at hd <;> omega
    rw [if_pos e]
    subst e
    simp [dist]
  | succ d ih =>
    intro k i x hd hx hi hs hk
    obtain ⟨k, rfl⟩ : ∃ m, k = m + 1 := ⟨k - 1, by omega⟩
    have hx' := hx
    have hb' := hb
    obtain ⟨x1, x2, x3, x4⟩ := hx
    obtain ⟨b1, b2, b3, b4⟩ := hb
    simp only [unisonref15_Steps.l0]
    have e : x ≠ b := by rintro rfl; simp [dist] at hd
    rw [if_neg e, w64 (by omega) (by unfold dist at hs; split at hs <;> omega)]
    unfold unisonref15_behind.f
    rw [w64 (by omega) (by omega)]
    by_cases hn : x + 1 = n
    · rw [if_pos hn]
      simp only [Option.bind_some]
      have hd1 : dist n x b = dist n 0 b + 1 := by
        unfold dist
        repeat' split
        all_goals omega
      rw [ih k (i + 1) 0 (by omega) ⟨x1, x2, by omega, by omega⟩ (by omega) (by omega) (by omega)]
      congr 1; omega
    · rw [if_neg hn]
      simp only [Option.bind_some]
      have hd1 : dist n x b = dist n (x + 1) b + 1 := by
        unfold dist
        repeat' split
        all_goals omega
      rw [ih k (i + 1) (x + 1) (by omega) ⟨x1, x2, by omega, by omega⟩ (by omega) (by omega) (by omega)]
      congr 1; omega

theorem refsteps_ev (n a b : Int) (k : Nat) (hk : 100 < k) : unisonref15_Steps.f k n a b = some (if inR n a ∧ inR n b then dist n a b else -1) := by
  obtain ⟨k, rfl⟩ : ∃ m, k = m + 1 := ⟨k - 1, by omega⟩
  unfold unisonref15_Steps.f
  rw [Of_eq, Of_eq]
  simp only [Option.bind_some, decide_eq_true_eq]
  by_cases h : inR n a
  · rw [if_pos h]
    by_cases h' : inR n b
    · simp only [unisonref15_Steps.j0, h, h', decide_true, Bool.not_true, Bool.false_eq_true, if_false, and_self, if_true]
      have hd : dist n a b ≤ 64 := by obtain ⟨_, _, _, _⟩ := h; obtain ⟨_, _, _, _⟩ := h'; unfold dist; split <;> omega
      rw [refsteps_loop n b h' _ k 0 a rfl h (by omega) (by omega) (by omega)]
      simp
    · simp [unisonref15_Steps.j0, h']
  · rw [if_neg h]
    simp [unisonref15_Steps.j0, h]

theorem RingIs : unisonlaw15_RingIs.Pure := by
  intro a0 a1 a2 l3 w0 w1 w2 hm hy hw
  refine ⟨1000, ?_⟩
  unfold unisonlaw15_RingIs.f
  by_cases h : (l3.length : Int) > 100
  · rw [if_pos h, awake_at 1000 (by omega)]; rfl
  · rw [if_neg h, next_ev a0 a1 l3 (by omega) 1000 (by omega), refnext_ev a0 a1 l3 (by omega) 1000 (by omega)]
    simp only [Option.bind_some, if_true]
    rw [way_ev a0 a1 l3 (by omega) 1000 (by omega), refway_ev a0 a1 l3 (by omega) 1000 (by omega)]
    simp only [Option.bind_some]
    have hl : (if inR a0 a1 then way a0 a1 l3 else []).length ≤ 64 := by
      split
      · rename_i h; have := js_le a0 a1 l3 (a0 - 1).toNat 1; have := h.2.1; unfold way; rw [List.length_map]; omega
      · simp
    rw [same_ev _ (by omega) 1000 (by omega), steps_ev a0 a1 a2 1000 (by omega), refsteps_ev a0 a1 a2 1000 (by omega), awake_at 1000 (by omega)]
    simp

end Go.Proofs.Ytinbghiinpngeaa.Pure
