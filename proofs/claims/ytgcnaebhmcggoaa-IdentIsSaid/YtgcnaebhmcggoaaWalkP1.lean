/- Ids in order, in plain Lean. Conditions: none beyond the statement's own. -/
import Derived.Test.YtgcnaebhmcggoaaWalkHas
import Derived.Test.YtgcnaebhmcggoaaF12
import Derived.Test.YtgcnaebhmcggoaaF24
import Derived.Test.YtgcnaebhmcggoaaArgs
import Derived.Deep.QuietTactic
import Derived.BigQuiet
import Derived.Lib.QuietBelow
import Derived.Outline
import Derived.Deep.RegionHeld3
import Derived.Deep.CutRange
namespace Go.Proofs.Ytgcnaebhmcggoaa.Walk
open Go.RowKit Go.Proofs.Ytgcnaebhmcggoaa.F Go.Proofs.YtgcnaebhmcggoaaW.PrintWords Go.Proofs.YtgcnaebhmcggoaaW.PrintLast Go.Proofs.YtgcnaebhmcggoaaW.PrintMore Go.Proofs.Ytgcnaebhmcggoaa.Open
open Go.Sort (grow)
attribute [local go_sem] max2_int min2_int max_two min_two max_three min_three max_four min_four
set_option linter.unusedVariables false
set_option linter.unusedSimpArgs false

/-! ### ids in order, in plain Lean -/
theorem lt_iff {x y : I} : ltI x y = true ↔ x.f0 < y.f0 ∨ (x.f0 = y.f0 ∧ x.f1 < y.f1) := by simp [ltI]
theorem ltI_irrefl (x : I) : ltI x x = false := by simp [ltI]
theorem ltI_trans {x y z : I} (h1 : ltI x y = true) (h2 : ltI y z = true) : ltI x z = true := by rw [lt_iff] at *; omega
theorem ltI_conn {x y : I} (h1 : ltI x y = false) (h2 : ltI y x = false) : x = y := by
  simp only [ltI, decide_eq_false_iff_not] at h1 h2
  exact I_ext (by omega) (by omega)
theorem le_trans' {x y z : I} (h1 : (!ltI y x) = true) (h2 : (!ltI z y) = true) : (!ltI z x) = true := by
  simp only [Bool.not_eq_true', ltI, decide_eq_false_iff_not] at *
  omega
theorem lt_of_le_ne {x y : I} (h : (!ltI y x) = true) (hn : x ≠ y) : ltI x y = true := by
  cases h1 : ltI x y with
  | true => rfl
  | false => exact absurd (ltI_conn h1 (by simpa using h)) hn
def Up (D : List I) : Prop := D.Pairwise fun x y => ltI x y = true
theorem Up.nodup {D : List I} (h : Up D) : D.Nodup := h.imp (fun {a b} h e => by rw [e, ltI_irrefl] at h; cases h)
theorem up_unique {D E : List I} (hD : Up D) (hE : Up E) (hm : ∀ x, x ∈ D ↔ x ∈ E) : D = E := by
  have hp : D.Perm E := (List.perm_ext_iff_of_nodup hD.nodup hE.nodup).2 hm
  exact List.Perm.eq_of_pairwise (le := fun x y => ltI x y = true) (fun a b _ _ h1 h2 => by have := ltI_trans h1 h2; rw [ltI_irrefl] at this; cases this) hD hE hp
theorem sortI_sorted (L : List I) : (sortI L).Pairwise fun x y => (!ltI y x) = true :=
  List.pairwise_mergeSort (le := fun x y => !ltI y x) (fun _ _ _ h1 h2 => le_trans' h1 h2) (fun a b => by
    cases h : ltI b a with
    | false => simp
    | true => cases h2 : ltI a b with
      | false => simp
      | true => have := ltI_trans h h2; rw [ltI_irrefl] at this; cases this) L
theorem sortI_mem (L : List I) (x : I) : x ∈ sortI L ↔ x ∈ L := List.mem_mergeSort
theorem cp_spec {L : List I} (hs : L.Pairwise fun x y => (!ltI y x) = true) : ∀ k, k ≤ L.length → Up (cp L k) ∧ (∀ x, x ∈ cp L k ↔ x ∈ L.take k)
  | 0, _ => ⟨List.Pairwise.nil, fun x => by simp [cp]⟩
  | k + 1, hk => by
    obtain ⟨h1, h2⟩ := cp_spec hs k (by omega)
    have hx : L[k]? = some L[k] := List.getElem?_eq_getElem (by omega)
    by_cases hd : 0 < k ∧ L[k - 1]? = some L[k]
    · rw [cp_drop hx hd.1 hd.2]
      refine ⟨h1, fun x => ?_⟩
      rw [h2 x, List.take_add_one, hx, List.mem_append]
      constructor
      · exact fun h => .inl h
      · rintro (h | h)
        · exact h
        · obtain rfl : x = L[k] := by simpa using h
          refine List.mem_of_getElem? (i := k - 1) ?_
          rw [List.getElem?_take_of_lt (by omega)]
          exact hd.2
    · have hn : k = 0 ∨ L[k - 1]? ≠ some L[k] := by
        rcases Nat.eq_zero_or_pos k with h | h
        · exact .inl h
        · exact .inr (fun e => hd ⟨h, e⟩)
      rw [cp_keep hx hn]
      have hlt : ∀ y ∈ L.take k, ltI y L[k] = true := by
        intro y hy
        obtain ⟨j, hj, e⟩ := List.getElem_of_mem hy
        have hjk : j < k := by simp at hj; omega
        have hjL : j < L.length := by omega
        have ey : y = L[j] := by rw [← e]; simp
        have hle : (!ltI L[k] y) = true := by rw [ey]; exact List.pairwise_iff_getElem.1 hs j k hjL (by omega) hjk
        refine lt_of_le_ne hle (fun he => ?_)
        rcases hn with hn | hn
        · omega
        · apply hn
          rw [List.getElem?_eq_getElem (by omega)]
          congr 1
          by_cases hj1 : j = k - 1
          · subst hj1
            rw [← ey]
            exact he
          · have a1 : (!ltI (L[k - 1]'(by omega)) L[j]) = true := List.pairwise_iff_getElem.1 hs j (k - 1) hjL (by omega) (by omega)
            have a2 : (!ltI L[k] (L[k - 1]'(by omega))) = true := List.pairwise_iff_getElem.1 hs (k - 1) k (by omega) (by omega) (by omega)
            rw [← ey, he] at a1
            exact ltI_conn (by simpa using a1) (by simpa using a2)
      refine ⟨?_, fun x => ?_⟩
      · rw [Up, List.pairwise_append]
        exact ⟨h1, List.pairwise_singleton _ _, fun a ha b hb => by
          obtain rfl : b = L[k] := by simpa using hb
          exact hlt a ((h2 a).1 ha)⟩
      · rw [List.mem_append, h2 x, List.take_add_one, hx, List.mem_append]
        rfl
theorem ids_up (l : List I) : Up (idsJ l) := (cp_spec (sortI_sorted _) _ (Nat.le_refl _)).1
theorem ids_mem (l : List I) (x : I) : x ∈ idsJ l ↔ x ∈ l ∧ mayI x = true := by
  unfold idsJ cpL
  rw [(cp_spec (sortI_sorted _) _ (Nat.le_refl _)).2 x, List.take_length, sortI_mem, List.mem_filter]
/-- A row of ids that may be, in order, is its own. -/
theorem ids_self {D : List I} (h : Up D) (hm : ∀ x ∈ D, mayI x = true) : idsJ D = D :=
  up_unique (ids_up D) h (fun x => by rw [ids_mem]; exact ⟨fun h => h.1, fun h => ⟨h, hm x h⟩⟩)
def okI (x : I) : Prop := 0 ≤ x.f0 ∧ x.f0 ≤ 255 ∧ 0 ≤ x.f1 ∧ x.f1 ≤ 18446744073709551615
theorem may_iff {x : I} (h : okI x) : mayI x = true ↔ x.f0 < 64 ∧ 1 ≤ x.f1 ∧ x.f1 ≤ 4611686018427387904 := by
  obtain ⟨h0, h1, h2, h3⟩ := h
  unfold mayI ident_May.f
  have e : wrap64 x.f0 = x.f0 := by unfold wrap64; omega
  have m : mn 64 64 = 64 := by decide
  rw [e, m]
  by_cases c1 : x.f0 < 64
  · by_cases c2 : x.f1 ≥ 1
    · simp [c1, c2]
    · simp [c1, c2]
  · simp [c1]
theorem less_eq {k : Nat} (hk : 5 ≤ k) (x y : I) : ident_Less.f k x.f0 x.f1 y.f0 y.f1 = some (ltI x y) := by
  have h := at_rounds (fun k => ident_order.mono x.f0 x.f1 y.f0 y.f1 k) hk (order_f x y)
  unfold ident_Less.f
  rw [h]
  simp only [Option.bind_some]
  have := lt_ord x y
  unfold ltOf at this
  rw [this]
theorem awake_eq : unisonlaw03_awake.f = some true := by
  have e : joinF [(⟨0, 2⟩ : I), (⟨0, 1⟩ : I), (⟨0, 5⟩ : I)] = [⟨0, 1, 2⟩, ⟨0, 5, 1⟩] := by
    have h : idsJ [(⟨0, 2⟩ : I), (⟨0, 1⟩ : I), (⟨0, 5⟩ : I)] = [⟨0, 1⟩, ⟨0, 2⟩, ⟨0, 5⟩] := by
      refine up_unique (ids_up _) (by unfold Up; decide) (fun x => ?_)
      rw [ids_mem]
      simp only [List.mem_cons, List.not_mem_nil, or_false]
      constructor
      · rintro ⟨rfl | rfl | rfl, _⟩ <;> simp
      · rintro (rfl | rfl | rfl)
        · exact ⟨by simp, (may_iff (by unfold okI; decide)).2 (by decide)⟩
        · exact ⟨by simp, (may_iff (by unfold okI; decide)).2 (by decide)⟩
        · exact ⟨by simp, (may_iff (by unfold okI; decide)).2 (by decide)⟩
    unfold joinF
    rw [h]
    rfl
  unfold unisonlaw03_awake.f ident_Join.f
  rw [if_pos (by simp), show Go.Proofs.Ytgcnaebhmcggoaa.Walk.joinF _ = _ from e]
  rfl

end Go.Proofs.Ytgcnaebhmcggoaa.Walk
