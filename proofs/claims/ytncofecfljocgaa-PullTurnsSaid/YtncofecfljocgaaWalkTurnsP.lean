/- Each helper in turn, in plain Lean. Conditions: none beyond the statement's own. -/
import Derived.Test.YtncofecfljocgaaWalkAsksP
import Derived.Test.YtncofecfljocgaaArgs
import Derived.Deep.QuietTactic
import Derived.BigQuiet
import Derived.Lib.QuietBelow
import Derived.Outline
import Derived.Deep.RegionHeld3
import Derived.Deep.CutRange
namespace Go.Proofs.Ytncofecfljocgaa.Walk
open Go.RowKit Go.Proofs.Ytncofecfljocgaa.F Go.Proofs.YtncofecfljocgaaW.PrintWords Go.Proofs.YtncofecfljocgaaW.PrintLast Go.Proofs.YtncofecfljocgaaW.PrintMore Go.Proofs.Ytncofecfljocgaa.Open
open Go.Sort (grow)
attribute [local go_sem] max2_int min2_int max_two min_two max_three min_three max_four min_four
set_option linter.unusedVariables false
set_option linter.unusedSimpArgs false

/-! ### Each helper in turn, in plain Lean -/
def pos (n me q : Int) : Int := if q ≥ me then q - me else q - me + n
theorem js_eq (n me : Int) : ∀ (d : Nat) (i : Int), js n me [] d i = (List.range d).map fun k : Nat => i + (k : Int)
  | 0, i => rfl
  | d + 1, i => by
    unfold js
    rw [if_neg (by simp), js_eq n me d (i + 1), List.range_succ_eq_map, List.map_cons, List.map_map]
    congr 1
    · simp
    · apply List.map_congr_left
      intro k _
      simp only [Function.comp]
      push_cast
      omega
theorem wayL_eq {n l : Int} (h : inR n l) : wayL n l = (List.range n.toNat).map fun k : Nat => md n (l + (1 + (k : Int))) := by
  obtain ⟨n1, n2, l1, l2⟩ := h
  unfold wayL way
  rw [js_eq, List.map_map]
  have e : n.toNat = (n - 1).toNat + 1 := by omega
  rw [e, List.range_succ, List.map_append]
  congr 1
  simp only [List.map_cons, List.map_nil, List.cons.injEq, and_true]
  unfold md
  rw [if_neg (by omega)]
  omega
/-- The next helper behind l. -/
theorem nx_spec {n me l : Int} {P : Int → Bool} (h : inR n l) (hm : 0 ≤ me ∧ me < n) (hP : ∀ q, P q = true → 0 ≤ q ∧ q < n) (hex : ∃ q, P q = true) :
    ∃ y, (wayL n l).find? P = some y ∧ P y = true ∧ (∀ q, P q = true → pos n me l < pos n me q → pos n me l < pos n me y ∧ pos n me y ≤ pos n me q) ∧ ((∀ q, P q = true → pos n me q ≤ pos n me l) → ∀ q, P q = true → pos n me y ≤ pos n me q) := by
  obtain ⟨q0, hq0⟩ := hex
  have hin := way_mem h (hP q0 hq0).1 (hP q0 hq0).2
  cases hf : (wayL n l).find? P with
  | none =>
    rw [List.find?_eq_none] at hf
    exact absurd hq0 (hf q0 hin)
  | some y =>
    rw [wayL_eq h, List.find?_eq_some_iff_getElem] at hf
    obtain ⟨hy, i, hi, hyi, hbef⟩ := hf
    simp only [List.length_map, List.length_range] at hi
    simp only [List.getElem_map, List.getElem_range] at hyi hbef
    have hno : ∀ j : Int, 1 ≤ j → j < 1 + (i : Int) → ¬ P (md n (l + j)) = true := by
      intro j h1 h2
      have := hbef (j - 1).toNat (by omega)
      rw [show (1 : Int) + (((j - 1).toNat : Nat) : Int) = j by omega] at this
      simpa using this
    obtain ⟨n1, n2, l1, l2⟩ := h
    have hyb := hP y hy
    refine ⟨y, rfl, hy, fun q hq hlt => ?_, fun hall q hq => ?_⟩
    · have hqb := hP q hq
      -- q is met at step pos q - pos l
      have hj := hno (pos n me q - pos n me l) (by omega)
      have hmq : md n (l + (pos n me q - pos n me l)) = q := by
        unfold md pos at *
        split at * <;> split at * <;> split at * <;> omega
      rw [hmq] at hj
      have hle : 1 + (i : Int) ≤ pos n me q - pos n me l := by
        apply Int.not_lt.1
        intro hc
        exact hj hc hq
      have hpy : pos n me y = pos n me l + (1 + (i : Int)) := by
        rw [← hyi]
        unfold md pos at *
        split at * <;> split at * <;> split at * <;> omega
      omega
    · have hqb := hP q hq
      have hql := hall q hq
      have hyl := hall y hy
      by_cases hw : pos n me l + (1 + (i : Int)) < n
      · have hpy : pos n me y = pos n me l + (1 + (i : Int)) := by
          rw [← hyi]
          unfold md pos at *
          split at * <;> split at * <;> split at * <;> omega
        omega
      · have hpy : pos n me y = pos n me l + (1 + (i : Int)) - n := by
          rw [← hyi]
          unfold md pos at *
          split at * <;> split at * <;> split at * <;> omega
        have hmq : md n (l + (pos n me q - pos n me l + n)) = q := by
          unfold md pos at *
          split at * <;> split at * <;> split at * <;> omega
        have hp0 : 0 ≤ pos n me q := by unfold pos; split <;> omega
        have hpl : pos n me l < n := by unfold pos; split <;> omega
        have hj := hno (pos n me q - pos n me l + n) (by omega)
        rw [hmq] at hj
        have hle : 1 + (i : Int) ≤ pos n me q - pos n me l + n := by
          apply Int.not_lt.1
          intro hc
          exact hj hc hq
        omega
theorem pos_inj {n me a b : Int} (ha : 0 ≤ a ∧ a < n) (hb : 0 ≤ b ∧ b < n) (h : pos n me a = pos n me b) : a = b := by
  unfold pos at h
  split at h <;> split at h <;> omega
def cnt (n me : Int) (HL : List Int) (b : Int) : Nat := HL.countP fun q => decide (pos n me q ≤ b)
theorem countP_two {l : List Int} {p q r : Int → Bool} (h : ∀ x ∈ l, (r x = true ↔ p x = true ∨ q x = true) ∧ ¬ (p x = true ∧ q x = true)) : l.countP r = l.countP p + l.countP q := by
  induction l with
  | nil => rfl
  | cons a l ih =>
    have h1 := h a List.mem_cons_self
    have h2 := ih (fun x hx => h x (List.mem_cons_of_mem _ hx))
    rw [List.countP_cons, List.countP_cons, List.countP_cons, h2]
    cases hp : p a <;> cases hq : q a <;> cases hr : r a <;> simp [hp, hq, hr] at h1 ⊢ <;> omega
structure PT (n me : Int) (HL : List Int) (i : Nat) (last : Int) (met : List Int) : Prop where
  len : met.length = 20
  ex : 0 < HL.length → ∃ (r k : Nat) (b : Int), i = r * HL.length + k ∧ k < HL.length ∧ (∀ h ∈ HL, met.getD h.toNat 0 = (r : Int) + (if pos n me h ≤ b then 1 else 0)) ∧ cnt n me HL b = k ∧ (b = pos n me last ∨ (b = 0 ∧ cnt n me HL (pos n me last) = HL.length))
structure HLok (n me : Int) (HL : List Int) : Prop where
  rng : 2 ≤ n ∧ n ≤ 20
  mer : 0 ≤ me ∧ me < n
  mem : ∀ q ∈ HL, 0 ≤ q ∧ q < n ∧ q ≠ me
  nd : HL.Nodup
theorem PT.start {n me : Int} {HL : List Int} (h : HLok n me HL) : PT n me HL 0 me (List.replicate 20 0) := by
  refine ⟨by simp, fun hp => ⟨0, 0, 0, by simp, hp, fun q hq => ?_, ?_, .inl (by unfold pos; rw [if_pos (Int.le_refl _)]; omega)⟩⟩
  · have hm := h.mem q hq
    have hn := h.rng
    have hme := h.mer
    have h0 : ¬ pos n me q ≤ 0 := by unfold pos; split <;> omega
    rw [if_neg h0, List.getD_eq_getElem?_getD, List.getElem?_replicate]
    split <;> rfl
  · unfold cnt
    rw [List.countP_eq_zero]
    intro q hq
    have hm := h.mem q hq
    have hn := h.rng
    have hme := h.mer
    have h0 : ¬ pos n me q ≤ 0 := by unfold pos; split <;> omega
    simpa using h0
theorem PT.next {n me : Int} {HL : List Int} {i : Nat} {last y : Int} {met : List Int} (ok : HLok n me HL) (h : PT n me HL i last met) (hl : 0 ≤ last ∧ last < n) (hp : 0 < HL.length) (hy : (wayL n last).find? (fun q => decide (q ∈ HL)) = some y) :
    y ∈ HL ∧ met.getD y.toNat 0 = ((i / HL.length : Nat) : Int) ∧ PT n me HL (i + 1) y (met.set y.toNat (met.getD y.toNat 0 + 1)) := by
  obtain ⟨r, k, b, hi, hk, hmet, hcnt, hb⟩ := h.ex hp
  have hn := ok.rng
  obtain ⟨q0, hq0⟩ := List.exists_mem_of_length_pos hp
  obtain ⟨y', hy', hyP, hA, hB⟩ := nx_spec (n := n) (me := me) (l := last) (P := fun q => decide (q ∈ HL)) ⟨by omega, by omega, hl.1, hl.2⟩ ok.mer (fun q hq => ⟨(ok.mem q (of_decide_eq_true hq)).1, (ok.mem q (of_decide_eq_true hq)).2.1⟩) ⟨q0, decide_eq_true hq0⟩
  rw [hy] at hy'
  cases hy'
  have hym : y ∈ HL := of_decide_eq_true hyP
  have hyb := ok.mem y hym
  have hme := ok.mer
  have hpy : 0 < pos n me y := by unfold pos; split <;> omega
  -- what lies above b lies at y or behind it
  have key : b < pos n me y ∧ ∀ q ∈ HL, b < pos n me q → pos n me y ≤ pos n me q := by
    rcases hb with hb | ⟨hb, hall⟩
    · have hex : ∃ q ∈ HL, b < pos n me q := by
        apply Classical.byContradiction
        intro hc
        have : cnt n me HL b = HL.length := by
          unfold cnt
          rw [List.countP_eq_length]
          intro q hq
          exact decide_eq_true (Int.not_lt.1 fun hh => hc ⟨q, hq, hh⟩)
        omega
      obtain ⟨q, hq, hqb⟩ := hex
      have h1 := hA q (decide_eq_true hq) (by rw [← hb]; exact hqb)
      exact ⟨by rw [hb]; exact h1.1, fun z hz hzb => (hA z (decide_eq_true hz) (by rw [← hb]; exact hzb)).2⟩
    · unfold cnt at hall
      rw [List.countP_eq_length] at hall
      exact ⟨by omega, fun q hq _ => hB (fun z hz => of_decide_eq_true (hall z (of_decide_eq_true hz))) q (decide_eq_true hq)⟩
  have hmy : met.getD y.toNat 0 = (r : Int) := by
    rw [hmet y hym, if_neg (by omega)]
    omega
  have hdiv : i / HL.length = r := by
    rw [hi, Nat.mul_comm, Nat.mul_add_div hp, Nat.div_eq_of_lt hk]
    omega
  have hc2 : cnt n me HL (pos n me y) = k + 1 := by
    have h1 := countP_two (l := HL) (p := fun q => decide (pos n me q ≤ b)) (q := fun q => decide (q = y)) (r := fun q => decide (pos n me q ≤ pos n me y)) (fun q hq => by
      simp only [decide_eq_true_eq]
      refine ⟨⟨fun hle => ?_, fun hh => ?_⟩, fun hh => ?_⟩
      · by_cases hqb : pos n me q ≤ b
        · exact .inl hqb
        · have h2 := key.2 q hq (by omega)
          exact .inr (pos_inj (n := n) (me := me) ⟨(ok.mem q hq).1, (ok.mem q hq).2.1⟩ ⟨hyb.1, hyb.2.1⟩ (by omega))
      · rcases hh with hh | hh
        · omega
        · rw [hh]; exact Int.le_refl _
      · rw [hh.2] at hh; omega)
    have h2 : HL.countP (fun q => decide (q = y)) = 1 := by
      have h3 : HL.count y = 1 := by rw [ok.nd.count]; rw [if_pos hym]
      rw [← h3]
      unfold List.count
      apply List.countP_congr
      intro z _
      simp
    unfold cnt at hcnt ⊢
    omega
  have hset : ∀ q ∈ HL, (met.set y.toNat (met.getD y.toNat 0 + 1)).getD q.toNat 0 = (r : Int) + (if pos n me q ≤ pos n me y then 1 else 0) := by
    intro q hq
    have hqb := ok.mem q hq
    have hlen := h.len
    rw [List.getD_eq_getElem?_getD]
    by_cases e : q = y
    · subst e
      rw [List.getElem?_set_self (by omega), if_pos (Int.le_refl _), hmy]
      rfl
    · rw [List.getElem?_set_ne (by omega), ← List.getD_eq_getElem?_getD, hmet q hq]
      by_cases hqb2 : pos n me q ≤ b
      · rw [if_pos hqb2, if_pos (by omega)]
      · have h2 := key.2 q hq (by omega)
        rw [if_neg hqb2, if_neg (fun h3 => e (pos_inj (n := n) (me := me) ⟨hqb.1, hqb.2.1⟩ ⟨hyb.1, hyb.2.1⟩ (by omega)))]
  refine ⟨hym, by rw [hmy, hdiv], ⟨by rw [List.length_set]; exact h.len, fun _ => ?_⟩⟩
  by_cases hkk : k + 1 < HL.length
  · exact ⟨r, k + 1, pos n me y, by omega, hkk, hset, hc2, .inl rfl⟩
  · have hk1 : k + 1 = HL.length := by omega
    have hall := hc2
    rw [hk1] at hall
    have hall2 := hall
    unfold cnt at hall2
    rw [List.countP_eq_length] at hall2
    refine ⟨r + 1, 0, 0, by rw [hi, Nat.add_mul]; omega, hp, fun q hq => ?_, ?_, .inr ⟨rfl, hall⟩⟩
    · have hqb := ok.mem q hq
      have h0 : ¬ pos n me q ≤ 0 := by unfold pos; split <;> omega
      rw [hset q hq, if_pos (of_decide_eq_true (hall2 q hq)), if_neg h0]
      push_cast
      omega
    · unfold cnt
      rw [List.countP_eq_zero]
      intro q hq
      have hqb := ok.mem q hq
      have h0 : ¬ pos n me q ≤ 0 := by unfold pos; split <;> omega
      simpa using h0

end Go.Proofs.Ytncofecfljocgaa.Walk
