/- Who is gone, in plain Lean. Conditions: none beyond the statement's own. -/
import Derived.Test.YtahdbiddpphepaaWalkR
import Derived.Test.YtahdbiddpphepaaArgs
import Derived.Deep.QuietTactic
import Derived.BigQuiet
import Derived.Lib.QuietBelow
import Derived.Outline
import Derived.Deep.RegionHeld3
import Derived.Deep.CutRange
namespace Go.Proofs.Ytahdbiddpphepaa.Walk
open Go.RowKit Go.Proofs.Ytahdbiddpphepaa.F Go.Proofs.YtahdbiddpphepaaW.PrintWords Go.Proofs.YtahdbiddpphepaaW.PrintLast Go.Proofs.YtahdbiddpphepaaW.PrintMore Go.Proofs.Ytahdbiddpphepaa.Open
open Go.Sort (grow)
attribute [local go_sem] max2_int min2_int max_two min_two max_three min_three max_four min_four
set_option linter.unusedVariables false
set_option linter.unusedSimpArgs false

/-! ### who is gone, in plain Lean -/
def goneAt (L : List X) (p : Nat) : Bool := match L[p]? with | some x => x.f3 | none => false
def gl (L : List X) : List Bool := (List.range 20).map (goneAt L)
theorem gl_len (L : List X) : (gl L).length = 20 := by simp [gl]
theorem gl_get (L : List X) {p : Nat} (hp : p < 20) : (gl L)[p]? = some (goneAt L p) := by
  unfold gl
  rw [List.getElem?_map, List.getElem?_range hp]
  rfl
theorem gl_new (n : Nat) : gl (newL n) = List.replicate 20 false := by
  apply List.ext_getElem?
  intro p
  by_cases hp : p < 20
  · rw [gl_get _ hp, List.getElem?_replicate, if_pos hp]
    unfold goneAt newL
    rw [List.getElem?_replicate]
    split
    · rename_i x hx
      split at hx
      · cases hx
        rfl
      · cases hx
    · rfl
  · rw [List.getElem?_eq_none (by rw [gl_len]; omega), List.getElem?_eq_none (by simp; omega)]
theorem goneAt_set {L : List X} {q : Nat} {x y : X} (hx : L[q]? = some x) (p : Nat) : goneAt (L.set q y) p = if q = p then y.f3 else goneAt L p := by
  have hq : q < L.length := (List.getElem?_eq_some_iff.1 hx).1
  unfold goneAt
  rw [List.getElem?_set]
  by_cases e : q = p
  · subst e
    rw [if_pos rfl, if_pos hq, if_pos rfl]
  · rw [if_neg e, if_neg e]
theorem gl_tell (L : List X) (p i : Int) (d h : List Int) : gl (tellL L p i d h) = gl L := by
  unfold tellL
  cases hx : at_ L p with
  | none => rfl
  | some x =>
    obtain ⟨q, rfl, _, hq⟩ := at_some hx
    dsimp only
    unfold gl
    apply List.map_congr_left
    intro k _
    rw [Int.toNat_natCast, goneAt_set hq]
    by_cases e : q = k
    · subst e
      rw [if_pos rfl]
      unfold goneAt
      rw [hq]
      rfl
    · rw [if_neg e]
theorem gone_zero {L : List X} {p : Int} (h : goneK L p ≠ 1) : goneL L p = L ∧ goneK L p = 0 := by
  unfold goneK goneL at *
  cases hx : at_ L p with
  | none => exact ⟨rfl, rfl⟩
  | some x =>
    rw [hx] at h
    dsimp only at h ⊢
    by_cases hg : x.f3 = true
    · rw [if_pos hg, if_pos hg]
      exact ⟨rfl, rfl⟩
    · rw [if_neg hg] at h
      exact absurd rfl h
theorem gone_one {L : List X} {p : Int} (h : goneK L p = 1) (hL : L.length ≤ 20) : ∃ q : Nat, p = q ∧ q < 20 ∧ gl (goneL L p) = (gl L).set q true := by
  unfold goneK at h
  unfold goneL
  cases hx : at_ L p with
  | none => rw [hx] at h; cases h
  | some x =>
    rw [hx] at h
    obtain ⟨q, rfl, hq, hL'⟩ := at_some hx
    dsimp only at h ⊢
    have hg : ¬ x.f3 = true := fun e => by rw [if_pos e] at h; cases h
    rw [if_neg hg]
    refine ⟨q, rfl, by omega, ?_⟩
    rw [Int.toNat_natCast]
    apply List.ext_getElem?
    intro k
    by_cases hk : k < 20
    · rw [gl_get _ hk, goneAt_set hL', List.getElem?_set, gl_len, gl_get _ hk]
      by_cases e : q = k
      · subst e
        rw [if_pos rfl, if_pos rfl, if_pos hk]
        rfl
      · rw [if_neg e, if_neg e]
    · rw [List.getElem?_eq_none (by rw [gl_len]; omega), List.getElem?_eq_none (by rw [List.length_set, gl_len]; omega)]
theorem at_nat {L : List X} {p : Nat} (hp : p < L.length) : at_ L (p : Int) = some L[p] := by
  unfold at_
  rw [if_pos (by omega), Int.toNat_natCast, List.getElem?_eq_getElem hp]
theorem stays_left {L : List X} {p : Nat} (hp : p < L.length) (hg : goneAt L p = false) : L[p] ∈ left L := by
  unfold goneAt at hg
  rw [List.getElem?_eq_getElem hp] at hg
  exact List.mem_filter.2 ⟨List.getElem_mem hp, by rw [show L[p].f3 = false from hg]; rfl⟩
theorem stays_done {L : List X} {p : Nat} (hp : p < L.length) (hg : goneAt L p = false) : covv (doneOf L p) (stable L) := by
  have hm := stays_left hp hg
  unfold doneOf stable
  rw [at_nat hp, if_neg (by have := List.length_pos_of_mem hm; omega)]
  exact cov_least (List.mem_map.2 ⟨_, hm, rfl⟩)
theorem stays_inst {L : List X} {p : Nat} (hp : p < L.length) (hg : goneAt L p = false) : least L ≤ instOf L p := by
  unfold instOf
  rw [at_nat hp]
  exact leastL_le (stays_left hp hg)
/-! who holds a message -/
theorem holdN_mem {a0 a1 : Int} : ∀ {l : List X} {p : Nat} {y : Int}, y ∈ holdN a0 a1 p l → ∃ (q : Nat) (x : X), y = ((p + q : Nat) : Int) ∧ l[q]? = some x ∧ holdX a0 a1 x = true
  | [], p, y, h => by simp [holdN] at h
  | x :: l, p, y, h => by
    rw [holdN] at h
    rcases List.mem_append.1 h with h | h
    · by_cases hx : holdX a0 a1 x = true
      · rw [if_pos hx] at h
        exact ⟨0, x, by rw [List.mem_singleton.1 h]; rfl, rfl, hx⟩
      · rw [if_neg hx] at h
        cases h
    · obtain ⟨q, x', rfl, hq, hx⟩ := holdN_mem h
      exact ⟨q + 1, x', by congr 1; omega, by simpa using hq, hx⟩
theorem holdN_sorted {a0 a1 : Int} : ∀ (l : List X) (p : Nat), (holdN a0 a1 p l).Pairwise (· < ·)
  | [], p => by simp [holdN]
  | x :: l, p => by
    rw [holdN]
    refine List.pairwise_append.2 ⟨by split <;> simp, holdN_sorted l (p + 1), fun a ha b hb => ?_⟩
    obtain ⟨q, x', rfl, _, _⟩ := holdN_mem hb
    split at ha
    · rw [List.mem_singleton.1 ha]
      omega
    · cases ha
structure hok (L : List X) (a0 a1 : Int) (y : Int) : Prop where
  ex : ∃ q : Nat, y = q ∧ q < L.length ∧ goneAt L q = false ∧ a1 ≤ rd (heldOf L q) a0
theorem holders_ok {L : List X} {a0 a1 : Int} (h0 : 0 ≤ a0) {y : Int} (h : y ∈ holders L a0 a1) : hok L a0 a1 y := by
  unfold holders at h
  split at h
  · obtain ⟨q, x, rfl, hq, hx⟩ := holdN_mem h
    have hlt := (List.getElem?_eq_some_iff.1 hq).1
    unfold holdX at hx
    rw [Bool.and_eq_true, decide_eq_true_eq] at hx
    refine ⟨q, by rw [Nat.zero_add], hlt, ?_, ?_⟩
    · unfold goneAt
      rw [hq]
      simpa using hx.1
    · unfold heldOf
      rw [at_nat hlt, (List.getElem?_eq_some_iff.1 hq).2]
      exact hx.2
  · cases h
theorem holders_sorted (L : List X) (a0 a1 : Int) : (holders L a0 a1).Pairwise (· < ·) := by
  unfold holders
  split
  · exact holdN_sorted _ _
  · exact .nil
theorem holders_len {L : List X} (h : mok L) (a0 a1 : Int) : (holders L a0 a1).length ≤ 64 := by
  unfold holders
  split
  · exact Nat.le_trans (holdN_len _ _ _ _) h.n2
  · simp
theorem holders_next {L : List X} {a0 a1 : Int} {i : Nat} {y z : Int} (hy : (holders L a0 a1)[i]? = some y) (hz : (holders L a0 a1)[i + 1]? = some z) : y < z := by
  obtain ⟨h1, rfl⟩ := List.getElem?_eq_some_iff.1 hy
  obtain ⟨h2, rfl⟩ := List.getElem?_eq_some_iff.1 hz
  exact List.pairwise_iff_getElem.1 (holders_sorted L a0 a1) i (i + 1) h1 h2 (by omega)
theorem at_int_nat {w : World} {kk : IntKind} {A : Option Addr} {n : Nat} {l : List Int} (h : Kd.C (Kd.int kk) w A n l) {i : Nat} {y : Int} (hy : l[i]? = some y) : ∃ ad, A = some ad ∧ w.cell? (ad.add i) = some (.int kk y) := by
  have hi := (List.getElem?_eq_some_iff.1 hy).1
  obtain ⟨ad, e, hc⟩ := Kd.at_int h (i : Int) (by omega) (by have := h.1; omega)
  refine ⟨ad, e, ?_⟩
  rwa [Int.toNat_natCast, show rd l (i : Int) = y by simp [rd, List.getD, hy]] at hc

end Go.Proofs.Ytahdbiddpphepaa.Walk
