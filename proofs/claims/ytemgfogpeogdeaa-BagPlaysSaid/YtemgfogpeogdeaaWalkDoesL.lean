/- The bag beside the document's one. Conditions: none beyond the statement's own. -/
import Derived.Test.YtemgfogpeogdeaaWalkRefTwice
import Derived.Test.YtemgfogpeogdeaaWalkRefTurn
import Derived.Test.YtemgfogpeogdeaaF3
import Derived.Test.YtemgfogpeogdeaaArgs
import Derived.Deep.QuietTactic
import Derived.BigQuiet
import Derived.Lib.QuietBelow
import Derived.Outline
import Derived.Deep.RegionHeld3
import Derived.Deep.CutRange
namespace Go.Proofs.Ytemgfogpeogdeaa.Walk
open Go.RowKit Go.Proofs.Ytemgfogpeogdeaa.F Go.Proofs.YtemgfogpeogdeaaW.PrintWords Go.Proofs.YtemgfogpeogdeaaW.PrintLast Go.Proofs.YtemgfogpeogdeaaW.PrintMore Go.Proofs.Ytemgfogpeogdeaa.Open
open Go.Sort (grow)
attribute [local go_sem] max2_int min2_int max_two min_two max_three min_three max_four min_four
set_option linter.unusedVariables false
set_option linter.unusedSimpArgs false

/-! ### The bag beside the document's one -/
/-- Both, of the same things; neither lies in F. -/
structure DS (F : Nat → Prop) (w0 w : World) (g n : Nat) (L : List Th) (lost : Int) (v : Value) : Prop where
  ex : ∃ SB ok : Nat → Prop, Bag w SB g n L lost ∧ Kd.R kR eR w 0 ok v (L.map rt) ∧ (∀ k, SB k → w0.heap.size ≤ k ∧ k < w.heap.size ∧ ¬ F k) ∧ (∀ k, ok k → w0.heap.size ≤ k ∧ k < w.heap.size ∧ ¬ F k ∧ ¬ SB k)
  u8 : ∀ y ∈ L, u8s y.f0 ∧ y.f0.length ≤ 1000000
theorem DS_end {F SB ok SB6 E : Nat → Prop} {w0 w w5 w6 wF : World} {g n t : Nat} {L' : List Th} {lost' : Int} {v' : Value} (h00 : Below w0.heap.size w0 w) (hSB : ∀ k, SB k → w0.heap.size ≤ k ∧ k < w.heap.size ∧ ¬ F k) (hok : ∀ k, ok k → w0.heap.size ≤ k ∧ k < w.heap.size ∧ ¬ F k ∧ ¬ SB k) (hF : ∀ k, F k → k < w.heap.size)
    (h45 : Beside ok w w5) (ht0 : w.heap.size ≤ t) (hR5 : Kd.R kR eR w5 0 (fun k => ok k ∨ t ≤ k) v' (L'.map rt)) (hB6 : Bag w6 SB6 g n L' lost') (hSB6 : ∀ k, SB6 k → SB k ∨ w5.heap.size ≤ k) (h56 : Beside SB w5 w6)
    (hE : Beside E w6 wF) (hE1 : ∀ k, E k → w.heap.size ≤ k ∧ ¬ SB6 k ∧ (k < t ∨ w5.heap.size ≤ k)) (h8 : ∀ y ∈ L', u8s y.f0 ∧ y.f0.length ≤ 1000000) :
    DS F w0 wF g n L' lost' v' ∧ Below w0.heap.size w0 wF ∧ ∀ k, F k → wF.heap[k]? = w.heap[k]? := by
  have z5 := h45.size
  have z6 := h56.size
  have zF := hE.size
  have z0 := h00.size
  refine ⟨⟨⟨fun k => SB6 k ∧ k < w6.heap.size, fun k => (ok k ∨ t ≤ k) ∧ k < w5.heap.size, (hB6.bound).beside hE (fun k hk he => (hE1 k he).2.1 hk.1), ?_, fun k hk => ?_, fun k hk => ?_⟩, h8⟩, ?_, fun k hk => ?_⟩
  · refine Kd.R_step (Kd.R_step (Kd.R_mono (Kd.R_bound hR5) (fun k hk => ⟨hk.1, hk.2.2.1⟩)) (w1 := w6) (fun k hk hlt => h56.block k hlt (fun hs => ?_))) (fun k hk hlt => hE.block k hlt (fun he => ?_))
    · have := hSB k hs
      rcases hk.1 with h | h
      · exact (hok k h).2.2.2 hs
      · omega
    · have h1 := hE1 k he
      rcases hk.1 with h | h
      · have := (hok k h).2.1
        omega
      · omega
  · rcases hSB6 k hk.1 with h | h
    · have := hSB k h
      exact ⟨this.1, by omega, this.2.2⟩
    · exact ⟨by omega, by omega, fun hf => by have := hF k hf; omega⟩
  · rcases hk.1 with h | h
    · have := hok k h
      refine ⟨this.1, by omega, this.2.2.1, fun hs => ?_⟩
      rcases hSB6 k hs.1 with h2 | h2
      · exact this.2.2.2 h2
      · omega
    · refine ⟨by omega, by omega, fun hf => by have := hF k hf; omega, fun hs => ?_⟩
      rcases hSB6 k hs.1 with h2 | h2
      · have := hSB k h2
        omega
      · omega
  · have b1 := Beside.step h00 h45 (fun k hk => (hok k hk).1)
    have b2 := Beside.step b1 h56 (fun k hk => (hSB k hk).1)
    exact Beside.step b2 hE (fun k hk => by have := hE1 k hk; omega)
  · have h1 := hF k hk
    rw [hE.block k (by omega) (fun he => by have := hE1 k he; omega), h56.block k (by omega) (fun hs => (hSB k hs).2.2 hk), h45.block k h1 (fun ho => (hok k ho).2.2.1 hk)]
theorem u8_twice {n : Nat} {L : List Th} (i : Int) (h : ∀ y ∈ L, u8s y.f0 ∧ y.f0.length ≤ 1000000) : ∀ y ∈ twice n L i, u8s y.f0 ∧ y.f0.length ≤ 1000000 := by
  unfold twice
  split
  · intro x hx
    rename_i hc
    rcases List.mem_append.1 hx with h1 | h1
    · exact h x h1
    · rw [List.mem_singleton.1 h1]
      refine h _ ?_
      rw [List.getD_eq_getElem?_getD, List.getElem?_eq_getElem (by omega)]
      exact List.getElem_mem _
  · exact h
theorem u8_rest {L : List Th} (i : Int) (h : ∀ y ∈ L, u8s y.f0 ∧ y.f0.length ≤ 1000000) : ∀ y ∈ rest L i, u8s y.f0 ∧ y.f0.length ≤ 1000000 := by
  unfold rest
  split
  · exact fun x hx => h x (mem_erase hx)
  · exact h
theorem u8_put {n : Nat} {L : List Th} {x : List Int} (h : ∀ y ∈ L, u8s y.f0 ∧ y.f0.length ≤ 1000000) (hx : u8s x ∧ x.length ≤ 1000000) : ∀ y ∈ putL n L x, u8s y.f0 ∧ y.f0.length ≤ 1000000 := by
  unfold putL
  split
  · intro y hy
    rcases List.mem_append.1 hy with h1 | h1
    · exact h y h1
    · rw [List.mem_singleton.1 h1]; exact hx
  · exact h
theorem u8_turn {L : List Th} (i a bits : Int) (h : ∀ y ∈ L, u8s y.f0 ∧ y.f0.length ≤ 1000000) : ∀ y ∈ turn L i a bits, u8s y.f0 ∧ y.f0.length ≤ 1000000 := by
  unfold turn
  split
  · intro y hy
    rename_i hm
    have hi := (of_decide_eq_true hm).1
    have h0 := h (L.getD i.toNat zT) (by rw [List.getD_eq_getElem?_getD, List.getElem?_eq_getElem (by omega)]; exact List.getElem_mem _)
    rcases List.mem_or_eq_of_mem_set hy with h1 | h1
    · exact h y h1
    · rw [h1]
      exact ⟨turnN_u8s h0.1 _ _ 32, by show (turnN _ _ _ 32).length ≤ 1000000; rw [turnN_length]; exact h0.2⟩
  · exact h
theorem R_raise {w : World} {ok : Nat → Prop} {v : Value} {xs : List S48} {base : Nat} (h : Kd.R kR eR w 0 ok v xs) (hb : ∀ k, ok k → base ≤ k) : Kd.R kR eR w base ok v xs := by
  obtain ⟨hok, inner, ho, hr⟩ := h
  refine ⟨hok, inner, ⟨ho.1, ?_⟩, hr.1, fun j p hj => ?_⟩
  · rcases ho.2 with h1 | ⟨g, cap, cur, rfl, _, h3⟩
    · exact Or.inl h1
    · exact Or.inr ⟨g, cap, cur, rfl, hb g (hok g (by simp [Value.ownBlock])), h3⟩
  · rw [k48_openM (hr.2 j p hj)]
    exact k48_mkM w base _ p
theorem map_erase {L : List Th} (i : Nat) : (L.eraseIdx i).map rt = (L.map rt).take i ++ (L.map rt).drop (i + 1) := by
  rw [List.eraseIdx_eq_take_drop_succ, List.map_append, List.map_take, List.map_drop]
theorem refTake_f (n lost : Int) (L : List Th) (i : Int) (goes : Bool) (hL : L.length ≤ 4096) : unisonref07_G_Take.f 1 n (L.map rt) lost i goes = some (n, (if goes = true then rest L i else L).map rt, lost, strOfNums (lk L i), has L i) := by
  unfold unisonref07_G_Take.f
  have hl : (L.map rt).length = L.length := List.length_map _
  by_cases h0 : i < 0
  · have e1 : rest L i = L := if_neg (by omega)
    have e2 : lk L i = [] := if_neg (by omega)
    have e3 : has L i = false := decide_eq_false (by omega)
    rw [if_pos h0, e1, e2, e3, show (if goes = true then L else L) = L by split <;> rfl]
    rfl
  · rw [if_neg h0]
    by_cases h1 : i < L.length
    · have hi : 0 ≤ i ∧ i < L.length := ⟨by omega, h1⟩
      have e1 : rest L i = L.eraseIdx i.toNat := if_pos hi
      have e2 : lk L i = (L.getD i.toNat zT).f0 := if_pos hi
      have e3 : has L i = true := decide_eq_true hi
      have e4 : decide (i ≥ ((L.map rt).length : Int)) = false := decide_eq_false (by rw [hl]; omega)
      have HW : Aside0 (wrap64 (i + 1) = i + 1) := ⟨w64 (by omega) (by omega)⟩
      have hrd : (rd_T48 (L.map rt) i).f0 = strOfNums (L.getD i.toNat zT).f0 := by
        unfold rd_T48
        rw [List.getD_eq_getElem?_getD, List.getElem?_map, List.getD_eq_getElem?_getD, List.getElem?_eq_getElem (by omega)]
        rfl
      rw [e1, e2, e3, e4]
      show unisonref07_G_Take.j0 (0 + 1) i goes false n (L.map rt) lost = _
      rw [unisonref07_G_Take.j0]
      rw [if_neg Bool.false_ne_true, if_pos hi.1, if_pos (by rw [hl]; exact h1), hrd]
      cases goes with
      | true =>
        rw [if_pos rfl, if_pos rfl, map_erase]
        have ht : ((i + 1).toNat) = i.toNat + 1 := by omega
        simp only [Option.bind_some, List.nil_append, HW.out, ht]
        rw [if_pos (by rw [hl]; omega), if_pos (by simp; omega), if_pos (by omega), if_pos (by rw [hl]; omega), if_pos (by simp; omega)]
      | false => rfl
    · have hi : ¬ (0 ≤ i ∧ i < L.length) := by omega
      have e1 : rest L i = L := if_neg hi
      have e2 : lk L i = [] := if_neg hi
      have e3 : has L i = false := decide_eq_false hi
      have e4 : decide (i ≥ ((L.map rt).length : Int)) = true := decide_eq_true (by rw [hl]; omega)
      rw [e1, e2, e3, e4, show (if goes = true then L else L) = L by split <;> rfl]
      rfl

end Go.Proofs.Ytemgfogpeogdeaa.Walk
