/- What the law keeps. Conditions: none beyond the statement's own. -/
import Derived.Test.YtemgfogpeogdeaaWalkNearP
import Derived.Test.YtemgfogpeogdeaaWalkPut1
import Derived.Test.YtemgfogpeogdeaaArgs
import Derived.Deep.QuietTactic
import Derived.BigQuiet
import Derived.Lib.QuietBelow
import Derived.Outline
import Derived.Deep.RegionHeld3
import Derived.Deep.CutRange
namespace Go.Proofs.Ytemgfogpeogdeaa.Walk
open Go.RowKit Go.Proofs.Ytemgfogpeogdeaa.F Go.Proofs.YtemgfogpeogdeaaW.PrintWords Go.Proofs.YtemgfogpeogdeaaW.PrintLast Go.Proofs.YtemgfogpeogdeaaW.PrintMore Go.Proofs.Ytemgfogpeogdeaa.Open
open Go.Sort (grow)
attribute [local go_sem] max2_int min2_int max_two min_two max_three min_three max_four min_four
set_option linter.unusedVariables false
set_option linter.unusedSimpArgs false

/-! ### What the law keeps: the bag, and what was put in -/
abbrev kS : Kd ByteArray := Kd.string
abbrev tS : Nat := 9
theorem infoS : (Try.prog.info? 9).map (fun i => (i.zero, i.size, i.bytes)) = some (some (.string ⟨#[]⟩), 1, 16) := by kernel_rfl
structure KI (w0 w : World) (g n : Nat) (Lb : List Th) (lost : Int) (vP : Value) (P : List (List Int)) : Prop where
  ex : ∃ SB : Nat → Prop, Bag w SB g n Lb lost ∧ (∀ k, SB k → w0.heap.size ≤ k ∧ k < w.heap.size) ∧ Kd.R kS tS w 0 (fun k => w0.heap.size ≤ k ∧ ¬ SB k) vP (P.map strOfNums)
  came : ∀ x ∈ Lb, ∃ p ∈ P, cameOf p x
  u8 : ∀ p ∈ P, u8s p ∧ p.length ≤ 100
theorem KI.below {w0 w w1 : World} {g n : Nat} {Lb : List Th} {lost : Int} {vP : Value} {P : List (List Int)} (h : KI w0 w g n Lb lost vP P) (hb : Below w.heap.size w w1) : KI w0 w1 g n Lb lost vP P := by
  obtain ⟨⟨SB, h1, h2, h3⟩, h4, h5⟩ := h
  exact ⟨⟨SB, h1.below hb, fun k hk => ⟨(h2 k hk).1, Nat.lt_of_lt_of_le (h2 k hk).2 hb.size⟩, Kd.R_below h3 hb⟩, h4, h5⟩
theorem KI.step {w0 w w1 : World} {g n : Nat} {Lb' : List Th} {lost' : Int} {vP : Value} {P : List (List Int)} {SB : Nat → Prop} (h0 : w0.heap.size ≤ w.heap.size) (h2 : ∀ k, SB k → w0.heap.size ≤ k ∧ k < w.heap.size)
    (h3 : Kd.R kS tS w 0 (fun k => w0.heap.size ≤ k ∧ ¬ SB k) vP (P.map strOfNums)) (h5 : ∀ p ∈ P, u8s p ∧ p.length ≤ 100) (hW : Bag w1 (fun b => SB b ∨ w.heap.size ≤ b) g n Lb' lost') (hb : Beside SB w w1) (hc : ∀ x ∈ Lb', ∃ p ∈ P, cameOf p x) : KI w0 w1 g n Lb' lost' vP P := by
  refine ⟨⟨_, hW.bound, fun k hk => ⟨hk.1.elim (fun h => (h2 k h).1) (fun h => Nat.le_trans h0 h), hk.2⟩, ?_⟩, hc, h5⟩
  exact Kd.R_mono (Kd.R_step (Kd.R_bound h3) (fun k hk hlt => hb.block k hlt hk.1.2)) (fun k hk => ⟨hk.1.1, fun h => h.1.elim hk.1.2 (fun h => by have := hk.2.2.1; omega)⟩)
/-- One more was put in. -/
theorem KI.more {w0 w w1 : World} {g n : Nat} {Lb : List Th} {lost : Int} {vP vP' : Value} {P : List (List Int)} {p : List Int} {SB : Nat → Prop} (hB : Bag w SB g n Lb lost) (h2 : ∀ k, SB k → w0.heap.size ≤ k ∧ k < w.heap.size)
    (h3 : Kd.R kS tS w 0 (fun k => w0.heap.size ≤ k ∧ ¬ SB k) vP (P.map strOfNums)) (hr : Kd.R kS tS w1 0 (fun k => w0.heap.size ≤ k ∧ ¬ SB k) vP' ((P.map strOfNums) ++ [strOfNums p])) (hg : w.grownBy w1 vP.ownBlock)
    (hc : ∀ x ∈ Lb, ∃ q ∈ P ++ [p], cameOf q x) (h5 : ∀ p ∈ P, u8s p ∧ p.length ≤ 100) (hp : u8s p ∧ p.length ≤ 100) : KI w0 w1 g n Lb lost vP' (P ++ [p]) := by
  refine ⟨⟨SB, hB.step (fun k hk hlt => hg.block k hlt (fun he => (h3.1 k he.symm).2 hk)), fun k hk => ⟨(h2 k hk).1, Nat.lt_of_lt_of_le (h2 k hk).2 hg.size⟩, ?_⟩, hc, fun q hq => ?_⟩
  · rw [List.map_append]
    exact hr
  · rcases List.mem_append.1 hq with h | h
    · exact h5 q h
    · rw [List.mem_singleton.1 h]; exact hp
theorem came_th (p : List Int) : cameOf p (th p) := ⟨rfl, fun _ => rfl, 0, 0, Or.inl rfl⟩
theorem came_twice {n : Nat} {L : List Th} {P : List (List Int)} (i : Int) (h : ∀ x ∈ L, ∃ p ∈ P, cameOf p x) : ∀ x ∈ twice n L i, ∃ p ∈ P, cameOf p x := by
  unfold twice
  split
  · intro x hx
    rename_i hc
    rcases List.mem_append.1 hx with h1 | h1
    · exact h x h1
    · rw [List.mem_singleton.1 h1]
      refine h _ ?_
      rw [List.getD_eq_getElem?_getD, List.getElem?_eq_getElem (by omega)]
      exact List.getElem_mem _
  · exact h
theorem came_rest {L : List Th} {P : List (List Int)} (i : Int) (h : ∀ x ∈ L, ∃ p ∈ P, cameOf p x) : ∀ x ∈ rest L i, ∃ p ∈ P, cameOf p x := by
  unfold rest
  split
  · exact fun x hx => h x (mem_erase hx)
  · exact h
theorem came_turn {L : List Th} {P : List (List Int)} (i a bits : Int) (h : ∀ x ∈ L, ∃ p ∈ P, cameOf p x) : ∀ x ∈ turn L i a bits, ∃ p ∈ P, cameOf p x := by
  unfold turn
  split
  · intro x hx
    rename_i hm
    obtain ⟨hi, _, _, hf, _⟩ := of_decide_eq_true hm
    rcases List.mem_or_eq_of_mem_set hx with h1 | h1
    · exact h x h1
    · obtain ⟨p, hp, hc⟩ := h (L.getD i.toNat zT) (by rw [List.getD_eq_getElem?_getD, List.getElem?_eq_getElem (by omega)]; exact List.getElem_mem _)
      have he := hc.2.1 hf
      refine ⟨p, hp, ?_⟩
      rw [h1, he]
      exact ⟨turnN_length bits _ p 32, fun h => by simp at h, a.toNat, bits, Or.inr rfl⟩
  · exact h
theorem near_total {p t : List Int} (hl : t.length = p.length) (hn : p.length ≤ 1000000) : ∀ (m i : Nat) (f l : Int), 8 * p.length - i < m → i ≤ 8 * p.length → ∃ r, unisonlaw07_near.l0 m (strOfNums p) (strOfNums t) f l (i : Int) = some r
  | 0, i, f, l, h, _ => absurd h (Nat.not_lt_zero _)
  | m + 1, i, f, l, h, hi => by
    have s1 : (strOfNums p).size = p.length := strOfNums_size p
    have s2 : (strOfNums t).size = p.length := (strOfNums_size t).trans hl
    have E0 : Aside0 (wrap64 (8 * (p.length : Int)) = 8 * p.length) := ⟨w64 (by omega) (by omega)⟩
    have E1 : Aside0 (wrap64 (Int.tdiv (i : Int) 8) = ((i / 8 : Nat) : Int)) := ⟨by
      rw [Int.tdiv_eq_ediv_of_nonneg (by omega), show (i : Int) / 8 = ((i / 8 : Nat) : Int) by simp]
      exact w64 (by omega) (by omega)⟩
    have E2 : Aside0 (Int.tmod (i : Int) 8 = ((i % 8 : Nat) : Int)) := ⟨by
      rw [Int.tmod_eq_emod_of_nonneg (by omega)]
      simp⟩
    have E3 : Aside0 (wrap64 ((i : Int) + 1) = ((i + 1 : Nat) : Int)) := ⟨by rw [w64 (by omega) (by omega)]; simp⟩
    unfold unisonlaw07_near.l0
    rw [s1, s2, E0.out, E1.out, E2.out, E3.out]
    clear E0 E1 E2 E3 s1 s2
    by_cases hlt : i < 8 * p.length
    · rw [if_pos (by omega), if_pos (by omega), if_pos (by omega), if_pos (by omega), if_pos (by omega)]
      split
      · split
        · exact near_total hl hn m (i + 1) i i (by omega) (by omega)
        · exact near_total hl hn m (i + 1) f i (by omega) (by omega)
      · exact near_total hl hn m (i + 1) f l (by omega) (by omega)
    · rw [if_neg (by omega)]
      exact ⟨_, rfl⟩
/-- Whether they are near. -/
theorem near_some {p t : List Int} (hl : t.length = p.length) (hn : p.length ≤ 1000000) : ∃ r, unisonlaw07_near.f (8 * p.length + 1) (strOfNums p) (strOfNums t) = some r :=
  near_total hl hn (8 * p.length + 1) 0 (-1) (-1) (by omega) (by omega)
/-- One is there that this one came of, from k on. -/
def ahead (P : List (List Int)) (y : List Int) (k : Nat) : Prop := ∃ j, k ≤ j ∧ ∃ h : j < P.length, ∃ x : Th, x.f0 = y ∧ cameOf P[j] x

end Go.Proofs.Ytemgfogpeogdeaa.Walk
