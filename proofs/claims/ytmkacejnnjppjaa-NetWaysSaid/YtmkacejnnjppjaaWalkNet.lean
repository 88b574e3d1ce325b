/- The net, its ways. Conditions: none beyond the statement's own. -/
import Derived.Test.YtmkacejnnjppjaaWalkMapE
import Derived.Test.YtmkacejnnjppjaaWalkPut1
import Derived.Test.YtmkacejnnjppjaaArgs
import Derived.Deep.QuietTactic
import Derived.BigQuiet
import Derived.Lib.QuietBelow
import Derived.Outline
import Derived.Deep.RegionHeld3
import Derived.Deep.CutRange
namespace Go.Proofs.Ytmkacejnnjppjaa.Walk
open Go.RowKit Go.Proofs.Ytmkacejnnjppjaa.F Go.Proofs.YtmkacejnnjppjaaW.PrintWords Go.Proofs.YtmkacejnnjppjaaW.PrintLast Go.Proofs.YtmkacejnnjppjaaW.PrintMore Go.Proofs.Ytmkacejnnjppjaa.Open
open Go.Sort (grow)
attribute [local go_sem] max2_int min2_int max_two min_two max_three min_three max_four min_four
set_option linter.unusedVariables false
set_option linter.unusedSimpArgs false

/-! ### The net: its ways -/
abbrev tNet : Nat := 65
abbrev tWay : Nat := 67
abbrev tWM : Nat := 63
theorem laidOut : laidOutB Try.prog = true := by kernel_rfl
theorem rowWay : tWay < Try.prog.types.size := of_decide_eq_true (by kernel_rfl)
theorem wideWay : (match Try.prog.underlying tWay with | some (.array _ _) | some (.struct _) => true | _ => false) = true := by kernel_rfl
theorem lawWay : Go.Maps.Keyed Try.prog tWay := Go.Maps.Keyed.of_law (deep_law_laid laidOut (m := 2) (by omega) rowWay (by kernel_rfl) wideWay)
abbrev Wk := Int × Int
def fkW (x : Wk) : Value := .agg #[.int .i64 x.1, .int .i64 x.2]
def fvB (b : Nat) : Value := .pointer (some ⟨b, 0, none⟩)
theorem fkW_inj (x y : Wk) (h : fkW x = fkW y) : x = y := by
  simpa [fkW, Prod.ext_iff] using h
def i64 (x : Int) : Prop := -9223372036854775808 ≤ x ∧ x ≤ 9223372036854775807
theorem i64_wf {x : Int} (h : i64 x) : (Lit.int .i64 x).wf = true := by
  simp only [Lit.wf, Bool.and_eq_true, decide_eq_true_eq, show IntKind.i64.min = -9223372036854775808 from rfl, show IntKind.i64.max = 9223372036854775807 from rfl]
  exact h
theorem sizeT : ∃ m, Try.prog.types.size = m + 1 := ⟨Try.prog.types.size - 1, by have := rowWay; omega⟩
theorem way_key {x : Wk} (h1 : i64 x.1) (h2 : i64 x.2) : ∃ l, keyOf Try.prog tWay (fkW x) = some l := by
  have hk : Try.prog.keyType tWay = true := by kernel_rfl
  have hu := Try.underlying67
  have hi := Try.underlying3
  have hc : Try.prog.cellsOf tWay = 2 := by kernel_rfl
  have hc2 : Try.prog.cellsOf 3 = 1 := by kernel_rfl
  obtain ⟨m, hm⟩ := sizeT
  have w1 := i64_wf h1
  have w2 := i64_wf h2
  have hf : (fkW x).formed Try.prog tWay = true := by simp [fkW, Value.formed, hu, hc]
  have hl : ∃ ls, Try.prog.keyLits (Try.prog.types.size + 1) tWay (fkW x).cells.toList = some ls := by
    rw [hm]
    simp [Program.keyLits, hu, hi, hc, hc2, fkW, Value.cells, w1, w2]
  obtain ⟨ls, hl⟩ := hl
  unfold keyOf
  rw [hu]
  simp only [hk, hf, hl, Bool.and_self, if_true, Option.map_some]
  exact ⟨_, rfl⟩
/-! ### Its bags -/
abbrev Ent := Wk × Nat
abbrev Bv := List Th × Int
structure Bags (w : World) (S : Nat → Prop) (room : Nat) (E : List Ent) (V : List Bv) : Prop where
  len : E.length = V.length
  ex : ∃ ow : Nat → Nat, ∀ (i : Nat) (e : Ent) (v : Bv), E[i]? = some e → V[i]? = some v → Bag w (fun k => S k ∧ ow k = i) e.2 room v.1 v.2
section
variable {w w1 : World} {S S' S2 : Nat → Prop} {room : Nat} {E : List Ent} {V : List Bv}
theorem Bags.nil (w : World) (S : Nat → Prop) (room : Nat) : Bags w S room [] [] := ⟨rfl, fun _ => 0, fun i e v h => by simp at h⟩
theorem Bags.mono (h : Bags w S room E V) (hs : ∀ k, S k → S' k) : Bags w S' room E V := by
  obtain ⟨h0, ow, h⟩ := h
  exact ⟨h0, ow, fun i e v he hv => (h i e v he hv).mono fun k hk => ⟨hs k hk.1, hk.2⟩⟩
theorem Bags.step (h : Bags w S room E V) (hm : ∀ k, S k → k < w.heap.size → w1.heap[k]? = w.heap[k]?) : Bags w1 S room E V := by
  obtain ⟨h0, ow, h⟩ := h
  exact ⟨h0, ow, fun i e v he hv => (h i e v he hv).step fun k hk hlt => hm k hk.1 hlt⟩
theorem Bags.bound (h : Bags w S room E V) : Bags w (fun k => S k ∧ k < w.heap.size) room E V := by
  obtain ⟨h0, ow, h⟩ := h
  exact ⟨h0, ow, fun i e v he hv => (h i e v he hv).bound.mono fun k hk => ⟨⟨hk.1.1, hk.2⟩, hk.1.2⟩⟩
theorem Bags.below (h : Bags w S room E V) (hb : Below w.heap.size w w1) : Bags w1 S room E V := h.step fun k _ hlt => hb.block k hlt
theorem Bags.beside (h : Bags w S room E V) (hb : Beside S2 w w1) (hs : ∀ k, S k → ¬ S2 k) : Bags w1 S room E V := h.step fun k hk hlt => hb.block k hlt (hs k hk)
/-- One of the bags, and what becomes of all when it turns. -/
theorem Bags.at (h : Bags w S room E V) {i : Nat} {e : Ent} {v : Bv} (he : E[i]? = some e) (hv : V[i]? = some v) : ∃ Si : Nat → Prop, Bag w Si e.2 room v.1 v.2 ∧ (∀ k, Si k → S k) ∧
    ∀ (w' : World) (v' : Bv) (S' : Nat → Prop), Bag w' S' e.2 room v'.1 v'.2 → (∀ k, S' k → Si k ∨ w.heap.size ≤ k) → Beside Si w w' → Bags w' (fun k => S k ∨ w.heap.size ≤ k) room E (V.set i v') := by
  obtain ⟨h0, ow, h⟩ := h
  refine ⟨fun k => S k ∧ ow k = i, h i e v he hv, fun k hk => hk.1, fun w' v' S' hB hS hw => ⟨by simpa using h0, fun k => if w.heap.size ≤ k then i else ow k, fun j e' v'' he' hv' => ?_⟩⟩
  by_cases hij : i = j
  · subst hij
    rw [he] at he'
    cases he'
    have hi : i < V.length := (List.getElem?_eq_some_iff.1 hv).1
    rw [List.getElem?_set_self hi] at hv'
    cases hv'
    refine hB.mono fun k hk => ?_
    rcases hS k hk with h1 | h1
    · refine ⟨.inl h1.1, ?_⟩
      dsimp only
      split
      · rfl
      · exact h1.2
    · exact ⟨.inr h1, if_pos h1⟩
  · rw [List.getElem?_set_ne hij] at hv'
    refine ((h j e' v'' he' hv').bound.beside hw (fun k hk hk2 => hij (hk2.2.symm.trans hk.1.2))).mono fun k hk => ⟨.inl hk.1.1, ?_⟩
    dsimp only
    rw [if_neg (by have := hk.2; omega)]
    exact hk.1.2
/-- One bag more. -/
theorem Bags.push (h : Bags w S room E V) (hb : Below w.heap.size w w1) {e : Ent} {v : Bv} (hB : Bag w1 (fun k => w.heap.size ≤ k) e.2 room v.1 v.2) : Bags w1 (fun k => S k ∨ w.heap.size ≤ k) room (E ++ [e]) (V ++ [v]) := by
  obtain ⟨h0, ow, h⟩ := h
  refine ⟨by simp [h0], fun k => if w.heap.size ≤ k then E.length else ow k, fun j e' v' he' hv' => ?_⟩
  by_cases hj : j < E.length
  · rw [List.getElem?_append_left hj] at he'
    rw [List.getElem?_append_left (by omega)] at hv'
    refine ((h j e' v' he' hv').bound.below hb).mono fun k hk => ⟨.inl hk.1.1, ?_⟩
    dsimp only
    rw [if_neg (by have := hk.2; omega)]
    exact hk.1.2
  · have hj2 : j = E.length := by
      have := (List.getElem?_eq_some_iff.1 he').1
      simp at this
      omega
    subst hj2
    rw [List.getElem?_append_right (Nat.le_refl _), Nat.sub_self] at he'
    rw [h0, List.getElem?_append_right (Nat.le_refl _), Nat.sub_self] at hv'
    cases he'
    cases hv'
    exact hB.mono fun k hk => ⟨.inr hk, if_pos hk⟩
end
/-! ### A net's state -/
structure NetS (w : World) (S : Nat → Prop) (g mb n room : Nat) (E : List Ent) (V : List Bv) : Prop where
  S_g : S g
  S_m : S mb
  ne : g ≠ mb
  blk : w.heap[g]? = some (.cells #[.int .i64 n, .map (some mb)] tNet (0, 0))
  map : MapE Try.prog tWay fkW fvB w mb E
  bags : Bags w (fun k => S k ∧ k ≠ g ∧ k ≠ mb) room E V
section
variable {w w1 : World} {S S' S2 : Nat → Prop} {g mb n room : Nat} {E : List Ent} {V : List Bv}
theorem NetS.mono (h : NetS w S g mb n room E V) (hs : ∀ k, S k → S' k) : NetS w S' g mb n room E V := ⟨hs _ h.S_g, hs _ h.S_m, h.ne, h.blk, h.map, h.bags.mono fun k hk => ⟨hs k hk.1, hk.2⟩⟩
theorem NetS.step (h : NetS w S g mb n room E V) (hm : ∀ k, S k → k < w.heap.size → w1.heap[k]? = w.heap[k]?) : NetS w1 S g mb n room E V :=
  ⟨h.S_g, h.S_m, h.ne, (hm g h.S_g (blk_lt h.blk)).trans h.blk, h.map.step (hm mb h.S_m h.map.lt), h.bags.step fun k hk hlt => hm k hk.1 hlt⟩
theorem NetS.bound (h : NetS w S g mb n room E V) : NetS w (fun k => S k ∧ k < w.heap.size) g mb n room E V := ⟨⟨h.S_g, blk_lt h.blk⟩, ⟨h.S_m, h.map.lt⟩, h.ne, h.blk, h.map, h.bags.bound.mono fun k hk => ⟨⟨hk.1.1, hk.2⟩, hk.1.2⟩⟩
theorem NetS.below (h : NetS w S g mb n room E V) (hb : Below w.heap.size w w1) : NetS w1 S g mb n room E V := h.step fun k _ hlt => hb.block k hlt
theorem NetS.beside (h : NetS w S g mb n room E V) (hb : Beside S2 w w1) (hs : ∀ k, S k → ¬ S2 k) : NetS w1 S g mb n room E V := h.step fun k hk hlt => hb.block k hlt (hs k hk)
theorem NetS.c0 (h : NetS w S g mb n room E V) : w.cell? ⟨g, 0, none⟩ = some (.int .i64 n) := (blk_cell h.blk 0).trans rfl
theorem NetS.c1 (h : NetS w S g mb n room E V) : w.cell? ⟨g, 1, none⟩ = some (.map (some mb)) := (blk_cell h.blk 1).trans rfl
def wayV (E : List Ent) (a b : Int) : Value := match mlk E (a, b) with | some q => fvB q | none => .pointer none
theorem zeroB (w : World) : (zeroValue 27).run Try.prog w = .ok (.pointer none) w := by kernel_rfl
theorem look_way (h : MapE Try.prog tWay fkW fvB w mb E) {a b : Int} (ha : i64 a) (hb : i64 b) : (Instr.lookup tWM (.map (some mb)) (.agg #[.int .i64 a, .int .i64 b]) false).run Try.prog w = .ok (wayV E a b) w := by
  obtain ⟨l, hl⟩ := way_key (x := (a, b)) ha hb
  have := h.look false lawWay fkW_inj Try.underlying63 (zeroB w) (x := (a, b)) hl
  rw [show fkW (a, b) = .agg #[.int .i64 a, .int .i64 b] from rfl] at this
  rw [this]
  unfold wayV
  cases mlk E (a, b) <;> rfl
theorem Bag_calls (h : NetS w S g mb n room E V) {a b : Int} (ha : i64 a) (hb : i64 b) : Calls Try.prog 7 #[.pointer (some ⟨g, 0, none⟩), .int .i64 a, .int .i64 b] w fun e w' => e = .returned (wayV E a b) ∧ w' = w := by
  have c1 := h.c1
  have hrun := look_way h.map ha hb
  generalize wayV E a b = r at hrun ⊢
  clear h
  go_enter Try.func7, Try.ntmps7
  go_wp2
  go_ret
  exact ⟨rfl, rfl⟩
end
theorem Bag_nil (a b : Int) (w : World) : Calls Try.prog 7 #[.pointer none, .int .i64 a, .int .i64 b] w fun e w' => e = .returned (.pointer none) ∧ w' = w := by
  go_enter Try.func7, Try.ntmps7
  go_wp2
  go_ret
  exact ⟨rfl, rfl⟩

end Go.Proofs.Ytmkacejnnjppjaa.Walk
