/- Rows of ids. Conditions: none beyond the statement's own. -/
import Derived.Test.YtgcnaebhmcggoaaWalkOrd
import Derived.Test.YtgcnaebhmcggoaaArgs
import Derived.Deep.QuietTactic
import Derived.BigQuiet
import Derived.Lib.QuietBelow
import Derived.Outline
import Derived.Deep.RegionHeld3
import Derived.Deep.CutRange
namespace Go.Proofs.Ytgcnaebhmcggoaa.Walk
open Go.RowKit Go.Proofs.Ytgcnaebhmcggoaa.F Go.Proofs.YtgcnaebhmcggoaaW.PrintWords Go.Proofs.YtgcnaebhmcggoaaW.PrintLast Go.Proofs.YtgcnaebhmcggoaaW.PrintMore Go.Proofs.Ytgcnaebhmcggoaa.Open
open Go.Sort (grow)
attribute [local go_sem] max2_int min2_int max_two min_two max_three min_three max_four min_four
set_option linter.unusedVariables false
set_option linter.unusedSimpArgs false

/-- Beside the blocks of S the world w' is as w was. -/
structure Beside (S : Nat → Prop) (w w' : World) : Prop where
  os : w'.os = w.os
  tape : w'.tape = w.tape
  output : w'.output = w.output
  size : w.heap.size ≤ w'.heap.size
  block : ∀ k, k < w.heap.size → ¬ S k → w'.heap[k]? = w.heap[k]?
namespace Beside
variable {S S' S2 : Nat → Prop} {w w1 w2 : World}
theorem refl (S : Nat → Prop) (w : World) : Beside S w w := ⟨rfl, rfl, rfl, Nat.le_refl _, fun _ _ _ => rfl⟩
theorem of_below (S : Nat → Prop) (h : Below w.heap.size w w1) : Beside S w w1 := ⟨h.os, h.tape, h.output, h.size, fun k hk _ => h.block k hk⟩
/-- A later step that turns the blocks of S, or new ones. -/
theorem then_ (h : Beside S w w1) (k : Beside S2 w1 w2) (hs : ∀ k, S2 k → S k ∨ w.heap.size ≤ k) : Beside S w w2 :=
  ⟨k.os.trans h.os, k.tape.trans h.tape, k.output.trans h.output, Nat.le_trans h.size k.size, fun i hi hn => (k.block i (Nat.lt_of_lt_of_le hi h.size) (fun h2 => (hs i h2).elim hn (fun h3 => by omega))).trans (h.block i hi hn)⟩
theorem trans (h : Beside S w w1) (k : Beside S w1 w2) : Beside S w w2 := h.then_ k (fun _ h => .inl h)
theorem mono (h : Beside S w w1) (hs : ∀ k, S k → S' k) : Beside S' w w1 := ⟨h.os, h.tape, h.output, h.size, fun k hk hn => h.block k hk (fun h1 => hn (hs k h1))⟩
theorem below (h : Beside S w w1) (hs : ∀ k, S k → w.heap.size ≤ k) : Below w.heap.size w w1 := ⟨h.os, h.tape, h.output, h.size, fun k hk => h.block k hk (fun h1 => by have := hs k h1; omega)⟩
theorem then_below (h : Beside S w w1) (k : Below w1.heap.size w1 w2) : Beside S w w2 := h.trans (of_below S k)
theorem alloc (h : Beside S w w1) (o : Obj) : Beside S w (w1.alloc o) := h.then_below (below_alloc (Below.refl _ _) o)
theorem drew (h : Beside S w w1) : Beside S w w1.drew := ⟨h.os, h.tape, h.output, h.size, h.block⟩
theorem drewN (h : Beside S w w1) (n : Nat) : Beside S w (w1.drewN n) := h.then_below (pw_below_drewN (Below.refl _ _) n)
theorem setCell (h : Beside S w w1) {p : Addr} (hp : S p.block) (u : Value) : Beside S w (w1.setCell p u) :=
  h.trans ⟨rfl, rfl, rfl, by simp [World.setCell], fun k _ hn => Below.heap_setCell _ _ _ _ (fun e => hn (by rw [e]; exact hp))⟩
/-- What a step on other blocks leaves: a block. -/
theorem blk (h : Beside S w w1) {g : Nat} {o : Obj} (hb : w.heap[g]? = some o) (hn : ¬ S g) : w1.heap[g]? = some o := (h.block g (blk_lt hb) hn).trans hb
theorem kept (h : Beside S w w1) : Kept w w1 S := ⟨h.size, fun k hk hn => h.block k hk hn⟩
/-- Beneath all blocks of S. -/
theorem step {w0 : World} (h0 : Below w0.heap.size w0 w) (h : Beside S w w1) (hs : ∀ k, S k → w0.heap.size ≤ k) : Below w0.heap.size w0 w1 :=
  ⟨h.os.trans h0.os, h.tape.trans h0.tape, h.output.trans h0.output, Nat.le_trans h0.size h.size, fun k hk => (h.block k (Nat.lt_of_lt_of_le hk h0.size) (fun h1 => by have := hs k h1; omega)).trans (h0.block k hk)⟩
end Beside

/-! ### rows of ids in memory of their own -/
abbrev I := S33
instance : Inhabited I := ⟨z33⟩
abbrev tI : Nat := 33
def encI (x : I) : List Value := [.int .u8 x.f0, .int .u64 x.f1]
/-- Block b holds the ids L, and may be written. -/
structure Row2 (w : World) (b : Nat) (L : List I) : Prop where
  lt : b < w.heap.size
  at_ : ∀ (j : Nat) (x : I), L[j]? = some x → w.cell? ⟨b, j * 2, none⟩ = some (.int .u8 x.f0) ∧ w.cell? ⟨b, j * 2 + 1, none⟩ = some (.int .u64 x.f1) ∧ w.frozen? ⟨b, j * 2, none⟩ = false ∧ w.frozen? ⟨b, j * 2 + 1, none⟩ = false
namespace Row2
variable {w w' : World} {b : Nat} {L : List I}
theorem move (h : Row2 w b L) (hs : w.heap.size ≤ w'.heap.size) (hb : w'.heap[b]? = w.heap[b]?) : Row2 w' b L := by
  refine ⟨Nat.lt_of_lt_of_le h.lt hs, fun j x hx => ?_⟩
  obtain ⟨h1, h2, h3, h4⟩ := h.at_ j x hx
  have c : ∀ o, w'.cell? ⟨b, o, none⟩ = w.cell? ⟨b, o, none⟩ := fun o => World.cell?_of_block hb
  have f : ∀ o, w'.frozen? ⟨b, o, none⟩ = w.frozen? ⟨b, o, none⟩ := fun o => World.frozen?_of_block hb
  exact ⟨(c _).trans h1, (c _).trans h2, (f _).trans h3, (f _).trans h4⟩
theorem below (h : Row2 w b L) (hb : Below w.heap.size w w') : Row2 w' b L := h.move hb.size (hb.block b h.lt)
theorem belowN (h : Row2 w b L) {B : Nat} (hb : Below B w w') (hB : b < B) : Row2 w' b L := h.move hb.size (hb.block b hB)
theorem alloc (h : Row2 w b L) (o : Obj) : Row2 (w.alloc o) b L := h.below (below_alloc (Below.refl _ _) o)
theorem drew (h : Row2 w b L) : Row2 w.drew b L := ⟨h.lt, h.at_⟩
theorem take (h : Row2 w b L) (i : Nat) : Row2 w b (L.take i) := ⟨h.lt, fun j x hx => by
  rw [List.getElem?_take] at hx
  split at hx
  · exact h.at_ j x hx
  · cases hx⟩
theorem setO (h : Row2 w b L) {g : Nat} (hg : g ≠ b) (o : Nat) (v : Value) : Row2 (w.setCell ⟨g, o, none⟩ v) b L :=
  h.move (by simp [World.setCell]) (Below.heap_setCell _ _ _ _ (fun e => hg e.symm))
/-- An element is written. -/
theorem set (h : Row2 w b L) (i : Nat) (hi : i < L.length) (x : I) : Row2 ((w.setCell ⟨b, i * 2, none⟩ (.int .u8 x.f0)).setCell ⟨b, i * 2 + 1, none⟩ (.int .u64 x.f1)) b (L.set i x) := by
  obtain ⟨h1, h2, h3, h4⟩ := h.at_ i L[i] (List.getElem?_eq_getElem hi)
  refine ⟨by simp [World.setCell]; exact h.lt, fun j y hy => ?_⟩
  rw [World.frozen?_setCell, World.frozen?_setCell, World.frozen?_setCell, World.frozen?_setCell]
  rw [List.getElem?_set] at hy
  by_cases e : i = j
  · subst e
    rw [if_pos rfl, if_pos hi] at hy
    obtain rfl := Option.some.inj hy
    refine ⟨?_, ?_, h3, h4⟩
    · rw [World.cell?_setCell_other _ _ _ _ (by simp)]
      exact World.cell?_setCell_same _ _ _ h1
    · exact World.cell?_setCell_same _ _ _ ((World.cell?_setCell_other _ _ _ _ (by simp)).trans h2)
  · rw [if_neg e] at hy
    obtain ⟨k1, k2, k3, k4⟩ := h.at_ j y hy
    have e1 : i * 2 ≠ j * 2 := by omega
    have e2 : i * 2 ≠ j * 2 + 1 := by omega
    have e3 : i * 2 + 1 ≠ j * 2 := by omega
    have e4 : i * 2 + 1 ≠ j * 2 + 1 := by omega
    refine ⟨?_, ?_, k3, k4⟩
    · rw [World.cell?_setCell_other _ _ _ _ (by first | (simp; done) | (simp; omega)), World.cell?_setCell_other _ _ _ _ (by first | (simp; done) | (simp; omega))]
      exact k1
    · rw [World.cell?_setCell_other _ _ _ _ (by first | (simp; done) | (simp; omega)), World.cell?_setCell_other _ _ _ _ (by first | (simp; done) | (simp; omega))]
      exact k2
/-- Behind the row's front all may be cleared. -/
theorem tail (h : Row2 w b L) (i : Nat) (hi : L.length ≤ i) (vs : List Value) : Row2 (w.setCells b (i * 2) vs) b L := by
  obtain ⟨s1, s2, s3, s4⟩ := setCells_same b vs (i * 2) w
  refine ⟨by rw [s4]; exact h.lt, fun j x hx => ?_⟩
  obtain ⟨h1, h2, h3, h4⟩ := h.at_ j x hx
  have hj : j < L.length := (List.getElem?_eq_some_iff.1 hx).1
  rw [World.frozen?_setCells, World.frozen?_setCells]
  exact ⟨(World.cell?_setCells_out b vs _ w _ (fun _ _ => Or.inl (by show j * 2 < i * 2; omega))).trans h1, (World.cell?_setCells_out b vs _ w _ (fun _ _ => Or.inl (by show j * 2 + 1 < i * 2; omega))).trans h2, h3, h4⟩
theorem get (h : Row2 w b L) (j : Nat) (hj : j < L.length) : w.cell? ⟨b, j * 2, none⟩ = some (.int .u8 L[j].f0) ∧ w.cell? ⟨b, j * 2 + 1, none⟩ = some (.int .u64 L[j].f1) ∧ w.frozen? ⟨b, j * 2, none⟩ = false ∧ w.frozen? ⟨b, j * 2 + 1, none⟩ = false := h.at_ j _ (List.getElem?_eq_getElem hj)
theorem holds (h : Row2 w b L) : Go.Sort.HoldsK encI 2 w b 0 L.toArray := by
  intro t ht
  rw [Go.Sort.size_flatK] at ht
  rw [Go.Sort.get_flatK _ _ _ t ht]
  have hs : L.toArray.size = L.length := by simp
  rw [hs] at ht
  obtain ⟨h1, h2, h3, h4⟩ := h.get (t / 2) (by omega)
  have e0 : L.toArray[t / 2]! = L[t / 2]'(by omega) := by
    rw [getElem!_pos _ _ (by simp; omega)]
    simp
  rw [e0, Nat.zero_add]
  generalize L[t / 2]'(by omega) = y at h1 h2 ⊢
  rcases Nat.mod_two_eq_zero_or_one t with hm | hm
  · have e1 : t / 2 * 2 = t := by omega
    rw [hm]
    rw [e1] at h1 h3
    exact ⟨h1, h3⟩
  · have e1 : t / 2 * 2 + 1 = t := by omega
    rw [hm]
    rw [e1] at h2 h4
    exact ⟨h2, h4⟩
theorem of_holds {d : Array I} (hlt : b < w.heap.size) (h : Go.Sort.HoldsK encI 2 w b 0 d) : Row2 w b d.toList := by
  refine ⟨hlt, fun j x hx => ?_⟩
  have hj : j < d.size := by simpa using (List.getElem?_eq_some_iff.1 hx).1
  have e0 : d[j]! = x := by
    rw [getElem!_pos d j hj]
    have := (List.getElem?_eq_some_iff.1 hx).2
    simpa using this
  have k1 := Go.Sort.HoldsK.cell h hj (show 0 < 2 by decide)
  have k2 := Go.Sort.HoldsK.cell h hj (show 1 < 2 by decide)
  rw [e0, Nat.zero_add] at k1 k2
  exact ⟨k1.1, k2.1, k1.2, k2.2⟩
end Row2
/-! ### the closure of Join, and order -/
def mayI (x : I) : Bool := (ident_May.f x.f0 x.f1 64).getD false
theorem may_f (x : I) : ident_May.f x.f0 x.f1 64 = some (mayI x) := by
  have : ∃ r, ident_May.f x.f0 x.f1 64 = some r := by
    unfold ident_May.f
    repeat (first | exact ⟨_, rfl⟩ | split)
  obtain ⟨r, hr⟩ := this
  unfold mayI
  rw [hr]
  rfl
set_option maxHeartbeats 1000000 in
theorem may_closure (x : I) (W : World) : Calls Try.prog 29 #[.agg #[.int .u8 x.f0, .int .u64 x.f1]] W fun e w' => e = .returned (.bool (!mayI x)) ∧ Below W.heap.size W w' := by
  have HM := Aside0.mk (may_f x)
  have hu := Try.underlying33
  go_enter Try.func29, Try.ntmps29
  go_wp2_with fail
  refine (ident_May.calls x.f0 x.f1 64 _ _ HM.out).mono ?_
  rintro e w1 ⟨rfl, hb⟩
  have HB := Aside0.mk hb
  clear hb
  go_wp2_with fail
  go_ret
  exact ⟨rfl, (below_alloc (Below.refl _ _) _).trans (HB.out.mono (by simp))⟩

end Go.Proofs.Ytgcnaebhmcggoaa.Walk
