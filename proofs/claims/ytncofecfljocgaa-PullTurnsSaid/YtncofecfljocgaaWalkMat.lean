/- The matrix. Conditions: none beyond the statement's own. -/
import Derived.Test.YtncofecfljocgaaF2
import Derived.Test.YtncofecfljocgaaArgs
import Derived.Deep.QuietTactic
import Derived.BigQuiet
import Derived.Lib.QuietBelow
import Derived.Outline
import Derived.Deep.RegionHeld3
import Derived.Deep.CutRange
namespace Go.Proofs.Ytncofecfljocgaa.Walk
open Go.RowKit Go.Proofs.Ytncofecfljocgaa.F Go.Proofs.YtncofecfljocgaaW.PrintWords Go.Proofs.YtncofecfljocgaaW.PrintLast Go.Proofs.YtncofecfljocgaaW.PrintMore Go.Proofs.Ytncofecfljocgaa.Open
open Go.Sort (grow)
attribute [local go_sem] max2_int min2_int max_two min_two max_three min_three max_four min_four
set_option linter.unusedVariables false
set_option linter.unusedSimpArgs false

/-- Beside the blocks of S the world w' is as w was. -/
structure Beside (S : Nat → Prop) (w w' : World) : Prop where
  os : w'.os = w.os
  tape : w'.tape = w.tape
  output : w'.output = w.output
  size : w.heap.size ≤ w'.heap.size
  block : ∀ k, k < w.heap.size → ¬ S k → w'.heap[k]? = w.heap[k]?
namespace Beside
variable {S S' S2 : Nat → Prop} {w w1 w2 : World}
theorem refl (S : Nat → Prop) (w : World) : Beside S w w := ⟨rfl, rfl, rfl, Nat.le_refl _, fun _ _ _ => rfl⟩
theorem of_below (S : Nat → Prop) (h : Below w.heap.size w w1) : Beside S w w1 := ⟨h.os, h.tape, h.output, h.size, fun k hk _ => h.block k hk⟩
/-- A later step that turns the blocks of S, or new ones. -/
theorem then_ (h : Beside S w w1) (k : Beside S2 w1 w2) (hs : ∀ k, S2 k → S k ∨ w.heap.size ≤ k) : Beside S w w2 :=
  ⟨k.os.trans h.os, k.tape.trans h.tape, k.output.trans h.output, Nat.le_trans h.size k.size, fun i hi hn => (k.block i (Nat.lt_of_lt_of_le hi h.size) (fun h2 => (hs i h2).elim hn (fun h3 => by omega))).trans (h.block i hi hn)⟩
theorem trans (h : Beside S w w1) (k : Beside S w1 w2) : Beside S w w2 := h.then_ k (fun _ h => .inl h)
theorem mono (h : Beside S w w1) (hs : ∀ k, S k → S' k) : Beside S' w w1 := ⟨h.os, h.tape, h.output, h.size, fun k hk hn => h.block k hk (fun h1 => hn (hs k h1))⟩
theorem below (h : Beside S w w1) (hs : ∀ k, S k → w.heap.size ≤ k) : Below w.heap.size w w1 := ⟨h.os, h.tape, h.output, h.size, fun k hk => h.block k hk (fun h1 => by have := hs k h1; omega)⟩
theorem then_below (h : Beside S w w1) (k : Below w1.heap.size w1 w2) : Beside S w w2 := h.trans (of_below S k)
theorem alloc (h : Beside S w w1) (o : Obj) : Beside S w (w1.alloc o) := h.then_below (below_alloc (Below.refl _ _) o)
theorem drew (h : Beside S w w1) : Beside S w w1.drew := ⟨h.os, h.tape, h.output, h.size, h.block⟩
theorem drewN (h : Beside S w w1) (n : Nat) : Beside S w (w1.drewN n) := h.then_below (pw_below_drewN (Below.refl _ _) n)
theorem setCell (h : Beside S w w1) {p : Addr} (hp : S p.block) (u : Value) : Beside S w (w1.setCell p u) :=
  h.trans ⟨rfl, rfl, rfl, by simp [World.setCell], fun k _ hn => Below.heap_setCell _ _ _ _ (fun e => hn (by rw [e]; exact hp))⟩
/-- What a step on other blocks leaves: a block. -/
theorem blk (h : Beside S w w1) {g : Nat} {o : Obj} (hb : w.heap[g]? = some o) (hn : ¬ S g) : w1.heap[g]? = some o := (h.block g (blk_lt hb) hn).trans hb
theorem kept (h : Beside S w w1) : Kept w w1 S := ⟨h.size, fun k hk hn => h.block k hk hn⟩
/-- Beneath all blocks of S. -/
theorem step {w0 : World} (h0 : Below w0.heap.size w0 w) (h : Beside S w w1) (hs : ∀ k, S k → w0.heap.size ≤ k) : Below w0.heap.size w0 w1 :=
  ⟨h.os.trans h0.os, h.tape.trans h0.tape, h.output.trans h0.output, Nat.le_trans h0.size h.size, fun k hk => (h.block k (Nat.lt_of_lt_of_le hk h0.size) (fun h1 => by have := hs k h1; omega)).trans (h0.block k hk)⟩
end Beside

/-! ### The matrix -/
abbrev X := S65
abbrev kX : Kd X := k65
abbrev tX : Nat := 65
abbrev tM : Nat := 63
abbrev zX : X := z65
abbrev kU : Kd Int := Kd.int .u64
abbrev tU : Nat := 27
def u64s (l : List Int) : Prop := ∀ x ∈ l, 0 ≤ x ∧ x ≤ 18446744073709551615
structure xok (n : Nat) (x : X) : Prop where
  l1 : x.f1.length = n
  l2 : x.f2.length = n
  u0 : 0 ≤ x.f0 ∧ x.f0 ≤ 18446744073709551615
  u1 : u64s x.f1
  u2 : u64s x.f2
structure mok (L : List X) : Prop where
  n1 : 1 ≤ L.length
  n2 : L.length ≤ 64
  row : ∀ x ∈ L, xok L.length x
/-- The matrix at block g: its rows at block rb; all of it lies in S. -/
structure Mat (w : World) (S : Nat → Prop) (g rb cp : Nat) (L : List X) : Prop where
  ok : mok L
  S_g : S g
  blk : w.heap[g]? = some (.cells #[.slice (some ⟨rb, 0, none⟩) L.length cp] tM (0, 0))
  rows : Kd.R kX tX w 0 (fun k => S k ∧ k ≠ g) (.slice (some ⟨rb, 0, none⟩) L.length cp) L
section
variable {w w1 : World} {S S' S2 : Nat → Prop} {g rb cp : Nat} {L : List X}
theorem Mat.S_rb (h : Mat w S g rb cp L) : S rb ∧ rb ≠ g := h.rows.1 rb rfl
theorem Mat.mono (h : Mat w S g rb cp L) (hs : ∀ k, S k → S' k) : Mat w S' g rb cp L :=
  ⟨h.ok, hs _ h.S_g, h.blk, Kd.R_mono h.rows (fun k hk => ⟨hs _ hk.1, hk.2⟩)⟩
theorem Mat.step (h : Mat w S g rb cp L) (hm : ∀ k, S k → k < w.heap.size → w1.heap[k]? = w.heap[k]?) : Mat w1 S g rb cp L :=
  ⟨h.ok, h.S_g, (hm g h.S_g (blk_lt h.blk)).trans h.blk, Kd.R_step h.rows (fun k hk hlt => hm k hk.1 hlt)⟩
theorem Mat.bound (h : Mat w S g rb cp L) : Mat w (fun k => S k ∧ k < w.heap.size) g rb cp L :=
  ⟨h.ok, ⟨h.S_g, blk_lt h.blk⟩, h.blk, Kd.R_mono (Kd.R_bound h.rows) (fun k hk => ⟨⟨hk.1.1, hk.2.2.1⟩, hk.1.2⟩)⟩
theorem Mat.below (h : Mat w S g rb cp L) (hb : Below w.heap.size w w1) : Mat w1 S g rb cp L := h.step (fun k _ hlt => hb.block k hlt)
theorem Mat.drew (h : Mat w S g rb cp L) : Mat w.drew S g rb cp L := h.below (below_drew (Below.refl _ _))
theorem Mat.beside (h : Mat w S g rb cp L) (hb : Beside S2 w w1) (hs : ∀ k, S k → ¬ S2 k) : Mat w1 S g rb cp L := h.step (fun k hk hlt => hb.block k hlt (hs k hk))
theorem Mat.cell (h : Mat w S g rb cp L) : w.cell? ⟨g, 0, none⟩ = some (.slice (some ⟨rb, 0, none⟩) L.length cp) := (blk_cell h.blk 0).trans rfl
/-- A row's cells, and what they lead to. -/
theorem row_elem {base n : Nat} {ok : Nat → Prop} (h : Kd.R kX tX w base ok (.slice (some ⟨rb, 0, none⟩) n cp) L) {p : Nat} {x : X} (hx : L[p]? = some x) : ∃ (A1 : Option Addr) (c1 : Nat) (A2 : Option Addr) (c2 : Nat),
    (w.cell? ⟨rb, p * 4, none⟩ = some (.int .u64 x.f0) ∧ w.cell? ⟨rb, p * 4 + 1, none⟩ = some (.slice A1 x.f1.length c1) ∧ w.cell? ⟨rb, p * 4 + 2, none⟩ = some (.slice A2 x.f2.length c2) ∧ w.cell? ⟨rb, p * 4 + 3, none⟩ = some (.bool x.f3)) ∧
    (∀ j, w.frozen? ⟨rb, p * 4 + j, none⟩ = false) ∧ Kd.R kU tU w base (fun k => ok k ∧ k ≠ rb) (.slice A1 x.f1.length c1) x.f1 ∧ Kd.R kU tU w base (fun k => ok k ∧ k ≠ rb) (.slice A2 x.f2.length c2) x.f2 := by
  have hp : p < L.length := (List.getElem?_eq_some_iff.1 hx).1
  have hn : n = L.length := (Kd.R_reads' h).1
  subst hn
  obtain ⟨cc, hcl, hM, hcc, hcf⟩ := Kd.R_elem h zX (p : Int) (by omega) (by omega)
  have e : L.getD ((p : Int)).toNat zX = x := by simp [List.getD, hx]
  rw [e] at hM
  rw [Int.toNat_natCast] at hcc hcf
  obtain ⟨v1, v2, rfl, r1, r2⟩ := k65_openM hM
  obtain ⟨A1, c1, rfl⟩ := Kd.R_slice r1
  obtain ⟨A2, c2, rfl⟩ := Kd.R_slice r2
  exact ⟨A1, c1, A2, c2, ⟨hcc 0 _ rfl, hcc 1 _ rfl, hcc 2 _ rfl, hcc 3 _ rfl⟩, hcf, r1, r2⟩
theorem Mat.elem (h : Mat w S g rb cp L) {p : Nat} {x : X} (hx : L[p]? = some x) : ∃ (A1 : Option Addr) (c1 : Nat) (A2 : Option Addr) (c2 : Nat),
    (w.cell? ⟨rb, p * 4, none⟩ = some (.int .u64 x.f0) ∧ w.cell? ⟨rb, p * 4 + 1, none⟩ = some (.slice A1 x.f1.length c1) ∧ w.cell? ⟨rb, p * 4 + 2, none⟩ = some (.slice A2 x.f2.length c2) ∧ w.cell? ⟨rb, p * 4 + 3, none⟩ = some (.bool x.f3)) ∧
    (∀ j, w.frozen? ⟨rb, p * 4 + j, none⟩ = false) ∧ Kd.R kU tU w 0 (fun k => S k ∧ k ≠ g ∧ k ≠ rb) (.slice A1 x.f1.length c1) x.f1 ∧ Kd.R kU tU w 0 (fun k => S k ∧ k ≠ g ∧ k ≠ rb) (.slice A2 x.f2.length c2) x.f2 := by
  obtain ⟨A1, c1, A2, c2, h1, h2, h3, h4⟩ := row_elem h.rows hx
  exact ⟨A1, c1, A2, c2, h1, h2, Kd.R_mono h3 (fun k hk => ⟨hk.1.1, hk.1.2, hk.2⟩), Kd.R_mono h4 (fun k hk => ⟨hk.1.1, hk.1.2, hk.2⟩)⟩
/-- Cells of a row are written. -/
theorem row_set {base n : Nat} {ok : Nat → Prop} (h : Kd.R kX tX w base ok (.slice (some ⟨rb, 0, none⟩) n cp) L) {p : Nat} {x' : X} (hp : p < L.length) {c : List Value} (hcl : c.length = 4) (hcc : ∀ j u, c[j]? = some u → w.cell? ⟨rb, p * 4 + j, none⟩ = some u) (j : Nat) (seg : List Value) (hj : j + seg.length ≤ 4)
    (hM : kX.M w base (fun k => ok k ∧ k ≠ rb) x' (c.take j ++ seg ++ c.drop (j + seg.length))) : Kd.R kX tX (w.setCells rb (p * 4 + j) seg) base ok (.slice (some ⟨rb, 0, none⟩) n cp) (L.set p x') ∧ w.grownBy (w.setCells rb (p * 4 + j) seg) (some rb) := by
  have hn : n = L.length := (Kd.R_reads' h).1
  subst hn
  have key := Kd.R_seg h (p : Int) (by omega) (by omega) (c := c) hcl (by rw [Int.toNat_natCast]; exact hcc) (j := j) (seg := seg) hj hM (fun k hk => ⟨hk.1, hk.2⟩)
  rw [Int.toNat_natCast] at key
  exact key
theorem Mat.setF (h : Mat w S g rb cp L) {p : Nat} {x' : X} (hp : p < L.length) {c : List Value} (hcl : c.length = 4) (hcc : ∀ j u, c[j]? = some u → w.cell? ⟨rb, p * 4 + j, none⟩ = some u) (j : Nat) (seg : List Value) (hj : j + seg.length ≤ 4)
    (hM : kX.M w 0 (fun k => (S k ∧ k ≠ g) ∧ k ≠ rb) x' (c.take j ++ seg ++ c.drop (j + seg.length))) (ho : xok L.length x') : Mat (w.setCells rb (p * 4 + j) seg) S g rb cp (L.set p x') := by
  have key := row_set h.rows hp hcl hcc j seg hj hM
  refine ⟨⟨by simpa using h.ok.n1, by simpa using h.ok.n2, fun y hy => ?_⟩, h.S_g, ?_, ?_⟩
  · rw [List.length_set]
    rcases List.mem_or_eq_of_mem_set hy with hy | rfl
    · exact h.ok.row y hy
    · exact ho
  · rw [List.length_set]
    exact (key.2.block g (blk_lt h.blk) (by simp [h.S_rb.2.symm])).trans h.blk
  · rw [List.length_set]
    exact key.1
end
/-! ### of -/
section
variable {w : World} {S : Nat → Prop} {g rb cp : Nat} {L : List X}
theorem of_calls (h : Mat w S g rb cp L) (p : Nat) (hp : p < L.length) : Calls Try.prog 23 #[.pointer (some ⟨g, 0, none⟩), .int .i64 p] w fun e w' => e = .returned (.pointer (some ⟨rb, p * 4, none⟩)) ∧ w' = w := by
  have c0 := h.cell
  have h0 : ¬ ((p : Int) < 0) := by omega
  have h1 : ¬ ((p : Int) ≥ (L.length : Int)) := by omega
  have h2 : (p : Int) < (L.length : Int) := by omega
  go_enter Try.func23, Try.ntmps23
  go_wp2
  go_ret
  exact ⟨rfl, rfl⟩
theorem of_none (h : Mat w S g rb cp L) (p : Int) (hp : p < 0 ∨ (L.length : Int) ≤ p) : Calls Try.prog 23 #[.pointer (some ⟨g, 0, none⟩), .int .i64 p] w fun e w' => e = .returned (.pointer none) ∧ w' = w := by
  have c0 := h.cell
  by_cases h0 : p < 0
  · have h0' : decide (p < 0) = true := decide_eq_true h0
    go_enter Try.func23, Try.ntmps23
    go_wp2
    go_ret
    exact ⟨rfl, rfl⟩
  · have h0' : decide (p < 0) = false := decide_eq_false h0
    have h1 : p ≥ (L.length : Int) := by omega
    go_enter Try.func23, Try.ntmps23
    go_wp2
    go_ret
    exact ⟨rfl, rfl⟩
end
theorem of_nil (p : Int) (w : World) : Calls Try.prog 23 #[.pointer none, .int .i64 p] w fun e w' => e = .returned (.pointer none) ∧ w' = w := by
  go_enter Try.func23, Try.ntmps23
  go_wp2
  go_ret
  exact ⟨rfl, rfl⟩
/-! ### New -/
def nn (n : Int) : Nat := if 64 < n then 64 else if 1 < n then n.toNat else 1
theorem nn_ok (n : Int) : 1 ≤ nn n ∧ nn n ≤ 64 := by
  unfold nn
  split
  · omega
  · split <;> omega
def x0 (n : Nat) : X := ⟨0, List.replicate n 0, List.replicate n 0, false⟩
def newL (n : Nat) : List X := List.replicate n (x0 n)
theorem newL_ok {n : Nat} (h1 : 1 ≤ n) (h2 : n ≤ 64) : mok (newL n) := by
  have hl : (newL n).length = n := by simp [newL]
  refine ⟨by omega, by omega, fun x hx => ?_⟩
  rw [hl]
  obtain rfl := List.eq_of_mem_replicate hx
  have hz : u64s (List.replicate n 0) := fun y hy => by obtain rfl := List.eq_of_mem_replicate hy; omega
  exact ⟨by simp [x0], by simp [x0], by simp [x0], hz, hz⟩
theorem infoX : (Try.prog.info? tX).map (fun i => (i.zero, i.size, i.bytes)) = some (some (.agg #[.int .u64 0, .slice none 0 0, .slice none 0 0, .bool false]), 4, 64) := by kernel_rfl
theorem infoU : (Try.prog.info? tU).map (fun i => (i.zero, i.size, i.bytes)) = some (some (.int .u64 0), 1, 8) := by kernel_rfl
def part (n i : Nat) : List X := List.replicate i (x0 n) ++ List.replicate (n - i) zX

end Go.Proofs.Ytncofecfljocgaa.Walk
