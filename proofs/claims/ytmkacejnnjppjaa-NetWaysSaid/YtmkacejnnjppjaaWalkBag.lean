/- A bag's state, a new bag, its small functions. Conditions: none beyond the statement's own. -/
import Derived.Test.YtmkacejnnjppjaaF1
import Derived.Test.YtmkacejnnjppjaaArgs
import Derived.Deep.QuietTactic
import Derived.BigQuiet
import Derived.Lib.QuietBelow
import Derived.Outline
import Derived.Deep.RegionHeld3
import Derived.Deep.CutRange
namespace Go.Proofs.Ytmkacejnnjppjaa.Walk
open Go.RowKit Go.Proofs.Ytmkacejnnjppjaa.F Go.Proofs.YtmkacejnnjppjaaW.PrintWords Go.Proofs.YtmkacejnnjppjaaW.PrintLast Go.Proofs.YtmkacejnnjppjaaW.PrintMore Go.Proofs.Ytmkacejnnjppjaa.Open
open Go.Sort (grow)
attribute [local go_sem] max2_int min2_int max_two min_two max_three min_three max_four min_four
set_option linter.unusedVariables false
set_option linter.unusedSimpArgs false

/-- Beside the blocks of S the world w' is as w was. -/
structure Beside (S : Nat → Prop) (w w' : World) : Prop where
  os : w'.os = w.os
  tape : w'.tape = w.tape
  output : w'.output = w.output
  size : w.heap.size ≤ w'.heap.size
  block : ∀ k, k < w.heap.size → ¬ S k → w'.heap[k]? = w.heap[k]?
namespace Beside
variable {S S' S2 : Nat → Prop} {w w1 w2 : World}
theorem refl (S : Nat → Prop) (w : World) : Beside S w w := ⟨rfl, rfl, rfl, Nat.le_refl _, fun _ _ _ => rfl⟩
theorem of_below (S : Nat → Prop) (h : Below w.heap.size w w1) : Beside S w w1 := ⟨h.os, h.tape, h.output, h.size, fun k hk _ => h.block k hk⟩
/-- A later step that turns the blocks of S, or new ones. -/
theorem then_ (h : Beside S w w1) (k : Beside S2 w1 w2) (hs : ∀ k, S2 k → S k ∨ w.heap.size ≤ k) : Beside S w w2 :=
  ⟨k.os.trans h.os, k.tape.trans h.tape, k.output.trans h.output, Nat.le_trans h.size k.size, fun i hi hn => (k.block i (Nat.lt_of_lt_of_le hi h.size) (fun h2 => (hs i h2).elim hn (fun h3 => by omega))).trans (h.block i hi hn)⟩
theorem trans (h : Beside S w w1) (k : Beside S w1 w2) : Beside S w w2 := h.then_ k (fun _ h => .inl h)
theorem mono (h : Beside S w w1) (hs : ∀ k, S k → S' k) : Beside S' w w1 := ⟨h.os, h.tape, h.output, h.size, fun k hk hn => h.block k hk (fun h1 => hn (hs k h1))⟩
theorem below (h : Beside S w w1) (hs : ∀ k, S k → w.heap.size ≤ k) : Below w.heap.size w w1 := ⟨h.os, h.tape, h.output, h.size, fun k hk => h.block k hk (fun h1 => by have := hs k h1; omega)⟩
theorem then_below (h : Beside S w w1) (k : Below w1.heap.size w1 w2) : Beside S w w2 := h.trans (of_below S k)
theorem alloc (h : Beside S w w1) (o : Obj) : Beside S w (w1.alloc o) := h.then_below (below_alloc (Below.refl _ _) o)
theorem drew (h : Beside S w w1) : Beside S w w1.drew := ⟨h.os, h.tape, h.output, h.size, h.block⟩
theorem drewN (h : Beside S w w1) (n : Nat) : Beside S w (w1.drewN n) := h.then_below (pw_below_drewN (Below.refl _ _) n)
theorem setCell (h : Beside S w w1) {p : Addr} (hp : S p.block) (u : Value) : Beside S w (w1.setCell p u) :=
  h.trans ⟨rfl, rfl, rfl, by simp [World.setCell], fun k _ hn => Below.heap_setCell _ _ _ _ (fun e => hn (by rw [e]; exact hp))⟩
/-- What a step on other blocks leaves: a block. -/
theorem blk (h : Beside S w w1) {g : Nat} {o : Obj} (hb : w.heap[g]? = some o) (hn : ¬ S g) : w1.heap[g]? = some o := (h.block g (blk_lt hb) hn).trans hb
theorem kept (h : Beside S w w1) : Kept w w1 S := ⟨h.size, fun k hk hn => h.block k hk hn⟩
/-- Beneath all blocks of S. -/
theorem step {w0 : World} (h0 : Below w0.heap.size w0 w) (h : Beside S w w1) (hs : ∀ k, S k → w0.heap.size ≤ k) : Below w0.heap.size w0 w1 :=
  ⟨h.os.trans h0.os, h.tape.trans h0.tape, h.output.trans h0.output, Nat.le_trans h0.size h.size, fun k hk => (h.block k (Nat.lt_of_lt_of_le hk h0.size) (fun h1 => by have := hs k h1; omega)).trans (h0.block k hk)⟩
end Beside

/-! ### The bag -/
abbrev Th := S77
abbrev kT : Kd Th := k77
abbrev eT : Nat := 77
abbrev tB : Nat := 73
abbrev zT : Th := z77
theorem infoT : (Try.prog.info? 77).map (fun i => (i.zero, i.size, i.bytes)) = some (some (.agg #[.slice none 0 0, .bool false]), 2, 32) := by kernel_rfl
theorem zeroT (w : World) : (zeroValue 77).run Try.prog w = .ok (.agg #[.slice none 0 0, .bool false]) w := by
  have h := infoT
  cases hi : Try.prog.info? 77 with
  | none => rw [hi] at h; cases h
  | some i =>
    rw [hi] at h
    simp only [Option.map_some, Option.some.injEq, Prod.mk.injEq] at h
    simp [zeroValue, typeInfo, hi, h.1]
structure bok (n : Nat) (L : List Th) (lost : Int) : Prop where
  n1 : 1 ≤ n
  n2 : n ≤ 4096
  fit : L.length ≤ n
  l0 : 0 ≤ lost
  l1 : lost ≤ 4611686018427387904
  fr : ∀ x ∈ L, x.f0.length ≤ 1000000
/-- The bag at block g: its room, its things, how many were lost; all of it lies in S. -/
structure Bag (w : World) (S : Nat → Prop) (g n : Nat) (L : List Th) (lost : Int) : Prop where
  ok : bok n L lost
  S_g : S g
  ex : ∃ v, w.heap[g]? = some (.cells #[.int .i64 n, v, .int .i64 lost] tB (0, 0)) ∧ Kd.S kT eT w 0 (fun k => S k ∧ k ≠ g) v L
section
variable {w w1 : World} {S S' S2 : Nat → Prop} {g n : Nat} {L : List Th} {lost : Int}
theorem Bag.mono (h : Bag w S g n L lost) (hs : ∀ k, S k → S' k) : Bag w S' g n L lost := by
  obtain ⟨h1, h2, v, h3, h4⟩ := h
  exact ⟨h1, hs _ h2, v, h3, Kd.S_mono h4 (fun k hk => ⟨hs _ hk.1, hk.2⟩)⟩
theorem Bag.step (h : Bag w S g n L lost) (hm : ∀ k, S k → k < w.heap.size → w1.heap[k]? = w.heap[k]?) : Bag w1 S g n L lost := by
  obtain ⟨h1, h2, v, h3, h4⟩ := h
  exact ⟨h1, h2, v, (hm g h2 (blk_lt h3)).trans h3, Kd.S_step h4 (fun k hk hlt => hm k hk.1 hlt)⟩
theorem Bag.bound (h : Bag w S g n L lost) : Bag w (fun k => S k ∧ k < w.heap.size) g n L lost := by
  obtain ⟨h1, h2, v, h3, h4⟩ := h
  exact ⟨h1, ⟨h2, blk_lt h3⟩, v, h3, Kd.S_mono (Kd.S_bound h4) (fun k hk => ⟨⟨hk.1.1, hk.2.2.1⟩, hk.1.2⟩)⟩
theorem Bag.below (h : Bag w S g n L lost) (hb : Below w.heap.size w w1) : Bag w1 S g n L lost := h.step (fun k _ hlt => hb.block k hlt)
theorem Bag.drew (h : Bag w S g n L lost) : Bag w.drew S g n L lost := h.below (below_drew (Below.refl _ _))
theorem Bag.beside (h : Bag w S g n L lost) (hb : Beside S2 w w1) (hs : ∀ k, S k → ¬ S2 k) : Bag w1 S g n L lost := h.step (fun k hk hlt => hb.block k hlt (hs k hk))
end
theorem w64 {x : Int} (h0 : -9223372036854775808 ≤ x) (h1 : x ≤ 9223372036854775807) : wrap64 x = x := by unfold wrap64; omega
def has (L : List Th) (i : Int) : Bool := decide (0 ≤ i ∧ i < L.length)
def lk (L : List Th) (i : Int) : List Int := if 0 ≤ i ∧ i < L.length then (L.getD i.toNat zT).f0 else []
/-! ### A new bag -/
def rm (a : Int) : Nat := if 4096 < a then 4096 else if 1 < a then a.toNat else 1
theorem rm_ok (a : Int) : 1 ≤ rm a ∧ rm a ≤ 4096 := by
  unfold rm
  split
  · omega
  · split <;> omega
theorem new_bag {w w1 : World} {n : Nat} (h1 : 1 ≤ n) (h2 : n ≤ 4096) (hb : Below w.heap.size w w1) :
    Bag (w1.alloc (.cells #[.int .i64 n, .slice none 0 0, .int .i64 0] tB)) (fun k => w.heap.size ≤ k) w1.heap.size n [] 0 :=
  ⟨⟨h1, h2, by simp, by simp, by omega, by simp⟩, hb.size, .slice none 0 0, blk_new w1 _, Kd.S_nil _ _ _ _ _⟩
set_option maxHeartbeats 1000000 in
theorem New_calls (a : Int) (w : World) : Calls Try.prog 24 #[.int .i64 a] w fun e w' => ∃ g, e = .returned (.pointer (some ⟨g, 0, none⟩)) ∧ w.heap.size ≤ g ∧ Bag w' (fun k => w.heap.size ≤ k) g (rm a) [] 0 ∧ Below w.heap.size w w' := by
  have H0 := Aside0.mk (Below.refl w.heap.size w)
  by_cases h : 4096 < a
  · rw [show rm a = 4096 from if_pos h]
    go_enter Try.func24, Try.ntmps24
    go_wp2_with fail
    go_ret
    exact ⟨_, rfl, Nat.le_refl _, new_bag (n := 4096) (by omega) (by omega) H0.out, below_alloc H0.out _⟩
  · by_cases h1 : 1 < a
    · rw [show rm a = a.toNat from (if_neg h).trans (if_pos h1)]
      obtain ⟨n, rfl⟩ : ∃ n : Nat, a = (n : Int) := ⟨a.toNat, by omega⟩
      rw [Int.toNat_natCast]
      go_enter Try.func24, Try.ntmps24
      go_wp2_with fail
      go_ret
      exact ⟨_, rfl, Nat.le_refl _, new_bag (n := n) (by omega) (by omega) H0.out, below_alloc H0.out _⟩
    · rw [show rm a = 1 from (if_neg h).trans (if_neg h1)]
      go_enter Try.func24, Try.ntmps24
      go_wp2_with fail
      go_ret
      exact ⟨_, rfl, Nat.le_refl _, new_bag (n := 1) (by omega) (by omega) H0.out, below_alloc H0.out _⟩
/-! ### Its small functions -/
section
variable {w : World} {S : Nat → Prop} {g n : Nat} {L : List Th} {lost : Int}
theorem Bag.cell (h : Bag w S g n L lost) : ∃ A c, w.cell? ⟨g, 0, none⟩ = some (.int .i64 n) ∧ w.cell? ⟨g, 1, none⟩ = some (.slice A L.length c) ∧ w.cell? ⟨g, 2, none⟩ = some (.int .i64 lost) ∧ w.heap[g]? = some (.cells #[.int .i64 n, .slice A L.length c, .int .i64 lost] tB (0, 0)) ∧ Kd.S kT eT w 0 (fun k => S k ∧ k ≠ g) (.slice A L.length c) L := by
  obtain ⟨h1, h2, v, h3, h4⟩ := h
  obtain ⟨A, c, rfl⟩ := Kd.S_slice h4
  exact ⟨A, c, (blk_cell h3 0).trans rfl, (blk_cell h3 1).trans rfl, (blk_cell h3 2).trans rfl, h3, h4⟩
theorem Len_calls (h : Bag w S g n L lost) : Calls Try.prog 12 #[.pointer (some ⟨g, 0, none⟩)] w fun e w' => e = .returned (.int .i64 L.length) ∧ w' = w := by
  obtain ⟨A, c, c0, c1, c2, _, _⟩ := h.cell
  go_enter Try.func12, Try.ntmps12
  go_wp2
  go_ret
  exact ⟨rfl, rfl⟩
theorem Lost_calls (h : Bag w S g n L lost) : Calls Try.prog 23 #[.pointer (some ⟨g, 0, none⟩)] w fun e w' => e = .returned (.int .i64 lost) ∧ w' = w := by
  obtain ⟨A, c, c0, c1, c2, _, _⟩ := h.cell
  go_enter Try.func23, Try.ntmps23
  go_wp2
  go_ret
  exact ⟨rfl, rfl⟩
theorem there_calls (h : Bag w S g n L lost) (i : Int) : Calls Try.prog 25 #[.pointer (some ⟨g, 0, none⟩), .int .i64 i] w fun e w' => e = .returned (.bool (has L i)) ∧ w' = w := by
  obtain ⟨A, c, c0, c1, c2, _, _⟩ := h.cell
  by_cases h0 : 0 ≤ i
  · have h0' : decide (0 ≤ i) = true := decide_eq_true h0
    obtain ⟨r, hr⟩ : ∃ r, decide (i < (L.length : Int)) = r := ⟨_, rfl⟩
    rw [show has L i = r by unfold has; rw [← hr]; simp [h0]]
    go_enter Try.func25, Try.ntmps25
    go_wp2
    go_ret
    exact ⟨rfl, rfl⟩
  · have h0' : decide (0 ≤ i) = false := decide_eq_false h0
    rw [show has L i = false by unfold has; simp [h0]]
    go_enter Try.func25, Try.ntmps25
    go_wp2
    go_ret
    exact ⟨rfl, rfl⟩
end
theorem there_nil (i : Int) (w : World) : Calls Try.prog 25 #[.pointer none, .int .i64 i] w fun e w' => e = .returned (.bool false) ∧ w' = w := by
  go_enter Try.func25, Try.ntmps25
  go_wp2
  go_ret
  exact ⟨rfl, rfl⟩
theorem Len_nil (w : World) : Calls Try.prog 12 #[.pointer none] w fun e w' => e = .returned (.int .i64 0) ∧ w' = w := by
  go_enter Try.func12, Try.ntmps12
  go_wp2
  go_ret
  exact ⟨rfl, rfl⟩
theorem Lost_nil (w : World) : Calls Try.prog 23 #[.pointer none] w fun e w' => e = .returned (.int .i64 0) ∧ w' = w := by
  go_enter Try.func23, Try.ntmps23
  go_wp2
  go_ret
  exact ⟨rfl, rfl⟩
theorem Put_nil (v : Value) (w : World) : Calls Try.prog 22 #[.pointer none, v] w fun e w' => e = .returned (.int .i64 0) ∧ w' = w := by
  go_enter Try.func22, Try.ntmps22
  go_wp2
  go_ret
  exact ⟨rfl, rfl⟩

end Go.Proofs.Ytmkacejnnjppjaa.Walk
