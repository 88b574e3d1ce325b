/- The gate's functions come to what the Lean functions beside them tell. Conditions: none beyond the statement's own. -/
import Derived.Test.YtmdomkpdfmoboaaWalkOwn
import Derived.Test.YtmdomkpdfmoboaaArgs
import Derived.Deep.QuietTactic
import Derived.BigQuiet
import Derived.Lib.QuietBelow
import Derived.Outline
import Derived.Deep.RegionHeld3
import Derived.Deep.CutRange
namespace Go.Proofs.Ytmdomkpdfmoboaa.Walk
open Go.RowKit Go.Proofs.Ytmdomkpdfmoboaa.F Go.Proofs.YtmdomkpdfmoboaaW.PrintWords Go.Proofs.YtmdomkpdfmoboaaW.PrintLast Go.Proofs.YtmdomkpdfmoboaaW.PrintMore Go.Proofs.Ytmdomkpdfmoboaa.Open
open Go.Sort (grow)
attribute [local go_sem] max2_int min2_int max_two min_two max_three min_three max_four min_four
set_option linter.unusedVariables false
set_option linter.unusedSimpArgs false

namespace Acc

/-! ### The gate: its state, its block, its methods -/
structure GS where
  u : Int
  o : Bool
  c0 : Int
  c1 : Int
  c2 : Int
  c3 : Int
def gcells (s : GS) : Array Value := #[.int .u64 s.u, .bool s.o, .int .u64 s.c0, .int .u64 s.c1, .int .u64 s.c2, .int .u64 s.c3]
def Gate (w : World) (g : Nat) (s : GS) : Prop := w.heap[g]? = some (.cells (gcells s) 93 (0, 0))
def g0 : GS := ⟨0, false, 0, 0, 0, 0⟩
def up (n : Int) : Int := IntKind.u64.wrap (n + 1)
/-- A number comes. -/
def took (s : GS) (n : Int) : GS × Int :=
  if n ≤ s.u then ({ s with o := true, c2 := up s.c2 }, 2)
  else if n = s.u + 1 then ({ s with u := n, o := true, c1 := up s.c1 }, 1)
  else ({ s with o := true, c3 := up s.c3 }, 3)
theorem wu64 {x : Int} (h0 : 0 ≤ x) (h1 : x < 18446744073709551616) : IntKind.u64.wrap x = x := by
  simp [IntKind.wrap, IntKind.signed, IntKind.bits]
  omega
theorem w64 {x : Int} (h0 : -9223372036854775808 ≤ x) (h1 : x ≤ 9223372036854775807) : wrap64 x = x := by unfold wrap64; omega
def ok64 (n : Int) : Prop := 0 ≤ n ∧ n < 18446744073709551616
theorem New_calls (w : World) : Calls Try.prog 25 #[] w fun e w' => ∃ g, e = .returned (.pointer (some ⟨g, 0, none⟩)) ∧ w.heap.size ≤ g ∧ Gate w' g g0 ∧ Below w.heap.size w w' := by
  go_enter Try.func25, Try.ntmps25
  go_wp2_with fail
  go_ret
  exact ⟨_, rfl, Nat.le_refl _, blk_new w _, below_alloc (Below.refl _ _) _⟩
theorem take_calls (g : Nat) (s : GS) (n : Int) (w : World) (hg : Gate w g s) (hu : ok64 s.u) (hn : ok64 n) :
    Calls Try.prog 47 #[.pointer (some ⟨g, 0, none⟩), .int .u64 n] w fun e w' => e = .returned (.int .u8 (took s n).2) ∧ Gate w' g (took s n).1 ∧ Beside (fun k => k = g) w w' := by
  have hg' : w.heap[g]? = some (.cells #[.int .u64 s.u, .bool s.o, .int .u64 s.c0, .int .u64 s.c1, .int .u64 s.c2, .int .u64 s.c3] 93 (0, 0)) := hg
  have G := Aside0.mk hg'
  have e0 : w.cell? ⟨g, 0, none⟩ = some (.int .u64 s.u) := (blk_cell hg' 0).trans rfl
  have e1 : w.cell? ⟨g, 1, none⟩ = some (.bool s.o) := (blk_cell hg' 1).trans rfl
  have e2 : w.cell? ⟨g, 2, none⟩ = some (.int .u64 s.c0) := (blk_cell hg' 2).trans rfl
  have e3 : w.cell? ⟨g, 3, none⟩ = some (.int .u64 s.c1) := (blk_cell hg' 3).trans rfl
  have e4 : w.cell? ⟨g, 4, none⟩ = some (.int .u64 s.c2) := (blk_cell hg' 4).trans rfl
  have e5 : w.cell? ⟨g, 5, none⟩ = some (.int .u64 s.c3) := (blk_cell hg' 5).trans rfl
  have f0 := blk_frozen hg' 0
  have f1 := blk_frozen hg' 1
  have f3 := blk_frozen hg' 3
  have f4 := blk_frozen hg' 4
  have f5 := blk_frozen hg' 5
  clear hg hg'
  by_cases h1 : n ≤ s.u
  · have h1' : decide (n ≤ s.u) = true := decide_eq_true h1
    have ht : took s n = ({ s with o := true, c2 := up s.c2 }, 2) := if_pos h1
    rw [ht]
    clear ht
    go_enter Try.func47, Try.ntmps47
    go_wp2
    go_region
    go_wp2
    go_ret
    exact ⟨rfl, blk_put (blk_put G.out 1 _ rfl) 4 _ rfl, (((Beside.refl (fun k => k = g) w).setCell rfl _).setCell rfl _).drew⟩
  · have h1' : decide (n ≤ s.u) = false := decide_eq_false h1
    have hw : IntKind.u64.wrap (n - s.u) = n - s.u := by
      have := hu.1; have := hn.2
      exact wu64 (by omega) (by omega)
    by_cases h2 : n = s.u + 1
    · have h2' : (n - s.u == 1) = true := beq_iff_eq.mpr (by omega)
      have ht : took s n = ({ s with u := n, o := true, c1 := up s.c1 }, 1) := (if_neg h1).trans (if_pos h2)
      rw [ht]
      clear ht h2
      go_enter Try.func47, Try.ntmps47
      go_wp2
      go_region
      go_wp2
      go_ret
      exact ⟨rfl, blk_put (blk_put (blk_put G.out 0 _ rfl) 1 _ rfl) 3 _ rfl, ((((Beside.refl (fun k => k = g) w).setCell rfl _).setCell rfl _).setCell rfl _).drew⟩
    · have h2' : (n - s.u == 1) = false := beq_eq_false_iff_ne.mpr (by omega)
      have ht : took s n = ({ s with o := true, c3 := up s.c3 }, 3) := (if_neg h1).trans (if_neg h2)
      rw [ht]
      clear ht h2
      go_enter Try.func47, Try.ntmps47
      go_wp2
      go_region
      go_wp2
      go_ret
      exact ⟨rfl, blk_put (blk_put G.out 1 _ rfl) 5 _ rfl, (((Beside.refl (fun k => k = g) w).setCell rfl _).setCell rfl _).drew⟩
/-- Numbers come: the last answer (0: none came). -/
def tookAll : GS → Int → List Int → GS × Int
  | s, a, [] => (s, a)
  | s, a, n :: l => tookAll (took s n).1 (took s n).2 l
theorem took_ok {s : GS} {n : Int} (hu : ok64 s.u) (hn : ok64 n) : ok64 (took s n).1.u := by
  unfold took
  split
  · exact hu
  · split
    · exact hn
    · exact hu
theorem Take_calls (g : Nat) (s : GS) (A : Option Addr) (c : Nat) (l : List Int) (w : World) (hg : Gate w g s) (hu : ok64 s.u) (hr : ∀ W', Kept w W' (fun k => k = g) → Kd.C (Kd.int .u64) W' A l.length l) (hc : l.length ≤ c) (hl : l.length ≤ 9223372036854775807) (hn : ∀ x ∈ l, ok64 x) :
    Calls Try.prog 35 #[.pointer (some ⟨g, 0, none⟩), .slice A l.length c] w fun e w' => e = .returned (.int .u8 (tookAll s 0 l).2) ∧ Gate w' g (tookAll s 0 l).1 ∧ Beside (fun k => k = g) w w' := by
  have G := Aside0.mk hg
  have HR := Aside0.mk hr
  have HC := Aside0.mk hc
  have HN := Aside0.mk hn
  have HU := Aside0.mk hu
  clear hg hr hc hn hu
  go_enter Try.func35, Try.ntmps35
  go_wp2_with fail
  go_loopg [5, 13] l.length (fun kq v5 v13 w' => ∃ (j : Nat) (t : GS) (a : Int), v5 = .int .u8 a ∧ v13 = .int .i64 j ∧ j ≤ l.length ∧ l.length ≤ kq + j ∧ Aside0 (tookAll s 0 l = tookAll t a (l.drop j)) ∧ Aside0 (ok64 t.u) ∧ Aside0 (Gate w' g t) ∧ Aside0 (Beside (fun k => k = g) w w'))
  case atStart => exact ⟨0, s, 0, rfl, rfl, by omega, by omega, ⟨rfl⟩, HU, G, ⟨Beside.refl _ _⟩⟩
  case round =>
    clear G HU
    obtain ⟨j, t, a, rfl, rfl, hj, hkj, HT, HU, G, HB⟩ := hrel
    by_cases hlt : j < l.length
    · have hlt' : decide ((j : Int) < l.length) = true := decide_eq_true (by omega)
      obtain ⟨ad, ead, hx⟩ := Kd.at_int (HR.out _ HB.out.kept) (j : Int) (by omega) (by omega)
      cases ead
      have hx' : wr.cell? (ad.add j) = some (.int .u64 (rd l j)) := by simpa using hx
      clear hx
      have hd : l.drop j = rd l j :: l.drop (j + 1) := by
        rw [List.drop_eq_getElem_cons hlt]
        simp [rd, List.getD, hlt]
      have hm : rd l j ∈ l := by
        simp [rd, List.getD, hlt]
      have hok := Aside0.mk (HN.out _ hm)
      have HT' := Aside0.mk (show tookAll s 0 l = tookAll (took t (rd l j)).1 (took t (rd l j)).2 (l.drop (j + 1)) by rw [HT.out, hd]; rfl)
      clear hd hm HT
      generalize rd l j = n at *
      have p_ : (0 ≤ (j : Int)) = True := eq_true (by omega)
      have q_ : ((j : Int) < (l.length : Int)) = True := eq_true (by omega)
      go_wp2_with fail
      refine (take_calls g t n _ G.out HU.out hok.out).mono ?_
      rintro e w1 ⟨rfl, hg1, hb1⟩
      have G1 := Aside0.mk hg1
      have B1 := Aside0.mk hb1
      clear hg1 hb1
      go_wp2_with fail
      go_roundg (gk - 1)
      case measure => omega
      case rel => exact ⟨j + 1, (took t n).1, (took t n).2, rfl, (by simp), by omega, by omega, HT', ⟨took_ok HU.out hok.out⟩, G1, ⟨HB.out.trans B1.out⟩⟩
    · have hlt' : decide ((j : Int) < l.length) = false := decide_eq_false (by omega)
      have hd : l.drop j = [] := List.drop_eq_nil_iff.2 (by omega)
      have HT' := Aside0.mk (show tookAll s 0 l = (t, a) by rw [HT.out, hd]; rfl)
      clear hd HT
      go_wp2_with fail
      go_ret
      rw [HT'.out]
      exact ⟨rfl, G.out, HB.out⟩
theorem Upto_calls (g : Nat) (s : GS) (w : World) (hg : Gate w g s) :
    Calls Try.prog 29 #[.pointer (some ⟨g, 0, none⟩)] w fun e w' => e = .returned (.int .u64 s.u) ∧ w' = w := by
  have e0 : w.cell? ⟨g, 0, none⟩ = some (.int .u64 s.u) := (blk_cell hg 0).trans rfl
  clear hg
  go_enter Try.func29, Try.ntmps29
  go_wp2
  go_ret
  exact ⟨rfl, rfl⟩
theorem Owes_calls (g : Nat) (s : GS) (w : World) (hg : Gate w g s) :
    Calls Try.prog 28 #[.pointer (some ⟨g, 0, none⟩)] w fun e w' => e = .returned (.bool s.o) ∧ w' = w := by
  have e0 : w.cell? ⟨g, 1, none⟩ = some (.bool s.o) := (blk_cell hg 1).trans rfl
  clear hg
  go_enter Try.func28, Try.ntmps28
  go_wp2
  go_ret
  exact ⟨rfl, rfl⟩
theorem Told_calls (g : Nat) (s : GS) (w : World) (hg : Gate w g s) :
    Calls Try.prog 30 #[.pointer (some ⟨g, 0, none⟩)] w fun e w' => e = .returned (.tuple #[]) ∧ Gate w' g { s with o := false } ∧ Beside (fun k => k = g) w w' := by
  have e0 : w.cell? ⟨g, 1, none⟩ = some (.bool s.o) := (blk_cell hg 1).trans rfl
  have f0 := blk_frozen hg 1
  have G := Aside0.mk hg
  clear hg
  go_enter Try.func30, Try.ntmps30
  go_wp2
  go_end0
  exact ⟨rfl, blk_put G.out 1 _ rfl, (Beside.refl (fun k => k = g) w).setCell rfl _⟩
/-! ### The nil gate -/
theorem Take_nil (A : Option Addr) (n c : Nat) (w : World) : Calls Try.prog 35 #[.pointer none, .slice A n c] w fun e w' => e = .returned (.int .u8 0) ∧ w' = w := by
  go_enter Try.func35, Try.ntmps35
  go_wp2
  go_ret
  exact ⟨rfl, rfl⟩
theorem Told_nil (w : World) : Calls Try.prog 30 #[.pointer none] w fun e w' => e = .returned (.tuple #[]) ∧ w' = w := by
  go_enter Try.func30, Try.ntmps30
  go_wp2
  go_end0
  exact ⟨rfl, rfl⟩
theorem Upto_nil (w : World) : Calls Try.prog 29 #[.pointer none] w fun e w' => e = .returned (.int .u64 0) ∧ w' = w := by
  go_enter Try.func29, Try.ntmps29
  go_wp2
  go_ret
  exact ⟨rfl, rfl⟩
theorem Owes_nil (w : World) : Calls Try.prog 28 #[.pointer none] w fun e w' => e = .returned (.bool false) ∧ w' = w := by
  go_enter Try.func28, Try.ntmps28
  go_wp2
  go_ret
  exact ⟨rfl, rfl⟩
/-! ### One number, told as a literal row -/
theorem lit_C (w : World) (e : Nat) (k : IntKind) (xs : List Int) (hm : xs.length ≤ 9223372036854775807) : Kd.C (Kd.int k) (w.alloc (.cells (nums k xs).toArray e)) (some ⟨w.heap.size, 0, none⟩) xs.length xs :=
  (Kd.R_reads' (d := Kd.int k) (Kd.R_of_own (own_lit w w.heap.size e k xs (Nat.le_refl _) hm) (ok := fun _ => True) (fun _ _ => trivial))).2.2
theorem Take1_calls (g : Nat) (s : GS) (n : Int) (e : Nat) (w : World) (hg : Gate w g s) (hu : ok64 s.u) (hn : ok64 n) :
    Calls Try.prog 35 #[.pointer (some ⟨g, 0, none⟩), .slice (some ⟨w.heap.size, 0, none⟩) 1 1] (w.alloc (.cells #[.int .u64 n] e)) fun e w' => e = .returned (.int .u8 (took s n).2) ∧ Gate w' g (took s n).1 ∧ Beside (fun k => k = g) w w' := by
  have hR : Kd.R (Kd.int .u64) e (w.alloc (.cells (nums .u64 [n]).toArray e)) w.heap.size (fun k => k = w.heap.size) (.slice (some ⟨w.heap.size, 0, none⟩) 1 1) [n] :=
    Kd.R_of_own (own_lit w w.heap.size e .u64 [n] (Nat.le_refl _) (by simp)) (fun k hk => (Option.some.inj hk).symm)
  refine (Take_calls g s (some ⟨w.heap.size, 0, none⟩) 1 [n] (w.alloc (.cells #[.int .u64 n] e)) (blk_alloc hg _) hu (Kd.C_kept_own hR ?_) (by simp) (by simp) (by simp [hn])).mono ?_
  · rintro k rfl h
    have := blk_lt hg
    omega
  · rintro e w' ⟨rfl, h1, h2⟩
    exact ⟨rfl, h1, ((Beside.refl _ w).alloc _).trans h2⟩

end Acc

end Go.Proofs.Ytmdomkpdfmoboaa.Walk
