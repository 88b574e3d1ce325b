/- An acknowledgement comes into a link. Conditions: none beyond the statement's own. -/
import Derived.Test.YtmdomkpdfmoboaaWalkCome
import Derived.Test.YtmdomkpdfmoboaaArgs
import Derived.Deep.QuietTactic
import Derived.BigQuiet
import Derived.Lib.QuietBelow
import Derived.Outline
import Derived.Deep.RegionHeld3
import Derived.Deep.CutRange
namespace Go.Proofs.Ytmdomkpdfmoboaa.Walk
open Go.RowKit Go.Proofs.Ytmdomkpdfmoboaa.F Go.Proofs.YtmdomkpdfmoboaaW.PrintWords Go.Proofs.YtmdomkpdfmoboaaW.PrintLast Go.Proofs.YtmdomkpdfmoboaaW.PrintMore Go.Proofs.Ytmdomkpdfmoboaa.Open
open Go.Sort (grow)
attribute [local go_sem] max2_int min2_int max_two min_two max_three min_three max_four min_four
set_option linter.unusedVariables false
set_option linter.unusedSimpArgs false

/-! ### An acknowledgement comes -/
theorem lk_two {w : World} {S : Nat → Prop} {g gw gg : Nat} {s : LS} (h : LkB w S g gw gg s) (o o' : Obj) : LkB ((w.alloc o).alloc o') (fun k => S k ∧ k < w.heap.size) g gw gg s := h.bound.below (below_alloc (below_alloc (Below.refl _ _) _) _)
theorem bes_b {w W : World} {b j : Nat} {u : Value} (h : Beside (fun k => k = b) w W) : Beside (fun k => k = b) w (W.setCell ⟨b, j, none⟩ u) := h.setCell rfl _
def ackS (s : LS) (k : Nat) : LS := { s with L := s.L.drop k, tick := if 0 < k then s.now else s.tick }
theorem LkB.fin {w3 W : World} {S : Nat → Prop} {g gw gg n b : Nat} {s : LS} (h : LkB w3 (fun k => S k ∧ k < n) g gw gg s) (hB : Beside (fun k => k = b) w3 W) (hb : n ≤ b) : LkB W S g gw gg s :=
  LkB.mono (h.step (fun k hk hlt => hB.block k hlt (fun e => by have := hk.2; omega))) (fun k hk => hk.1)
set_option maxHeartbeats 4000000 in
set_option maxRecDepth 100000 in
theorem Come_ack {S : Nat → Prop} {g gw gg : Nat} {s : LS} (x : Fr) {A11 A12 A13 A14 A15 : Option Addr} {c11 c12 c13 c14 c15 : Nat} (k : Nat) (w : World) (h : LkB w S g gw gg s) (h1 : x.f0.f1 = s.peer) (h2 : x.f0.f2 = s.me) (h3 : x.f0.f0 = 2) (hs0 : 0 ≤ x.f2) (hs1 : x.f2 < 18446744073709551616) (hk : k = ackd s x.f2) :
    Calls Try.prog 13 #[.pointer (some ⟨g, 0, none⟩), .agg #[.int .u8 x.f0.f0, .int .u8 x.f0.f1, .int .u8 x.f0.f2, .int .u8 x.f1.f0, .int .u64 x.f1.f1, .int .u64 x.f2, .int .u32 x.f3, .int .u32 x.f4, .int .u32 x.f5, .int .u64 x.f6, .int .u64 x.f7, .slice A11 x.f8.length c11, .slice A12 x.f9.length c12, .slice A13 x.f10.length c13, .slice A14 x.f11.length c14, .slice A15 x.f12.length c15]] w fun e w' => e = .returned (.tuple #[.agg #[.int .u8 0, .int .u8 0, .int .u8 0, .int .u8 0, .int .u64 0, .int .u64 0, .int .u32 0, .int .u32 0, .int .u32 0, .int .u64 0, .int .u64 0, .slice none 0 0, .slice none 0 0, .slice none 0 0, .slice none 0 0, .slice none 0 0], .bool false]) ∧ LkB w' S g gw gg (ackS s k) ∧ Beside S w w' := by
  obtain ⟨w0, hw0⟩ : ∃ w0, w0 = (w.alloc (.cells #[.int .u8 x.f0.f0, .int .u8 x.f0.f1, .int .u8 x.f0.f2, .int .u8 x.f1.f0, .int .u64 x.f1.f1, .int .u64 x.f2, .int .u32 x.f3, .int .u32 x.f4, .int .u32 x.f5, .int .u64 x.f6, .int .u64 x.f7, .slice A11 x.f8.length c11, .slice A12 x.f9.length c12, .slice A13 x.f10.length c13, .slice A14 x.f11.length c14, .slice A15 x.f12.length c15] 39)).alloc (.cells #[.int .u8 0, .int .u8 0, .int .u8 0, .int .u8 0, .int .u64 0, .int .u64 0, .int .u32 0, .int .u32 0, .int .u32 0, .int .u64 0, .int .u64 0, .slice none 0 0, .slice none 0 0, .slice none 0 0, .slice none 0 0, .slice none 0 0] 39) := ⟨_, rfl⟩
  have L0 := Aside0.mk (lk_two h (.cells #[.int .u8 x.f0.f0, .int .u8 x.f0.f1, .int .u8 x.f0.f2, .int .u8 x.f1.f0, .int .u64 x.f1.f1, .int .u64 x.f2, .int .u32 x.f3, .int .u32 x.f4, .int .u32 x.f5, .int .u64 x.f6, .int .u64 x.f7, .slice A11 x.f8.length c11, .slice A12 x.f9.length c12, .slice A13 x.f10.length c13, .slice A14 x.f11.length c14, .slice A15 x.f12.length c15] 39) (.cells #[.int .u8 0, .int .u8 0, .int .u8 0, .int .u8 0, .int .u64 0, .int .u64 0, .int .u32 0, .int .u32 0, .int .u32 0, .int .u64 0, .int .u64 0, .slice none 0 0, .slice none 0 0, .slice none 0 0, .slice none 0 0, .slice none 0 0] 39))
  have BX : Aside0 (((w.alloc (.cells #[.int .u8 x.f0.f0, .int .u8 x.f0.f1, .int .u8 x.f0.f2, .int .u8 x.f1.f0, .int .u64 x.f1.f1, .int .u64 x.f2, .int .u32 x.f3, .int .u32 x.f4, .int .u32 x.f5, .int .u64 x.f6, .int .u64 x.f7, .slice A11 x.f8.length c11, .slice A12 x.f9.length c12, .slice A13 x.f10.length c13, .slice A14 x.f11.length c14, .slice A15 x.f12.length c15] 39)).alloc (.cells #[.int .u8 0, .int .u8 0, .int .u8 0, .int .u8 0, .int .u64 0, .int .u64 0, .int .u32 0, .int .u32 0, .int .u32 0, .int .u64 0, .int .u64 0, .slice none 0 0, .slice none 0 0, .slice none 0 0, .slice none 0 0, .slice none 0 0] 39)).heap[w.heap.size]? = some (.cells #[.int .u8 x.f0.f0, .int .u8 x.f0.f1, .int .u8 x.f0.f2, .int .u8 x.f1.f0, .int .u64 x.f1.f1, .int .u64 x.f2, .int .u32 x.f3, .int .u32 x.f4, .int .u32 x.f5, .int .u64 x.f6, .int .u64 x.f7, .slice A11 x.f8.length c11, .slice A12 x.f9.length c12, .slice A13 x.f10.length c13, .slice A14 x.f11.length c14, .slice A15 x.f12.length c15] 39 (0, 0))) := ⟨blk_alloc (blk_new w _) _⟩
  have BZ : Aside0 (((w.alloc (.cells #[.int .u8 x.f0.f0, .int .u8 x.f0.f1, .int .u8 x.f0.f2, .int .u8 x.f1.f0, .int .u64 x.f1.f1, .int .u64 x.f2, .int .u32 x.f3, .int .u32 x.f4, .int .u32 x.f5, .int .u64 x.f6, .int .u64 x.f7, .slice A11 x.f8.length c11, .slice A12 x.f9.length c12, .slice A13 x.f10.length c13, .slice A14 x.f11.length c14, .slice A15 x.f12.length c15] 39)).alloc (.cells #[.int .u8 0, .int .u8 0, .int .u8 0, .int .u8 0, .int .u64 0, .int .u64 0, .int .u32 0, .int .u32 0, .int .u32 0, .int .u64 0, .int .u64 0, .slice none 0 0, .slice none 0 0, .slice none 0 0, .slice none 0 0, .slice none 0 0] 39)).heap[w.heap.size + 1]? = some (.cells #[.int .u8 0, .int .u8 0, .int .u8 0, .int .u8 0, .int .u64 0, .int .u64 0, .int .u32 0, .int .u32 0, .int .u32 0, .int .u64 0, .int .u64 0, .slice none 0 0, .slice none 0 0, .slice none 0 0, .slice none 0 0, .slice none 0 0] 39 (0, 0))) := ⟨by have := blk_new (w.alloc (.cells #[.int .u8 x.f0.f0, .int .u8 x.f0.f1, .int .u8 x.f0.f2, .int .u8 x.f1.f0, .int .u64 x.f1.f1, .int .u64 x.f2, .int .u32 x.f3, .int .u32 x.f4, .int .u32 x.f5, .int .u64 x.f6, .int .u64 x.f7, .slice A11 x.f8.length c11, .slice A12 x.f9.length c12, .slice A13 x.f10.length c13, .slice A14 x.f11.length c14, .slice A15 x.f12.length c15] 39)) (.cells #[.int .u8 0, .int .u8 0, .int .u8 0, .int .u8 0, .int .u64 0, .int .u64 0, .int .u32 0, .int .u32 0, .int .u32 0, .int .u64 0, .int .u64 0, .slice none 0 0, .slice none 0 0, .slice none 0 0, .slice none 0 0, .slice none 0 0] 39); simpa using this⟩
  have B0 : Aside0 (Below w.heap.size w ((w.alloc (.cells #[.int .u8 x.f0.f0, .int .u8 x.f0.f1, .int .u8 x.f0.f2, .int .u8 x.f1.f0, .int .u64 x.f1.f1, .int .u64 x.f2, .int .u32 x.f3, .int .u32 x.f4, .int .u32 x.f5, .int .u64 x.f6, .int .u64 x.f7, .slice A11 x.f8.length c11, .slice A12 x.f9.length c12, .slice A13 x.f10.length c13, .slice A14 x.f11.length c14, .slice A15 x.f12.length c15] 39)).alloc (.cells #[.int .u8 0, .int .u8 0, .int .u8 0, .int .u8 0, .int .u64 0, .int .u64 0, .int .u32 0, .int .u32 0, .int .u32 0, .int .u64 0, .int .u64 0, .slice none 0 0, .slice none 0 0, .slice none 0 0, .slice none 0 0, .slice none 0 0] 39))) := ⟨below_alloc (below_alloc (Below.refl _ _) _) _⟩
  rw [← hw0] at L0 BX BZ B0
  have a2 : w0.cell? ⟨g, 2, none⟩ = some (.int .u8 s.me) := (blk_cell L0.out.blk 2).trans rfl
  have a3 : w0.cell? ⟨g, 3, none⟩ = some (.int .u8 s.peer) := (blk_cell L0.out.blk 3).trans rfl
  have d0 : w0.cell? ⟨w.heap.size, 0, none⟩ = some (.int .u8 2) := by rw [← h3]; exact (blk_cell BX.out 0).trans rfl
  have d1 : w0.cell? ⟨w.heap.size, 1, none⟩ = some (.int .u8 s.peer) := by rw [← h1]; exact (blk_cell BX.out 1).trans rfl
  have d2 : w0.cell? ⟨w.heap.size, 2, none⟩ = some (.int .u8 s.me) := by rw [← h2]; exact (blk_cell BX.out 2).trans rfl
  have SG := Aside0.mk h.S_g
  have XS := Aside0.mk (And.intro hs0 hs1)
  have HK := Aside0.mk hk
  have GL := Aside0.mk (blk_lt h.blk)
  clear h h1 h2 h3 hs0 hs1 hk
  go_enter Try.func13, Try.ntmps13
  go_upto_region 1 with (fail)
  rw [← hw0]
  have HW := Aside0.mk hw0
  clear hw0
  go_quiet (fail)
  obtain ⟨w1, hq⟩ : ∃ y, y = w0.drewN nq := ⟨_, rfl⟩
  rw [← hq]
  have hbq : Below w0.heap.size w0 w1 := by rw [hq]; exact pw_below_drewN (Below.refl _ _) _
  have L1 := Aside0.mk (L0.out.below hbq)
  have BX1 := Aside0.mk (blk_below BX.out hbq)
  have BZ1 := Aside0.mk (blk_below BZ.out hbq)
  have B1 := Aside0.mk (below_step B0.out hbq)
  have c0 : w1.cell? ⟨g, 0, none⟩ = some (.pointer (some ⟨gw, 0, none⟩)) := (blk_cell L1.out.blk 0).trans rfl
  have d5 : w1.cell? ⟨w.heap.size, 5, none⟩ = some (.int .u64 x.f2) := (blk_cell BX1.out 5).trans rfl
  have AK := Aside0.mk (Acked_calls x.f2 k w1.drew (L1.out.win.below (below_drew (Below.refl _ _))) XS.out.1 XS.out.2 HK.out)
  have d01 : w1.cell? ⟨w.heap.size, 0, none⟩ = some (.int .u8 2) := by rw [hq]; exact d0
  clear hq hbq a2 a3 d0 d1 d2 L0 BX BZ B0 HW
  by_cases hk0 : 0 < k
  · have hk0' : decide (0 < (k : Int)) = true := decide_eq_true (by omega)
    have hk1' : decide (0 < k) = true := decide_eq_true (by omega)
    have HK0 := Aside0.mk hk0
    clear hk0
    go_wp2_with fail
    go_region_held3 (fun w' => w'.cell? ⟨g, 0, none⟩ = some (.pointer (some ⟨gw, 0, none⟩)) ∧ w'.cell? ⟨w.heap.size, 5, none⟩ = some (.int .u64 x.f2)) (go_keep)
      ((go_at_call 34; refine AK.out.mono ?_; rintro e w2 ⟨rfl, hW, hb⟩; have W2 := Aside0.mk hW; have D2 : Aside0 (Beside (fun k => (S k ∧ k < w.heap.size) ∧ k ≠ g ∧ k ≠ gg) w1 w2) := ⟨⟨hb.os, hb.tape, hb.output, hb.size, hb.block⟩⟩; clear hW hb; have L2 := Aside0.mk (L1.out.win' W2.out D2.out); have y0 : w2.cell? ⟨g, 0, none⟩ = some (.pointer (some ⟨gw, 0, none⟩)) := (blk_cell L2.out.blk 0).trans rfl; have BX2 := Aside0.mk (D2.out.blk BX1.out (fun e => Nat.lt_irrefl _ e.1.2)); have y5 : w2.cell? ⟨w.heap.size, 5, none⟩ = some (.int .u64 x.f2) := (blk_cell BX2.out 5).trans rfl))
    have BZ2 := Aside0.mk (D2.out.blk BZ1.out (fun e => by have := e.1.2; omega))
    have B2 : Aside0 (Beside S w w2) := ⟨(Beside.of_below S B1.out).trans (D2.out.mono (fun k hk => hk.1.1))⟩
    clear y0 y5 AK W2 D2 c0 d5 L1 BX1 BZ1 B1
    have c7 : w2.cell? ⟨g, 7, none⟩ = some (.int .i64 s.now) := (blk_cell L2.out.blk 7).trans rfl
    have c6 : w2.cell? ⟨g, 6, none⟩ = some (.int .i64 s.tick) := (blk_cell L2.out.blk 6).trans rfl
    have z6 : w2.frozen? ⟨g, 6, none⟩ = false := blk_frozen L2.out.blk 6
    go_upto_region 10 with (fail)
    obtain ⟨w3, hw3⟩ : ∃ w3, w3 = w2.setCell ⟨g, 6, none⟩ (.int .i64 s.now) := ⟨_, rfl⟩
    rw [← hw3]
    have L3 : Aside0 (LkB w3 (fun k => S k ∧ k < w.heap.size) g gw gg (ackS s k)) := ⟨by
      unfold ackS
      rw [if_pos HK0.out, hw3]
      exact L2.out.upd (s' := { s with L := s.L.drop k, tick := s.now }) ((Beside.refl (fun k => k = g) w2).setCell rfl _) (blk_put L2.out.blk 6 _ rfl) ⟨L2.out.ok.me, L2.out.ok.peer, L2.out.ok.again, L2.out.ok.sent, L2.out.ok.now, L2.out.ok.now, L2.out.ok.u⟩ rfl rfl rfl rfl⟩
    have BZ3 : Aside0 (w3.heap[w.heap.size + 1]? = some (.cells #[.int .u8 0, .int .u8 0, .int .u8 0, .int .u8 0, .int .u64 0, .int .u64 0, .int .u32 0, .int .u32 0, .int .u32 0, .int .u64 0, .int .u64 0, .slice none 0 0, .slice none 0 0, .slice none 0 0, .slice none 0 0, .slice none 0 0] 39 (0, 0))) := ⟨by rw [hw3]; exact (Below.heap_setCell _ _ _ _ (by have := GL.out; show w.heap.size + 1 ≠ g; omega)).trans BZ2.out⟩
    have B3 : Aside0 (Beside S w w3) := ⟨by rw [hw3]; exact B2.out.setCell (p := ⟨g, 6, none⟩) SG.out _⟩
    clear c7 c6 z6 hw3 L2 BZ2 B2 BX2
    have n0 : w3.cell? ⟨w.heap.size + 1, 0, none⟩ = some (.int .u8 0) := (blk_cell BZ3.out 0).trans rfl
    have m0 : w3.frozen? ⟨w.heap.size + 1, 0, none⟩ = false := blk_frozen BZ3.out 0
    have n1 : w3.cell? ⟨w.heap.size + 1, 1, none⟩ = some (.int .u8 0) := (blk_cell BZ3.out 1).trans rfl
    have m1 : w3.frozen? ⟨w.heap.size + 1, 1, none⟩ = false := blk_frozen BZ3.out 1
    have n2 : w3.cell? ⟨w.heap.size + 1, 2, none⟩ = some (.int .u8 0) := (blk_cell BZ3.out 2).trans rfl
    have m2 : w3.frozen? ⟨w.heap.size + 1, 2, none⟩ = false := blk_frozen BZ3.out 2
    have n3 : w3.cell? ⟨w.heap.size + 1, 3, none⟩ = some (.int .u8 0) := (blk_cell BZ3.out 3).trans rfl
    have m3 : w3.frozen? ⟨w.heap.size + 1, 3, none⟩ = false := blk_frozen BZ3.out 3
    have n4 : w3.cell? ⟨w.heap.size + 1, 4, none⟩ = some (.int .u64 0) := (blk_cell BZ3.out 4).trans rfl
    have m4 : w3.frozen? ⟨w.heap.size + 1, 4, none⟩ = false := blk_frozen BZ3.out 4
    have n5 : w3.cell? ⟨w.heap.size + 1, 5, none⟩ = some (.int .u64 0) := (blk_cell BZ3.out 5).trans rfl
    have m5 : w3.frozen? ⟨w.heap.size + 1, 5, none⟩ = false := blk_frozen BZ3.out 5
    have n6 : w3.cell? ⟨w.heap.size + 1, 6, none⟩ = some (.int .u32 0) := (blk_cell BZ3.out 6).trans rfl
    have m6 : w3.frozen? ⟨w.heap.size + 1, 6, none⟩ = false := blk_frozen BZ3.out 6
    have n7 : w3.cell? ⟨w.heap.size + 1, 7, none⟩ = some (.int .u32 0) := (blk_cell BZ3.out 7).trans rfl
    have m7 : w3.frozen? ⟨w.heap.size + 1, 7, none⟩ = false := blk_frozen BZ3.out 7
    have n8 : w3.cell? ⟨w.heap.size + 1, 8, none⟩ = some (.int .u32 0) := (blk_cell BZ3.out 8).trans rfl
    have m8 : w3.frozen? ⟨w.heap.size + 1, 8, none⟩ = false := blk_frozen BZ3.out 8
    have n9 : w3.cell? ⟨w.heap.size + 1, 9, none⟩ = some (.int .u64 0) := (blk_cell BZ3.out 9).trans rfl
    have m9 : w3.frozen? ⟨w.heap.size + 1, 9, none⟩ = false := blk_frozen BZ3.out 9
    have n10 : w3.cell? ⟨w.heap.size + 1, 10, none⟩ = some (.int .u64 0) := (blk_cell BZ3.out 10).trans rfl
    have m10 : w3.frozen? ⟨w.heap.size + 1, 10, none⟩ = false := blk_frozen BZ3.out 10
    have n11 : w3.cell? ⟨w.heap.size + 1, 11, none⟩ = some (.slice none 0 0) := (blk_cell BZ3.out 11).trans rfl
    have m11 : w3.frozen? ⟨w.heap.size + 1, 11, none⟩ = false := blk_frozen BZ3.out 11
    have n12 : w3.cell? ⟨w.heap.size + 1, 12, none⟩ = some (.slice none 0 0) := (blk_cell BZ3.out 12).trans rfl
    have m12 : w3.frozen? ⟨w.heap.size + 1, 12, none⟩ = false := blk_frozen BZ3.out 12
    have n13 : w3.cell? ⟨w.heap.size + 1, 13, none⟩ = some (.slice none 0 0) := (blk_cell BZ3.out 13).trans rfl
    have m13 : w3.frozen? ⟨w.heap.size + 1, 13, none⟩ = false := blk_frozen BZ3.out 13
    have n14 : w3.cell? ⟨w.heap.size + 1, 14, none⟩ = some (.slice none 0 0) := (blk_cell BZ3.out 14).trans rfl
    have m14 : w3.frozen? ⟨w.heap.size + 1, 14, none⟩ = false := blk_frozen BZ3.out 14
    have n15 : w3.cell? ⟨w.heap.size + 1, 15, none⟩ = some (.slice none 0 0) := (blk_cell BZ3.out 15).trans rfl
    have m15 : w3.frozen? ⟨w.heap.size + 1, 15, none⟩ = false := blk_frozen BZ3.out 15
    go_wp2_with fail
    refine bodyPost_ret (v := .tuple #[.agg #[.int .u8 0, .int .u8 0, .int .u8 0, .int .u8 0, .int .u64 0, .int .u64 0, .int .u32 0, .int .u32 0, .int .u32 0, .int .u64 0, .int .u64 0, .slice none 0 0, .slice none 0 0, .slice none 0 0, .slice none 0 0, .slice none 0 0], .bool false]) (by simp [results, Try.results13, go_sem, n0, n1, n2, n3, n4, n5, n6, n7, n8, n9, n10, n11, n12, n13, n14, n15]) rfl ⟨rfl, ?_, ?_⟩
    · refine LkB.fin (b := w.heap.size + 1) L3.out ?_ (Nat.le_succ _)
      repeat (first | (with_reducible refine bes_b ?_) | (with_reducible exact Beside.refl _ _) | (with_reducible apply Beside.drewN) | (with_reducible apply Beside.drew))
    · refine Beside.then_ (S2 := fun k => k = w.heap.size + 1) B3.out ?_ (fun k hk => Or.inr (by omega))
      repeat (first | (with_reducible refine bes_b ?_) | (with_reducible exact Beside.refl _ _) | (with_reducible apply Beside.drewN) | (with_reducible apply Beside.drew))
  · have hk0' : decide (0 < (k : Int)) = false := decide_eq_false (by omega)
    have hk1' : decide (0 < k) = false := decide_eq_false (by omega)
    have HK0 := Aside0.mk hk0
    clear hk0
    go_wp2_with fail
    go_region_held3 (fun w' => w'.cell? ⟨g, 0, none⟩ = some (.pointer (some ⟨gw, 0, none⟩)) ∧ w'.cell? ⟨w.heap.size, 5, none⟩ = some (.int .u64 x.f2)) (go_keep)
      ((go_at_call 34; refine AK.out.mono ?_; rintro e w2 ⟨rfl, hW, hb⟩; have W2 := Aside0.mk hW; have D2 : Aside0 (Beside (fun k => (S k ∧ k < w.heap.size) ∧ k ≠ g ∧ k ≠ gg) w1 w2) := ⟨⟨hb.os, hb.tape, hb.output, hb.size, hb.block⟩⟩; clear hW hb; have L2 := Aside0.mk (L1.out.win' W2.out D2.out); have y0 : w2.cell? ⟨g, 0, none⟩ = some (.pointer (some ⟨gw, 0, none⟩)) := (blk_cell L2.out.blk 0).trans rfl; have BX2 := Aside0.mk (D2.out.blk BX1.out (fun e => Nat.lt_irrefl _ e.1.2)); have y5 : w2.cell? ⟨w.heap.size, 5, none⟩ = some (.int .u64 x.f2) := (blk_cell BX2.out 5).trans rfl))
    have BZ2 := Aside0.mk (D2.out.blk BZ1.out (fun e => by have := e.1.2; omega))
    have B2 : Aside0 (Beside S w w2) := ⟨(Beside.of_below S B1.out).trans (D2.out.mono (fun k hk => hk.1.1))⟩
    clear y0 y5 AK W2 D2 c0 d5 L1 BX1 BZ1 B1
    have L3 : Aside0 (LkB w2 (fun k => S k ∧ k < w.heap.size) g gw gg (ackS s k)) := ⟨by unfold ackS; rw [if_neg HK0.out]; exact L2.out⟩
    go_upto_region 10 with (fail)
    have BZ3 := BZ2
    have B3 := B2
    clear BZ2 B2 BX2 L2
    have n0 : w2.cell? ⟨w.heap.size + 1, 0, none⟩ = some (.int .u8 0) := (blk_cell BZ3.out 0).trans rfl
    have m0 : w2.frozen? ⟨w.heap.size + 1, 0, none⟩ = false := blk_frozen BZ3.out 0
    have n1 : w2.cell? ⟨w.heap.size + 1, 1, none⟩ = some (.int .u8 0) := (blk_cell BZ3.out 1).trans rfl
    have m1 : w2.frozen? ⟨w.heap.size + 1, 1, none⟩ = false := blk_frozen BZ3.out 1
    have n2 : w2.cell? ⟨w.heap.size + 1, 2, none⟩ = some (.int .u8 0) := (blk_cell BZ3.out 2).trans rfl
    have m2 : w2.frozen? ⟨w.heap.size + 1, 2, none⟩ = false := blk_frozen BZ3.out 2
    have n3 : w2.cell? ⟨w.heap.size + 1, 3, none⟩ = some (.int .u8 0) := (blk_cell BZ3.out 3).trans rfl
    have m3 : w2.frozen? ⟨w.heap.size + 1, 3, none⟩ = false := blk_frozen BZ3.out 3
    have n4 : w2.cell? ⟨w.heap.size + 1, 4, none⟩ = some (.int .u64 0) := (blk_cell BZ3.out 4).trans rfl
    have m4 : w2.frozen? ⟨w.heap.size + 1, 4, none⟩ = false := blk_frozen BZ3.out 4
    have n5 : w2.cell? ⟨w.heap.size + 1, 5, none⟩ = some (.int .u64 0) := (blk_cell BZ3.out 5).trans rfl
    have m5 : w2.frozen? ⟨w.heap.size + 1, 5, none⟩ = false := blk_frozen BZ3.out 5
    have n6 : w2.cell? ⟨w.heap.size + 1, 6, none⟩ = some (.int .u32 0) := (blk_cell BZ3.out 6).trans rfl
    have m6 : w2.frozen? ⟨w.heap.size + 1, 6, none⟩ = false := blk_frozen BZ3.out 6
    have n7 : w2.cell? ⟨w.heap.size + 1, 7, none⟩ = some (.int .u32 0) := (blk_cell BZ3.out 7).trans rfl
    have m7 : w2.frozen? ⟨w.heap.size + 1, 7, none⟩ = false := blk_frozen BZ3.out 7
    have n8 : w2.cell? ⟨w.heap.size + 1, 8, none⟩ = some (.int .u32 0) := (blk_cell BZ3.out 8).trans rfl
    have m8 : w2.frozen? ⟨w.heap.size + 1, 8, none⟩ = false := blk_frozen BZ3.out 8
    have n9 : w2.cell? ⟨w.heap.size + 1, 9, none⟩ = some (.int .u64 0) := (blk_cell BZ3.out 9).trans rfl
    have m9 : w2.frozen? ⟨w.heap.size + 1, 9, none⟩ = false := blk_frozen BZ3.out 9
    have n10 : w2.cell? ⟨w.heap.size + 1, 10, none⟩ = some (.int .u64 0) := (blk_cell BZ3.out 10).trans rfl
    have m10 : w2.frozen? ⟨w.heap.size + 1, 10, none⟩ = false := blk_frozen BZ3.out 10
    have n11 : w2.cell? ⟨w.heap.size + 1, 11, none⟩ = some (.slice none 0 0) := (blk_cell BZ3.out 11).trans rfl
    have m11 : w2.frozen? ⟨w.heap.size + 1, 11, none⟩ = false := blk_frozen BZ3.out 11
    have n12 : w2.cell? ⟨w.heap.size + 1, 12, none⟩ = some (.slice none 0 0) := (blk_cell BZ3.out 12).trans rfl
    have m12 : w2.frozen? ⟨w.heap.size + 1, 12, none⟩ = false := blk_frozen BZ3.out 12
    have n13 : w2.cell? ⟨w.heap.size + 1, 13, none⟩ = some (.slice none 0 0) := (blk_cell BZ3.out 13).trans rfl
    have m13 : w2.frozen? ⟨w.heap.size + 1, 13, none⟩ = false := blk_frozen BZ3.out 13
    have n14 : w2.cell? ⟨w.heap.size + 1, 14, none⟩ = some (.slice none 0 0) := (blk_cell BZ3.out 14).trans rfl
    have m14 : w2.frozen? ⟨w.heap.size + 1, 14, none⟩ = false := blk_frozen BZ3.out 14
    have n15 : w2.cell? ⟨w.heap.size + 1, 15, none⟩ = some (.slice none 0 0) := (blk_cell BZ3.out 15).trans rfl
    have m15 : w2.frozen? ⟨w.heap.size + 1, 15, none⟩ = false := blk_frozen BZ3.out 15
    go_wp2_with fail
    refine bodyPost_ret (v := .tuple #[.agg #[.int .u8 0, .int .u8 0, .int .u8 0, .int .u8 0, .int .u64 0, .int .u64 0, .int .u32 0, .int .u32 0, .int .u32 0, .int .u64 0, .int .u64 0, .slice none 0 0, .slice none 0 0, .slice none 0 0, .slice none 0 0, .slice none 0 0], .bool false]) (by simp [results, Try.results13, go_sem, n0, n1, n2, n3, n4, n5, n6, n7, n8, n9, n10, n11, n12, n13, n14, n15]) rfl ⟨rfl, ?_, ?_⟩
    · refine LkB.fin (b := w.heap.size + 1) L3.out ?_ (Nat.le_succ _)
      repeat (first | (with_reducible refine bes_b ?_) | (with_reducible exact Beside.refl _ _) | (with_reducible apply Beside.drewN) | (with_reducible apply Beside.drew))
    · refine Beside.then_ (S2 := fun k => k = w.heap.size + 1) B3.out ?_ (fun k hk => Or.inr (by omega))
      repeat (first | (with_reducible refine bes_b ?_) | (with_reducible exact Beside.refl _ _) | (with_reducible apply Beside.drewN) | (with_reducible apply Beside.drew))

end Go.Proofs.Ytmdomkpdfmoboaa.Walk
