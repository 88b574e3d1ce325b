/- A chunk comes into a link. Conditions: none beyond the statement's own. -/
import Derived.Test.YtmdomkpdfmoboaaWalkComeA
import Derived.Test.YtmdomkpdfmoboaaArgs
import Derived.Deep.QuietTactic
import Derived.BigQuiet
import Derived.Lib.QuietBelow
import Derived.Outline
import Derived.Deep.RegionHeld3
import Derived.Deep.CutRange
namespace Go.Proofs.Ytmdomkpdfmoboaa.Walk
open Go.RowKit Go.Proofs.Ytmdomkpdfmoboaa.F Go.Proofs.YtmdomkpdfmoboaaW.PrintWords Go.Proofs.YtmdomkpdfmoboaaW.PrintLast Go.Proofs.YtmdomkpdfmoboaaW.PrintMore Go.Proofs.Ytmdomkpdfmoboaa.Open
open Go.Sort (grow)
attribute [local go_sem] max2_int min2_int max_two min_two max_three min_three max_four min_four
set_option linter.unusedVariables false
set_option linter.unusedSimpArgs false

/-! ### A chunk comes -/
set_option maxHeartbeats 4000000 in
set_option maxRecDepth 100000 in
theorem Come_take {S : Nat → Prop} {g gw gg : Nat} {s : LS} (x : Fr) {A11 A12 A13 A14 A15 : Option Addr} {c11 c12 c13 c14 c15 : Nat} (w : World) (h : LkB w S g gw gg s) (h1 : x.f0.f1 = s.peer) (h2 : x.f0.f2 = s.me) (h3 : x.f0.f0 = 1) (hs0 : 0 ≤ x.f2) (hs1 : x.f2 < 18446744073709551616) (hq1 : (Acc.took s.gs x.f2).2 = 1) :
    Calls Try.prog 13 #[.pointer (some ⟨g, 0, none⟩), .agg #[.int .u8 x.f0.f0, .int .u8 x.f0.f1, .int .u8 x.f0.f2, .int .u8 x.f1.f0, .int .u64 x.f1.f1, .int .u64 x.f2, .int .u32 x.f3, .int .u32 x.f4, .int .u32 x.f5, .int .u64 x.f6, .int .u64 x.f7, .slice A11 x.f8.length c11, .slice A12 x.f9.length c12, .slice A13 x.f10.length c13, .slice A14 x.f11.length c14, .slice A15 x.f12.length c15]] w fun e w' => e = .returned (.tuple #[.agg #[.int .u8 x.f0.f0, .int .u8 x.f0.f1, .int .u8 x.f0.f2, .int .u8 x.f1.f0, .int .u64 x.f1.f1, .int .u64 x.f2, .int .u32 x.f3, .int .u32 x.f4, .int .u32 x.f5, .int .u64 x.f6, .int .u64 x.f7, .slice A11 x.f8.length c11, .slice A12 x.f9.length c12, .slice A13 x.f10.length c13, .slice A14 x.f11.length c14, .slice A15 x.f12.length c15], .bool true]) ∧ LkB w' S g gw gg { s with gs := (Acc.took s.gs x.f2).1 } ∧ Beside S w w' := by
  obtain ⟨w0, hw0⟩ : ∃ w0, w0 = (w.alloc (.cells #[.int .u8 x.f0.f0, .int .u8 x.f0.f1, .int .u8 x.f0.f2, .int .u8 x.f1.f0, .int .u64 x.f1.f1, .int .u64 x.f2, .int .u32 x.f3, .int .u32 x.f4, .int .u32 x.f5, .int .u64 x.f6, .int .u64 x.f7, .slice A11 x.f8.length c11, .slice A12 x.f9.length c12, .slice A13 x.f10.length c13, .slice A14 x.f11.length c14, .slice A15 x.f12.length c15] 39)).alloc (.cells #[.int .u8 0, .int .u8 0, .int .u8 0, .int .u8 0, .int .u64 0, .int .u64 0, .int .u32 0, .int .u32 0, .int .u32 0, .int .u64 0, .int .u64 0, .slice none 0 0, .slice none 0 0, .slice none 0 0, .slice none 0 0, .slice none 0 0] 39) := ⟨_, rfl⟩
  have L0 := Aside0.mk (lk_two h (.cells #[.int .u8 x.f0.f0, .int .u8 x.f0.f1, .int .u8 x.f0.f2, .int .u8 x.f1.f0, .int .u64 x.f1.f1, .int .u64 x.f2, .int .u32 x.f3, .int .u32 x.f4, .int .u32 x.f5, .int .u64 x.f6, .int .u64 x.f7, .slice A11 x.f8.length c11, .slice A12 x.f9.length c12, .slice A13 x.f10.length c13, .slice A14 x.f11.length c14, .slice A15 x.f12.length c15] 39) (.cells #[.int .u8 0, .int .u8 0, .int .u8 0, .int .u8 0, .int .u64 0, .int .u64 0, .int .u32 0, .int .u32 0, .int .u32 0, .int .u64 0, .int .u64 0, .slice none 0 0, .slice none 0 0, .slice none 0 0, .slice none 0 0, .slice none 0 0] 39))
  have BX : Aside0 (((w.alloc (.cells #[.int .u8 x.f0.f0, .int .u8 x.f0.f1, .int .u8 x.f0.f2, .int .u8 x.f1.f0, .int .u64 x.f1.f1, .int .u64 x.f2, .int .u32 x.f3, .int .u32 x.f4, .int .u32 x.f5, .int .u64 x.f6, .int .u64 x.f7, .slice A11 x.f8.length c11, .slice A12 x.f9.length c12, .slice A13 x.f10.length c13, .slice A14 x.f11.length c14, .slice A15 x.f12.length c15] 39)).alloc (.cells #[.int .u8 0, .int .u8 0, .int .u8 0, .int .u8 0, .int .u64 0, .int .u64 0, .int .u32 0, .int .u32 0, .int .u32 0, .int .u64 0, .int .u64 0, .slice none 0 0, .slice none 0 0, .slice none 0 0, .slice none 0 0, .slice none 0 0] 39)).heap[w.heap.size]? = some (.cells #[.int .u8 x.f0.f0, .int .u8 x.f0.f1, .int .u8 x.f0.f2, .int .u8 x.f1.f0, .int .u64 x.f1.f1, .int .u64 x.f2, .int .u32 x.f3, .int .u32 x.f4, .int .u32 x.f5, .int .u64 x.f6, .int .u64 x.f7, .slice A11 x.f8.length c11, .slice A12 x.f9.length c12, .slice A13 x.f10.length c13, .slice A14 x.f11.length c14, .slice A15 x.f12.length c15] 39 (0, 0))) := ⟨blk_alloc (blk_new w _) _⟩
  have BZ : Aside0 (((w.alloc (.cells #[.int .u8 x.f0.f0, .int .u8 x.f0.f1, .int .u8 x.f0.f2, .int .u8 x.f1.f0, .int .u64 x.f1.f1, .int .u64 x.f2, .int .u32 x.f3, .int .u32 x.f4, .int .u32 x.f5, .int .u64 x.f6, .int .u64 x.f7, .slice A11 x.f8.length c11, .slice A12 x.f9.length c12, .slice A13 x.f10.length c13, .slice A14 x.f11.length c14, .slice A15 x.f12.length c15] 39)).alloc (.cells #[.int .u8 0, .int .u8 0, .int .u8 0, .int .u8 0, .int .u64 0, .int .u64 0, .int .u32 0, .int .u32 0, .int .u32 0, .int .u64 0, .int .u64 0, .slice none 0 0, .slice none 0 0, .slice none 0 0, .slice none 0 0, .slice none 0 0] 39)).heap[w.heap.size + 1]? = some (.cells #[.int .u8 0, .int .u8 0, .int .u8 0, .int .u8 0, .int .u64 0, .int .u64 0, .int .u32 0, .int .u32 0, .int .u32 0, .int .u64 0, .int .u64 0, .slice none 0 0, .slice none 0 0, .slice none 0 0, .slice none 0 0, .slice none 0 0] 39 (0, 0))) := ⟨by have := blk_new (w.alloc (.cells #[.int .u8 x.f0.f0, .int .u8 x.f0.f1, .int .u8 x.f0.f2, .int .u8 x.f1.f0, .int .u64 x.f1.f1, .int .u64 x.f2, .int .u32 x.f3, .int .u32 x.f4, .int .u32 x.f5, .int .u64 x.f6, .int .u64 x.f7, .slice A11 x.f8.length c11, .slice A12 x.f9.length c12, .slice A13 x.f10.length c13, .slice A14 x.f11.length c14, .slice A15 x.f12.length c15] 39)) (.cells #[.int .u8 0, .int .u8 0, .int .u8 0, .int .u8 0, .int .u64 0, .int .u64 0, .int .u32 0, .int .u32 0, .int .u32 0, .int .u64 0, .int .u64 0, .slice none 0 0, .slice none 0 0, .slice none 0 0, .slice none 0 0, .slice none 0 0] 39); simpa using this⟩
  have B0 : Aside0 (Below w.heap.size w ((w.alloc (.cells #[.int .u8 x.f0.f0, .int .u8 x.f0.f1, .int .u8 x.f0.f2, .int .u8 x.f1.f0, .int .u64 x.f1.f1, .int .u64 x.f2, .int .u32 x.f3, .int .u32 x.f4, .int .u32 x.f5, .int .u64 x.f6, .int .u64 x.f7, .slice A11 x.f8.length c11, .slice A12 x.f9.length c12, .slice A13 x.f10.length c13, .slice A14 x.f11.length c14, .slice A15 x.f12.length c15] 39)).alloc (.cells #[.int .u8 0, .int .u8 0, .int .u8 0, .int .u8 0, .int .u64 0, .int .u64 0, .int .u32 0, .int .u32 0, .int .u32 0, .int .u64 0, .int .u64 0, .slice none 0 0, .slice none 0 0, .slice none 0 0, .slice none 0 0, .slice none 0 0] 39))) := ⟨below_alloc (below_alloc (Below.refl _ _) _) _⟩
  rw [← hw0] at L0 BX BZ B0
  have a2 : w0.cell? ⟨g, 2, none⟩ = some (.int .u8 s.me) := (blk_cell L0.out.blk 2).trans rfl
  have a3 : w0.cell? ⟨g, 3, none⟩ = some (.int .u8 s.peer) := (blk_cell L0.out.blk 3).trans rfl
  have d0 : w0.cell? ⟨w.heap.size, 0, none⟩ = some (.int .u8 1) := by rw [← h3]; exact (blk_cell BX.out 0).trans rfl
  have d1 : w0.cell? ⟨w.heap.size, 1, none⟩ = some (.int .u8 s.peer) := by rw [← h1]; exact (blk_cell BX.out 1).trans rfl
  have d2 : w0.cell? ⟨w.heap.size, 2, none⟩ = some (.int .u8 s.me) := by rw [← h2]; exact (blk_cell BX.out 2).trans rfl
  have SG := Aside0.mk h.S_g
  have XS := Aside0.mk (And.intro hs0 hs1)
  have GL := Aside0.mk (blk_lt h.blk)
  have h1' : x.f0.f1 = s.peer := h1
  have h2' : x.f0.f2 = s.me := h2
  have h3' : x.f0.f0 = 1 := h3
  have HE0 := Aside0.mk h3'
  have HE1 := Aside0.mk h1'
  have HE2 := Aside0.mk h2'
  clear h h1 h2 h3 hs0 hs1 h1' h2' h3'
  go_enter Try.func13, Try.ntmps13
  go_upto_region 1 with (fail)
  rw [← hw0]
  have HW := Aside0.mk hw0
  clear hw0
  go_quiet (fail)
  obtain ⟨w1, hq⟩ : ∃ y, y = w0.drewN nq := ⟨_, rfl⟩
  rw [← hq]
  have hbq : Below w0.heap.size w0 w1 := by rw [hq]; exact pw_below_drewN (Below.refl _ _) _
  have L1 := Aside0.mk (L0.out.below hbq)
  have BX1 := Aside0.mk (blk_below BX.out hbq)
  have BZ1 := Aside0.mk (blk_below BZ.out hbq)
  have B1 := Aside0.mk (below_step B0.out hbq)
  have c1 : w1.cell? ⟨g, 1, none⟩ = some (.pointer (some ⟨gg, 0, none⟩)) := (blk_cell L1.out.blk 1).trans rfl
  have d5 : w1.cell? ⟨w.heap.size, 5, none⟩ = some (.int .u64 x.f2) := (blk_cell BX1.out 5).trans rfl
  have d01 : w1.cell? ⟨w.heap.size, 0, none⟩ = some (.int .u8 1) := by rw [hq]; exact d0
  clear hq hbq a2 a3 d0 d1 d2 L0 BX BZ B0 HW
  have TK := Aside0.mk (fun e => Acc.Take1_calls gg s.gs x.f2 e w1.drew (L1.out.below (below_drew (Below.refl _ _))).gate L1.out.ok.u XS.out)
  have HU := Aside0.mk (Acc.took_ok (n := x.f2) L1.out.ok.u XS.out)
  generalize hg1 : (Acc.took s.gs x.f2).1 = s1 at *
  generalize hg2 : (Acc.took s.gs x.f2).2 = q at *
  have HG := Aside0.mk hg1
  clear hg1 hg2
  have e_ : (q == 1) = true := by simpa using hq1
  clear hq1
  go_wp2_with fail
  go_region_held3 (fun w' => w'.cell? ⟨g, 1, none⟩ = some (.pointer (some ⟨gg, 0, none⟩)) ∧ w'.cell? ⟨w.heap.size, 5, none⟩ = some (.int .u64 x.f2)) (go_keep)
    ((go_at_call 35; refine (TK.out _).mono ?_; rintro e w2 ⟨rfl, hW, hb⟩; have D2 : Aside0 (Beside (fun k => k = gg) w1 w2) := ⟨⟨hb.os, hb.tape, hb.output, hb.size, hb.block⟩⟩; have L2 := Aside0.mk (L1.out.gt D2.out hW HU.out); clear hW hb; have y1 : w2.cell? ⟨g, 1, none⟩ = some (.pointer (some ⟨gg, 0, none⟩)) := (blk_cell L2.out.blk 1).trans rfl; have BX2 := Aside0.mk (D2.out.blk BX1.out (fun e => by have := L1.out.S_gg.2; omega)); have y5 : w2.cell? ⟨w.heap.size, 5, none⟩ = some (.int .u64 x.f2) := (blk_cell BX2.out 5).trans rfl))
  · have BZ3 := Aside0.mk (D2.out.blk BZ1.out (fun e => by have := L1.out.S_gg.2; omega))
    have B3 : Aside0 (Beside S w w2) := ⟨(Beside.of_below S B1.out).trans (D2.out.mono (fun k hk => hk ▸ L1.out.S_gg.1))⟩
    have L3 := L2
    clear y1 y5 TK D2 c1 d5 L1 L2 BX1 BZ1 B1 HU
    go_upto_region 9 with (fail)
    have x0 : w2.cell? ⟨w.heap.size, 0, none⟩ = some (.int .u8 1) := by have h_ : w2.cell? ⟨w.heap.size, 0, none⟩ = some (.int .u8 x.f0.f0) := (blk_cell BX2.out 0).trans rfl; rw [HE0.out] at h_; exact h_
    have x1 : w2.cell? ⟨w.heap.size, 1, none⟩ = some (.int .u8 s.peer) := by have h_ : w2.cell? ⟨w.heap.size, 1, none⟩ = some (.int .u8 x.f0.f1) := (blk_cell BX2.out 1).trans rfl; rw [HE1.out] at h_; exact h_
    have x2 : w2.cell? ⟨w.heap.size, 2, none⟩ = some (.int .u8 s.me) := by have h_ : w2.cell? ⟨w.heap.size, 2, none⟩ = some (.int .u8 x.f0.f2) := (blk_cell BX2.out 2).trans rfl; rw [HE2.out] at h_; exact h_
    have x3 : w2.cell? ⟨w.heap.size, 3, none⟩ = some (.int .u8 x.f1.f0) := (blk_cell BX2.out 3).trans rfl
    have x4 : w2.cell? ⟨w.heap.size, 4, none⟩ = some (.int .u64 x.f1.f1) := (blk_cell BX2.out 4).trans rfl
    have x5 : w2.cell? ⟨w.heap.size, 5, none⟩ = some (.int .u64 x.f2) := (blk_cell BX2.out 5).trans rfl
    have x6 : w2.cell? ⟨w.heap.size, 6, none⟩ = some (.int .u32 x.f3) := (blk_cell BX2.out 6).trans rfl
    have x7 : w2.cell? ⟨w.heap.size, 7, none⟩ = some (.int .u32 x.f4) := (blk_cell BX2.out 7).trans rfl
    have x8 : w2.cell? ⟨w.heap.size, 8, none⟩ = some (.int .u32 x.f5) := (blk_cell BX2.out 8).trans rfl
    have x9 : w2.cell? ⟨w.heap.size, 9, none⟩ = some (.int .u64 x.f6) := (blk_cell BX2.out 9).trans rfl
    have x10 : w2.cell? ⟨w.heap.size, 10, none⟩ = some (.int .u64 x.f7) := (blk_cell BX2.out 10).trans rfl
    have x11 : w2.cell? ⟨w.heap.size, 11, none⟩ = some (.slice A11 x.f8.length c11) := (blk_cell BX2.out 11).trans rfl
    have x12 : w2.cell? ⟨w.heap.size, 12, none⟩ = some (.slice A12 x.f9.length c12) := (blk_cell BX2.out 12).trans rfl
    have x13 : w2.cell? ⟨w.heap.size, 13, none⟩ = some (.slice A13 x.f10.length c13) := (blk_cell BX2.out 13).trans rfl
    have x14 : w2.cell? ⟨w.heap.size, 14, none⟩ = some (.slice A14 x.f11.length c14) := (blk_cell BX2.out 14).trans rfl
    have x15 : w2.cell? ⟨w.heap.size, 15, none⟩ = some (.slice A15 x.f12.length c15) := (blk_cell BX2.out 15).trans rfl
    have n0 : w2.cell? ⟨w.heap.size + 1, 0, none⟩ = some (.int .u8 0) := (blk_cell BZ3.out 0).trans rfl
    have m0 : w2.frozen? ⟨w.heap.size + 1, 0, none⟩ = false := blk_frozen BZ3.out 0
    have n1 : w2.cell? ⟨w.heap.size + 1, 1, none⟩ = some (.int .u8 0) := (blk_cell BZ3.out 1).trans rfl
    have m1 : w2.frozen? ⟨w.heap.size + 1, 1, none⟩ = false := blk_frozen BZ3.out 1
    have n2 : w2.cell? ⟨w.heap.size + 1, 2, none⟩ = some (.int .u8 0) := (blk_cell BZ3.out 2).trans rfl
    have m2 : w2.frozen? ⟨w.heap.size + 1, 2, none⟩ = false := blk_frozen BZ3.out 2
    have n3 : w2.cell? ⟨w.heap.size + 1, 3, none⟩ = some (.int .u8 0) := (blk_cell BZ3.out 3).trans rfl
    have m3 : w2.frozen? ⟨w.heap.size + 1, 3, none⟩ = false := blk_frozen BZ3.out 3
    have n4 : w2.cell? ⟨w.heap.size + 1, 4, none⟩ = some (.int .u64 0) := (blk_cell BZ3.out 4).trans rfl
    have m4 : w2.frozen? ⟨w.heap.size + 1, 4, none⟩ = false := blk_frozen BZ3.out 4
    have n5 : w2.cell? ⟨w.heap.size + 1, 5, none⟩ = some (.int .u64 0) := (blk_cell BZ3.out 5).trans rfl
    have m5 : w2.frozen? ⟨w.heap.size + 1, 5, none⟩ = false := blk_frozen BZ3.out 5
    have n6 : w2.cell? ⟨w.heap.size + 1, 6, none⟩ = some (.int .u32 0) := (blk_cell BZ3.out 6).trans rfl
    have m6 : w2.frozen? ⟨w.heap.size + 1, 6, none⟩ = false := blk_frozen BZ3.out 6
    have n7 : w2.cell? ⟨w.heap.size + 1, 7, none⟩ = some (.int .u32 0) := (blk_cell BZ3.out 7).trans rfl
    have m7 : w2.frozen? ⟨w.heap.size + 1, 7, none⟩ = false := blk_frozen BZ3.out 7
    have n8 : w2.cell? ⟨w.heap.size + 1, 8, none⟩ = some (.int .u32 0) := (blk_cell BZ3.out 8).trans rfl
    have m8 : w2.frozen? ⟨w.heap.size + 1, 8, none⟩ = false := blk_frozen BZ3.out 8
    have n9 : w2.cell? ⟨w.heap.size + 1, 9, none⟩ = some (.int .u64 0) := (blk_cell BZ3.out 9).trans rfl
    have m9 : w2.frozen? ⟨w.heap.size + 1, 9, none⟩ = false := blk_frozen BZ3.out 9
    have n10 : w2.cell? ⟨w.heap.size + 1, 10, none⟩ = some (.int .u64 0) := (blk_cell BZ3.out 10).trans rfl
    have m10 : w2.frozen? ⟨w.heap.size + 1, 10, none⟩ = false := blk_frozen BZ3.out 10
    have n11 : w2.cell? ⟨w.heap.size + 1, 11, none⟩ = some (.slice none 0 0) := (blk_cell BZ3.out 11).trans rfl
    have m11 : w2.frozen? ⟨w.heap.size + 1, 11, none⟩ = false := blk_frozen BZ3.out 11
    have n12 : w2.cell? ⟨w.heap.size + 1, 12, none⟩ = some (.slice none 0 0) := (blk_cell BZ3.out 12).trans rfl
    have m12 : w2.frozen? ⟨w.heap.size + 1, 12, none⟩ = false := blk_frozen BZ3.out 12
    have n13 : w2.cell? ⟨w.heap.size + 1, 13, none⟩ = some (.slice none 0 0) := (blk_cell BZ3.out 13).trans rfl
    have m13 : w2.frozen? ⟨w.heap.size + 1, 13, none⟩ = false := blk_frozen BZ3.out 13
    have n14 : w2.cell? ⟨w.heap.size + 1, 14, none⟩ = some (.slice none 0 0) := (blk_cell BZ3.out 14).trans rfl
    have m14 : w2.frozen? ⟨w.heap.size + 1, 14, none⟩ = false := blk_frozen BZ3.out 14
    have n15 : w2.cell? ⟨w.heap.size + 1, 15, none⟩ = some (.slice none 0 0) := (blk_cell BZ3.out 15).trans rfl
    have m15 : w2.frozen? ⟨w.heap.size + 1, 15, none⟩ = false := blk_frozen BZ3.out 15
    go_wp2_with fail
    refine bodyPost_ret (v := .tuple #[.agg #[.int .u8 x.f0.f0, .int .u8 x.f0.f1, .int .u8 x.f0.f2, .int .u8 x.f1.f0, .int .u64 x.f1.f1, .int .u64 x.f2, .int .u32 x.f3, .int .u32 x.f4, .int .u32 x.f5, .int .u64 x.f6, .int .u64 x.f7, .slice A11 x.f8.length c11, .slice A12 x.f9.length c12, .slice A13 x.f10.length c13, .slice A14 x.f11.length c14, .slice A15 x.f12.length c15], .bool true]) (by simp [results, Try.results13, go_sem, HE0.out, HE1.out, HE2.out, n0, n1, n2, n3, n4, n5, n6, n7, n8, n9, n10, n11, n12, n13, n14, n15]) rfl ⟨rfl, ?_, ?_⟩
    · have L4 := L3.out
      rw [← HG.out] at L4
      refine LkB.fin (b := w.heap.size + 1) L4 ?_ (Nat.le_succ _)
      repeat (first | (with_reducible refine bes_b ?_) | (with_reducible exact Beside.refl _ _) | (with_reducible apply Beside.drewN) | (with_reducible apply Beside.drew))
    · refine Beside.then_ (S2 := fun k => k = w.heap.size + 1) B3.out ?_ (fun k hk => Or.inr (by omega))
      repeat (first | (with_reducible refine bes_b ?_) | (with_reducible exact Beside.refl _ _) | (with_reducible apply Beside.drewN) | (with_reducible apply Beside.drew))
set_option maxHeartbeats 4000000 in
set_option maxRecDepth 100000 in
theorem Come_shut {S : Nat → Prop} {g gw gg : Nat} {s : LS} (x : Fr) {A11 A12 A13 A14 A15 : Option Addr} {c11 c12 c13 c14 c15 : Nat} (w : World) (h : LkB w S g gw gg s) (h1 : x.f0.f1 = s.peer) (h2 : x.f0.f2 = s.me) (h3 : x.f0.f0 = 1) (hs0 : 0 ≤ x.f2) (hs1 : x.f2 < 18446744073709551616) (hq1 : ¬ (Acc.took s.gs x.f2).2 = 1) :
    Calls Try.prog 13 #[.pointer (some ⟨g, 0, none⟩), .agg #[.int .u8 x.f0.f0, .int .u8 x.f0.f1, .int .u8 x.f0.f2, .int .u8 x.f1.f0, .int .u64 x.f1.f1, .int .u64 x.f2, .int .u32 x.f3, .int .u32 x.f4, .int .u32 x.f5, .int .u64 x.f6, .int .u64 x.f7, .slice A11 x.f8.length c11, .slice A12 x.f9.length c12, .slice A13 x.f10.length c13, .slice A14 x.f11.length c14, .slice A15 x.f12.length c15]] w fun e w' => e = .returned (.tuple #[.agg #[.int .u8 0, .int .u8 0, .int .u8 0, .int .u8 0, .int .u64 0, .int .u64 0, .int .u32 0, .int .u32 0, .int .u32 0, .int .u64 0, .int .u64 0, .slice none 0 0, .slice none 0 0, .slice none 0 0, .slice none 0 0, .slice none 0 0], .bool false]) ∧ LkB w' S g gw gg { s with gs := (Acc.took s.gs x.f2).1 } ∧ Beside S w w' := by
  obtain ⟨w0, hw0⟩ : ∃ w0, w0 = (w.alloc (.cells #[.int .u8 x.f0.f0, .int .u8 x.f0.f1, .int .u8 x.f0.f2, .int .u8 x.f1.f0, .int .u64 x.f1.f1, .int .u64 x.f2, .int .u32 x.f3, .int .u32 x.f4, .int .u32 x.f5, .int .u64 x.f6, .int .u64 x.f7, .slice A11 x.f8.length c11, .slice A12 x.f9.length c12, .slice A13 x.f10.length c13, .slice A14 x.f11.length c14, .slice A15 x.f12.length c15] 39)).alloc (.cells #[.int .u8 0, .int .u8 0, .int .u8 0, .int .u8 0, .int .u64 0, .int .u64 0, .int .u32 0, .int .u32 0, .int .u32 0, .int .u64 0, .int .u64 0, .slice none 0 0, .slice none 0 0, .slice none 0 0, .slice none 0 0, .slice none 0 0] 39) := ⟨_, rfl⟩
  have L0 := Aside0.mk (lk_two h (.cells #[.int .u8 x.f0.f0, .int .u8 x.f0.f1, .int .u8 x.f0.f2, .int .u8 x.f1.f0, .int .u64 x.f1.f1, .int .u64 x.f2, .int .u32 x.f3, .int .u32 x.f4, .int .u32 x.f5, .int .u64 x.f6, .int .u64 x.f7, .slice A11 x.f8.length c11, .slice A12 x.f9.length c12, .slice A13 x.f10.length c13, .slice A14 x.f11.length c14, .slice A15 x.f12.length c15] 39) (.cells #[.int .u8 0, .int .u8 0, .int .u8 0, .int .u8 0, .int .u64 0, .int .u64 0, .int .u32 0, .int .u32 0, .int .u32 0, .int .u64 0, .int .u64 0, .slice none 0 0, .slice none 0 0, .slice none 0 0, .slice none 0 0, .slice none 0 0] 39))
  have BX : Aside0 (((w.alloc (.cells #[.int .u8 x.f0.f0, .int .u8 x.f0.f1, .int .u8 x.f0.f2, .int .u8 x.f1.f0, .int .u64 x.f1.f1, .int .u64 x.f2, .int .u32 x.f3, .int .u32 x.f4, .int .u32 x.f5, .int .u64 x.f6, .int .u64 x.f7, .slice A11 x.f8.length c11, .slice A12 x.f9.length c12, .slice A13 x.f10.length c13, .slice A14 x.f11.length c14, .slice A15 x.f12.length c15] 39)).alloc (.cells #[.int .u8 0, .int .u8 0, .int .u8 0, .int .u8 0, .int .u64 0, .int .u64 0, .int .u32 0, .int .u32 0, .int .u32 0, .int .u64 0, .int .u64 0, .slice none 0 0, .slice none 0 0, .slice none 0 0, .slice none 0 0, .slice none 0 0] 39)).heap[w.heap.size]? = some (.cells #[.int .u8 x.f0.f0, .int .u8 x.f0.f1, .int .u8 x.f0.f2, .int .u8 x.f1.f0, .int .u64 x.f1.f1, .int .u64 x.f2, .int .u32 x.f3, .int .u32 x.f4, .int .u32 x.f5, .int .u64 x.f6, .int .u64 x.f7, .slice A11 x.f8.length c11, .slice A12 x.f9.length c12, .slice A13 x.f10.length c13, .slice A14 x.f11.length c14, .slice A15 x.f12.length c15] 39 (0, 0))) := ⟨blk_alloc (blk_new w _) _⟩
  have BZ : Aside0 (((w.alloc (.cells #[.int .u8 x.f0.f0, .int .u8 x.f0.f1, .int .u8 x.f0.f2, .int .u8 x.f1.f0, .int .u64 x.f1.f1, .int .u64 x.f2, .int .u32 x.f3, .int .u32 x.f4, .int .u32 x.f5, .int .u64 x.f6, .int .u64 x.f7, .slice A11 x.f8.length c11, .slice A12 x.f9.length c12, .slice A13 x.f10.length c13, .slice A14 x.f11.length c14, .slice A15 x.f12.length c15] 39)).alloc (.cells #[.int .u8 0, .int .u8 0, .int .u8 0, .int .u8 0, .int .u64 0, .int .u64 0, .int .u32 0, .int .u32 0, .int .u32 0, .int .u64 0, .int .u64 0, .slice none 0 0, .slice none 0 0, .slice none 0 0, .slice none 0 0, .slice none 0 0] 39)).heap[w.heap.size + 1]? = some (.cells #[.int .u8 0, .int .u8 0, .int .u8 0, .int .u8 0, .int .u64 0, .int .u64 0, .int .u32 0, .int .u32 0, .int .u32 0, .int .u64 0, .int .u64 0, .slice none 0 0, .slice none 0 0, .slice none 0 0, .slice none 0 0, .slice none 0 0] 39 (0, 0))) := ⟨by have := blk_new (w.alloc (.cells #[.int .u8 x.f0.f0, .int .u8 x.f0.f1, .int .u8 x.f0.f2, .int .u8 x.f1.f0, .int .u64 x.f1.f1, .int .u64 x.f2, .int .u32 x.f3, .int .u32 x.f4, .int .u32 x.f5, .int .u64 x.f6, .int .u64 x.f7, .slice A11 x.f8.length c11, .slice A12 x.f9.length c12, .slice A13 x.f10.length c13, .slice A14 x.f11.length c14, .slice A15 x.f12.length c15] 39)) (.cells #[.int .u8 0, .int .u8 0, .int .u8 0, .int .u8 0, .int .u64 0, .int .u64 0, .int .u32 0, .int .u32 0, .int .u32 0, .int .u64 0, .int .u64 0, .slice none 0 0, .slice none 0 0, .slice none 0 0, .slice none 0 0, .slice none 0 0] 39); simpa using this⟩
  have B0 : Aside0 (Below w.heap.size w ((w.alloc (.cells #[.int .u8 x.f0.f0, .int .u8 x.f0.f1, .int .u8 x.f0.f2, .int .u8 x.f1.f0, .int .u64 x.f1.f1, .int .u64 x.f2, .int .u32 x.f3, .int .u32 x.f4, .int .u32 x.f5, .int .u64 x.f6, .int .u64 x.f7, .slice A11 x.f8.length c11, .slice A12 x.f9.length c12, .slice A13 x.f10.length c13, .slice A14 x.f11.length c14, .slice A15 x.f12.length c15] 39)).alloc (.cells #[.int .u8 0, .int .u8 0, .int .u8 0, .int .u8 0, .int .u64 0, .int .u64 0, .int .u32 0, .int .u32 0, .int .u32 0, .int .u64 0, .int .u64 0, .slice none 0 0, .slice none 0 0, .slice none 0 0, .slice none 0 0, .slice none 0 0] 39))) := ⟨below_alloc (below_alloc (Below.refl _ _) _) _⟩
  rw [← hw0] at L0 BX BZ B0
  have a2 : w0.cell? ⟨g, 2, none⟩ = some (.int .u8 s.me) := (blk_cell L0.out.blk 2).trans rfl
  have a3 : w0.cell? ⟨g, 3, none⟩ = some (.int .u8 s.peer) := (blk_cell L0.out.blk 3).trans rfl
  have d0 : w0.cell? ⟨w.heap.size, 0, none⟩ = some (.int .u8 1) := by rw [← h3]; exact (blk_cell BX.out 0).trans rfl
  have d1 : w0.cell? ⟨w.heap.size, 1, none⟩ = some (.int .u8 s.peer) := by rw [← h1]; exact (blk_cell BX.out 1).trans rfl
  have d2 : w0.cell? ⟨w.heap.size, 2, none⟩ = some (.int .u8 s.me) := by rw [← h2]; exact (blk_cell BX.out 2).trans rfl
  have SG := Aside0.mk h.S_g
  have XS := Aside0.mk (And.intro hs0 hs1)
  have GL := Aside0.mk (blk_lt h.blk)
  have h1' : x.f0.f1 = s.peer := h1
  have h2' : x.f0.f2 = s.me := h2
  have h3' : x.f0.f0 = 1 := h3
  have HE0 := Aside0.mk h3'
  have HE1 := Aside0.mk h1'
  have HE2 := Aside0.mk h2'
  clear h h1 h2 h3 hs0 hs1 h1' h2' h3'
  go_enter Try.func13, Try.ntmps13
  go_upto_region 1 with (fail)
  rw [← hw0]
  have HW := Aside0.mk hw0
  clear hw0
  go_quiet (fail)
  obtain ⟨w1, hq⟩ : ∃ y, y = w0.drewN nq := ⟨_, rfl⟩
  rw [← hq]
  have hbq : Below w0.heap.size w0 w1 := by rw [hq]; exact pw_below_drewN (Below.refl _ _) _
  have L1 := Aside0.mk (L0.out.below hbq)
  have BX1 := Aside0.mk (blk_below BX.out hbq)
  have BZ1 := Aside0.mk (blk_below BZ.out hbq)
  have B1 := Aside0.mk (below_step B0.out hbq)
  have c1 : w1.cell? ⟨g, 1, none⟩ = some (.pointer (some ⟨gg, 0, none⟩)) := (blk_cell L1.out.blk 1).trans rfl
  have d5 : w1.cell? ⟨w.heap.size, 5, none⟩ = some (.int .u64 x.f2) := (blk_cell BX1.out 5).trans rfl
  have d01 : w1.cell? ⟨w.heap.size, 0, none⟩ = some (.int .u8 1) := by rw [hq]; exact d0
  clear hq hbq a2 a3 d0 d1 d2 L0 BX BZ B0 HW
  have TK := Aside0.mk (fun e => Acc.Take1_calls gg s.gs x.f2 e w1.drew (L1.out.below (below_drew (Below.refl _ _))).gate L1.out.ok.u XS.out)
  have HU := Aside0.mk (Acc.took_ok (n := x.f2) L1.out.ok.u XS.out)
  generalize hg1 : (Acc.took s.gs x.f2).1 = s1 at *
  generalize hg2 : (Acc.took s.gs x.f2).2 = q at *
  have HG := Aside0.mk hg1
  clear hg1 hg2
  have e_ : (q == 1) = false := by simpa using hq1
  clear hq1
  go_wp2_with fail
  go_region_held3 (fun w' => w'.cell? ⟨g, 1, none⟩ = some (.pointer (some ⟨gg, 0, none⟩)) ∧ w'.cell? ⟨w.heap.size, 5, none⟩ = some (.int .u64 x.f2)) (go_keep)
    ((go_at_call 35; refine (TK.out _).mono ?_; rintro e w2 ⟨rfl, hW, hb⟩; have D2 : Aside0 (Beside (fun k => k = gg) w1 w2) := ⟨⟨hb.os, hb.tape, hb.output, hb.size, hb.block⟩⟩; have L2 := Aside0.mk (L1.out.gt D2.out hW HU.out); clear hW hb; have y1 : w2.cell? ⟨g, 1, none⟩ = some (.pointer (some ⟨gg, 0, none⟩)) := (blk_cell L2.out.blk 1).trans rfl; have BX2 := Aside0.mk (D2.out.blk BX1.out (fun e => by have := L1.out.S_gg.2; omega)); have y5 : w2.cell? ⟨w.heap.size, 5, none⟩ = some (.int .u64 x.f2) := (blk_cell BX2.out 5).trans rfl))
  · have BZ3 := Aside0.mk (D2.out.blk BZ1.out (fun e => by have := L1.out.S_gg.2; omega))
    have B3 : Aside0 (Beside S w w2) := ⟨(Beside.of_below S B1.out).trans (D2.out.mono (fun k hk => hk ▸ L1.out.S_gg.1))⟩
    have L3 := L2
    clear y1 y5 TK D2 c1 d5 L1 L2 BX1 BZ1 B1 HU
    go_upto_region 10 with (fail)
    have n0 : w2.cell? ⟨w.heap.size + 1, 0, none⟩ = some (.int .u8 0) := (blk_cell BZ3.out 0).trans rfl
    have m0 : w2.frozen? ⟨w.heap.size + 1, 0, none⟩ = false := blk_frozen BZ3.out 0
    have n1 : w2.cell? ⟨w.heap.size + 1, 1, none⟩ = some (.int .u8 0) := (blk_cell BZ3.out 1).trans rfl
    have m1 : w2.frozen? ⟨w.heap.size + 1, 1, none⟩ = false := blk_frozen BZ3.out 1
    have n2 : w2.cell? ⟨w.heap.size + 1, 2, none⟩ = some (.int .u8 0) := (blk_cell BZ3.out 2).trans rfl
    have m2 : w2.frozen? ⟨w.heap.size + 1, 2, none⟩ = false := blk_frozen BZ3.out 2
    have n3 : w2.cell? ⟨w.heap.size + 1, 3, none⟩ = some (.int .u8 0) := (blk_cell BZ3.out 3).trans rfl
    have m3 : w2.frozen? ⟨w.heap.size + 1, 3, none⟩ = false := blk_frozen BZ3.out 3
    have n4 : w2.cell? ⟨w.heap.size + 1, 4, none⟩ = some (.int .u64 0) := (blk_cell BZ3.out 4).trans rfl
    have m4 : w2.frozen? ⟨w.heap.size + 1, 4, none⟩ = false := blk_frozen BZ3.out 4
    have n5 : w2.cell? ⟨w.heap.size + 1, 5, none⟩ = some (.int .u64 0) := (blk_cell BZ3.out 5).trans rfl
    have m5 : w2.frozen? ⟨w.heap.size + 1, 5, none⟩ = false := blk_frozen BZ3.out 5
    have n6 : w2.cell? ⟨w.heap.size + 1, 6, none⟩ = some (.int .u32 0) := (blk_cell BZ3.out 6).trans rfl
    have m6 : w2.frozen? ⟨w.heap.size + 1, 6, none⟩ = false := blk_frozen BZ3.out 6
    have n7 : w2.cell? ⟨w.heap.size + 1, 7, none⟩ = some (.int .u32 0) := (blk_cell BZ3.out 7).trans rfl
    have m7 : w2.frozen? ⟨w.heap.size + 1, 7, none⟩ = false := blk_frozen BZ3.out 7
    have n8 : w2.cell? ⟨w.heap.size + 1, 8, none⟩ = some (.int .u32 0) := (blk_cell BZ3.out 8).trans rfl
    have m8 : w2.frozen? ⟨w.heap.size + 1, 8, none⟩ = false := blk_frozen BZ3.out 8
    have n9 : w2.cell? ⟨w.heap.size + 1, 9, none⟩ = some (.int .u64 0) := (blk_cell BZ3.out 9).trans rfl
    have m9 : w2.frozen? ⟨w.heap.size + 1, 9, none⟩ = false := blk_frozen BZ3.out 9
    have n10 : w2.cell? ⟨w.heap.size + 1, 10, none⟩ = some (.int .u64 0) := (blk_cell BZ3.out 10).trans rfl
    have m10 : w2.frozen? ⟨w.heap.size + 1, 10, none⟩ = false := blk_frozen BZ3.out 10
    have n11 : w2.cell? ⟨w.heap.size + 1, 11, none⟩ = some (.slice none 0 0) := (blk_cell BZ3.out 11).trans rfl
    have m11 : w2.frozen? ⟨w.heap.size + 1, 11, none⟩ = false := blk_frozen BZ3.out 11
    have n12 : w2.cell? ⟨w.heap.size + 1, 12, none⟩ = some (.slice none 0 0) := (blk_cell BZ3.out 12).trans rfl
    have m12 : w2.frozen? ⟨w.heap.size + 1, 12, none⟩ = false := blk_frozen BZ3.out 12
    have n13 : w2.cell? ⟨w.heap.size + 1, 13, none⟩ = some (.slice none 0 0) := (blk_cell BZ3.out 13).trans rfl
    have m13 : w2.frozen? ⟨w.heap.size + 1, 13, none⟩ = false := blk_frozen BZ3.out 13
    have n14 : w2.cell? ⟨w.heap.size + 1, 14, none⟩ = some (.slice none 0 0) := (blk_cell BZ3.out 14).trans rfl
    have m14 : w2.frozen? ⟨w.heap.size + 1, 14, none⟩ = false := blk_frozen BZ3.out 14
    have n15 : w2.cell? ⟨w.heap.size + 1, 15, none⟩ = some (.slice none 0 0) := (blk_cell BZ3.out 15).trans rfl
    have m15 : w2.frozen? ⟨w.heap.size + 1, 15, none⟩ = false := blk_frozen BZ3.out 15
    go_wp2_with fail
    refine bodyPost_ret (v := .tuple #[.agg #[.int .u8 0, .int .u8 0, .int .u8 0, .int .u8 0, .int .u64 0, .int .u64 0, .int .u32 0, .int .u32 0, .int .u32 0, .int .u64 0, .int .u64 0, .slice none 0 0, .slice none 0 0, .slice none 0 0, .slice none 0 0, .slice none 0 0], .bool false]) (by simp [results, Try.results13, go_sem, n0, n1, n2, n3, n4, n5, n6, n7, n8, n9, n10, n11, n12, n13, n14, n15]) rfl ⟨rfl, ?_, ?_⟩
    · have L4 := L3.out
      rw [← HG.out] at L4
      refine LkB.fin (b := w.heap.size + 1) L4 ?_ (Nat.le_succ _)
      repeat (first | (with_reducible refine bes_b ?_) | (with_reducible exact Beside.refl _ _) | (with_reducible apply Beside.drewN) | (with_reducible apply Beside.drew))
    · refine Beside.then_ (S2 := fun k => k = w.heap.size + 1) B3.out ?_ (fun k hk => Or.inr (by omega))
      repeat (first | (with_reducible refine bes_b ?_) | (with_reducible exact Beside.refl _ _) | (with_reducible apply Beside.drewN) | (with_reducible apply Beside.drew))

end Go.Proofs.Ytmdomkpdfmoboaa.Walk
