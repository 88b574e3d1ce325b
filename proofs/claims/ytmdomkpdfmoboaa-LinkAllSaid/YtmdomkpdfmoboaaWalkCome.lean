/- What comes into a link. Conditions: none beyond the statement's own. -/
import Derived.Test.YtmdomkpdfmoboaaWalkAwake
import Derived.Test.YtmdomkpdfmoboaaArgs
import Derived.Deep.QuietTactic
import Derived.BigQuiet
import Derived.Lib.QuietBelow
import Derived.Outline
import Derived.Deep.RegionHeld3
import Derived.Deep.CutRange
namespace Go.Proofs.Ytmdomkpdfmoboaa.Walk
open Go.RowKit Go.Proofs.Ytmdomkpdfmoboaa.F Go.Proofs.YtmdomkpdfmoboaaW.PrintWords Go.Proofs.YtmdomkpdfmoboaaW.PrintLast Go.Proofs.YtmdomkpdfmoboaaW.PrintMore Go.Proofs.Ytmdomkpdfmoboaa.Open
open Go.Sort (grow)
attribute [local go_sem] max2_int min2_int max_two min_two max_three min_three max_four min_four
set_option linter.unusedVariables false
set_option linter.unusedSimpArgs false

/-! ### Come -/
def comeB (s : LS) (x : Fr) : Bool := decide (x.f0.f1 = s.peer ∧ x.f0.f2 = s.me ∧ x.f0.f0 = 1 ∧ (Acc.took s.gs x.f2).2 = 1)
def ackd (s : LS) (u : Int) : Nat := if s.last < u then 0 else (u - (s.last - s.L.length)).toNat
def comeS (s : LS) (x : Fr) : LS :=
  if x.f0.f1 = s.peer ∧ x.f0.f2 = s.me then
    (if x.f0.f0 = 2 then { s with L := s.L.drop (ackd s x.f2), tick := if 0 < ackd s x.f2 then s.now else s.tick }
     else if x.f0.f0 = 1 then { s with gs := (Acc.took s.gs x.f2).1 } else s)
  else s
theorem LkB.win' {w w1 : World} {S : Nat → Prop} {g gw gg : Nat} {s : LS} {L' : List Fr} (h : LkB w S g gw gg s) (hW : Win w1 (fun k => S k ∧ k ≠ g ∧ k ≠ gg) gw s.n s.last L') (hB : Beside (fun k => S k ∧ k ≠ g ∧ k ≠ gg) w w1) : LkB w1 S g gw gg { s with L := L' } :=
  ⟨⟨h.ok.me, h.ok.peer, h.ok.again, h.ok.sent, h.ok.tick, h.ok.now, h.ok.u⟩, h.S_g, hB.blk h.blk (fun e => e.2.1 rfl), hW, h.S_gg, h.ne, hB.blk h.gate (fun e => e.2.2 rfl)⟩
set_option maxHeartbeats 4000000 in
set_option maxRecDepth 100000 in
theorem Come_no {S : Nat → Prop} {g gw gg : Nat} {s : LS} (x : Fr) {A11 A12 A13 A14 A15 : Option Addr} {c11 c12 c13 c14 c15 : Nat} (w : World) (h : LkB w S g gw gg s) (hx : ¬ (x.f0.f1 = s.peer ∧ x.f0.f2 = s.me)) :
    Calls Try.prog 13 #[.pointer (some ⟨g, 0, none⟩), .agg #[.int .u8 x.f0.f0, .int .u8 x.f0.f1, .int .u8 x.f0.f2, .int .u8 x.f1.f0, .int .u64 x.f1.f1, .int .u64 x.f2, .int .u32 x.f3, .int .u32 x.f4, .int .u32 x.f5, .int .u64 x.f6, .int .u64 x.f7, .slice A11 x.f8.length c11, .slice A12 x.f9.length c12, .slice A13 x.f10.length c13, .slice A14 x.f11.length c14, .slice A15 x.f12.length c15]] w fun e w' => e = .returned (.tuple #[.agg #[.int .u8 0, .int .u8 0, .int .u8 0, .int .u8 0, .int .u64 0, .int .u64 0, .int .u32 0, .int .u32 0, .int .u32 0, .int .u64 0, .int .u64 0, .slice none 0 0, .slice none 0 0, .slice none 0 0, .slice none 0 0, .slice none 0 0], .bool false]) ∧ Below w.heap.size w w' := by
  have a2 : ∀ o o', ((w.alloc o).alloc o').cell? ⟨g, 2, none⟩ = some (.int .u8 s.me) := fun o o' => (blk_cell (blk_alloc (blk_alloc h.blk o) o') 2).trans rfl
  have a3 : ∀ o o', ((w.alloc o).alloc o').cell? ⟨g, 3, none⟩ = some (.int .u8 s.peer) := fun o o' => (blk_cell (blk_alloc (blk_alloc h.blk o) o') 3).trans rfl
  have gne : g ≠ w.heap.size := by have := blk_lt h.blk; omega
  have gne2 : g ≠ w.heap.size + 1 := by have := blk_lt h.blk; omega
  clear h
  by_cases h1 : x.f0.f1 = s.peer
  · have h2 : ¬ x.f0.f2 = s.me := fun e => hx ⟨h1, e⟩
    have e1 : (x.f0.f1 != s.peer) = false := by simpa using h1
    have e2 : (x.f0.f2 != s.me) = true := by simpa using h2
    clear h1 h2 hx
    go_enter Try.func13, Try.ntmps13
    go_wp2
    go_quiet (fail)
    go_wp2
    refine bodyPost_ret (v := .tuple #[.agg #[.int .u8 0, .int .u8 0, .int .u8 0, .int .u8 0, .int .u64 0, .int .u64 0, .int .u32 0, .int .u32 0, .int .u32 0, .int .u64 0, .int .u64 0, .slice none 0 0, .slice none 0 0, .slice none 0 0, .slice none 0 0, .slice none 0 0], .bool false]) (by simp [results, Try.results13, go_sem]) rfl ⟨rfl, ?_⟩
    repeat (first | (with_reducible refine below_set ?_ (by simp)) | (with_reducible apply below_alloc) | (with_reducible apply pw_below_drewN) | (with_reducible apply below_drew) | (with_reducible exact Below.refl _ _))
  · have e1 : (x.f0.f1 != s.peer) = true := by simpa using h1
    clear h1 hx
    go_enter Try.func13, Try.ntmps13
    go_wp2
    go_quiet (fail)
    go_wp2
    refine bodyPost_ret (v := .tuple #[.agg #[.int .u8 0, .int .u8 0, .int .u8 0, .int .u8 0, .int .u64 0, .int .u64 0, .int .u32 0, .int .u32 0, .int .u32 0, .int .u64 0, .int .u64 0, .slice none 0 0, .slice none 0 0, .slice none 0 0, .slice none 0 0, .slice none 0 0], .bool false]) (by simp [results, Try.results13, go_sem]) rfl ⟨rfl, ?_⟩
    repeat (first | (with_reducible refine below_set ?_ (by simp)) | (with_reducible apply below_alloc) | (with_reducible apply pw_below_drewN) | (with_reducible apply below_drew) | (with_reducible exact Below.refl _ _))

end Go.Proofs.Ytmdomkpdfmoboaa.Walk
