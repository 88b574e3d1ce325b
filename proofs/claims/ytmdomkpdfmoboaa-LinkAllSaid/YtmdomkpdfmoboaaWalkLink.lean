/- A link's small functions. Conditions: none beyond the statement's own. -/
import Derived.Test.YtmdomkpdfmoboaaWalkLit
import Derived.Test.YtmdomkpdfmoboaaWalkGate
import Derived.Test.YtmdomkpdfmoboaaArgs
import Derived.Deep.QuietTactic
import Derived.BigQuiet
import Derived.Lib.QuietBelow
import Derived.Outline
import Derived.Deep.RegionHeld3
import Derived.Deep.CutRange
namespace Go.Proofs.Ytmdomkpdfmoboaa.Walk
open Go.RowKit Go.Proofs.Ytmdomkpdfmoboaa.F Go.Proofs.YtmdomkpdfmoboaaW.PrintWords Go.Proofs.YtmdomkpdfmoboaaW.PrintLast Go.Proofs.YtmdomkpdfmoboaaW.PrintMore Go.Proofs.Ytmdomkpdfmoboaa.Open
open Go.Sort (grow)
attribute [local go_sem] max2_int min2_int max_two min_two max_three min_three max_four min_four
set_option linter.unusedVariables false
set_option linter.unusedSimpArgs false

/-! ### The link: its state, its block -/
abbrev tL : Nat := 75
structure LS where
  n : Nat
  last : Int
  L : List Fr
  gs : Acc.GS
  me : Int
  peer : Int
  again : Int
  sent : Int
  tick : Int
  now : Int
structure lok (s : LS) : Prop where
  me : 0 ≤ s.me ∧ s.me ≤ 255
  peer : 0 ≤ s.peer ∧ s.peer ≤ 255
  again : 1 ≤ s.again ∧ s.again ≤ 1099511627776
  sent : 0 ≤ s.sent ∧ s.sent ≤ s.last
  tick : 0 ≤ s.tick ∧ s.tick ≤ 1099511627776
  now : 0 ≤ s.now ∧ s.now ≤ 1099511627776
  u : Acc.ok64 s.gs.u
def lcells (gw gg : Nat) (s : LS) : Array Value := #[.pointer (some ⟨gw, 0, none⟩), .pointer (some ⟨gg, 0, none⟩), .int .u8 s.me, .int .u8 s.peer, .int .i64 s.again, .int .u64 s.sent, .int .i64 s.tick, .int .i64 s.now]
structure LkB (w : World) (S : Nat → Prop) (g gw gg : Nat) (s : LS) : Prop where
  ok : lok s
  S_g : S g
  blk : w.heap[g]? = some (.cells (lcells gw gg s) tL (0, 0))
  win : Win w (fun k => S k ∧ k ≠ g ∧ k ≠ gg) gw s.n s.last s.L
  S_gg : S gg
  ne : gg ≠ g
  gate : Acc.Gate w gg s.gs
def Lk (w : World) (S : Nat → Prop) (g : Nat) (s : LS) : Prop := ∃ gw gg, LkB w S g gw gg s
theorem LkB.mono {w : World} {S S' : Nat → Prop} {g gw gg : Nat} {s : LS} (h : LkB w S g gw gg s) (hs : ∀ k, S k → S' k) : LkB w S' g gw gg s :=
  ⟨h.ok, hs _ h.S_g, h.blk, h.win.mono (fun k hk => ⟨hs k hk.1, hk.2⟩), hs _ h.S_gg, h.ne, h.gate⟩
theorem LkB.step {w w1 : World} {S : Nat → Prop} {g gw gg : Nat} {s : LS} (h : LkB w S g gw gg s) (hm : ∀ k, S k → k < w.heap.size → w1.heap[k]? = w.heap[k]?) : LkB w1 S g gw gg s :=
  ⟨h.ok, h.S_g, (hm g h.S_g (blk_lt h.blk)).trans h.blk, h.win.step (fun k hk hlt => hm k hk.1 hlt), h.S_gg, h.ne, (hm gg h.S_gg (blk_lt h.gate)).trans h.gate⟩
theorem LkB.bound {w : World} {S : Nat → Prop} {g gw gg : Nat} {s : LS} (h : LkB w S g gw gg s) : LkB w (fun k => S k ∧ k < w.heap.size) g gw gg s :=
  ⟨h.ok, ⟨h.S_g, blk_lt h.blk⟩, h.blk, h.win.bound.mono (fun k hk => ⟨⟨hk.1.1, hk.2⟩, hk.1.2⟩), ⟨h.S_gg, blk_lt h.gate⟩, h.ne, h.gate⟩
theorem LkB.below {w w1 : World} {S : Nat → Prop} {g gw gg : Nat} {s : LS} (h : LkB w S g gw gg s) (hb : Below w.heap.size w w1) : LkB w1 S g gw gg s := h.step (fun k _ hlt => hb.block k hlt)
/-! ### Its small functions -/
def agn (a : Int) : Int := if 1099511627776 < a then 1099511627776 else if 1 < a then a else 1
set_option maxHeartbeats 1000000 in
theorem LNew_calls (me peer width again : Int) (w : World) (hm : 0 ≤ me ∧ me ≤ 255) (hp : 0 ≤ peer ∧ peer ≤ 255) :
    Calls Try.prog 10 #[.int .u8 me, .int .u8 peer, .int .i64 width, .int .i64 again] w fun e w' => ∃ g, e = .returned (.pointer (some ⟨g, 0, none⟩)) ∧ w.heap.size ≤ g ∧ Lk w' (fun k => w.heap.size ≤ k) g ⟨wid width, 0, [], Acc.g0, me, peer, agn again, 0, 0, 0⟩ ∧ Below w.heap.size w w' := by
  have hag : 1 ≤ agn again ∧ agn again ≤ 1099511627776 := by unfold agn; split; omega; split <;> omega
  obtain ⟨b, hb⟩ : ∃ b, b = (if 1099511627776 < again then 1099511627776 else again : Int) := ⟨_, rfl⟩
  have hmin : Builtin.min2 (.int .i64 again) (.int .i64 1099511627776) = pure (.int .i64 b) := by rw [min2_int, hb]
  have hmax : Builtin.max2 (.int .i64 1) (.int .i64 b) = pure (.int .i64 (agn again)) := by
    rw [max2_int, hb]
    congr 2
    unfold agn
    split <;> (try split) <;> omega
  have HA := Aside0.mk hag
  have HM := Aside0.mk hm
  have HP := Aside0.mk hp
  clear hag hm hp hb
  go_enter Try.func10, Try.ntmps10
  go_wp2_with fail
  refine (New_calls width _).mono ?_
  rintro e w1 ⟨gw, rfl, hge, hW, hb⟩
  have W1 := Aside0.mk hW.bound
  have B1 := Aside0.mk hb
  clear hge hW hb
  go_wp2_with fail
  refine (Acc.New_calls _).mono ?_
  rintro e w2 ⟨gg, rfl, hge, hG, hb⟩
  have W2 := Aside0.mk (W1.out.below hb)
  have G2 := Aside0.mk hG
  have GE := Aside0.mk hge
  have B2 := Aside0.mk (below_step B1.out hb)
  have B1s := Aside0.mk B1.out.size
  clear hge hG hb W1 B1
  go_wp2_with fail
  go_ret
  have hz := B2.out.size
  have hl1 := blk_lt G2.out
  have hl2 := B1s.out
  have hl3 := GE.out
  refine ⟨_, rfl, B2.out.size, ⟨gw, gg, ⟨⟨HM.out, HP.out, HA.out, ⟨by simp, by simp⟩, ⟨by simp, by simp⟩, ⟨by simp, by simp⟩, (show Acc.ok64 0 from ⟨by decide, by decide⟩)⟩, hz, blk_new w2 _, ?_, by omega, by omega, blk_alloc G2.out _⟩⟩, below_alloc B2.out _⟩
  exact (W2.out.below (below_alloc (Below.refl _ _) _)).mono (fun k hk => ⟨hk.1, by have := hk.2; omega, by have := hk.2; omega⟩)
theorem LWaits_calls {S : Nat → Prop} {g gw gg : Nat} {s : LS} {w : World} (h : LkB w S g gw gg s) : Calls Try.prog 14 #[.pointer (some ⟨g, 0, none⟩)] w fun e w' => e = .returned (.int .i64 s.L.length) ∧ ∃ q, w' = w.drewN q := by
  have c0 : w.cell? ⟨g, 0, none⟩ = some (.pointer (some ⟨gw, 0, none⟩)) := (blk_cell h.blk 0).trans rfl
  have WT := Aside0.mk (Waits_calls h.win)
  clear h
  go_enter Try.func14, Try.ntmps14
  go_wp2_with fail
  refine (WT.out).mono ?_
  rintro e w1 ⟨rfl, q, rfl⟩
  go_wp2_with fail
  go_ret
  exact ⟨rfl, ⟨_, rfl⟩⟩
theorem LRoom_calls {S : Nat → Prop} {g gw gg : Nat} {s : LS} {w : World} (h : LkB w S g gw gg s) : Calls Try.prog 16 #[.pointer (some ⟨g, 0, none⟩)] w fun e w' => e = .returned (.int .i64 (s.n - s.L.length)) ∧ ∃ q, w' = w.drewN q := by
  have c0 : w.cell? ⟨g, 0, none⟩ = some (.pointer (some ⟨gw, 0, none⟩)) := (blk_cell h.blk 0).trans rfl
  have WT := Aside0.mk (Room_calls h.win)
  clear h
  go_enter Try.func16, Try.ntmps16
  go_wp2_with fail
  refine (WT.out).mono ?_
  rintro e w1 ⟨rfl, q, rfl⟩
  go_wp2_with fail
  go_ret
  exact ⟨rfl, ⟨_, rfl⟩⟩
theorem LUpto_calls {S : Nat → Prop} {g gw gg : Nat} {s : LS} {w : World} (h : LkB w S g gw gg s) : Calls Try.prog 15 #[.pointer (some ⟨g, 0, none⟩)] w fun e w' => e = .returned (.int .u64 s.gs.u) ∧ w' = w := by
  have c1 : w.cell? ⟨g, 1, none⟩ = some (.pointer (some ⟨gg, 0, none⟩)) := (blk_cell h.blk 1).trans rfl
  have WT := Aside0.mk (Acc.Upto_calls gg s.gs w h.gate)
  clear h
  go_enter Try.func15, Try.ntmps15
  go_wp2_with fail
  refine (WT.out).mono ?_
  rintro e w1 ⟨rfl, rfl⟩
  go_wp2_with fail
  go_ret
  exact ⟨rfl, rfl⟩
theorem head_calls {S : Nat → Prop} {g gw gg : Nat} {s : LS} {w : World} (k : Int) (h : LkB w S g gw gg s) : Calls Try.prog 26 #[.pointer (some ⟨g, 0, none⟩), .int .u8 k] w fun e w' => e = .returned (.agg #[.int .u8 k, .int .u8 s.me, .int .u8 s.peer]) ∧ Below w.heap.size w w' := by
  have c2 : w.cell? ⟨g, 2, none⟩ = some (.int .u8 s.me) := (blk_cell h.blk 2).trans rfl
  have c3 : w.cell? ⟨g, 3, none⟩ = some (.int .u8 s.peer) := (blk_cell h.blk 3).trans rfl
  have a2 : ∀ o, (w.alloc o).cell? ⟨g, 2, none⟩ = some (.int .u8 s.me) := fun o => (blk_cell (blk_alloc h.blk o) 2).trans rfl
  have a3 : ∀ o, (w.alloc o).cell? ⟨g, 3, none⟩ = some (.int .u8 s.peer) := fun o => (blk_cell (blk_alloc h.blk o) 3).trans rfl
  have gne : g ≠ w.heap.size := by have := blk_lt h.blk; omega
  have gne' : w.heap.size ≠ g := fun e => gne e.symm
  clear h
  go_enter Try.func26, Try.ntmps26
  go_wp2_with fail
  go_region
  go_wp2
  refine bodyPost_ret (v := .agg #[.int .u8 k, .int .u8 s.me, .int .u8 s.peer]) (by simp [results, Try.results26, go_sem]) rfl ⟨rfl, ?_⟩
  exact below_drew (below_alloc (Below.refl _ _) _)

end Go.Proofs.Ytmdomkpdfmoboaa.Walk
