/- A link with nothing to send owes one acknowledgement. Conditions: none beyond the statement's own. -/
import Derived.Test.YtmdomkpdfmoboaaWalkComeO
import Derived.Test.YtmdomkpdfmoboaaArgs
import Derived.Deep.QuietTactic
import Derived.BigQuiet
import Derived.Lib.QuietBelow
import Derived.Outline
import Derived.Deep.RegionHeld3
import Derived.Deep.CutRange
namespace Go.Proofs.Ytmdomkpdfmoboaa.Walk
open Go.RowKit Go.Proofs.Ytmdomkpdfmoboaa.F Go.Proofs.YtmdomkpdfmoboaaW.PrintWords Go.Proofs.YtmdomkpdfmoboaaW.PrintLast Go.Proofs.YtmdomkpdfmoboaaW.PrintMore Go.Proofs.Ytmdomkpdfmoboaa.Open
open Go.Sort (grow)
attribute [local go_sem] max2_int min2_int max_two min_two max_three min_three max_four min_four
set_option linter.unusedVariables false
set_option linter.unusedSimpArgs false

/-! ### A link with nothing to send -/
theorem Come_1 {S : Nat → Prop} {g gw gg : Nat} {s : LS} (x : Fr) {A11 A12 A13 A14 A15 : Option Addr} {c11 c12 c13 c14 c15 : Nat} (w : World) (h : LkB w S g gw gg s) (h1 : x.f0.f1 = s.peer) (h2 : x.f0.f2 = s.me) (h3 : x.f0.f0 = 1) (hs0 : 0 ≤ x.f2) (hs1 : x.f2 < 18446744073709551616) :
    Calls Try.prog 13 #[.pointer (some ⟨g, 0, none⟩), .agg #[.int .u8 x.f0.f0, .int .u8 x.f0.f1, .int .u8 x.f0.f2, .int .u8 x.f1.f0, .int .u64 x.f1.f1, .int .u64 x.f2, .int .u32 x.f3, .int .u32 x.f4, .int .u32 x.f5, .int .u64 x.f6, .int .u64 x.f7, .slice A11 x.f8.length c11, .slice A12 x.f9.length c12, .slice A13 x.f10.length c13, .slice A14 x.f11.length c14, .slice A15 x.f12.length c15]] w fun e w' => (∃ v, e = .returned v) ∧ LkB w' S g gw gg { s with gs := (Acc.took s.gs x.f2).1 } ∧ Beside S w w' := by
  by_cases hq : (Acc.took s.gs x.f2).2 = 1
  · exact (Come_take x w h h1 h2 h3 hs0 hs1 hq).mono (fun _ _ hh => ⟨⟨_, hh.1⟩, hh.2⟩)
  · exact (Come_shut x w h h1 h2 h3 hs0 hs1 hq).mono (fun _ _ hh => ⟨⟨_, hh.1⟩, hh.2⟩)
theorem wf_ok {n : Int} (h : (Lit.int .u64 n).wf = true) : Acc.ok64 n := by
  simp [Lit.wf, IntKind.min, IntKind.max, IntKind.signed, IntKind.bits] at h
  exact ⟨by omega, by omega⟩
def idle (n : Nat) (a t nw : Int) : LS := ⟨n, 0, [], Acc.g0, 0, 1, a, 0, t, nw⟩
theorem idle_out (n : Nat) (a t nw b : Int) : outL (idle n a t nw) b = [] := by simp [outL, idle, Acc.g0]
theorem idle_outS (n : Nat) (a t nw b : Int) : outS (idle n a t nw) b = idle n a (outTick (idle n a t nw) b) b := rfl
theorem took_o (s : Acc.GS) (n : Int) : (Acc.took s n).1.o = true := by
  unfold Acc.took
  split
  · rfl
  · split <;> rfl
def idlS (n : Nat) (a t nw : Int) (q : Acc.GS) : LS := ⟨n, 0, [], q, 0, 1, a, 0, t, nw⟩
theorem idl_out (n : Nat) (a t nw b : Int) (q : Acc.GS) (h : q.o = true) : outL (idlS n a t nw q) b = [pf 2 0 1 0 0 q.u 0 0 0 0 0] := by simp [outL, idlS, h, ackf]
theorem idl_out2 (n : Nat) (a t nw b : Int) (q : Acc.GS) (c : Int) : outL (outS (idlS n a t nw q) b) c = [] := by simp [outL, outS, idlS]
set_option maxHeartbeats 4000000 in
set_option maxRecDepth 100000 in
theorem LinkIdle (a0 a1 : Int) (A2 : Option Addr) (c2 : Nat) (l2 : List Int) (a3 : Int) (w : World) (hr2 : Kd.C (Kd.int .i64) w A2 l2.length l2) (hc2 : l2.length ≤ c2)
    (w0 : (Lit.int .i64 a0).wf = true) (w1 : (Lit.int .i64 a1).wf = true) (w2 : l2.length ≤ maxLen ∧ ∀ x ∈ l2, (Lit.int .i64 x).wf = true) (w3 : (Lit.int .u64 a3).wf = true) :
    Calls Try.prog 4 #[.int .i64 a0, .int .i64 a1, .slice A2 l2.length c2, .int .u64 a3] w fun e w' => e = .returned (.bool true) ∧ Below w.heap.size w w' := by
  have h3 := Aside0.mk (wf_ok w3)
  have HR := Aside0.mk hr2
  have HC := Aside0.mk hc2
  have hlen : l2.length ≤ 9223372036854775807 := by have := w2.1; unfold maxLen at this; exact this
  clear w0 w1 w2 w3 hr2 hc2
  by_cases hl : (100 : Int) < l2.length
  · have hl' : decide ((100 : Int) < l2.length) = true := decide_eq_true hl
    go_enter Try.func4, Try.ntmps4
    go_wp2_with fail
    refine (awake_calls _).mono ?_
    rintro e w1 ⟨rfl, hb⟩
    have B1 := Aside0.mk hb
    clear hb
    go_wp2_with fail
    go_ret
    exact ⟨rfl, B1.out⟩
  · have hl' : decide ((100 : Int) < l2.length) = false := decide_eq_false hl
    go_enter Try.func4, Try.ntmps4
    go_wp2_with fail
    refine (LNew_calls 0 1 a0 a1 _ ⟨by decide, by decide⟩ ⟨by decide, by decide⟩).mono ?_
    rintro e w1 ⟨g, rfl, hge, hL, hb⟩
    obtain ⟨gw, gg, hL⟩ := hL
    have L1 := Aside0.mk (show LkB w1 (fun k => w.heap.size ≤ k) g gw gg (idle (wid a0) (agn a1) 0 0) from hL)
    have B1 := Aside0.mk hb
    clear hge hL hb
    go_wp2_with fail
    go_loopg [10] l2.length (fun kq v10 w' => ∃ (j : Nat) (t nw : Int), v10 = .int .i64 j ∧ j ≤ l2.length ∧ l2.length ≤ kq + j ∧ Aside0 (LkB w' (fun k => w.heap.size ≤ k) g gw gg (idle (wid a0) (agn a1) t nw)) ∧ Aside0 (Below w.heap.size w w'))
    case atStart => exact ⟨0, 0, 0, rfl, by omega, by omega, L1, B1⟩
    case round =>
      clear L1 B1
      obtain ⟨j, t, nw, rfl, hj, hkj, L, HB⟩ := hrel
      by_cases hlt : j < l2.length
      · have hlt' : decide ((j : Int) < l2.length) = true := decide_eq_true (by omega)
        obtain ⟨ad, ead, hx⟩ := Kd.at_int HR.out (j : Int) (by omega) (by omega)
        cases ead
        have hx1 : wr.cell? (ad.add j) = some (.int .i64 (rd l2 j)) := by simpa using (HB.out.cell (World.block_lt_of_cell? w _ hx)).trans hx
        clear hx
        generalize rd l2 j = n at *
        have p_ : (0 ≤ (j : Int)) = True := eq_true (by omega)
        have q_ : ((j : Int) < (l2.length : Int)) = True := eq_true (by omega)
        have HO := Out_calls n (clt n) wr L.out.bound rfl (fun k hk => hk.2)
        rw [idle_out, idle_outS] at HO
        have HO := Aside0.mk HO
        go_wp2_with fail
        refine HO.out.mono ?_
        clear HO
        rintro e w4 ⟨v, rfl, ho, hL, hb⟩
        obtain ⟨Ab, cb, rfl⟩ := Kd.R_slice ho
        have L4 := Aside0.mk (hL.mono (S' := fun k => w.heap.size ≤ k) (fun k hk => hk.1))
        have B4 := Aside0.mk (Beside.step HB.out hb (fun k hk => hk.1))
        clear ho hL hb hx1 L HB
        go_wp2_with fail
        go_roundg (gk - 1)
        case measure => omega
        case rel => exact ⟨j + 1, _, _, by simp, by omega, by omega, L4, B4⟩
      · have hlt' : decide ((j : Int) < l2.length) = false := decide_eq_false (by omega)
        clear hj hkj
        have CO := Come_1 (A11 := none) (A12 := none) (A13 := none) (A14 := none) (A15 := none) (c11 := 0) (c12 := 0) (c13 := 0) (c14 := 0) (c15 := 0) (pf 1 1 0 0 0 a3 0 0 0 0 0) wr L.out rfl rfl rfl h3.out.1 h3.out.2
        have CO := Aside0.mk CO
        have HQ := Aside0.mk (took_o Acc.g0 a3)
        have HB0 := HB
        clear HB L
        go_wp2_with fail
        refine CO.out.mono ?_
        clear CO
        rintro e w4 ⟨⟨v, rfl⟩, hL, hb⟩
        have hL' : LkB w4 (fun k => w.heap.size ≤ k) g gw gg (idlS (wid a0) (agn a1) t nw (Acc.took Acc.g0 a3).1) := hL
        have B4 := Aside0.mk (Beside.step HB0.out hb (fun k hk => hk))
        clear hL hb HB0
        generalize (Acc.took Acc.g0 a3).1 = q at *
        have HO := Out_calls 5 5 w4 hL'.bound (by decide) (fun k hk => hk.2)
        rw [idl_out _ _ _ _ _ _ HQ.out] at HO
        have HO := Aside0.mk HO
        clear hL'
        go_wp2_with fail
        refine HO.out.mono ?_
        clear HO
        rintro e w5 ⟨v, rfl, ho, hL, hb⟩
        obtain ⟨ra, ca, rfl, _, hra, _⟩ := R_head ho (by simp)
        obtain ⟨c0, _, m0, k0, _⟩ := Kd.R_elem ho z39 0 (by decide) (by simp)
        obtain ⟨v11, v12, v13, v14, v15, rfl, _⟩ := k39_openM m0
        have q1 : w5.cell? ⟨ra, 0, none⟩ = some (.int .u8 2) := k0 0 _ rfl
        have q2 : w5.cell? ⟨ra, 5, none⟩ = some (.int .u64 q.u) := k0 5 _ rfl
        have L5 := Aside0.mk hL
        have B5 := Aside0.mk (Beside.step B4.out hb (fun k hk => hk.1))
        have RG : Aside0 (w4.heap.size ≤ ra) := ⟨hra⟩
        clear ho hL hb k0 m0 B4 hra
        have L6 := L5.out.below (w1 := w5.drew) (below_drew (Below.refl _ _))
        have HU5 : Aside0 (Calls Try.prog 15 #[.pointer (some ⟨g, 0, none⟩)] w5.drew fun e w' => e = .returned (.int .u64 q.u) ∧ w' = w5.drew) := ⟨LUpto_calls L6⟩
        have HO6 := Out_calls 6 6 w5.drew L6.bound (by decide) (fun k hk => hk.2)
        rw [idl_out2] at HO6
        have HO6 := Aside0.mk HO6
        clear L6
        go_wp2_with fail
        go_region_held3 (fun w' => w'.cell? ⟨ra, 0, none⟩ = some (.int .u8 2) ∧ w'.cell? ⟨ra, 5, none⟩ = some (.int .u64 q.u)) (go_keep)
          ((first
            | (go_at_call 15; refine HU5.out.mono ?_; rintro e w6 ⟨rfl, rfl⟩)
            | (go_at_call 12; refine HO6.out.mono ?_; rintro e w7 ⟨v, rfl, ho, hL, hb⟩; obtain ⟨Ab, cb, rfl⟩ := Kd.R_slice ho; have D7 : Aside0 (Beside (fun k => (w.heap.size ≤ k ∧ k < w4.heap.size) ∧ k < w5.drew.heap.size) w5 w7) := ⟨⟨hb.os, hb.tape, hb.output, hb.size, hb.block⟩⟩; clear ho hL hb; have y1 := cell_kept q1 D7.out.kept (fun e => Nat.not_lt.2 RG.out e.1.2); have y2 := cell_kept q2 D7.out.kept (fun e => Nat.not_lt.2 RG.out e.1.2))
            | (go_at_call 9; refine (awake_calls w7).mono ?_; rintro e w8 ⟨rfl, hb⟩; have B8 := Aside0.mk hb; have z1 := (hb.cell (World.block_lt_of_cell? _ _ y1)).trans y1; have z2 := (hb.cell (World.block_lt_of_cell? _ _ y2)).trans y2; clear hb)))
        go_wp2_with fail
        go_ret
        exact ⟨rfl, below_step (Beside.step B5.out D7.out (fun k hk => hk.1.1)) B8.out⟩

end Go.Proofs.Ytmdomkpdfmoboaa.Walk
