/- What goes out of a link at a tick. Conditions: none beyond the statement's own. -/
import Derived.Test.YtmdomkpdfmoboaaWalkSend
import Derived.Test.YtmdomkpdfmoboaaArgs
import Derived.Deep.QuietTactic
import Derived.BigQuiet
import Derived.Lib.QuietBelow
import Derived.Outline
import Derived.Deep.RegionHeld3
import Derived.Deep.CutRange
namespace Go.Proofs.Ytmdomkpdfmoboaa.Walk
open Go.RowKit Go.Proofs.Ytmdomkpdfmoboaa.F Go.Proofs.YtmdomkpdfmoboaaW.PrintWords Go.Proofs.YtmdomkpdfmoboaaW.PrintLast Go.Proofs.YtmdomkpdfmoboaaW.PrintMore Go.Proofs.Ytmdomkpdfmoboaa.Open
open Go.Sort (grow)
attribute [local go_sem] max2_int min2_int max_two min_two max_three min_three max_four min_four
set_option linter.unusedVariables false
set_option linter.unusedSimpArgs false

/-! ### Out -/
theorem LkB.upd {w w1 : World} {S : Nat → Prop} {g gw gg : Nat} {s s' : LS} (h : LkB w S g gw gg s) (hB : Beside (fun k => k = g) w w1) (hb : w1.heap[g]? = some (.cells (lcells gw gg s') tL (0, 0))) (ok : lok s') (e1 : s'.gs = s.gs) (e2 : s'.n = s.n) (e3 : s'.last = s.last) (e4 : s'.L = s.L) : LkB w1 S g gw gg s' := by
  refine ⟨ok, h.S_g, hb, ?_, h.S_gg, h.ne, ?_⟩
  · rw [e2, e3, e4]
    exact h.win.beside hB (fun k hk e => hk.2.1 e)
  · rw [e1]
    exact hB.blk h.gate (fun e => h.ne e)
theorem LkB.gt {w w1 : World} {S : Nat → Prop} {g gw gg : Nat} {s : LS} {gs' : Acc.GS} (h : LkB w S g gw gg s) (hB : Beside (fun k => k = gg) w w1) (hg : Acc.Gate w1 gg gs') (hu : Acc.ok64 gs'.u) : LkB w1 S g gw gg { s with gs := gs' } :=
  ⟨⟨h.ok.me, h.ok.peer, h.ok.again, h.ok.sent, h.ok.tick, h.ok.now, hu⟩, h.S_g, hB.blk h.blk (fun e => h.ne e.symm), h.win.beside hB (fun k hk e => hk.2.2 e), h.S_gg, h.ne, hg⟩
def clt (a : Int) : Int := if 1099511627776 < a then 1099511627776 else if 0 < a then a else 0
def ackf (s : LS) : Fr := pf 2 s.me s.peer 0 0 s.gs.u 0 0 0 0 0
def fst_ (s : LS) : Int := s.last + 1 - s.L.length
def outTick (s : LS) (nw : Int) : Int := if fst_ s ≤ s.sent then (if s.again ≤ nw - s.tick then nw else s.tick) else (if s.sent < s.last then nw else s.tick)
/-- From where on frames go out. -/
def outD (s : LS) (nw : Int) : Nat := if fst_ s ≤ s.sent then (if s.again ≤ nw - s.tick then 0 else (s.sent + 1 - fst_ s).toNat) else (s.sent + 1 - fst_ s).toNat
def outL (s : LS) (nw : Int) : List Fr := (if s.gs.o = true then [ackf s] else []) ++ s.L.drop (outD s nw)
def outS (s : LS) (nw : Int) : LS := { s with gs := { s.gs with o := false }, now := nw, tick := outTick s nw, sent := s.last }
set_option maxHeartbeats 4000000 in
set_option maxRecDepth 100000 in
theorem Out_calls {S : Nat → Prop} {g gw gg : Nat} {s : LS} (a nw : Int) (w : World) (h : LkB w S g gw gg s) (hn : nw = clt a) (hs : ∀ k, S k → k < w.heap.size) :
    Calls Try.prog 12 #[.pointer (some ⟨g, 0, none⟩), .int .i64 a] w fun e w' => ∃ v, e = .returned v ∧ Kd.R kF eF w' w.heap.size (fun _ => True) v (outL s nw) ∧ LkB w' S g gw gg (outS s nw) ∧ Beside S w w' := by
  obtain ⟨b, hb⟩ : ∃ b, b = (if 1099511627776 < a then 1099511627776 else a : Int) := ⟨_, rfl⟩
  have hmin : Builtin.min2 (.int .i64 a) (.int .i64 1099511627776) = pure (.int .i64 b) := by rw [min2_int, hb]
  have hmax : Builtin.max2 (.int .i64 0) (.int .i64 b) = pure (.int .i64 nw) := by
    rw [max2_int, hb, hn]
    congr 2
    unfold clt
    split <;> (try split) <;> omega
  have NW : Aside0 (0 ≤ nw ∧ nw ≤ 1099511627776) := ⟨by rw [hn]; unfold clt; split; omega; split <;> omega⟩
  have OK := Aside0.mk h.ok
  have HS := Aside0.mk hs
  have c7 : w.cell? ⟨g, 7, none⟩ = some (.int .i64 s.now) := (blk_cell h.blk 7).trans rfl
  have z7 : w.frozen? ⟨g, 7, none⟩ = false := blk_frozen h.blk 7
  have L1 := Aside0.mk (h.upd (s' := { s with now := nw }) (w1 := w.setCell ⟨g, 7, none⟩ (.int .i64 nw)) ((Beside.refl (fun k => k = g) w).setCell rfl _) (blk_put h.blk 7 _ rfl) ⟨h.ok.me, h.ok.peer, h.ok.again, h.ok.sent, h.ok.tick, NW.out, h.ok.u⟩ rfl rfl rfl rfl)
  have B1 : Aside0 (Beside S w (w.setCell ⟨g, 7, none⟩ (.int .i64 nw))) := ⟨(Beside.refl S w).setCell (p := ⟨g, 7, none⟩) h.S_g _⟩
  have GLT : Aside0 (g < w.heap.size) := ⟨blk_lt h.blk⟩
  have SG := Aside0.mk h.S_g
  have c1 : (w.setCell ⟨g, 7, none⟩ (.int .i64 nw)).cell? ⟨g, 1, none⟩ = some (.pointer (some ⟨gg, 0, none⟩)) := (blk_cell L1.out.blk 1).trans rfl
  have OW := Aside0.mk (Acc.Owes_calls gg s.gs _ L1.out.gate)
  clear h hn hs hb
  go_enter Try.func12, Try.ntmps12
  go_wp2_with fail
  obtain ⟨w1, hw1⟩ : ∃ w1, w1 = w.setCell ⟨g, 7, none⟩ (.int .i64 nw) := ⟨_, rfl⟩
  rw [← hw1] at L1 B1 OW c1 ⊢
  refine OW.out.mono ?_
  rintro e w1 ⟨rfl, rfl⟩
  clear hw1 c7 z7 hmin hmax OW
  dsimp only
  go_upto_if 20 with (fail)
  obtain ⟨ackl, hal⟩ : ∃ l : List Fr, l = (if s.gs.o = true then [ackf s] else []) := ⟨_, rfl⟩
  have AL := Aside0.mk hal
  have HAL : Aside0 (ackl.length ≤ 1) := ⟨by rw [hal]; split <;> simp⟩
  clear hal
  go_cut [5] (fun v5 w' => ∃ (A : Option Addr) (c : Nat), v5 = .slice A ackl.length c ∧ Aside0 (Kd.R kF eF w' w.heap.size (fun _ => True) (.slice A ackl.length c) ackl) ∧ Aside0 (LkB w' S g gw gg { s with gs := { s.gs with o := false }, now := nw }) ∧ Aside0 (Beside S w w'))
  case first =>
    cases hob : s.gs.o
    · rw [hob] at AL
      have e1 : ackl = [] := AL.out
      subst e1
      have L2 : Aside0 (LkB w1 S g gw gg { s with gs := { s.gs with o := false }, now := nw }) := ⟨by
        have e : ({ s.gs with o := false } : Acc.GS) = s.gs := by rw [← hob]
        rw [e]
        exact L1.out⟩
      go_wp2_with fail
      go_meet
      exact ⟨none, 0, rfl, ⟨Kd.R_nil _ _ _ _ _⟩, L2, B1⟩
    · rw [hob] at AL
      have e1 : ackl = [ackf s] := AL.out
      subst e1
      have UP : Aside0 (∀ W, LkB W S g gw gg { s with now := nw } → Calls Try.prog 29 #[.pointer (some ⟨gg, 0, none⟩)] W fun e w' => e = .returned (.int .u64 s.gs.u) ∧ w' = W) := ⟨fun W h => Acc.Upto_calls gg s.gs W h.gate⟩
      have HDC : Aside0 (∀ W, LkB W S g gw gg { s with now := nw } → Calls Try.prog 26 #[.pointer (some ⟨g, 0, none⟩), .int .u8 2] W fun e w' => e = .returned (.agg #[.int .u8 2, .int .u8 s.me, .int .u8 s.peer]) ∧ Below W.heap.size W w') := ⟨fun W h => head_calls (s := { s with now := nw }) 2 h⟩
      go_wp2_with fail
      go_region_held3 (fun w' => w'.cell? ⟨g, 1, none⟩ = some (.pointer (some ⟨gg, 0, none⟩))) (go_keep)
        ((first
          | (go_at_call 26; refine (HDC.out _ (L1.out.below (below_drew (Below.refl _ _)))).mono ?_; rintro e w2 ⟨rfl, hb⟩; have L2 := Aside0.mk ((L1.out.below (below_drew (Below.refl _ _))).below hb); have B2 : Aside0 (Below w1.heap.size w1 w2) := ⟨below_step (below_drew (Below.refl _ _)) hb⟩; clear hb; have y1 : w2.cell? ⟨g, 1, none⟩ = some (.pointer (some ⟨gg, 0, none⟩)) := (blk_cell L2.out.blk 1).trans rfl)
          | (go_at_call 29; refine (UP.out _ L2.out).mono ?_; rintro e w2 ⟨rfl, rfl⟩)
          | (refine Kd.R_append_step kF (w0 := w2) w.heap.size (by rfl) (.tmp 21) (.tmp 30) 40 eF _ 184 rfl Try.underlying40 info39 rfl (by decide) (by decide) (.slice none 0 0) [] (ackf s) [.int .u8 2, .int .u8 s.me, .int .u8 s.peer, .int .u8 0, .int .u64 0, .int .u64 s.gs.u, .int .u32 0, .int .u32 0, .int .u32 0, .int .u64 0, .int .u64 0, .slice none 0 0, .slice none 0 0, .slice none 0 0, .slice none 0 0, .slice none 0 0] (fun _ => True) (fun _ => True) (by rfl) (by rfl) (k39_mkM _ _ _ (ackf s) (Kd.R_nil _ _ _ _ _) (Kd.R_nil _ _ _ _ _) (Kd.R_nil _ _ _ _ _) (Kd.R_nil _ _ _ _ _) (Kd.R_nil _ _ _ _ _)) (fun b _ => ⟨trivial, by simp [Value.ownBlock]⟩) (fun _ _ => trivial) (Kd.R_nil _ _ _ _ _) (Below.refl _ _) (Nat.le_trans B1.out.size B2.out.size) (by simp) ?_; intro v3 w3 ho hb hg hat; obtain ⟨A3, c3, rfl⟩ := Kd.R_slice ho; have R3 := Aside0.mk ho; have B3 := Aside0.mk hb; have G3 := Aside0.mk hg; clear ho hb hg hat; have L3 := Aside0.mk (L2.out.step (w1 := w3) (fun k hk hlt => B3.out.block k (HS.out k hk))); have y3 : w3.cell? ⟨g, 1, none⟩ = some (.pointer (some ⟨gg, 0, none⟩)) := (blk_cell L3.out.blk 1).trans rfl)))
      have D3 : Aside0 (Beside S w w3) := ⟨(B1.out.then_below B2.out).trans ⟨G3.out.os, G3.out.tape, G3.out.output, G3.out.size, fun k hk hn => G3.out.block k hk (by simp [Value.ownBlock])⟩⟩
      have TD := Aside0.mk (Acc.Told_calls gg s.gs w3 L3.out.gate)
      clear L2 B2 B3 G3 UP HDC L1 B1
      go_wp2_with fail
      refine TD.out.mono ?_
      rintro e w4 ⟨rfl, hg, hb⟩
      have L4 := Aside0.mk (L3.out.gt hb hg OK.out.u)
      have GGL := HS.out gg L3.out.S_gg
      have D4 : Aside0 (Beside S w w4) := ⟨D3.out.trans (hb.mono (fun k hk => by rw [hk]; exact L3.out.S_gg))⟩
      have R4 : Aside0 (Kd.R kF eF w4 w.heap.size (fun _ => True) (.slice A3 1 c3) [ackf s]) := ⟨Kd.R_mono (Kd.R_kept (Kd.R_bound R3.out) hb.kept (fun k hk e => by have := hk.2.1; omega)) (fun _ _ => trivial)⟩
      clear hg hb L3 D3 R3 TD GGL y3
      go_wp2_with fail
      go_meet
      exact ⟨A3, c3, rfl, R4, L4, D4⟩
  case rest =>
    clear L1 B1 c1
    obtain ⟨A, c, rfl, R2, L2, B2⟩ := hcut
    have L2' := L2.out
    have c5 : wc.cell? ⟨g, 5, none⟩ = some (.int .u64 s.sent) := (blk_cell L2.out.blk 5).trans rfl
    have c0 : wc.cell? ⟨g, 0, none⟩ = some (.pointer (some ⟨gw, 0, none⟩)) := (blk_cell L2.out.blk 0).trans rfl
    have c7 : wc.cell? ⟨g, 7, none⟩ = some (.int .i64 nw) := (blk_cell L2.out.blk 7).trans rfl
    have c6 : wc.cell? ⟨g, 6, none⟩ = some (.int .i64 s.tick) := (blk_cell L2.out.blk 6).trans rfl
    have c4 : wc.cell? ⟨g, 4, none⟩ = some (.int .i64 s.again) := (blk_cell L2.out.blk 4).trans rfl
    obtain ⟨fi, hfi⟩ : ∃ fi, fi = fst_ s := ⟨_, rfl⟩
    have HFQ : Aside0 (∀ q, Calls Try.prog 31 #[.pointer (some ⟨gw, 0, none⟩)] (wc.drewN q) fun e w' => e = .returned (.int .u64 fi) ∧ w' = wc.drewN q) := ⟨fun q => by rw [hfi]; exact First_calls (L2'.win.below (pw_below_drewN (Below.refl _ _) q))⟩
    have HLQ : Aside0 (∀ q, Calls Try.prog 32 #[.pointer (some ⟨gw, 0, none⟩)] (wc.drewN q) fun e w' => e = .returned (.int .u64 s.last) ∧ w' = wc.drewN q) := ⟨fun q => Last_calls (L2'.win.below (pw_below_drewN (Below.refl _ _) q))⟩
    have FI := Aside0.mk hfi
    have HBG : Aside0 (s.last ≤ 4611686018427387904) := ⟨L2'.win.ok.big⟩
    have hw1 : IntKind.u64.wrap (s.sent + 1) = s.sent + 1 := wu64 (by have := OK.out.sent; omega) (by have := OK.out.sent; have := HBG.out; omega)
    have hw2 : wrap64 (nw - s.tick) = nw - s.tick := w64 (by have := NW.out; have := OK.out.tick; omega) (by have := NW.out; have := OK.out.tick; omega)
    clear L2' hfi
    have LEN : Aside0 ((s.L.length : Int) ≤ s.last) := ⟨L2.out.win.ok.le⟩
    by_cases hst : fi ≤ s.sent
    · have hst' : decide (fi ≤ s.sent) = true := decide_eq_true hst
      by_cases hdu : s.again ≤ nw - s.tick
      · have hdu' : decide (s.again ≤ nw - s.tick) = true := decide_eq_true hdu
        obtain ⟨d, hd⟩ : ∃ q : Nat, q = 0 := ⟨_, rfl⟩
        obtain ⟨tk, htk⟩ : ∃ q : Int, q = nw := ⟨_, rfl⟩
        have DE : Aside0 (d = outD s nw) := ⟨by rw [hd]; unfold outD; rw [← FI.out, if_pos hst, if_pos hdu]⟩
        have TKE : Aside0 (tk = outTick s nw) := ⟨by rw [htk]; unfold outTick; rw [← FI.out, if_pos hst, if_pos hdu]⟩
        have TK : Aside0 (0 ≤ tk ∧ tk ≤ 1099511627776) := ⟨by rw [htk]; exact NW.out⟩
        have FM : Aside0 (0 ≤ fi ∧ fi < 18446744073709551616 ∧ d = (fi - (s.last + 1 - s.L.length)).toNat) := ⟨by have h1 := OK.out.sent; have h2 := HBG.out; have h3 := LEN.out; have h4 := FI.out; unfold fst_ at h4; rw [hd]; refine ⟨by omega, by omega, ?_⟩; first | rfl | omega | (rw [h4])⟩
        have HTK := Aside0.mk htk
        clear hd htk
        go_wp2_with fail
        go_quiet ((go_at_call 31; exact Calls.quiet_of_same (HFQ.out _)))
        go_wp2_with fail
        go_quiet (fail)
        go_wp2_with fail
        refine (HFQ.out _).mono ?_
        rintro e w3 ⟨rfl, hq⟩
        have hbq : Below wc.heap.size wc w3 := by rw [hq]; exact pw_below_drewN (Below.refl _ _) _
        have L3 := Aside0.mk (L2.out.below hbq)
        have R3 : Aside0 (Kd.R kF eF w3 w.heap.size (fun _ => True) (.slice A ackl.length c) ackl) := ⟨Kd.R_below R2.out hbq⟩
        have B3 := Aside0.mk (B2.out.then_below hbq)
        clear hbq hq c0 c4 c5 c6 c7 L2 R2 B2
        have c6 : w3.cell? ⟨g, 6, none⟩ = some (.int .i64 s.tick) := (blk_cell L3.out.blk 6).trans rfl
        have c7 : w3.cell? ⟨g, 7, none⟩ = some (.int .i64 nw) := (blk_cell L3.out.blk 7).trans rfl
        have z6 : w3.frozen? ⟨g, 6, none⟩ = false := blk_frozen L3.out.blk 6
        go_upto_region 15 with (fail)
        obtain ⟨w4, hw4⟩ : ∃ w4, w4 = w3.setCell ⟨g, 6, none⟩ (.int .i64 nw) := ⟨_, rfl⟩
        rw [← hw4]
        have L4 : Aside0 (LkB w4 S g gw gg { s with gs := { s.gs with o := false }, now := nw, tick := tk }) := ⟨by rw [hw4]; exact L3.out.upd (s' := { s with gs := { s.gs with o := false }, now := nw, tick := tk }) ((Beside.refl (fun k => k = g) w3).setCell rfl _) (by rw [HTK.out]; exact blk_put L3.out.blk 6 _ rfl) ⟨OK.out.me, OK.out.peer, OK.out.again, OK.out.sent, TK.out, NW.out, OK.out.u⟩ rfl rfl rfl rfl⟩
        have R4 : Aside0 (Kd.R kF eF w4 w.heap.size (fun _ => True) (.slice A ackl.length c) ackl) := ⟨by rw [hw4]; exact Kd.R_mono (Kd.R_far (p := ⟨g, 6, none⟩) (Kd.R_mono (Kd.R_bound R3.out) (ok' := fun b => b ≠ g) (fun b hb => by have := hb.2.1; have := GLT.out; omega)) (fun b hb => hb) _) (fun _ _ => trivial)⟩
        have B4 : Aside0 (Beside S w w4) := ⟨by rw [hw4]; exact B3.out.setCell (p := ⟨g, 6, none⟩) SG.out _⟩
        clear L3 R3 B3 c6 c7 z6 hw4
        obtain ⟨fm, hfm⟩ : ∃ q : Int, q = fi := ⟨_, rfl⟩
        rw [← hfm] at FM ⊢
        clear hfm
        have LT := Aside0.mk (Last_calls L4.out.win)
        have c0 : w4.cell? ⟨g, 0, none⟩ = some (.pointer (some ⟨gw, 0, none⟩)) := (blk_cell L4.out.blk 0).trans rfl
        have c5 : w4.cell? ⟨g, 5, none⟩ = some (.int .u64 s.sent) := (blk_cell L4.out.blk 5).trans rfl
        have z5 : w4.frozen? ⟨g, 5, none⟩ = false := blk_frozen L4.out.blk 5
        go_wp2_with fail
        refine LT.out.mono ?_
        rintro e w4 ⟨rfl, rfl⟩
        have L6 := Aside0.mk (L4.out.upd (s' := { s with gs := { s.gs with o := false }, now := nw, tick := tk, sent := s.last }) (w1 := w4.setCell ⟨g, 5, none⟩ (.int .u64 s.last)) ((Beside.refl (fun k => k = g) w4).setCell rfl _) (blk_put L4.out.blk 5 _ rfl) ⟨OK.out.me, OK.out.peer, OK.out.again, ⟨show (0 : Int) ≤ s.last from (by have := OK.out.sent; omega), Int.le_refl _⟩, TK.out, NW.out, OK.out.u⟩ rfl rfl rfl rfl)
        have R6 : Aside0 (Kd.R kF eF (w4.setCell ⟨g, 5, none⟩ (.int .u64 s.last)) w.heap.size (fun _ => True) (.slice A ackl.length c) ackl) := ⟨Kd.R_mono (Kd.R_far (p := ⟨g, 5, none⟩) (Kd.R_mono (Kd.R_bound R4.out) (ok' := fun b => b ≠ g) (fun b hb => by have := hb.2.1; have := GLT.out; omega)) (fun b hb => hb) _) (fun _ _ => trivial)⟩
        have B6 : Aside0 (Beside S w (w4.setCell ⟨g, 5, none⟩ (.int .u64 s.last))) := ⟨B4.out.setCell (p := ⟨g, 5, none⟩) SG.out _⟩
        have c06 : (w4.setCell ⟨g, 5, none⟩ (.int .u64 s.last)).cell? ⟨g, 0, none⟩ = some (.pointer (some ⟨gw, 0, none⟩)) := (blk_cell L6.out.blk 0).trans rfl
        clear c0 L4 R4 B4 LT
        go_wp2_with fail
        obtain ⟨w6, hw6⟩ : ∃ w6, w6 = w4.setCell ⟨g, 5, none⟩ (.int .u64 s.last) := ⟨_, rfl⟩
        rw [← hw6] at L6 R6 B6 ⊢
        clear hw6 z5 c06 c5
        refine (Waiting_calls fm 64 d (s.L.drop d) w6 L6.out.win FM.out.1 FM.out.2.1 FM.out.2.2 (by rw [List.take_of_length_le]; have h1 : s.L.length ≤ s.n := L6.out.win.ok.fit; have h2 : s.n ≤ 64 := L6.out.win.ok.n64; simp; omega)).mono ?_
        rintro e w7 ⟨v7, rfl, ho, hb⟩
        obtain ⟨A7, c7, rfl, hl7, hrd⟩ := OwnRow.reads ho.2
        have HDL : Aside0 ((s.L.drop d).length ≤ 64) := ⟨by have h1 : s.L.length ≤ s.n := L6.out.win.ok.fit; have h2 : s.n ≤ 64 := L6.out.win.ok.n64; simp; omega⟩
        have R7 : Aside0 (Kd.R kF eF w7 w.heap.size (fun _ => True) (.slice A ackl.length c) ackl) := ⟨Kd.R_below R6.out hb⟩
        have L7 := Aside0.mk (L6.out.below hb)
        have B7 := Aside0.mk (B6.out.then_below hb)
        have RD := Aside0.mk hrd
        have HZ : Aside0 (w.heap.size ≤ w6.heap.size) := ⟨B6.out.size⟩
        have R6l : Aside0 (∀ k, (Value.slice A ackl.length c).ownBlock = some k → k < w6.heap.size) := ⟨Kd.R_lt R6.out⟩
        clear ho hb hrd hl7 L6 R6 B6
        have OL : Aside0 (ackl ++ s.L.drop d = outL s nw) := ⟨by rw [AL.out, DE.out]; rfl⟩
        generalize s.L.drop d = D at *
        go_wp2_with ((with_reducible refine gate_dst (N := 119) rfl ?_); refine Kd.R_append_rows kF (Rr := fun x cs => kF.M w7 w6.heap.size (fun k => True ∧ some k ≠ (Value.slice A7 D.length c7).ownBlock) x cs) (w0 := w7) w.heap.size rfl (.tmp 112) (.tmp 118) 40 eF _ 184 rfl Try.underlying40 info39 rfl (by decide) (by decide) (.slice A ackl.length c) ackl D A7 D.length c7 (fun _ => True) (fun b => w6.heap.size ≤ b) rfl rfl R7.out RD.out (fun x cs hx => kF.M_lower HZ.out (kF.M_mono (fun b hb => hb.2.1) (kF.M_bound hx))) (fun b hb => ⟨trivial, fun he => by have := R6l.out b he.symm; have h9 : w6.heap.size ≤ b := hb; omega⟩) (fun _ _ => trivial) (Below.refl _ _) B7.out.size (by have := HDL.out; have := HAL.out; omega) ?_; intro v8 w8 ho hb hg hat; have R8 := Aside0.mk ho; have B8 := Aside0.mk hb; have G8 := Aside0.mk hg; clear ho hb hg hat)
        go_ret
        have R8' := R8.out
        rw [OL.out] at R8'
        have L8 := L7.out.step (w1 := w8) (fun k hk hlt => B8.out.block k (HS.out k hk))
        rw [TKE.out] at L8
        exact ⟨_, rfl, R8', L8, B7.out.then_ (S2 := fun k => (Value.slice A ackl.length c).ownBlock = some k) ⟨G8.out.os, G8.out.tape, G8.out.output, G8.out.size, fun k hk hn => G8.out.block k hk (fun he => hn he.symm)⟩ (fun k hk => Or.inr (Kd.R_base R7.out k hk))⟩
      · have hdu' : decide (s.again ≤ nw - s.tick) = false := decide_eq_false hdu
        obtain ⟨d, hd⟩ : ∃ q : Nat, q = (s.sent + 1 - fi).toNat := ⟨_, rfl⟩
        obtain ⟨tk, htk⟩ : ∃ q : Int, q = s.tick := ⟨_, rfl⟩
        have DE : Aside0 (d = outD s nw) := ⟨by rw [hd]; unfold outD; rw [← FI.out, if_pos hst, if_neg hdu]⟩
        have TKE : Aside0 (tk = outTick s nw) := ⟨by rw [htk]; unfold outTick; rw [← FI.out, if_pos hst, if_neg hdu]⟩
        have TK : Aside0 (0 ≤ tk ∧ tk ≤ 1099511627776) := ⟨by rw [htk]; exact OK.out.tick⟩
        have FM : Aside0 (0 ≤ (s.sent + 1) ∧ (s.sent + 1) < 18446744073709551616 ∧ d = ((s.sent + 1) - (s.last + 1 - s.L.length)).toNat) := ⟨by have h1 := OK.out.sent; have h2 := HBG.out; have h3 := LEN.out; have h4 := FI.out; unfold fst_ at h4; rw [hd]; refine ⟨by omega, by omega, ?_⟩; first | rfl | omega | (rw [h4])⟩
        have HTK := Aside0.mk htk
        clear hd htk
        go_wp2_with fail
        go_quiet ((go_at_call 31; exact Calls.quiet_of_same (HFQ.out _)))
        obtain ⟨w3, hq⟩ : ∃ x, x = wc.drewN nq := ⟨_, rfl⟩
        rw [← hq]
        have hbq : Below wc.heap.size wc w3 := by rw [hq]; exact pw_below_drewN (Below.refl _ _) _
        have L3 := Aside0.mk (L2.out.below hbq)
        have R3 : Aside0 (Kd.R kF eF w3 w.heap.size (fun _ => True) (.slice A ackl.length c) ackl) := ⟨Kd.R_below R2.out hbq⟩
        have B3 := Aside0.mk (B2.out.then_below hbq)
        clear hbq hq c0 c4 c5 c6 c7 L2 R2 B2
        have c0 : w3.cell? ⟨g, 0, none⟩ = some (.pointer (some ⟨gw, 0, none⟩)) := (blk_cell L3.out.blk 0).trans rfl
        have c4 : w3.cell? ⟨g, 4, none⟩ = some (.int .i64 s.again) := (blk_cell L3.out.blk 4).trans rfl
        have c5 : w3.cell? ⟨g, 5, none⟩ = some (.int .u64 s.sent) := (blk_cell L3.out.blk 5).trans rfl
        have c6 : w3.cell? ⟨g, 6, none⟩ = some (.int .i64 s.tick) := (blk_cell L3.out.blk 6).trans rfl
        have c7 : w3.cell? ⟨g, 7, none⟩ = some (.int .i64 nw) := (blk_cell L3.out.blk 7).trans rfl
        go_wp2_with fail
        go_quiet (fail)
        obtain ⟨w3b, hq⟩ : ∃ x, x = w3.drewN nq := ⟨_, rfl⟩
        rw [← hq]
        have hbq : Below w3.heap.size w3 w3b := by rw [hq]; exact pw_below_drewN (Below.refl _ _) _
        have L3 := Aside0.mk (L3.out.below hbq)
        have R3 : Aside0 (Kd.R kF eF w3b w.heap.size (fun _ => True) (.slice A ackl.length c) ackl) := ⟨Kd.R_below R3.out hbq⟩
        have B3 := Aside0.mk (B3.out.then_below hbq)
        clear hbq hq c0 c4 c5 c6 c7
        have c0 : w3b.cell? ⟨g, 0, none⟩ = some (.pointer (some ⟨gw, 0, none⟩)) := (blk_cell L3.out.blk 0).trans rfl
        have c4 : w3b.cell? ⟨g, 4, none⟩ = some (.int .i64 s.again) := (blk_cell L3.out.blk 4).trans rfl
        have c5 : w3b.cell? ⟨g, 5, none⟩ = some (.int .u64 s.sent) := (blk_cell L3.out.blk 5).trans rfl
        have c6 : w3b.cell? ⟨g, 6, none⟩ = some (.int .i64 s.tick) := (blk_cell L3.out.blk 6).trans rfl
        have c7 : w3b.cell? ⟨g, 7, none⟩ = some (.int .i64 nw) := (blk_cell L3.out.blk 7).trans rfl
        have LQ := L3.out
        have HLQ2 : Aside0 (∀ q, Calls Try.prog 32 #[.pointer (some ⟨gw, 0, none⟩)] (w3b.drewN q) fun e w' => e = .returned (.int .u64 s.last) ∧ w' = w3b.drewN q) := ⟨fun q => Last_calls (LQ.win.below (pw_below_drewN (Below.refl _ _) q))⟩
        clear LQ
        go_wp2_with fail
        go_quiet ((go_at_call 32; exact Calls.quiet_of_same (HLQ2.out _)))
        obtain ⟨wx, hq⟩ : ∃ x, x = w3b.drewN nq := ⟨_, rfl⟩
        rw [← hq]
        have hbq : Below w3b.heap.size w3b wx := by rw [hq]; exact pw_below_drewN (Below.refl _ _) _
        have L3 := Aside0.mk (L3.out.below hbq)
        have R3 : Aside0 (Kd.R kF eF wx w.heap.size (fun _ => True) (.slice A ackl.length c) ackl) := ⟨Kd.R_below R3.out hbq⟩
        have B3 := Aside0.mk (B3.out.then_below hbq)
        clear hbq hq c0 c4 c5 c6 c7
        have c0 : wx.cell? ⟨g, 0, none⟩ = some (.pointer (some ⟨gw, 0, none⟩)) := (blk_cell L3.out.blk 0).trans rfl
        have c4 : wx.cell? ⟨g, 4, none⟩ = some (.int .i64 s.again) := (blk_cell L3.out.blk 4).trans rfl
        have c5 : wx.cell? ⟨g, 5, none⟩ = some (.int .u64 s.sent) := (blk_cell L3.out.blk 5).trans rfl
        have c6 : wx.cell? ⟨g, 6, none⟩ = some (.int .i64 s.tick) := (blk_cell L3.out.blk 6).trans rfl
        have c7 : wx.cell? ⟨g, 7, none⟩ = some (.int .i64 nw) := (blk_cell L3.out.blk 7).trans rfl
        go_upto_region 15 with (fail)
        have L4 : Aside0 (LkB wx S g gw gg { s with gs := { s.gs with o := false }, now := nw, tick := tk }) := ⟨by rw [HTK.out]; exact L3.out⟩
        have R4 := R3
        have B4 := B3
        clear L3 R3 B3 c0 c4 c5 c6 c7
        generalize wx = w4 at *
        obtain ⟨fm, hfm⟩ : ∃ q : Int, q = s.sent + 1 := ⟨_, rfl⟩
        rw [← hfm] at FM ⊢
        clear hfm
        have LT := Aside0.mk (Last_calls L4.out.win)
        have c0 : w4.cell? ⟨g, 0, none⟩ = some (.pointer (some ⟨gw, 0, none⟩)) := (blk_cell L4.out.blk 0).trans rfl
        have c5 : w4.cell? ⟨g, 5, none⟩ = some (.int .u64 s.sent) := (blk_cell L4.out.blk 5).trans rfl
        have z5 : w4.frozen? ⟨g, 5, none⟩ = false := blk_frozen L4.out.blk 5
        go_wp2_with fail
        refine LT.out.mono ?_
        rintro e w4 ⟨rfl, rfl⟩
        have L6 := Aside0.mk (L4.out.upd (s' := { s with gs := { s.gs with o := false }, now := nw, tick := tk, sent := s.last }) (w1 := w4.setCell ⟨g, 5, none⟩ (.int .u64 s.last)) ((Beside.refl (fun k => k = g) w4).setCell rfl _) (blk_put L4.out.blk 5 _ rfl) ⟨OK.out.me, OK.out.peer, OK.out.again, ⟨show (0 : Int) ≤ s.last from (by have := OK.out.sent; omega), Int.le_refl _⟩, TK.out, NW.out, OK.out.u⟩ rfl rfl rfl rfl)
        have R6 : Aside0 (Kd.R kF eF (w4.setCell ⟨g, 5, none⟩ (.int .u64 s.last)) w.heap.size (fun _ => True) (.slice A ackl.length c) ackl) := ⟨Kd.R_mono (Kd.R_far (p := ⟨g, 5, none⟩) (Kd.R_mono (Kd.R_bound R4.out) (ok' := fun b => b ≠ g) (fun b hb => by have := hb.2.1; have := GLT.out; omega)) (fun b hb => hb) _) (fun _ _ => trivial)⟩
        have B6 : Aside0 (Beside S w (w4.setCell ⟨g, 5, none⟩ (.int .u64 s.last))) := ⟨B4.out.setCell (p := ⟨g, 5, none⟩) SG.out _⟩
        have c06 : (w4.setCell ⟨g, 5, none⟩ (.int .u64 s.last)).cell? ⟨g, 0, none⟩ = some (.pointer (some ⟨gw, 0, none⟩)) := (blk_cell L6.out.blk 0).trans rfl
        clear c0 L4 R4 B4 LT
        go_wp2_with fail
        obtain ⟨w6, hw6⟩ : ∃ w6, w6 = w4.setCell ⟨g, 5, none⟩ (.int .u64 s.last) := ⟨_, rfl⟩
        rw [← hw6] at L6 R6 B6 ⊢
        clear hw6 z5 c06 c5
        refine (Waiting_calls fm 64 d (s.L.drop d) w6 L6.out.win FM.out.1 FM.out.2.1 FM.out.2.2 (by rw [List.take_of_length_le]; have h1 : s.L.length ≤ s.n := L6.out.win.ok.fit; have h2 : s.n ≤ 64 := L6.out.win.ok.n64; simp; omega)).mono ?_
        rintro e w7 ⟨v7, rfl, ho, hb⟩
        obtain ⟨A7, c7, rfl, hl7, hrd⟩ := OwnRow.reads ho.2
        have HDL : Aside0 ((s.L.drop d).length ≤ 64) := ⟨by have h1 : s.L.length ≤ s.n := L6.out.win.ok.fit; have h2 : s.n ≤ 64 := L6.out.win.ok.n64; simp; omega⟩
        have R7 : Aside0 (Kd.R kF eF w7 w.heap.size (fun _ => True) (.slice A ackl.length c) ackl) := ⟨Kd.R_below R6.out hb⟩
        have L7 := Aside0.mk (L6.out.below hb)
        have B7 := Aside0.mk (B6.out.then_below hb)
        have RD := Aside0.mk hrd
        have HZ : Aside0 (w.heap.size ≤ w6.heap.size) := ⟨B6.out.size⟩
        have R6l : Aside0 (∀ k, (Value.slice A ackl.length c).ownBlock = some k → k < w6.heap.size) := ⟨Kd.R_lt R6.out⟩
        clear ho hb hrd hl7 L6 R6 B6
        have OL : Aside0 (ackl ++ s.L.drop d = outL s nw) := ⟨by rw [AL.out, DE.out]; rfl⟩
        generalize s.L.drop d = D at *
        go_wp2_with ((with_reducible refine gate_dst (N := 119) rfl ?_); refine Kd.R_append_rows kF (Rr := fun x cs => kF.M w7 w6.heap.size (fun k => True ∧ some k ≠ (Value.slice A7 D.length c7).ownBlock) x cs) (w0 := w7) w.heap.size rfl (.tmp 112) (.tmp 118) 40 eF _ 184 rfl Try.underlying40 info39 rfl (by decide) (by decide) (.slice A ackl.length c) ackl D A7 D.length c7 (fun _ => True) (fun b => w6.heap.size ≤ b) rfl rfl R7.out RD.out (fun x cs hx => kF.M_lower HZ.out (kF.M_mono (fun b hb => hb.2.1) (kF.M_bound hx))) (fun b hb => ⟨trivial, fun he => by have := R6l.out b he.symm; have h9 : w6.heap.size ≤ b := hb; omega⟩) (fun _ _ => trivial) (Below.refl _ _) B7.out.size (by have := HDL.out; have := HAL.out; omega) ?_; intro v8 w8 ho hb hg hat; have R8 := Aside0.mk ho; have B8 := Aside0.mk hb; have G8 := Aside0.mk hg; clear ho hb hg hat)
        go_ret
        have R8' := R8.out
        rw [OL.out] at R8'
        have L8 := L7.out.step (w1 := w8) (fun k hk hlt => B8.out.block k (HS.out k hk))
        rw [TKE.out] at L8
        exact ⟨_, rfl, R8', L8, B7.out.then_ (S2 := fun k => (Value.slice A ackl.length c).ownBlock = some k) ⟨G8.out.os, G8.out.tape, G8.out.output, G8.out.size, fun k hk hn => G8.out.block k hk (fun he => hn he.symm)⟩ (fun k hk => Or.inr (Kd.R_base R7.out k hk))⟩
    · have hst' : decide (fi ≤ s.sent) = false := decide_eq_false hst
      by_cases hfr : s.sent < s.last
      · have hfr' : decide (s.sent < s.last) = true := decide_eq_true hfr
        obtain ⟨d, hd⟩ : ∃ q : Nat, q = (s.sent + 1 - fi).toNat := ⟨_, rfl⟩
        obtain ⟨tk, htk⟩ : ∃ q : Int, q = nw := ⟨_, rfl⟩
        have DE : Aside0 (d = outD s nw) := ⟨by rw [hd]; unfold outD; rw [← FI.out, if_neg hst]⟩
        have TKE : Aside0 (tk = outTick s nw) := ⟨by rw [htk]; unfold outTick; rw [← FI.out, if_neg hst, if_pos hfr]⟩
        have TK : Aside0 (0 ≤ tk ∧ tk ≤ 1099511627776) := ⟨by rw [htk]; exact NW.out⟩
        have FM : Aside0 (0 ≤ (s.sent + 1) ∧ (s.sent + 1) < 18446744073709551616 ∧ d = ((s.sent + 1) - (s.last + 1 - s.L.length)).toNat) := ⟨by have h1 := OK.out.sent; have h2 := HBG.out; have h3 := LEN.out; have h4 := FI.out; unfold fst_ at h4; rw [hd]; refine ⟨by omega, by omega, ?_⟩; first | rfl | omega | (rw [h4])⟩
        have HTK := Aside0.mk htk
        clear hd htk
        go_wp2_with fail
        go_quiet ((go_at_call 31; exact Calls.quiet_of_same (HFQ.out _)))
        obtain ⟨w3, hq⟩ : ∃ x, x = wc.drewN nq := ⟨_, rfl⟩
        rw [← hq]
        have hbq : Below wc.heap.size wc w3 := by rw [hq]; exact pw_below_drewN (Below.refl _ _) _
        have L3 := Aside0.mk (L2.out.below hbq)
        have R3 : Aside0 (Kd.R kF eF w3 w.heap.size (fun _ => True) (.slice A ackl.length c) ackl) := ⟨Kd.R_below R2.out hbq⟩
        have B3 := Aside0.mk (B2.out.then_below hbq)
        clear hbq hq c0 c4 c5 c6 c7 L2 R2 B2
        have c0 : w3.cell? ⟨g, 0, none⟩ = some (.pointer (some ⟨gw, 0, none⟩)) := (blk_cell L3.out.blk 0).trans rfl
        have c4 : w3.cell? ⟨g, 4, none⟩ = some (.int .i64 s.again) := (blk_cell L3.out.blk 4).trans rfl
        have c5 : w3.cell? ⟨g, 5, none⟩ = some (.int .u64 s.sent) := (blk_cell L3.out.blk 5).trans rfl
        have c6 : w3.cell? ⟨g, 6, none⟩ = some (.int .i64 s.tick) := (blk_cell L3.out.blk 6).trans rfl
        have c7 : w3.cell? ⟨g, 7, none⟩ = some (.int .i64 nw) := (blk_cell L3.out.blk 7).trans rfl
        go_wp2_with fail
        go_quiet (fail)
        obtain ⟨w3b, hq⟩ : ∃ x, x = w3.drewN nq := ⟨_, rfl⟩
        rw [← hq]
        have hbq : Below w3.heap.size w3 w3b := by rw [hq]; exact pw_below_drewN (Below.refl _ _) _
        have L3 := Aside0.mk (L3.out.below hbq)
        have R3 : Aside0 (Kd.R kF eF w3b w.heap.size (fun _ => True) (.slice A ackl.length c) ackl) := ⟨Kd.R_below R3.out hbq⟩
        have B3 := Aside0.mk (B3.out.then_below hbq)
        clear hbq hq c0 c4 c5 c6 c7
        have c0 : w3b.cell? ⟨g, 0, none⟩ = some (.pointer (some ⟨gw, 0, none⟩)) := (blk_cell L3.out.blk 0).trans rfl
        have c4 : w3b.cell? ⟨g, 4, none⟩ = some (.int .i64 s.again) := (blk_cell L3.out.blk 4).trans rfl
        have c5 : w3b.cell? ⟨g, 5, none⟩ = some (.int .u64 s.sent) := (blk_cell L3.out.blk 5).trans rfl
        have c6 : w3b.cell? ⟨g, 6, none⟩ = some (.int .i64 s.tick) := (blk_cell L3.out.blk 6).trans rfl
        have c7 : w3b.cell? ⟨g, 7, none⟩ = some (.int .i64 nw) := (blk_cell L3.out.blk 7).trans rfl
        have LQ := L3.out
        have HLQ2 : Aside0 (∀ q, Calls Try.prog 32 #[.pointer (some ⟨gw, 0, none⟩)] (w3b.drewN q) fun e w' => e = .returned (.int .u64 s.last) ∧ w' = w3b.drewN q) := ⟨fun q => Last_calls (LQ.win.below (pw_below_drewN (Below.refl _ _) q))⟩
        clear LQ
        go_wp2_with fail
        go_quiet ((go_at_call 32; exact Calls.quiet_of_same (HLQ2.out _)))
        obtain ⟨wx, hq⟩ : ∃ x, x = w3b.drewN nq := ⟨_, rfl⟩
        rw [← hq]
        have hbq : Below w3b.heap.size w3b wx := by rw [hq]; exact pw_below_drewN (Below.refl _ _) _
        have L3 := Aside0.mk (L3.out.below hbq)
        have R3 : Aside0 (Kd.R kF eF wx w.heap.size (fun _ => True) (.slice A ackl.length c) ackl) := ⟨Kd.R_below R3.out hbq⟩
        have B3 := Aside0.mk (B3.out.then_below hbq)
        clear hbq hq c0 c4 c5 c6 c7
        have c0 : wx.cell? ⟨g, 0, none⟩ = some (.pointer (some ⟨gw, 0, none⟩)) := (blk_cell L3.out.blk 0).trans rfl
        have c4 : wx.cell? ⟨g, 4, none⟩ = some (.int .i64 s.again) := (blk_cell L3.out.blk 4).trans rfl
        have c5 : wx.cell? ⟨g, 5, none⟩ = some (.int .u64 s.sent) := (blk_cell L3.out.blk 5).trans rfl
        have c6 : wx.cell? ⟨g, 6, none⟩ = some (.int .i64 s.tick) := (blk_cell L3.out.blk 6).trans rfl
        have c7 : wx.cell? ⟨g, 7, none⟩ = some (.int .i64 nw) := (blk_cell L3.out.blk 7).trans rfl
        have z6 : wx.frozen? ⟨g, 6, none⟩ = false := blk_frozen L3.out.blk 6
        go_upto_region 15 with (fail)
        obtain ⟨w4, hw4⟩ : ∃ w4, w4 = wx.setCell ⟨g, 6, none⟩ (.int .i64 nw) := ⟨_, rfl⟩
        rw [← hw4]
        have L4 : Aside0 (LkB w4 S g gw gg { s with gs := { s.gs with o := false }, now := nw, tick := tk }) := ⟨by rw [hw4]; exact L3.out.upd (s' := { s with gs := { s.gs with o := false }, now := nw, tick := tk }) ((Beside.refl (fun k => k = g) wx).setCell rfl _) (by rw [HTK.out]; exact blk_put L3.out.blk 6 _ rfl) ⟨OK.out.me, OK.out.peer, OK.out.again, OK.out.sent, TK.out, NW.out, OK.out.u⟩ rfl rfl rfl rfl⟩
        have R4 : Aside0 (Kd.R kF eF w4 w.heap.size (fun _ => True) (.slice A ackl.length c) ackl) := ⟨by rw [hw4]; exact Kd.R_mono (Kd.R_far (p := ⟨g, 6, none⟩) (Kd.R_mono (Kd.R_bound R3.out) (ok' := fun b => b ≠ g) (fun b hb => by have := hb.2.1; have := GLT.out; omega)) (fun b hb => hb) _) (fun _ _ => trivial)⟩
        have B4 : Aside0 (Beside S w w4) := ⟨by rw [hw4]; exact B3.out.setCell (p := ⟨g, 6, none⟩) SG.out _⟩
        clear L3 R3 B3 c6 c7 z6 hw4
        obtain ⟨fm, hfm⟩ : ∃ q : Int, q = s.sent + 1 := ⟨_, rfl⟩
        rw [← hfm] at FM ⊢
        clear hfm c0 c4 c5
        have LT := Aside0.mk (Last_calls L4.out.win)
        have c0 : w4.cell? ⟨g, 0, none⟩ = some (.pointer (some ⟨gw, 0, none⟩)) := (blk_cell L4.out.blk 0).trans rfl
        have c5 : w4.cell? ⟨g, 5, none⟩ = some (.int .u64 s.sent) := (blk_cell L4.out.blk 5).trans rfl
        have z5 : w4.frozen? ⟨g, 5, none⟩ = false := blk_frozen L4.out.blk 5
        go_wp2_with fail
        refine LT.out.mono ?_
        rintro e w4 ⟨rfl, rfl⟩
        have L6 := Aside0.mk (L4.out.upd (s' := { s with gs := { s.gs with o := false }, now := nw, tick := tk, sent := s.last }) (w1 := w4.setCell ⟨g, 5, none⟩ (.int .u64 s.last)) ((Beside.refl (fun k => k = g) w4).setCell rfl _) (blk_put L4.out.blk 5 _ rfl) ⟨OK.out.me, OK.out.peer, OK.out.again, ⟨show (0 : Int) ≤ s.last from (by have := OK.out.sent; omega), Int.le_refl _⟩, TK.out, NW.out, OK.out.u⟩ rfl rfl rfl rfl)
        have R6 : Aside0 (Kd.R kF eF (w4.setCell ⟨g, 5, none⟩ (.int .u64 s.last)) w.heap.size (fun _ => True) (.slice A ackl.length c) ackl) := ⟨Kd.R_mono (Kd.R_far (p := ⟨g, 5, none⟩) (Kd.R_mono (Kd.R_bound R4.out) (ok' := fun b => b ≠ g) (fun b hb => by have := hb.2.1; have := GLT.out; omega)) (fun b hb => hb) _) (fun _ _ => trivial)⟩
        have B6 : Aside0 (Beside S w (w4.setCell ⟨g, 5, none⟩ (.int .u64 s.last))) := ⟨B4.out.setCell (p := ⟨g, 5, none⟩) SG.out _⟩
        have c06 : (w4.setCell ⟨g, 5, none⟩ (.int .u64 s.last)).cell? ⟨g, 0, none⟩ = some (.pointer (some ⟨gw, 0, none⟩)) := (blk_cell L6.out.blk 0).trans rfl
        clear c0 L4 R4 B4 LT
        go_wp2_with fail
        obtain ⟨w6, hw6⟩ : ∃ w6, w6 = w4.setCell ⟨g, 5, none⟩ (.int .u64 s.last) := ⟨_, rfl⟩
        rw [← hw6] at L6 R6 B6 ⊢
        clear hw6 z5 c06 c5
        refine (Waiting_calls fm 64 d (s.L.drop d) w6 L6.out.win FM.out.1 FM.out.2.1 FM.out.2.2 (by rw [List.take_of_length_le]; have h1 : s.L.length ≤ s.n := L6.out.win.ok.fit; have h2 : s.n ≤ 64 := L6.out.win.ok.n64; simp; omega)).mono ?_
        rintro e w7 ⟨v7, rfl, ho, hb⟩
        obtain ⟨A7, c7, rfl, hl7, hrd⟩ := OwnRow.reads ho.2
        have HDL : Aside0 ((s.L.drop d).length ≤ 64) := ⟨by have h1 : s.L.length ≤ s.n := L6.out.win.ok.fit; have h2 : s.n ≤ 64 := L6.out.win.ok.n64; simp; omega⟩
        have R7 : Aside0 (Kd.R kF eF w7 w.heap.size (fun _ => True) (.slice A ackl.length c) ackl) := ⟨Kd.R_below R6.out hb⟩
        have L7 := Aside0.mk (L6.out.below hb)
        have B7 := Aside0.mk (B6.out.then_below hb)
        have RD := Aside0.mk hrd
        have HZ : Aside0 (w.heap.size ≤ w6.heap.size) := ⟨B6.out.size⟩
        have R6l : Aside0 (∀ k, (Value.slice A ackl.length c).ownBlock = some k → k < w6.heap.size) := ⟨Kd.R_lt R6.out⟩
        clear ho hb hrd hl7 L6 R6 B6
        have OL : Aside0 (ackl ++ s.L.drop d = outL s nw) := ⟨by rw [AL.out, DE.out]; rfl⟩
        generalize s.L.drop d = D at *
        go_wp2_with ((with_reducible refine gate_dst (N := 119) rfl ?_); refine Kd.R_append_rows kF (Rr := fun x cs => kF.M w7 w6.heap.size (fun k => True ∧ some k ≠ (Value.slice A7 D.length c7).ownBlock) x cs) (w0 := w7) w.heap.size rfl (.tmp 112) (.tmp 118) 40 eF _ 184 rfl Try.underlying40 info39 rfl (by decide) (by decide) (.slice A ackl.length c) ackl D A7 D.length c7 (fun _ => True) (fun b => w6.heap.size ≤ b) rfl rfl R7.out RD.out (fun x cs hx => kF.M_lower HZ.out (kF.M_mono (fun b hb => hb.2.1) (kF.M_bound hx))) (fun b hb => ⟨trivial, fun he => by have := R6l.out b he.symm; have h9 : w6.heap.size ≤ b := hb; omega⟩) (fun _ _ => trivial) (Below.refl _ _) B7.out.size (by have := HDL.out; have := HAL.out; omega) ?_; intro v8 w8 ho hb hg hat; have R8 := Aside0.mk ho; have B8 := Aside0.mk hb; have G8 := Aside0.mk hg; clear ho hb hg hat)
        go_ret
        have R8' := R8.out
        rw [OL.out] at R8'
        have L8 := L7.out.step (w1 := w8) (fun k hk hlt => B8.out.block k (HS.out k hk))
        rw [TKE.out] at L8
        exact ⟨_, rfl, R8', L8, B7.out.then_ (S2 := fun k => (Value.slice A ackl.length c).ownBlock = some k) ⟨G8.out.os, G8.out.tape, G8.out.output, G8.out.size, fun k hk hn => G8.out.block k hk (fun he => hn he.symm)⟩ (fun k hk => Or.inr (Kd.R_base R7.out k hk))⟩
      · have hfr' : decide (s.sent < s.last) = false := decide_eq_false hfr
        obtain ⟨d, hd⟩ : ∃ q : Nat, q = (s.sent + 1 - fi).toNat := ⟨_, rfl⟩
        obtain ⟨tk, htk⟩ : ∃ q : Int, q = s.tick := ⟨_, rfl⟩
        have DE : Aside0 (d = outD s nw) := ⟨by rw [hd]; unfold outD; rw [← FI.out, if_neg hst]⟩
        have TKE : Aside0 (tk = outTick s nw) := ⟨by rw [htk]; unfold outTick; rw [← FI.out, if_neg hst, if_neg hfr]⟩
        have TK : Aside0 (0 ≤ tk ∧ tk ≤ 1099511627776) := ⟨by rw [htk]; exact OK.out.tick⟩
        have FM : Aside0 (0 ≤ (s.sent + 1) ∧ (s.sent + 1) < 18446744073709551616 ∧ d = ((s.sent + 1) - (s.last + 1 - s.L.length)).toNat) := ⟨by have h1 := OK.out.sent; have h2 := HBG.out; have h3 := LEN.out; have h4 := FI.out; unfold fst_ at h4; rw [hd]; refine ⟨by omega, by omega, ?_⟩; first | rfl | omega | (rw [h4])⟩
        have HTK := Aside0.mk htk
        clear hd htk
        go_wp2_with fail
        go_quiet ((go_at_call 31; exact Calls.quiet_of_same (HFQ.out _)))
        obtain ⟨w3, hq⟩ : ∃ x, x = wc.drewN nq := ⟨_, rfl⟩
        rw [← hq]
        have hbq : Below wc.heap.size wc w3 := by rw [hq]; exact pw_below_drewN (Below.refl _ _) _
        have L3 := Aside0.mk (L2.out.below hbq)
        have R3 : Aside0 (Kd.R kF eF w3 w.heap.size (fun _ => True) (.slice A ackl.length c) ackl) := ⟨Kd.R_below R2.out hbq⟩
        have B3 := Aside0.mk (B2.out.then_below hbq)
        clear hbq hq c0 c4 c5 c6 c7 L2 R2 B2
        have c0 : w3.cell? ⟨g, 0, none⟩ = some (.pointer (some ⟨gw, 0, none⟩)) := (blk_cell L3.out.blk 0).trans rfl
        have c4 : w3.cell? ⟨g, 4, none⟩ = some (.int .i64 s.again) := (blk_cell L3.out.blk 4).trans rfl
        have c5 : w3.cell? ⟨g, 5, none⟩ = some (.int .u64 s.sent) := (blk_cell L3.out.blk 5).trans rfl
        have c6 : w3.cell? ⟨g, 6, none⟩ = some (.int .i64 s.tick) := (blk_cell L3.out.blk 6).trans rfl
        have c7 : w3.cell? ⟨g, 7, none⟩ = some (.int .i64 nw) := (blk_cell L3.out.blk 7).trans rfl
        go_wp2_with fail
        go_quiet (fail)
        obtain ⟨w3b, hq⟩ : ∃ x, x = w3.drewN nq := ⟨_, rfl⟩
        rw [← hq]
        have hbq : Below w3.heap.size w3 w3b := by rw [hq]; exact pw_below_drewN (Below.refl _ _) _
        have L3 := Aside0.mk (L3.out.below hbq)
        have R3 : Aside0 (Kd.R kF eF w3b w.heap.size (fun _ => True) (.slice A ackl.length c) ackl) := ⟨Kd.R_below R3.out hbq⟩
        have B3 := Aside0.mk (B3.out.then_below hbq)
        clear hbq hq c0 c4 c5 c6 c7
        have c0 : w3b.cell? ⟨g, 0, none⟩ = some (.pointer (some ⟨gw, 0, none⟩)) := (blk_cell L3.out.blk 0).trans rfl
        have c4 : w3b.cell? ⟨g, 4, none⟩ = some (.int .i64 s.again) := (blk_cell L3.out.blk 4).trans rfl
        have c5 : w3b.cell? ⟨g, 5, none⟩ = some (.int .u64 s.sent) := (blk_cell L3.out.blk 5).trans rfl
        have c6 : w3b.cell? ⟨g, 6, none⟩ = some (.int .i64 s.tick) := (blk_cell L3.out.blk 6).trans rfl
        have c7 : w3b.cell? ⟨g, 7, none⟩ = some (.int .i64 nw) := (blk_cell L3.out.blk 7).trans rfl
        have LQ := L3.out
        have HLQ2 : Aside0 (∀ q, Calls Try.prog 32 #[.pointer (some ⟨gw, 0, none⟩)] (w3b.drewN q) fun e w' => e = .returned (.int .u64 s.last) ∧ w' = w3b.drewN q) := ⟨fun q => Last_calls (LQ.win.below (pw_below_drewN (Below.refl _ _) q))⟩
        clear LQ
        go_wp2_with fail
        go_quiet ((go_at_call 32; exact Calls.quiet_of_same (HLQ2.out _)))
        obtain ⟨wx, hq⟩ : ∃ x, x = w3b.drewN nq := ⟨_, rfl⟩
        rw [← hq]
        have hbq : Below w3b.heap.size w3b wx := by rw [hq]; exact pw_below_drewN (Below.refl _ _) _
        have L3 := Aside0.mk (L3.out.below hbq)
        have R3 : Aside0 (Kd.R kF eF wx w.heap.size (fun _ => True) (.slice A ackl.length c) ackl) := ⟨Kd.R_below R3.out hbq⟩
        have B3 := Aside0.mk (B3.out.then_below hbq)
        clear hbq hq c0 c4 c5 c6 c7
        have c0 : wx.cell? ⟨g, 0, none⟩ = some (.pointer (some ⟨gw, 0, none⟩)) := (blk_cell L3.out.blk 0).trans rfl
        have c4 : wx.cell? ⟨g, 4, none⟩ = some (.int .i64 s.again) := (blk_cell L3.out.blk 4).trans rfl
        have c5 : wx.cell? ⟨g, 5, none⟩ = some (.int .u64 s.sent) := (blk_cell L3.out.blk 5).trans rfl
        have c6 : wx.cell? ⟨g, 6, none⟩ = some (.int .i64 s.tick) := (blk_cell L3.out.blk 6).trans rfl
        have c7 : wx.cell? ⟨g, 7, none⟩ = some (.int .i64 nw) := (blk_cell L3.out.blk 7).trans rfl
        go_upto_region 15 with (fail)
        have L4 : Aside0 (LkB wx S g gw gg { s with gs := { s.gs with o := false }, now := nw, tick := tk }) := ⟨by rw [HTK.out]; exact L3.out⟩
        have R4 := R3
        have B4 := B3
        clear L3 R3 B3 c0 c4 c5 c6 c7
        generalize wx = w4 at *
        obtain ⟨fm, hfm⟩ : ∃ q : Int, q = s.sent + 1 := ⟨_, rfl⟩
        rw [← hfm] at FM ⊢
        clear hfm
        have LT := Aside0.mk (Last_calls L4.out.win)
        have c0 : w4.cell? ⟨g, 0, none⟩ = some (.pointer (some ⟨gw, 0, none⟩)) := (blk_cell L4.out.blk 0).trans rfl
        have c5 : w4.cell? ⟨g, 5, none⟩ = some (.int .u64 s.sent) := (blk_cell L4.out.blk 5).trans rfl
        have z5 : w4.frozen? ⟨g, 5, none⟩ = false := blk_frozen L4.out.blk 5
        go_wp2_with fail
        refine LT.out.mono ?_
        rintro e w4 ⟨rfl, rfl⟩
        have L6 := Aside0.mk (L4.out.upd (s' := { s with gs := { s.gs with o := false }, now := nw, tick := tk, sent := s.last }) (w1 := w4.setCell ⟨g, 5, none⟩ (.int .u64 s.last)) ((Beside.refl (fun k => k = g) w4).setCell rfl _) (blk_put L4.out.blk 5 _ rfl) ⟨OK.out.me, OK.out.peer, OK.out.again, ⟨show (0 : Int) ≤ s.last from (by have := OK.out.sent; omega), Int.le_refl _⟩, TK.out, NW.out, OK.out.u⟩ rfl rfl rfl rfl)
        have R6 : Aside0 (Kd.R kF eF (w4.setCell ⟨g, 5, none⟩ (.int .u64 s.last)) w.heap.size (fun _ => True) (.slice A ackl.length c) ackl) := ⟨Kd.R_mono (Kd.R_far (p := ⟨g, 5, none⟩) (Kd.R_mono (Kd.R_bound R4.out) (ok' := fun b => b ≠ g) (fun b hb => by have := hb.2.1; have := GLT.out; omega)) (fun b hb => hb) _) (fun _ _ => trivial)⟩
        have B6 : Aside0 (Beside S w (w4.setCell ⟨g, 5, none⟩ (.int .u64 s.last))) := ⟨B4.out.setCell (p := ⟨g, 5, none⟩) SG.out _⟩
        have c06 : (w4.setCell ⟨g, 5, none⟩ (.int .u64 s.last)).cell? ⟨g, 0, none⟩ = some (.pointer (some ⟨gw, 0, none⟩)) := (blk_cell L6.out.blk 0).trans rfl
        clear c0 L4 R4 B4 LT
        go_wp2_with fail
        obtain ⟨w6, hw6⟩ : ∃ w6, w6 = w4.setCell ⟨g, 5, none⟩ (.int .u64 s.last) := ⟨_, rfl⟩
        rw [← hw6] at L6 R6 B6 ⊢
        clear hw6 z5 c06 c5
        refine (Waiting_calls fm 64 d (s.L.drop d) w6 L6.out.win FM.out.1 FM.out.2.1 FM.out.2.2 (by rw [List.take_of_length_le]; have h1 : s.L.length ≤ s.n := L6.out.win.ok.fit; have h2 : s.n ≤ 64 := L6.out.win.ok.n64; simp; omega)).mono ?_
        rintro e w7 ⟨v7, rfl, ho, hb⟩
        obtain ⟨A7, c7, rfl, hl7, hrd⟩ := OwnRow.reads ho.2
        have HDL : Aside0 ((s.L.drop d).length ≤ 64) := ⟨by have h1 : s.L.length ≤ s.n := L6.out.win.ok.fit; have h2 : s.n ≤ 64 := L6.out.win.ok.n64; simp; omega⟩
        have R7 : Aside0 (Kd.R kF eF w7 w.heap.size (fun _ => True) (.slice A ackl.length c) ackl) := ⟨Kd.R_below R6.out hb⟩
        have L7 := Aside0.mk (L6.out.below hb)
        have B7 := Aside0.mk (B6.out.then_below hb)
        have RD := Aside0.mk hrd
        have HZ : Aside0 (w.heap.size ≤ w6.heap.size) := ⟨B6.out.size⟩
        have R6l : Aside0 (∀ k, (Value.slice A ackl.length c).ownBlock = some k → k < w6.heap.size) := ⟨Kd.R_lt R6.out⟩
        clear ho hb hrd hl7 L6 R6 B6
        have OL : Aside0 (ackl ++ s.L.drop d = outL s nw) := ⟨by rw [AL.out, DE.out]; rfl⟩
        generalize s.L.drop d = D at *
        go_wp2_with ((with_reducible refine gate_dst (N := 119) rfl ?_); refine Kd.R_append_rows kF (Rr := fun x cs => kF.M w7 w6.heap.size (fun k => True ∧ some k ≠ (Value.slice A7 D.length c7).ownBlock) x cs) (w0 := w7) w.heap.size rfl (.tmp 112) (.tmp 118) 40 eF _ 184 rfl Try.underlying40 info39 rfl (by decide) (by decide) (.slice A ackl.length c) ackl D A7 D.length c7 (fun _ => True) (fun b => w6.heap.size ≤ b) rfl rfl R7.out RD.out (fun x cs hx => kF.M_lower HZ.out (kF.M_mono (fun b hb => hb.2.1) (kF.M_bound hx))) (fun b hb => ⟨trivial, fun he => by have := R6l.out b he.symm; have h9 : w6.heap.size ≤ b := hb; omega⟩) (fun _ _ => trivial) (Below.refl _ _) B7.out.size (by have := HDL.out; have := HAL.out; omega) ?_; intro v8 w8 ho hb hg hat; have R8 := Aside0.mk ho; have B8 := Aside0.mk hb; have G8 := Aside0.mk hg; clear ho hb hg hat)
        go_ret
        have R8' := R8.out
        rw [OL.out] at R8'
        have L8 := L7.out.step (w1 := w8) (fun k hk hlt => B8.out.block k (HS.out k hk))
        rw [TKE.out] at L8
        exact ⟨_, rfl, R8', L8, B7.out.then_ (S2 := fun k => (Value.slice A ackl.length c).ownBlock = some k) ⟨G8.out.os, G8.out.tape, G8.out.output, G8.out.size, fun k hk hn => G8.out.block k hk (fun he => hn he.symm)⟩ (fun k hk => Or.inr (Kd.R_base R7.out k hk))⟩

end Go.Proofs.Ytmdomkpdfmoboaa.Walk
