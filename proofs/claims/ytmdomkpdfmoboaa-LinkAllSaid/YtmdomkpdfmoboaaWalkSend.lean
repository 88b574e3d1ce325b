/- A frame is put into a link. Conditions: none beyond the statement's own. -/
import Derived.Test.YtmdomkpdfmoboaaWalkLink
import Derived.Test.YtmdomkpdfmoboaaArgs
import Derived.Deep.QuietTactic
import Derived.BigQuiet
import Derived.Lib.QuietBelow
import Derived.Outline
import Derived.Deep.RegionHeld3
import Derived.Deep.CutRange
namespace Go.Proofs.Ytmdomkpdfmoboaa.Walk
open Go.RowKit Go.Proofs.Ytmdomkpdfmoboaa.F Go.Proofs.YtmdomkpdfmoboaaW.PrintWords Go.Proofs.YtmdomkpdfmoboaaW.PrintLast Go.Proofs.YtmdomkpdfmoboaaW.PrintMore Go.Proofs.Ytmdomkpdfmoboaa.Open
open Go.Sort (grow)
attribute [local go_sem] max2_int min2_int max_two min_two max_three min_three max_four min_four
set_option linter.unusedVariables false
set_option linter.unusedSimpArgs false

/-! ### Send of one frame -/
theorem add_zero_ (ad : Addr) : ad.add 0 = ad := by simp [Addr.add]
def hd (k a b : Int) (f : Fr) : Fr := { f with f0 := ⟨k, a, b⟩ }
theorem hd_FK {W : World} {ok : Nat → Prop} {x : Fr} {k a b : Int} {A11 A12 A13 A14 A15 : Option Addr} {c11 c12 c13 c14 c15 : Nat} (h : Kd.FK kF W ok x [.int .u8 x.f0.f0, .int .u8 x.f0.f1, .int .u8 x.f0.f2, .int .u8 x.f1.f0, .int .u64 x.f1.f1, .int .u64 x.f2, .int .u32 x.f3, .int .u32 x.f4, .int .u32 x.f5, .int .u64 x.f6, .int .u64 x.f7, .slice A11 x.f8.length c11, .slice A12 x.f9.length c12, .slice A13 x.f10.length c13, .slice A14 x.f11.length c14, .slice A15 x.f12.length c15]) : Kd.FK kF W ok (hd k a b x) [.int .u8 k, .int .u8 a, .int .u8 b, .int .u8 x.f1.f0, .int .u64 x.f1.f1, .int .u64 x.f2, .int .u32 x.f3, .int .u32 x.f4, .int .u32 x.f5, .int .u64 x.f6, .int .u64 x.f7, .slice A11 x.f8.length c11, .slice A12 x.f9.length c12, .slice A13 x.f10.length c13, .slice A14 x.f11.length c14, .slice A15 x.f12.length c15] := by
  obtain ⟨B11, d11, B12, d12, B13, d13, B14, d14, B15, d15, e, l11, g11, l12, g12, l13, g13, l14, g14, l15, g15⟩ := k39_openF h
  simp only [List.cons.injEq, Value.slice.injEq, true_and, and_true] at e
  obtain ⟨⟨rfl, rfl⟩, ⟨rfl, rfl⟩, ⟨rfl, rfl⟩, ⟨rfl, rfl⟩, rfl, rfl⟩ := e
  exact k39_mkF W ok (hd k a b x) l11 g11 l12 g12 l13 g13 l14 g14 l15 g15
theorem hd_fok {x : Fr} (h : fok x) (k a b : Int) : fok (hd k a b x) := ⟨h.l8, h.l9, h.l10, h.l11, h.l12⟩
def sentS (s : LS) (x : Fr) (k : Nat) : LS := { s with last := s.last + k, L := s.L ++ numb s.last (([hd 1 s.me s.peer x] : List Fr).take k) }
/-- The link behind a Put into its window. -/
theorem LkB.put {w w1 : World} {S : Nat → Prop} {g gw gg : Nat} {s s' : LS} (h : LkB w (fun k => S k ∧ k < w.heap.size) g gw gg s) (hB : Beside (fun k => (S k ∧ k < w.heap.size) ∧ k ≠ g ∧ k ≠ gg) w w1) (hok : lok s') (hc : lcells gw gg s' = lcells gw gg s) (hg : s'.gs = s.gs)
    (hW : Win w1 (fun b => ((S b ∧ b < w.heap.size) ∧ b ≠ g ∧ b ≠ gg) ∨ w.heap.size ≤ b) gw s'.n s'.last s'.L) : LkB w1 (fun b => (S b ∧ b < w.heap.size) ∨ w.heap.size ≤ b) g gw gg s' := by
  refine ⟨hok, Or.inl h.S_g, ?_, hW.mono (fun k hk => ?_), Or.inl h.S_gg, h.ne, ?_⟩
  · rw [hc]
    exact hB.blk h.blk (fun e => e.2.1 rfl)
  · rcases hk with hk | hk
    · exact ⟨Or.inl hk.1, hk.2⟩
    · have h1 := h.S_g.2
      have h2 := h.S_gg.2
      exact ⟨Or.inr hk, by omega, by omega⟩
  · rw [hg]
    exact hB.blk h.gate (fun e => e.2.2 rfl)
/-- The worlds of Send, up to the Put. -/
theorem send_w3 {wr w2 w3 : World} {S : Nat → Prop} {g gw gg : Nat} {s : LS} {x : Fr} {ok : Nat → Prop} {a b : Int} {A11 A12 A13 A14 A15 : Option Addr} {c11 c12 c13 c14 c15 : Nat} (hL : LkB wr S g gw gg s) (hB : Below wr.heap.size wr w2) (hbx : w2.heap[wr.heap.size]? = some (.cells #[.int .u8 x.f0.f0, .int .u8 x.f0.f1, .int .u8 x.f0.f2, .int .u8 x.f1.f0, .int .u64 x.f1.f1, .int .u64 x.f2, .int .u32 x.f3, .int .u32 x.f4, .int .u32 x.f5, .int .u64 x.f6, .int .u64 x.f7, .slice A11 x.f8.length c11, .slice A12 x.f9.length c12, .slice A13 x.f10.length c13, .slice A14 x.f11.length c14, .slice A15 x.f12.length c15] 39 (0, 0)))
    (hFK : Kd.FK kF wr (fun k => ok k ∧ k < wr.heap.size) x [.int .u8 x.f0.f0, .int .u8 x.f0.f1, .int .u8 x.f0.f2, .int .u8 x.f1.f0, .int .u64 x.f1.f1, .int .u64 x.f2, .int .u32 x.f3, .int .u32 x.f4, .int .u32 x.f5, .int .u64 x.f6, .int .u64 x.f7, .slice A11 x.f8.length c11, .slice A12 x.f9.length c12, .slice A13 x.f10.length c13, .slice A14 x.f11.length c14, .slice A15 x.f12.length c15])
    (hw : w3 = ((w2.setCell ⟨wr.heap.size, 0, none⟩ (.int .u8 1)).setCell ⟨wr.heap.size, 1, none⟩ (.int .u8 a)).setCell ⟨wr.heap.size, 2, none⟩ (.int .u8 b)) :
    w3.heap[wr.heap.size]? = some (.cells #[.int .u8 1, .int .u8 a, .int .u8 b, .int .u8 x.f1.f0, .int .u64 x.f1.f1, .int .u64 x.f2, .int .u32 x.f3, .int .u32 x.f4, .int .u32 x.f5, .int .u64 x.f6, .int .u64 x.f7, .slice A11 x.f8.length c11, .slice A12 x.f9.length c12, .slice A13 x.f10.length c13, .slice A14 x.f11.length c14, .slice A15 x.f12.length c15] 39 (0, 0)) ∧ LkB w3 (fun k => S k ∧ k < wr.heap.size) g gw gg s ∧ Below wr.heap.size wr w3 ∧ Kd.FK kF w3 (fun k => ok k ∧ k < wr.heap.size) (hd 1 a b x) [.int .u8 1, .int .u8 a, .int .u8 b, .int .u8 x.f1.f0, .int .u64 x.f1.f1, .int .u64 x.f2, .int .u32 x.f3, .int .u32 x.f4, .int .u32 x.f5, .int .u64 x.f6, .int .u64 x.f7, .slice A11 x.f8.length c11, .slice A12 x.f9.length c12, .slice A13 x.f10.length c13, .slice A14 x.f11.length c14, .slice A15 x.f12.length c15] := by
  have hb3 : Below wr.heap.size wr w3 := by
    rw [hw]
    exact ((hB.setCell (p := ⟨wr.heap.size, 0, none⟩) (Nat.le_refl _) _).setCell (p := ⟨wr.heap.size, 1, none⟩) (Nat.le_refl _) _).setCell (p := ⟨wr.heap.size, 2, none⟩) (Nat.le_refl _) _
  refine ⟨?_, hL.bound.step (fun k hk hlt => hb3.block k hlt), hb3, hd_FK (Kd.FK_step hFK (fun k hk hlt => hb3.block k hlt))⟩
  rw [hw]
  exact blk_put (blk_put (blk_put hbx 0 _ rfl) 1 _ rfl) 2 _ rfl
theorem send_lit {w3 : World} {ok : Nat → Prop} {n : Nat} {x : Fr} {cs : List Value} (h : Kd.FK kF w3 (fun k => ok k ∧ k < n) x cs) : Kd.F kF (w3.alloc (.cells cs.toArray 39)) (fun b => (ok b ∧ b < n) ∨ b = w3.heap.size) (some ⟨w3.heap.size, 0, none⟩) 1 [x] := by
  have := F_lit (t := 39) (g := w3.heap.size) (w := w3.alloc (.cells cs.toArray 39)) (d := kF) (ok := fun k => ok k ∧ k < n) [(x, cs)] (by have := blk_new w3 (.cells cs.toArray 39); simpa using this) (by simp) (fun r hr => by rw [List.mem_singleton.1 hr]; exact Kd.FK_below h (below_alloc (Below.refl _ _) _))
  simpa using this
set_option maxHeartbeats 4000000 in
set_option maxRecDepth 100000 in
theorem Send1_calls {S : Nat → Prop} {g gw gg : Nat} {s : LS} {ok : Nat → Prop} {A : Option Addr} {c : Nat} (x : Fr) (k : Nat) (w : World) (h : LkB w S g gw gg s) (hr : Kd.F kF w ok A 1 [x]) (hok : ∀ b, ok b → ¬ S b) (hc : 1 ≤ c) (hx : fok x) (hlast : s.last + 1 ≤ 4611686018427387904) (hk : k = min 1 (s.n - s.L.length)) :
    Calls Try.prog 11 #[.pointer (some ⟨g, 0, none⟩), .slice A 1 c] w fun e w' => e = .returned (.int .i64 k) ∧ LkB w' (fun b => S b ∨ w.heap.size ≤ b) g gw gg (sentS s x k) ∧ Beside S w w' := by
  have H := Aside0.mk h
  have HF := Aside0.mk (Kd.F_bound (Kd.F_mono hr hok))
  have HX := Aside0.mk hx
  have HT := Aside0.mk hlast
  have HK := Aside0.mk hk
  have hfit := h.win.ok.fit
  have h64 := h.win.ok.n64
  clear h hr hx hlast hk hok
  go_enter Try.func11, Try.ntmps11
  go_wp2_with fail
  go_loopg [5, 12] 1 (fun kq v5 v12 w' => (v12 = .int .i64 0 ∧ 1 ≤ kq ∧ v5 = .int .i64 0 ∧ Aside0 (LkB w' S g gw gg s) ∧ Aside0 (Below w.heap.size w w')) ∨ (v12 = .int .i64 1 ∧ v5 = .int .i64 k ∧ Aside0 (LkB w' (fun b => S b ∨ w.heap.size ≤ b) g gw gg (sentS s x k)) ∧ Aside0 (Beside S w w')))
  case atStart => exact Or.inl ⟨rfl, by omega, rfl, H, ⟨Below.refl _ _⟩⟩
  case round =>
    rcases hrel with ⟨rfl, hkj, rfl, HL, HB⟩ | ⟨rfl, rfl, HL, HB⟩
    · have hF := Kd.F_step HF.out (fun k hk hlt => HB.out.block k hlt)
      obtain ⟨x', ad, A11, c11, A12, c12, A13, c13, A14, c14, A15, c15, hx', e, hFK, k0, k1, k2, k3, k4, k5, k6, k7, k8, k9, k10, k11, k12, k13, k14, k15⟩ := at_F hF 0 (by decide) (by decide)
      obtain rfl : x = x' := Eq.symm hx'
      cases e
      have HFK := Aside0.mk (Kd.FK_bound hFK)
      have e0 : ad.add ((0 : Int).toNat * 16) = ad := add_zero_ ad
      rw [e0] at k0 k1 k2 k3 k4 k5 k6 k7 k8 k9 k10 k11 k12 k13 k14 k15
      clear e0 hF hFK hx'
      go_wp2_with fail
      refine (head_calls 1 (HL.out.below (below_alloc (Below.refl _ _) _))).mono ?_
      rintro e w2 ⟨rfl, hb⟩
      have hbx := blk_below (blk_new wr (.cells #[.int .u8 x.f0.f0, .int .u8 x.f0.f1, .int .u8 x.f0.f2, .int .u8 x.f1.f0, .int .u64 x.f1.f1, .int .u64 x.f2, .int .u32 x.f3, .int .u32 x.f4, .int .u32 x.f5, .int .u64 x.f6, .int .u64 x.f7, .slice A11 x.f8.length c11, .slice A12 x.f9.length c12, .slice A13 x.f10.length c13, .slice A14 x.f11.length c14, .slice A15 x.f12.length c15] 39)) hb
      have HBX := Aside0.mk hbx
      have b0 : w2.cell? ⟨wr.heap.size, 0, none⟩ = some (.int .u8 x.f0.f0) := (blk_cell hbx 0).trans rfl
      have b1 : w2.cell? ⟨wr.heap.size, 1, none⟩ = some (.int .u8 x.f0.f1) := (blk_cell hbx 1).trans rfl
      have b2 : w2.cell? ⟨wr.heap.size, 2, none⟩ = some (.int .u8 x.f0.f2) := (blk_cell hbx 2).trans rfl
      have z0 := blk_frozen hbx 0
      have z1 := blk_frozen hbx 1
      have z2 := blk_frozen hbx 2
      have B2 := Aside0.mk (below_step (below_alloc (Below.refl wr.heap.size wr) (.cells #[.int .u8 x.f0.f0, .int .u8 x.f0.f1, .int .u8 x.f0.f2, .int .u8 x.f1.f0, .int .u64 x.f1.f1, .int .u64 x.f2, .int .u32 x.f3, .int .u32 x.f4, .int .u32 x.f5, .int .u64 x.f6, .int .u64 x.f7, .slice A11 x.f8.length c11, .slice A12 x.f9.length c12, .slice A13 x.f10.length c13, .slice A14 x.f11.length c14, .slice A15 x.f12.length c15] 39)) hb)
      clear k0 k1 k2 k3 k4 k5 k6 k7 k8 k9 k10 k11 k12 k13 k14 k15 hb hbx
      go_wp2_with fail
      obtain ⟨w3, hw3⟩ : ∃ w3, w3 = ((w2.setCell ⟨wr.heap.size, 0, none⟩ (.int .u8 1)).setCell ⟨wr.heap.size, 1, none⟩ (.int .u8 s.me)).setCell ⟨wr.heap.size, 2, none⟩ (.int .u8 s.peer) := ⟨_, rfl⟩
      rw [← hw3]
      obtain ⟨p1, p2, p3, p4⟩ := send_w3 HL.out B2.out HBX.out HFK.out hw3
      have P1 := Aside0.mk p1
      have P2 := Aside0.mk p2
      have P3 := Aside0.mk p3
      have P4 := Aside0.mk p4
      have c0 : w3.cell? ⟨g, 0, none⟩ = some (.pointer (some ⟨gw, 0, none⟩)) := (blk_cell p2.blk 0).trans rfl
      have xb0 : w3.cell? ⟨wr.heap.size, 0, none⟩ = some (.int .u8 1) := (blk_cell p1 0).trans rfl
      have xb1 : w3.cell? ⟨wr.heap.size, 1, none⟩ = some (.int .u8 s.me) := (blk_cell p1 1).trans rfl
      have xb2 : w3.cell? ⟨wr.heap.size, 2, none⟩ = some (.int .u8 s.peer) := (blk_cell p1 2).trans rfl
      have xb3 : w3.cell? ⟨wr.heap.size, 3, none⟩ = some (.int .u8 x.f1.f0) := (blk_cell p1 3).trans rfl
      have xb4 : w3.cell? ⟨wr.heap.size, 4, none⟩ = some (.int .u64 x.f1.f1) := (blk_cell p1 4).trans rfl
      have xb5 : w3.cell? ⟨wr.heap.size, 5, none⟩ = some (.int .u64 x.f2) := (blk_cell p1 5).trans rfl
      have xb6 : w3.cell? ⟨wr.heap.size, 6, none⟩ = some (.int .u32 x.f3) := (blk_cell p1 6).trans rfl
      have xb7 : w3.cell? ⟨wr.heap.size, 7, none⟩ = some (.int .u32 x.f4) := (blk_cell p1 7).trans rfl
      have xb8 : w3.cell? ⟨wr.heap.size, 8, none⟩ = some (.int .u32 x.f5) := (blk_cell p1 8).trans rfl
      have xb9 : w3.cell? ⟨wr.heap.size, 9, none⟩ = some (.int .u64 x.f6) := (blk_cell p1 9).trans rfl
      have xb10 : w3.cell? ⟨wr.heap.size, 10, none⟩ = some (.int .u64 x.f7) := (blk_cell p1 10).trans rfl
      have xb11 : w3.cell? ⟨wr.heap.size, 11, none⟩ = some (.slice A11 x.f8.length c11) := (blk_cell p1 11).trans rfl
      have xb12 : w3.cell? ⟨wr.heap.size, 12, none⟩ = some (.slice A12 x.f9.length c12) := (blk_cell p1 12).trans rfl
      have xb13 : w3.cell? ⟨wr.heap.size, 13, none⟩ = some (.slice A13 x.f10.length c13) := (blk_cell p1 13).trans rfl
      have xb14 : w3.cell? ⟨wr.heap.size, 14, none⟩ = some (.slice A14 x.f11.length c14) := (blk_cell p1 14).trans rfl
      have xb15 : w3.cell? ⟨wr.heap.size, 15, none⟩ = some (.slice A15 x.f12.length c15) := (blk_cell p1 15).trans rfl
      clear b0 b1 b2 z0 z1 z2 hw3 p1 p2 p3 p4 HL HBX HFK B2
      have hs3 := P3.out.size
      have hk01 : k ≤ 1 := by have := HK.out; omega
      have hwk : IntKind.i64.wrap (k : Int) = k := by simp [IntKind.wrap, IntKind.signed, IntKind.bits]; omega
      have W4 : Aside0 (∀ o, LkB (w3.drew.alloc o) (fun k => (S k ∧ k < wr.heap.size) ∧ k < (w3.drew.alloc o).heap.size) g gw gg s) := ⟨fun o => (P2.out.below (below_alloc (below_drew (Below.refl _ _)) o)).bound⟩
      have F4 := Aside0.mk (send_lit (w3 := w3.drew) (Kd.FK_below P4.out (below_drew (Below.refl _ _))))
      go_region_held3 (fun w' => w'.cell? ⟨g, 0, none⟩ = some (.pointer (some ⟨gw, 0, none⟩)) ∧ w'.cell? ⟨wr.heap.size, 0, none⟩ = some (.int .u8 1) ∧ w'.cell? ⟨wr.heap.size, 1, none⟩ = some (.int .u8 s.me) ∧ w'.cell? ⟨wr.heap.size, 2, none⟩ = some (.int .u8 s.peer) ∧ w'.cell? ⟨wr.heap.size, 3, none⟩ = some (.int .u8 x.f1.f0) ∧ w'.cell? ⟨wr.heap.size, 4, none⟩ = some (.int .u64 x.f1.f1) ∧ w'.cell? ⟨wr.heap.size, 5, none⟩ = some (.int .u64 x.f2) ∧ w'.cell? ⟨wr.heap.size, 6, none⟩ = some (.int .u32 x.f3) ∧ w'.cell? ⟨wr.heap.size, 7, none⟩ = some (.int .u32 x.f4) ∧ w'.cell? ⟨wr.heap.size, 8, none⟩ = some (.int .u32 x.f5) ∧ w'.cell? ⟨wr.heap.size, 9, none⟩ = some (.int .u64 x.f6) ∧ w'.cell? ⟨wr.heap.size, 10, none⟩ = some (.int .u64 x.f7) ∧ w'.cell? ⟨wr.heap.size, 11, none⟩ = some (.slice A11 x.f8.length c11) ∧ w'.cell? ⟨wr.heap.size, 12, none⟩ = some (.slice A12 x.f9.length c12) ∧ w'.cell? ⟨wr.heap.size, 13, none⟩ = some (.slice A13 x.f10.length c13) ∧ w'.cell? ⟨wr.heap.size, 14, none⟩ = some (.slice A14 x.f11.length c14) ∧ w'.cell? ⟨wr.heap.size, 15, none⟩ = some (.slice A15 x.f12.length c15)) (go_keep)
        ((first
          | (go_at_call 27; refine (Put_calls [hd 1 s.me s.peer x] k _ (W4.out _).win (Kd.F_mono F4.out (fun b hb => ?side1)) (Nat.le_refl _) (fun f hf => by rw [List.mem_singleton.1 hf]; exact hd_fok HX.out _ _ _) HT.out HK.out).mono ?_; (case side1 => (intro hS; rcases hb with hb | hb; exact hb.1.1 hS.1.1.1; (have h9 := hS.1.1.2; (have h8 : b = w3.heap.size := hb); omega))); rintro e w5 ⟨rfl, hW, hBB⟩; have W5 := Aside0.mk hW; have B5 := Aside0.mk hBB; clear hW hBB; have y0 : w5.cell? ⟨g, 0, none⟩ = some (.pointer (some ⟨gw, 0, none⟩)) := (blk_cell (B5.out.blk (W4.out _).blk (fun e => e.2.1 rfl)) 0).trans rfl; have PB := Aside0.mk (B5.out.blk (blk_alloc (w := w3.drew) P1.out _) (fun e => Nat.lt_irrefl _ e.1.1.2)); have yb0 : w5.cell? ⟨wr.heap.size, 0, none⟩ = some (.int .u8 1) := (blk_cell PB.out 0).trans rfl; have yb1 : w5.cell? ⟨wr.heap.size, 1, none⟩ = some (.int .u8 s.me) := (blk_cell PB.out 1).trans rfl; have yb2 : w5.cell? ⟨wr.heap.size, 2, none⟩ = some (.int .u8 s.peer) := (blk_cell PB.out 2).trans rfl; have yb3 : w5.cell? ⟨wr.heap.size, 3, none⟩ = some (.int .u8 x.f1.f0) := (blk_cell PB.out 3).trans rfl; have yb4 : w5.cell? ⟨wr.heap.size, 4, none⟩ = some (.int .u64 x.f1.f1) := (blk_cell PB.out 4).trans rfl; have yb5 : w5.cell? ⟨wr.heap.size, 5, none⟩ = some (.int .u64 x.f2) := (blk_cell PB.out 5).trans rfl; have yb6 : w5.cell? ⟨wr.heap.size, 6, none⟩ = some (.int .u32 x.f3) := (blk_cell PB.out 6).trans rfl; have yb7 : w5.cell? ⟨wr.heap.size, 7, none⟩ = some (.int .u32 x.f4) := (blk_cell PB.out 7).trans rfl; have yb8 : w5.cell? ⟨wr.heap.size, 8, none⟩ = some (.int .u32 x.f5) := (blk_cell PB.out 8).trans rfl; have yb9 : w5.cell? ⟨wr.heap.size, 9, none⟩ = some (.int .u64 x.f6) := (blk_cell PB.out 9).trans rfl; have yb10 : w5.cell? ⟨wr.heap.size, 10, none⟩ = some (.int .u64 x.f7) := (blk_cell PB.out 10).trans rfl; have yb11 : w5.cell? ⟨wr.heap.size, 11, none⟩ = some (.slice A11 x.f8.length c11) := (blk_cell PB.out 11).trans rfl; have yb12 : w5.cell? ⟨wr.heap.size, 12, none⟩ = some (.slice A12 x.f9.length c12) := (blk_cell PB.out 12).trans rfl; have yb13 : w5.cell? ⟨wr.heap.size, 13, none⟩ = some (.slice A13 x.f10.length c13) := (blk_cell PB.out 13).trans rfl; have yb14 : w5.cell? ⟨wr.heap.size, 14, none⟩ = some (.slice A14 x.f11.length c14) := (blk_cell PB.out 14).trans rfl; have yb15 : w5.cell? ⟨wr.heap.size, 15, none⟩ = some (.slice A15 x.f12.length c15) := (blk_cell PB.out 15).trans rfl)))
      have LB := LkB.put (s' := sentS s x k) (W4.out _) B5.out ⟨(W4.out (.cells #[] 0)).ok.me, (W4.out (.cells #[] 0)).ok.peer, (W4.out (.cells #[] 0)).ok.again, ⟨(W4.out (.cells #[] 0)).ok.sent.1, by have := (W4.out (.cells #[] 0)).ok.sent.2; simp [sentS]; omega⟩, (W4.out (.cells #[] 0)).ok.tick, (W4.out (.cells #[] 0)).ok.now, (W4.out (.cells #[] 0)).ok.u⟩ rfl rfl W5.out
      have HBs := HB.out.size
      have L5 : Aside0 (LkB w5 (fun b => S b ∨ w.heap.size ≤ b) g gw gg (sentS s x k)) := ⟨LB.mono (fun b hb => by
        rcases hb with hb | hb
        · exact Or.inl hb.1.1
        · refine Or.inr ?_
          have : w3.heap.size ≤ b := Nat.le_trans (by simp) hb
          omega)⟩
      have BB : Aside0 (Beside S w w5) := ⟨((Beside.of_below S (below_step HB.out P3.out)).then_below (below_alloc (below_drew (Below.refl _ _)) _)).then_ B5.out (fun b hb => Or.inl hb.1.1.1)⟩
      clear LB W5 B5 PB y0 c0 xb0 xb1 xb2 xb3 xb4 xb5 xb6 xb7 xb8 xb9 xb10 xb11 xb12 xb13 xb14 xb15 yb0 yb1 yb2 yb3 yb4 yb5 yb6 yb7 yb8 yb9 yb10 yb11 yb12 yb13 yb14 yb15 W4 F4 P1 P2 P3 P4
      go_wp2_with fail
      go_roundg (gk - 1)
      case measure => omega
      case rel => exact Or.inr ⟨by rfl, by rfl, L5, BB⟩
    · have hk0 : (k : Int) ≤ 1 := by have := HK.out; omega
      go_wp2_with fail
      go_ret
      exact ⟨rfl, HL.out, HB.out⟩

end Go.Proofs.Ytmdomkpdfmoboaa.Walk
