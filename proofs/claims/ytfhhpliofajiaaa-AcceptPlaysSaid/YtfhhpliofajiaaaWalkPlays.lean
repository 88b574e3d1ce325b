/- Any row of numbers is let in, or not, as the reference says; what is owed, and how many of each kind came, too. Conditions: none beyond the statement's own. -/
import Derived.Test.YtfhhpliofajiaaaWalkPlaysPure
import Derived.Test.YtfhhpliofajiaaaArgs
import Derived.Deep.QuietTactic
import Derived.BigQuiet
import Derived.Lib.QuietBelow
import Derived.Outline
import Derived.Deep.RegionHeld3
import Derived.Deep.CutRange
namespace Go.Proofs.Ytfhhpliofajiaaa.Walk
open Go.RowKit Go.Proofs.Ytfhhpliofajiaaa.F Go.Proofs.YtfhhpliofajiaaaW.PrintWords Go.Proofs.YtfhhpliofajiaaaW.PrintLast Go.Proofs.YtfhhpliofajiaaaW.PrintMore Go.Proofs.Ytfhhpliofajiaaa.Open
open Go.Sort (grow)
attribute [local go_sem] max2_int min2_int max_two min_two max_three min_three max_four min_four
set_option linter.unusedVariables false
set_option linter.unusedSimpArgs false

theorem bes_cell {S : Nat → Prop} {w w1 : World} (h : Beside S w w1) {a : Addr} {v : Value} (hc : w.cell? a = some v) (hn : ¬ S a.block) : w1.cell? a = some v := cell_kept hc h.kept hn
set_option maxHeartbeats 2000000 in
theorem AcceptPlays (A0 : Option Addr) (c0 : Nat) (l0 : List Int) (A1 : Option Addr) (c1 : Nat) (l1 : List Bool) (a2 : Int) (w : World) (hr0 : Kd.C (Kd.int .u64) w A0 l0.length l0) (hc0 : l0.length ≤ c0) (hr1 : Kd.C Kd.bool w A1 l1.length l1) (hc1 : l1.length ≤ c1)
    (w0 : l0.length ≤ maxLen ∧ ∀ x ∈ l0, (Lit.int .u64 x).wf = true) (w1 : l1.length ≤ maxLen ∧ ∀ x ∈ l1, True) (w2 : (Lit.int .u8 a2).wf = true) :
    Calls Try.prog 4 #[.slice A0 l0.length c0, .slice A1 l1.length c1, .int .u8 a2] w fun e w' => e = .returned (.bool true) ∧ Below w.heap.size w w' := by
  have hlen : l0.length ≤ 9223372036854775807 := by have := w0.1; unfold maxLen at this; exact this
  have hlen1 : l1.length ≤ 9223372036854775807 := by have := w1.1; unfold maxLen at this; exact this
  have HN := Aside0.mk (fun x hx => wf_ok (w0.2 x hx))
  have HR := Aside0.mk hr0
  have HC := Aside0.mk hc0
  have HR1 := Aside0.mk hr1
  have HC1 := Aside0.mk hc1
  have HW : Aside0 (0 ≤ a2 ∧ a2 ≤ 255) := ⟨by simp [Lit.wf, IntKind.min, IntKind.max, IntKind.signed, IntKind.bits] at w2; omega⟩
  clear hr0 hc0 w0 hr1 hc1 w1 w2
  by_cases hl : (200 : Int) < l0.length
  · have hl' : decide ((200 : Int) < l0.length) = true := decide_eq_true hl
    go_enter Try.func4, Try.ntmps4
    go_wp2_with fail
    refine (awake_calls _).mono ?_
    rintro e w1 ⟨rfl, hb⟩
    have B1 := Aside0.mk hb
    clear hb
    go_wp2_with fail
    go_ret
    exact ⟨rfl, B1.out⟩
  · have hl' : decide ((200 : Int) < l0.length) = false := decide_eq_false hl
    go_enter Try.func4, Try.ntmps4
    go_wp2_with fail
    refine (New_calls _).mono ?_
    rintro e w1 ⟨g, rfl, hge, hg, hb⟩
    have GE := Aside0.mk hge
    have G1 := Aside0.mk hg
    have B1 := Aside0.mk hb
    clear hg hb hge
    go_wp2_with fail
    obtain ⟨w2, hw2⟩ : ∃ w2, w2 = w1.alloc (.cells #[.slice none 0 0, .int .u64 0, .bool false] 34) := ⟨_, rfl⟩
    rw [← hw2]
    obtain ⟨mb, hmb⟩ : ∃ mb, mb = w1.heap.size := ⟨_, rfl⟩
    rw [← hmb]
    have MB : Aside0 (w2.heap[mb]? = some (.cells #[.slice none 0 0, .int .u64 0, .bool false] 34 (0, 0))) := ⟨by rw [hw2, hmb]; exact blk_new w1 _⟩
    have G2 : Aside0 (Gate w2 g g0) := ⟨by rw [hw2]; exact blk_alloc G1.out _⟩
    have B2 : Aside0 (Below w.heap.size w w2) := ⟨by rw [hw2]; exact below_alloc B1.out _⟩
    have NE : Aside0 (mb ≠ g) := ⟨by have := blk_lt G1.out; omega⟩
    have ME : Aside0 (w.heap.size ≤ mb) := ⟨by rw [hmb]; exact B1.out.size⟩
    have MG : Aside0 (g < mb) := ⟨by rw [hmb]; exact blk_lt G1.out⟩
    clear hw2 hmb G1 B1 w1
    refine (Owes_calls _ _ _ G2.out).mono ?_
    rintro e w3 ⟨rfl, rfl⟩
    rw [show g0.o = false from rfl]
    go_wp2_with fail
    refine (Upto_calls _ _ _ G2.out).mono ?_
    rintro e w3 ⟨rfl, rfl⟩
    rw [show g0.u = 0 from rfl]
    go_wp2_with fail
    go_loopg [9] l0.length (fun kq v9 w' => ∃ (t : GS) (o : Bool) (L : List Int) (A : Option Addr) (c : Nat), v9 = .int .i64 L.length ∧ L.length ≤ l0.length ∧ l0.length ≤ kq + L.length ∧ Aside0 (Inv t L) ∧ Aside0 (ok64 t.u) ∧ Aside0 (Gate w' g t) ∧ Aside0 (w'.heap[mb]? = some (.cells #[.slice A L.length c, .int .u64 t.u, .bool o] 34 (0, 0))) ∧ Aside0 (Kd.R (Kd.int .u8) 5 w' (mb + 1) (fun _ => True) (.slice A L.length c) L) ∧ Aside0 (Below w.heap.size w w'))
    case atStart => exact ⟨g0, false, [], none, 0, rfl, by simp, by simp, ⟨inv0⟩, ⟨by decide, by decide⟩, G2, MB, ⟨Kd.R_nil _ _ _ _ _⟩, B2⟩
    case round =>
      clear G2 MB B2
      obtain ⟨t, o, L, A, c, rfl, hj, hkj, HI, HU, G, M, RL, HB⟩ := hrel
      by_cases hlt : L.length < l0.length
      · have hlt' : decide ((L.length : Int) < l0.length) = true := decide_eq_true (by omega)
        obtain ⟨ad, ead, hx⟩ := Kd.at_int HR.out (L.length : Int) (by omega) (by omega)
        cases ead
        have HX : Aside0 (∀ w', Below w.heap.size w w' → w'.cell? (ad.add L.length) = some (.int .u64 (rd l0 L.length))) := ⟨fun w' hb => by simpa using (hb.cell (World.block_lt_of_cell? w _ hx)).trans hx⟩
        clear hx
        have hm : rd l0 L.length ∈ l0 := by
          simp [rd, List.getD, hlt]
        have hok := Aside0.mk (HN.out _ hm)
        clear hm
        generalize rd l0 L.length = n at *
        have p_ : (0 ≤ (L.length : Int)) = True := eq_true (by omega)
        have q_ : ((L.length : Int) < (l0.length : Int)) = True := eq_true (by omega)
        have CL := Aside0.mk (Kd.R_reads' RL.out).2.2
        have LL := Aside0.mk (Kd.R_reads' RL.out).2.1
        have HF := Aside0.mk (ref_Take L t o n (by omega) HU.out hok.out)
        go_wp2_with fail
        have x1 := HX.out wr HB.out
        have m0 : wr.cell? ⟨mb, 0, none⟩ = some (.slice A L.length c) := (blk_cell M.out 0).trans rfl
        have m1 : wr.cell? ⟨mb, 1, none⟩ = some (.int .u64 t.u) := (blk_cell M.out 1).trans rfl
        have m2 : wr.cell? ⟨mb, 2, none⟩ = some (.bool o) := (blk_cell M.out 2).trans rfl
        have ne1 : wr.heap.size ≠ mb := by have := blk_lt M.out; omega
        have ne2 : wr.heap.size ≠ (ad.add L.length).block := by have := World.block_lt_of_cell? wr _ x1; omega
        go_cut [10, 11] from 25 to 84 (fun v10 v11 w' => ∃ (b : Nat) (A' : Option Addr) (c' : Nat), v10 = .pointer (some ⟨b, 0, none⟩) ∧ v11 = .int .u8 (took t n).2 ∧ mb < b ∧ Aside0 (w'.heap[b]? = some (.cells #[.slice A' (L.length + 1) c', .int .u64 (took t n).1.u, .bool true] 34 (0, 0))) ∧ Aside0 (Kd.R (Kd.int .u8) 5 w' (mb + 1) (fun _ => True) (.slice A' (L.length + 1) c') (L ++ [(took t n).2])) ∧ Aside0 (Below wr.heap.size wr w'))
        case first =>
          go_region_held3 (fun w' => w'.cell? (ad.add L.length) = some (.int .u64 n) ∧ w'.cell? ⟨mb, 0, none⟩ = some (.slice A L.length c) ∧ w'.cell? ⟨mb, 1, none⟩ = some (.int .u64 t.u) ∧ w'.cell? ⟨mb, 2, none⟩ = some (.bool o)) (go_keep) ((go_at_call 12; refine (unisonref09_G_Take.calls A c L t.u o n _ _ _ _ _ (Kd.C_below CL.out (by repeat (first | exact Below.refl _ _ | apply below_alloc | apply below_drew))) LL.out HF.out).mono ?_; rintro e w5 ⟨v0, rfl, ho, hb⟩; obtain ⟨A', c', rfl⟩ := Kd.R_slice ho; rw [show (L ++ [(took t n).2]).length = L.length + 1 by simp] at ho; have B5 := Aside0.mk (below_step (by repeat (first | exact Below.refl _ _ | apply below_alloc | apply below_drew)) hb : Below wr.heap.size wr w5); have R5 := Aside0.mk ho; (try (have zz := blk_below (blk_new wr.drew _) hb; have z0 : w5.cell? ⟨wr.heap.size, 0, none⟩ = some (.slice none 0 0) := (blk_cell zz 0).trans rfl; have z1 : w5.cell? ⟨wr.heap.size, 1, none⟩ = some (.int .u64 0) := (blk_cell zz 1).trans rfl; have z2 : w5.cell? ⟨wr.heap.size, 2, none⟩ = some (.bool false) := (blk_cell zz 2).trans rfl; have z3 : w5.frozen? ⟨wr.heap.size, 0, none⟩ = false := blk_frozen zz 0; have z4 : w5.frozen? ⟨wr.heap.size, 1, none⟩ = false := blk_frozen zz 1; have z5 : w5.frozen? ⟨wr.heap.size, 2, none⟩ = false := blk_frozen zz 2; have ZZ := Aside0.mk zz; clear zz)); clear ho hb; have ne3 : w5.heap.size ≠ mb := (by have := blk_lt M.out; have := B5.out.size; omega); have ne4 : w5.heap.size ≠ (ad.add L.length).block := (by have := World.block_lt_of_cell? wr _ x1; have := B5.out.size; omega); have y1 := HX.out w5 (below_step HB.out B5.out); have y2 := (B5.out.cell (blk_lt M.out)).trans m0; have y3 := (B5.out.cell (blk_lt M.out)).trans m1; have y4 := (B5.out.cell (blk_lt M.out)).trans m2))
          · go_wp2
            go_meet
            case rel => exact ⟨w5.heap.size, A', c', rfl, rfl, by have := blk_lt M.out; have := B5.out.size; omega, ⟨blk_new _ _⟩, ⟨Kd.R_alloc (Kd.R_lower R5.out (by have := blk_lt M.out; exact this)) _⟩, ⟨below_alloc B5.out _⟩⟩
          · go_wp2
            go_meet
            case rel =>
              refine ⟨wr.heap.size, A', c', rfl, rfl, by have := blk_lt M.out; omega, ⟨blk_put (blk_put (blk_put ZZ.out 0 _ rfl) 1 _ rfl) 2 _ rfl⟩, ⟨?_⟩, ⟨((B5.out.setCell (Nat.le_refl _) _).setCell (Nat.le_refl _) _).setCell (Nat.le_refl _) _⟩⟩
              have h := Kd.R_mono (Kd.R_bound R5.out) (ok' := fun k => k ≠ wr.heap.size) (fun k hk => by have := hk.2.1; simp at this; omega)
              exact Kd.R_mono (Kd.R_lower (Kd.R_far (Kd.R_far (Kd.R_far h (fun _ hk => hk) _) (fun _ hk => hk) _) (fun _ hk => hk) _) (by have := blk_lt M.out; simp; omega)) (fun _ _ => trivial)
        case rest =>
          clear x1 m0 m1 m2 ne1 ne2 CL LL
          obtain ⟨b, A', c', rfl, rfl, hbg, MBB, RB, BB⟩ := hcut
          have HI1 := Aside0.mk (HI.out.took_ (by omega) n)
          have HU1 := Aside0.mk (took_ok HU.out hok.out)
          have HO1 := Aside0.mk (took_o t n)
          have Gc : Aside0 (Gate wc g t) := ⟨blk_below G.out BB.out⟩
          have Mc := Aside0.mk (blk_below M.out BB.out)
          have Bc := Aside0.mk (below_step HB.out BB.out)
          clear HB M G RL BB
          have m0 : wc.cell? ⟨mb, 0, none⟩ = some (.slice A L.length c) := (blk_cell Mc.out 0).trans rfl
          have m1 : wc.cell? ⟨mb, 1, none⟩ = some (.int .u64 t.u) := (blk_cell Mc.out 1).trans rfl
          have m2 : wc.cell? ⟨mb, 2, none⟩ = some (.bool o) := (blk_cell Mc.out 2).trans rfl
          have f0 : wc.frozen? ⟨mb, 0, none⟩ = false := blk_frozen Mc.out 0
          have f1 : wc.frozen? ⟨mb, 1, none⟩ = false := blk_frozen Mc.out 1
          have f2 : wc.frozen? ⟨mb, 2, none⟩ = false := blk_frozen Mc.out 2
          have n0 : wc.cell? ⟨b, 0, none⟩ = some (.slice A' (L.length + 1) c') := (blk_cell MBB.out 0).trans rfl
          have n1 : wc.cell? ⟨b, 1, none⟩ = some (.int .u64 (took t n).1.u) := (blk_cell MBB.out 1).trans rfl
          have n2 : wc.cell? ⟨b, 2, none⟩ = some (.bool true) := (blk_cell MBB.out 2).trans rfl
          go_wp2_with fail
          obtain ⟨wd, hwd⟩ : ∃ wd, wd = ((wc.setCell ⟨mb, 0, none⟩ (.slice A' (L.length + 1) c')).setCell ⟨mb, 1, none⟩ (.int .u64 (took t n).1.u)).setCell ⟨mb, 2, none⟩ (.bool true) := ⟨_, rfl⟩
          rw [← hwd]
          have Md : Aside0 (wd.heap[mb]? = some (.cells #[.slice A' (L.length + 1) c', .int .u64 (took t n).1.u, .bool true] 34 (0, 0))) := ⟨by rw [hwd]; exact blk_put (blk_put (blk_put Mc.out 0 _ rfl) 1 _ rfl) 2 _ rfl⟩
          have Bcd : Beside (fun k => k = mb) wc wd := by rw [hwd]; exact (((Beside.refl (fun k => k = mb) wc).setCell rfl _).setCell rfl _).setCell rfl _
          have Gd : Aside0 (Gate wd g t) := ⟨Bcd.blk Gc.out (fun e => NE.out e.symm)⟩
          have Bd : Aside0 (Below w.heap.size w wd) := ⟨Beside.step Bc.out Bcd (fun k hk => hk ▸ ME.out)⟩
          have Rd : Aside0 (Kd.R (Kd.int .u8) 5 wd (mb + 1) (fun _ => True) (.slice A' (L.length + 1) c') (L ++ [(took t n).2])) := ⟨Kd.R_mono (Kd.R_kept (Kd.R_bound RB.out) Bcd.kept (fun k hk e => by have := hk.2.1; omega)) (fun _ _ => trivial)⟩
          clear Mc Gc Bc RB hwd Bcd m0 m1 m2 f0 f1 f2 n0 n1 n2 MBB
          have TK := Aside0.mk (Take1_calls g t n)
          have hL' : (L ++ [(took t n).2]).length ≤ 1000 := by simp; omega
          generalize hL2 : L ++ [(took t n).2] = L2 at *
          obtain ⟨e1⟩ : Aside0 (L.length + 1 = L2.length) := ⟨by rw [← hL2]; simp⟩
          rw [e1] at Md Rd ⊢
          have HL2 := Aside0.mk e1
          clear hL2 e1
          generalize (took t n).1 = t1 at *
          generalize (took t n).2 = q1 at *
          have HK1 := Aside0.mk (ref_Count a2 t1.u true L2 hL' (L2.length + 1) (by omega))
          have HC2 := Aside0.mk (HI1.out.cnt_ a2)
          have x1 := HX.out wd Bd.out
          have m0 : wd.cell? ⟨mb, 0, none⟩ = some (.slice A' L2.length c') := (blk_cell Md.out 0).trans rfl
          have m1 : wd.cell? ⟨mb, 1, none⟩ = some (.int .u64 t1.u) := (blk_cell Md.out 1).trans rfl
          have m2 : wd.cell? ⟨mb, 2, none⟩ = some (.bool true) := (blk_cell Md.out 2).trans rfl
          go_region_held3 (fun w' => w'.cell? (ad.add L.length) = some (.int .u64 n) ∧ w'.cell? ⟨mb, 0, none⟩ = some (.slice A' L2.length c') ∧ w'.cell? ⟨mb, 1, none⟩ = some (.int .u64 t1.u) ∧ w'.cell? ⟨mb, 2, none⟩ = some (.bool true)) (go_keep)
            ((first
              | (go_at_call 8; refine (TK.out _ wd.drew Gd.out HU.out hok.out).mono ?_; rintro e w5 ⟨rfl, hg, hb⟩; have G5 := Aside0.mk hg; have D5 := Aside0.mk (show Beside (fun k => k = g) wd w5 from ⟨hb.os, hb.tape, hb.output, hb.size, hb.block⟩); clear hg hb; have B5 := Aside0.mk (Beside.step Bd.out D5.out (fun k hk => hk ▸ GE.out)); have y1 := HX.out w5 B5.out; have y2 := bes_cell D5.out m0 NE.out; have y3 := bes_cell D5.out m1 NE.out; have y4 := bes_cell D5.out m2 NE.out)
              | (go_at_call 11; refine (Owes_calls g t1 _ G5.out).mono ?_; rintro e w6 ⟨rfl, rfl⟩; rw [HO1.out])
              | (go_at_call 9; refine (Upto_calls g t1 _ G5.out).mono ?_; rintro e w6 ⟨rfl, rfl⟩)
              | (go_at_call 10; refine (Count_calls g t1 a2 _ G5.out HW.out).mono ?_; rintro e w6 ⟨rfl, rfl⟩; rw [HC2.out])
              | (go_at_call 13; refine (unisonref09_G_Count.calls (L2.length + 1) A' c' L2 t1.u true a2 _ _ (Kd.R_reads' (Kd.R_kept (Kd.R_bound Rd.out) D5.out.kept (fun k hk e => by have := hk.2.1; have := MG.out; omega))).2.2 (Kd.R_reads' Rd.out).2.1 HK1.out).mono ?_; rintro e w7 ⟨rfl, hb⟩; have B7 := Aside0.mk hb; clear hb; have z1 := HX.out w7 (below_step B5.out B7.out); have z2 := (B7.out.cell (World.block_lt_of_cell? _ _ y2)).trans y2; have z3 := (B7.out.cell (World.block_lt_of_cell? _ _ y3)).trans y3; have z4 := (B7.out.cell (World.block_lt_of_cell? _ _ y4)).trans y4)))
          have G7 : Aside0 (Gate w7 g t1) := ⟨blk_below G5.out B7.out⟩
          have M7 := Aside0.mk (blk_below (D5.out.blk Md.out NE.out) B7.out)
          have R7 : Aside0 (Kd.R (Kd.int .u8) 5 w7 (mb + 1) (fun _ => True) (.slice A' L2.length c') L2) := ⟨Kd.R_mono (Kd.R_below (Kd.R_kept (Kd.R_bound Rd.out) D5.out.kept (fun k hk e => by have := hk.2.1; have := MG.out; omega)) B7.out) (fun _ _ => trivial)⟩
          have BB := Aside0.mk (below_step B5.out B7.out)
          clear G5 Md Gd Rd D5 B7 B5 y1 y2 y3 y4 z1 z2 z3 z4 x1 m0 m1 m2 HK1 HC2 TK Bd
          by_cases h1 : L.length < l1.length
          · have h1' : decide ((L.length : Int) < l1.length) = true := decide_eq_true (by omega)
            obtain ⟨ad1, ead, hx⟩ := Kd.at_bool HR1.out (L.length : Int) (by omega) (by omega)
            cases ead
            have hx2 : w7.cell? (ad1.add L.length) = some (.bool (rdOf false l1 L.length)) := by simpa using (BB.out.cell (World.block_lt_of_cell? w _ hx)).trans hx
            clear hx
            have q1_ : ((L.length : Int) < (l1.length : Int)) = True := eq_true (by omega)
            generalize rdOf false l1 L.length = tl at *
            cases tl
            · go_wp2_with fail
              go_roundg (gk - 1)
              case measure => omega
              case rel => exact ⟨t1, true, L2, A', c', (by rw [← HL2.out]; simp), by have := HL2.out; omega, by have := HL2.out; omega, ⟨HI1.out⟩, HU1, G7, M7, R7, BB⟩
            · go_wp2_with fail
              refine (Told_calls g t1 _ G7.out).mono ?_
              rintro e w8 ⟨rfl, hg, hb⟩
              have G8 := Aside0.mk hg
              have M8 := Aside0.mk (hb.blk M7.out NE.out)
              have R8 : Aside0 (Kd.R (Kd.int .u8) 5 w8 (mb + 1) (fun _ => True) (.slice A' L2.length c') L2) := ⟨Kd.R_mono (Kd.R_kept (Kd.R_bound R7.out) hb.kept (fun k hk e => by have := hk.2.1; have := MG.out; omega)) (fun _ _ => trivial)⟩
              have B8 := Aside0.mk (Beside.step BB.out hb (fun k hk => hk ▸ GE.out))
              clear hg hb G7 M7 R7 BB
              go_wp2_with fail
              refine (Owes_calls g _ _ G8.out).mono ?_
              rintro e w9 ⟨rfl, rfl⟩
              rw [show ({ t1 with o := false } : GS).o = false from rfl]
              go_wp2_with fail
              go_roundg (gk - 1)
              case measure => omega
              case rel => exact ⟨{ t1 with o := false }, true, L2, A', c', (by rw [← HL2.out]; simp), by have := HL2.out; omega, by have := HL2.out; omega, ⟨HI1.out.told⟩, HU1, G8, M8, R8, B8⟩
          · have h1' : decide ((L.length : Int) < l1.length) = false := decide_eq_false (by omega)
            go_wp2_with fail
            go_roundg (gk - 1)
            case measure => omega
            case rel => exact ⟨t1, true, L2, A', c', (by rw [← HL2.out]; simp), by have := HL2.out; omega, by have := HL2.out; omega, ⟨HI1.out⟩, HU1, G7, M7, R7, BB⟩
      · have hlt' : decide ((L.length : Int) < l0.length) = false := decide_eq_false (by omega)
        go_wp2_with fail
        refine (awake_calls _).mono ?_
        rintro e w4 ⟨rfl, hb⟩
        have B4 := Aside0.mk (below_step HB.out hb)
        clear hb
        go_wp2_with fail
        go_ret
        exact ⟨rfl, B4.out⟩

end Go.Proofs.Ytfhhpliofajiaaa.Walk
