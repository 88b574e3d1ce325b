/- What is stable is done by each that is not gone. Conditions: none beyond the statement's own. -/
import Derived.Test.YtahdbiddpphepaaWalkStabP
import Derived.Test.YtahdbiddpphepaaF2
import Derived.Test.YtahdbiddpphepaaArgs
import Derived.Deep.QuietTactic
import Derived.BigQuiet
import Derived.Lib.QuietBelow
import Derived.Outline
import Derived.Deep.RegionHeld3
import Derived.Deep.CutRange
namespace Go.Proofs.Ytahdbiddpphepaa.Walk
open Go.RowKit Go.Proofs.Ytahdbiddpphepaa.F Go.Proofs.YtahdbiddpphepaaW.PrintWords Go.Proofs.YtahdbiddpphepaaW.PrintLast Go.Proofs.YtahdbiddpphepaaW.PrintMore Go.Proofs.Ytahdbiddpphepaa.Open
open Go.Sort (grow)
attribute [local go_sem] max2_int min2_int max_two min_two max_three min_three max_four min_four
set_option linter.unusedVariables false
set_option linter.unusedSimpArgs false

theorem MS.store {w0 wr : World} {g rb cp : Nat} {L : List X} {Q : List (Nat × Nat × Array Value)} {b t : Nat} {o o' : Array Value} (h : MS w0 wr g rb cp L [] ((b, t, o) :: Q)) (hb : w0.heap.size ≤ b) (hq : ∀ q ∈ Q, q.1 ≠ b) (j : Nat) (v : Value) (ho : o.setIfInBounds j v = o') : MS w0 (wr.setCell ⟨b, j, none⟩ v) g rb cp L [] ((b, t, o') :: Q) := by
  obtain ⟨h1, S, hM, s, _, hB⟩ := h
  have hbs := (Beside.refl (fun k => k = b) wr).setCell (p := ⟨b, j, none⟩) rfl v
  have hb0 := hB (b, t, o) List.mem_cons_self
  refine ⟨Beside.step h1 hbs (fun k hk => by rw [hk]; exact hb), S, hM.beside hbs (fun k hk e => hb0.1 (e ▸ hk)), fun k hk => ⟨(s k hk).1, by have := (s k hk).2; simpa [World.setCell] using this⟩, by simp, fun q hq' => ?_⟩
  rcases List.mem_cons.1 hq' with rfl | hq'
  · exact ⟨hb0.1, blk_put hb0.2 j v ho⟩
  · have := hB q (List.mem_cons_of_mem _ hq')
    exact ⟨this.1, (hbs.block q.1 (blk_lt this.2) (hq q hq')).trans this.2⟩
abbrev tBool : Nat := 4
abbrev tID : Nat := 40
theorem infoB : (Try.prog.info? tBool).map (fun i => (i.zero, i.size, i.bytes)) = some (some (.bool false), 1, 1) := by kernel_rfl
def gcells (L : List X) : Array Value := ((gl L).map Value.bool).toArray
theorem gcells_new (n : Nat) : madeCells #[.bool false] 20 = gcells (newL n) := by
  unfold gcells
  rw [gl_new]
  kernel_rfl
theorem gcells_get (L : List X) {p : Nat} (hp : p < 20) : (gcells L)[p]? = some (.bool (goneAt L p)) := by
  unfold gcells
  rw [List.getElem?_toArray, List.getElem?_map, gl_get L hp]
  rfl
theorem gcells_set {L L' : List X} {q : Nat} (h : gl L' = (gl L).set q true) : (gcells L).setIfInBounds q (.bool true) = gcells L' := by
  unfold gcells
  rw [h, List.map_set, List.setIfInBounds_toArray]
set_option maxRecDepth 4000 in
set_option maxHeartbeats 8000000 in
theorem MatrixStable (n : Int) (A1 : Option Addr) (c1 : Nat) (l1 : List Ac) (a0 a1 : Int) (w : World) (hr : Kd.C kAc w A1 l1.length l1) (hc : l1.length ≤ c1) (_ : (Lit.int .i64 n).wf = true) (hw : l1.length ≤ maxLen ∧ ∀ x ∈ l1, wf29 x) (hid : wf40 ⟨a0, a1⟩) :
    Calls Try.prog 5 #[.int .i64 n, .slice A1 l1.length c1, .agg #[.int .u8 a0, .int .u64 a1]] w fun e w' => e = .returned (.bool true) ∧ Below w.heap.size w w' := by
  have hu := Try.underlying40
  have HR := Aside0.mk hr
  have HW := Aside0.mk hw.2
  have AW : Aside0 (∀ W, Calls Try.prog 8 #[] W fun e w' => e = .returned (.bool true) ∧ Below W.heap.size W w') := ⟨awake_calls⟩
  have ha0 : 0 ≤ a0 ∧ a0 ≤ 255 := by
    have h := hid.1
    simp only [Lit.wf, Bool.and_eq_true, decide_eq_true_eq, show IntKind.u8.min = 0 from rfl, show IntKind.u8.max = 255 from rfl] at h
    exact h
  have AI := Aside0.mk ha0
  have XI := Aside0.mk (blk_new w (.cells #[.int .u8 a0, .int .u64 a1] tID))
  have BI := Aside0.mk (below_alloc (Below.refl w.heap.size w) (.cells #[.int .u8 a0, .int .u64 a1] tID))
  clear hr hw hid ha0
  by_cases hl : l1.length ≤ 100
  · have hlz : ¬ ((l1.length : Int) > 100) := by omega
    have hlz2 : decide ((l1.length : Int) > 100) = false := decide_eq_false hlz
    by_cases hn : n ≤ 20
    · have hnz : ¬ (n > 20) := by omega
      have hnz2 : decide (n > 20) = false := decide_eq_false hnz
      have hN20 : nn n ≤ 20 ∧ 1 ≤ nn n := by unfold nn; split; omega; split <;> omega
      have hmx : (if n > 1 then n else 1) = (nn n : Int) := by
        unfold nn
        rw [if_neg (show ¬ 64 < n by omega)]
        by_cases h : n > 1
        · rw [if_pos h, if_pos (show 1 < n from h)]
          omega
        · rw [if_neg h, if_neg (show ¬ 1 < n from h)]
          rfl
      have hmk : ∀ W : World, (Instr.makeSlice 41 (.int .i64 20) (.int .i64 20)).run Try.prog W = .ok (.slice (some ⟨W.heap.size, 0, none⟩) 20 20) (W.alloc (.cells (gcells (newL (nn n))) tBool)) := fun W => by rw [← gcells_new]; exact print_make_of (P := Try.prog) 41 tBool (.bool false) 1 Try.underlying41 infoB rfl (by decide) 20 (by decide) W
      go_enter Try.func5, Try.ntmps5
      go_upto_region 3 with (fail)
      generalize w.alloc (.cells #[.int .u8 a0, .int .u64 a1] tID) = w0 at XI BI ⊢
      have hid0 : Aside0 (w.heap.size < w0.heap.size) := ⟨blk_lt XI.out⟩
      go_wp2_with fail
      refine (New_calls n w0).mono ?_
      rintro e w1 ⟨ga, ra, ca, rfl, hM1, hb1⟩
      have M1 := Aside0.mk (MS.make hM1 hb1)
      have XI1 := Aside0.mk (blk_below XI.out hb1)
      have BI1 := Aside0.mk (below_step BI.out hb1)
      have hb1s := Aside0.mk hb1.size
      clear hM1 hb1
      go_wp2_with fail
      obtain ⟨idb, hidb⟩ : ∃ idb, idb = w.heap.size := ⟨_, rfl⟩
      obtain ⟨gb, hgb⟩ : ∃ gb, gb = w1.heap.size := ⟨_, rfl⟩
      have NEB : Aside0 (gb ≠ idb) := ⟨by rw [hgb, hidb]; have h1 := hid0.out; have h2 := hb1s.out; omega⟩
      have UPB : Aside0 (w.heap.size ≤ gb ∧ w.heap.size ≤ idb) := ⟨by rw [hgb, hidb]; have h1 := hid0.out; have h2 := hb1s.out; omega⟩
      have M2 : Aside0 (MS w (w1.alloc (.cells (gcells (newL (nn n))) tBool)) ga ra ca (newL (nn n)) [] [(gb, tBool, gcells (newL (nn n))), (idb, tID, #[.int .u8 a0, .int .u64 a1])]) := ⟨by
        rw [hgb, hidb]
        obtain ⟨h1, S, hM, s, _, _⟩ := M1.out
        refine MS.put (b := w1.heap.size) (⟨BI1.out, S, hM, fun k hk => ⟨by have := (s k hk).1; have := BI.out.size; omega, (s k hk).2⟩, by simp, fun q hq => ?_⟩ : MS w w1 ga ra ca (newL (nn n)) [] [(w.heap.size, tID, #[.int .u8 a0, .int .u64 a1])]) (below_alloc (Below.refl _ _) _) (Nat.le_refl _) (blk_new w1 _)
        rw [List.mem_singleton.1 hq]
        exact ⟨fun h => by have := (s _ h).1; have := hid0.out; omega, XI1.out⟩⟩
      rw [← hidb, ← hgb]
      clear hidb hgb hmk M1 XI1 BI1 BI XI hid0 hb1s
      generalize w1.alloc (.cells (gcells (newL (nn n))) tBool) = w2 at M2 ⊢
      go_loopg [9, 10] l1.length (fun gg s9 s10 wr => ∃ i : Nat, s10 = .int .i64 i ∧ i ≤ l1.length ∧ l1.length - i ≤ gg ∧ ∃ L : List X, L.length = nn n ∧ s9 = .int .i64 (left L).length ∧ Aside0 (MS w wr ga ra ca L [] [(gb, tBool, gcells L), (idb, tID, #[.int .u8 a0, .int .u64 a1])]))
      case atStart => exact ⟨0, rfl, Nat.zero_le _, by omega, newL (nn n), by simp [newL], by rw [left_new], M2⟩
      case round =>
        clear M2
        obtain ⟨i, rfl, hi, hgg, L, hLn, rfl, MR⟩ := hrel
        by_cases hlt : i < l1.length
        · have hltz : (i : Int) < (l1.length : Int) := by omega
          have HX : Aside0 (l1[i]? = some l1[i]) := ⟨List.getElem?_eq_getElem hlt⟩
          have WX := Aside0.mk (act_wf (HW.out _ (List.mem_of_getElem? HX.out)))
          obtain ⟨ad, A3, c3, A4, c4, e, ⟨k0, k1, k2, k3, k4⟩, l3, g3, l4, g4⟩ := act_at HR.out HX.out
          cases e
          generalize l1[i] = x at HX WX k0 k1 k2 k3 k4 l3 g3 l4 g4
          have G3 := Aside0.mk g3
          have G4 := Aside0.mk g4
          have BR := Aside0.mk MR.out.below
          have k0 := pw_cell_below BR.out k0
          have k1 := pw_cell_below BR.out k1
          have k2 := pw_cell_below BR.out k2
          have k3 := pw_cell_below BR.out k3
          have k4 := pw_cell_below BR.out k4
          clear g3 g4
          have hwi : IntKind.i64.wrap ((i : Int) + 1) = ((i + 1 : Nat) : Int) := by rw [IntKind.wrap_i64]; omega
          go_upto_region 9 with (fail)
          go_cut [11] (fun v8 w' => ∃ b8 : Nat, v8 = .pointer (some ⟨b8, 0, none⟩) ∧ Aside0 (w'.heap[b8]? = some (.cells #[.bool x.f0, .int .i64 x.f1, .int .u64 x.f2, .slice A3 x.f3.length c3, .slice A4 x.f4.length c4] tAc (0, 0))) ∧ wr.heap.size ≤ b8 ∧ Aside0 (Below wr.heap.size wr w'))
          case first =>
            go_wp2_with fail
            go_meet
            case rel => exact ⟨wr.heap.size, rfl, ⟨blk_new wr (.cells #[.bool x.f0, .int .i64 x.f1, .int .u64 x.f2, .slice A3 x.f3.length c3, .slice A4 x.f4.length c4] tAc)⟩, Nat.le_refl _, ⟨below_alloc (Below.refl _ _) _⟩⟩
          case rest =>
            clear k0 k1 k2 k3 k4
            obtain ⟨b8, rfl, X8, hb8, BC⟩ := hcut
            have TC := Aside0.mk (MR.out.put BC.out hb8 X8.out)
            have x0 : wc.cell? ⟨b8, 0, none⟩ = some (.bool x.f0) := (blk_cell X8.out 0).trans rfl
            have x1 : wc.cell? ⟨b8, 1, none⟩ = some (.int .i64 x.f1) := (blk_cell X8.out 1).trans rfl
            have x2 : wc.cell? ⟨b8, 2, none⟩ = some (.int .u64 x.f2) := (blk_cell X8.out 2).trans rfl
            have x3 : wc.cell? ⟨b8, 3, none⟩ = some (.slice A3 x.f3.length c3) := (blk_cell X8.out 3).trans rfl
            have x4 : wc.cell? ⟨b8, 4, none⟩ = some (.slice A4 x.f4.length c4) := (blk_cell X8.out 4).trans rfl
            have GX := Aside0.mk (unisonlaw18_great.calls x.f0 x.f1 x.f2 A3 c3 x.f3 A4 c4 x.f4 (grt x) wc (Kd.C_below G3.out TC.out.below) l3 (Kd.C_below G4.out TC.out.below) l4 (great_f x))
            clear MR BR
            go_wp2_with fail
            refine GX.out.mono ?_
            rintro e w3 ⟨rfl, hb3⟩
            have T3 := Aside0.mk (TC.out.step hb3)
            clear hb3 GX TC X8 BC x0 x1 x2 x3 x4 hb8
            obtain ⟨rx, hrx⟩ : ∃ rx, grt x = rx := ⟨_, rfl⟩
            rw [hrx]
            cases rx with
            | true =>
              clear hrx
              go_wp2_with fail
              refine (AW.out _).mono ?_
              rintro e w4 ⟨rfl, hb⟩
              have B4 := Aside0.mk (below_step T3.out.below hb)
              clear hb
              go_wp2_with fail
              go_ret
              exact ⟨rfl, B4.out⟩
            | false =>
              have LX := Aside0.mk (grt_le hrx)
              clear hrx
              have hwl : IntKind.i64.wrap ((i : Int) + 1) = ((i + 1 : Nat) : Int) := by rw [IntKind.wrap_i64]; omega
              have x0 : w3.cell? ⟨b8, 0, none⟩ = some (.bool x.f0) := (blk_cell (T3.out.blk List.mem_cons_self) 0).trans rfl
              have x1 : w3.cell? ⟨b8, 1, none⟩ = some (.int .i64 x.f1) := (blk_cell (T3.out.blk List.mem_cons_self) 1).trans rfl
              obtain ⟨gx, hgx⟩ : ∃ gx, x.f0 = gx := ⟨_, rfl⟩
              rw [hgx] at x0
              cases gx with
              | false =>
                have x2 : w3.cell? ⟨b8, 2, none⟩ = some (.int .u64 x.f2) := (blk_cell (T3.out.blk List.mem_cons_self) 2).trans rfl
                have x3 : w3.cell? ⟨b8, 3, none⟩ = some (.slice A3 x.f3.length c3) := (blk_cell (T3.out.blk List.mem_cons_self) 3).trans rfl
                have x4 : w3.cell? ⟨b8, 4, none⟩ = some (.slice A4 x.f4.length c4) := (blk_cell (T3.out.blk List.mem_cons_self) 4).trans rfl
                have EN := Aside0.mk (left_tell L x.f1 x.f2 x.f3 x.f4)
                have EL : Aside0 ((tellL L x.f1 x.f2 x.f3 x.f4).length = nn n) := ⟨by rw [← act_tell hgx, act_len, hLn]⟩
                have EG : Aside0 (gcells (tellL L x.f1 x.f2 x.f3 x.f4) = gcells L) := ⟨by unfold gcells; rw [gl_tell]⟩
                have GC := Aside0.mk (T3.out.tell x.f1 x.f2 G3.out G4.out l3 l4 LX.out.1 LX.out.2 WX.out.1 WX.out.2.1 WX.out.2.2)
                clear hgx
                go_wp2_with fail
                refine GC.out.mono ?_
                rintro e w6 ⟨rfl, h6⟩
                have T6 := Aside0.mk h6
                clear h6 GC x1 x2 x3 x4
                go_wp2_with fail
                go_roundg (l1.length - (i + 1))
                case measure => omega
                case rel => exact ⟨i + 1, by go_num, by omega, by omega, _, EL.out, by rw [EN.out], ⟨by rw [EG.out]; exact T6.out.sub (fun _ h => h) (fun q hq => List.mem_cons_of_mem _ hq)⟩⟩
              | true =>
                have EL : Aside0 ((goneL L x.f1).length = nn n) := ⟨by rw [← act_gone hgx, act_len, hLn]⟩
                have GC := Aside0.mk (T3.out.gone x.f1)
                clear hgx
                go_wp2_with fail
                refine GC.out.mono ?_
                rintro e w6 ⟨rfl, h6⟩
                have T6 := Aside0.mk h6
                clear h6 GC x1
                by_cases hg1 : goneK L x.f1 = 1
                · obtain ⟨q, hq, hq20, hgl⟩ := gone_one hg1 (by omega)
                  have EW : IntKind.i64.wrap (((left L).length : Int) - 1) = ((left (goneL L x.f1)).length : Int) := by
                    have h1 := left_gone L x.f1
                    have h3 := left_len L
                    rw [hg1] at h1
                    rw [← h1, IntKind.wrap_i64]
                    omega
                  have x1 : w6.cell? ⟨b8, 1, none⟩ = some (.int .i64 (q : Int)) := by rw [← hq]; exact (blk_cell (T6.out.blk List.mem_cons_self) 1).trans rfl
                  have T7 := Aside0.mk ((T6.out.sub (Q' := [(gb, tBool, gcells L), (idb, tID, #[.int .u8 a0, .int .u64 a1])]) (fun _ h => h) (fun q hq => List.mem_cons_of_mem _ hq)).store UPB.out.1 (fun z hz => by rw [List.mem_singleton.1 hz]; exact NEB.out.symm) q (.bool true) (gcells_set hgl))
                  have gc : w6.cell? ⟨gb, q, none⟩ = some (.bool (goneAt L q)) := (blk_cell (T6.out.blk (b := gb) (t := tBool) (o := gcells L) (by simp)) q).trans (gcells_get L hq20)
                  have gf : w6.frozen? ⟨gb, q, none⟩ = false := blk_frozen (T6.out.blk (b := gb) (t := tBool) (o := gcells L) (by simp)) q
                  have hqz : ¬ ((q : Int) < 0) := by omega
                  have hqz2 : ¬ ((q : Int) > 19) := by omega
                  have hqz3 : (q : Int) < 20 := by omega
                  rw [hg1]
                  clear hg1 hq hgl
                  go_wp2_with fail
                  go_roundg (l1.length - (i + 1))
                  case measure => omega
                  case rel => exact ⟨i + 1, by go_num, by omega, by omega, _, EL.out, by first | rfl | rw [EW], T7⟩
                · have hg2 := gone_zero hg1
                  rw [hg2.2]
                  rw [hg2.1] at T6
                  clear hg1 hg2
                  go_wp2_with fail
                  go_roundg (l1.length - (i + 1))
                  case measure => omega
                  case rel => exact ⟨i + 1, by go_num, by omega, by omega, L, hLn, rfl, ⟨T6.out.sub (fun _ h => h) (fun q hq => List.mem_cons_of_mem _ hq)⟩⟩
        · obtain rfl : i = l1.length := by omega
          have hltz : ¬ (l1.length : Int) < (l1.length : Int) := by omega
          go_wp2_with fail
          refine (MR.out.stable).mono ?_
          rintro e w5 ⟨A12, c12, rfl, h⟩
          have M5 := Aside0.mk h
          have OKL := Aside0.mk h.mok
          have SL : Aside0 ((stable L).length ≤ 100) := ⟨by have := stable_len OKL.out; omega⟩
          clear h MR HR HW
          go_wp2_with fail
          go_loopg [13] (nn n) (fun gg s13 wj => ∃ p : Nat, s13 = .int .i64 p ∧ p ≤ nn n ∧ nn n - p ≤ gg ∧ Aside0 (MS w wj ga ra ca L [(A12, c12, stable L)] [(gb, tBool, gcells L), (idb, tID, #[.int .u8 a0, .int .u64 a1])]))
          case atStart => exact ⟨0, rfl, Nat.zero_le _, by omega, M5⟩
          case round =>
            clear M5
            obtain ⟨p, rfl, hp, hgp, MP⟩ := hrel
            by_cases hcc : p < nn n ∧ 0 < (left L).length
            · have hp20 : p < 20 := by omega
              have hpz : (p : Int) < (nn n : Int) := by omega
              have hlz3 : ((left L).length : Int) > 0 := by omega
              have hpz2 : (p : Int) < 20 := by omega
              have hwp : IntKind.i64.wrap ((p : Int) + 1) = ((p + 1 : Nat) : Int) := by rw [IntKind.wrap_i64]; omega
              have gc : wr.cell? ⟨gb, p, none⟩ = some (.bool (goneAt L p)) := (blk_cell (MP.out.blk (b := gb) (t := tBool) (o := gcells L) (by simp)) p).trans (gcells_get L hp20)
              obtain ⟨gg0, hg0⟩ : ∃ gg0, goneAt L p = gg0 := ⟨_, rfl⟩
              rw [hg0] at gc
              cases gg0 with
              | true =>
                clear hg0
                go_wp2_with fail
                go_roundg (nn n - (p + 1))
                case measure => omega
                case rel => exact ⟨p + 1, by go_num, by omega, by omega, MP⟩
              | false =>
                have hpL : p < L.length := by omega
                have DM := Aside0.mk (stays_done hpL hg0)
                have hI : ¬ (instOf L (p : Int) < least L) := by have := stays_inst hpL hg0; omega
                have hI2 : decide (instOf L (p : Int) < least L) = false := decide_eq_false hI
                clear hg0 hpL
                go_wp2_with fail
                refine (MP.out.done (p : Int)).mono ?_
                rintro e w6 ⟨A6, c6, rfl, h⟩
                have M6 := Aside0.mk h
                clear h MP gc
                go_wp2_with fail
                refine (M6.out.covers (a := doneOf L (p : Int)) (b := stable L) (A := A6) (c := c6) (B := A12) (d := c12) (by simp) (by simp) DM.out SL.out).mono ?_
                rintro e w7 ⟨rfl, h⟩
                have M7 := Aside0.mk h
                clear h M6
                go_wp2_with fail
                refine (M7.out.inst (p : Int)).mono ?_
                rintro e w8 ⟨rfl, h⟩
                have h := h.symm
                subst h
                go_wp2_with fail
                refine (M7.out.least).mono ?_
                rintro e w8 ⟨rfl, h⟩
                have M8 := Aside0.mk (h.sub (P' := [(A12, c12, stable L)]) (Q' := [(gb, tBool, gcells L), (idb, tID, #[.int .u8 a0, .int .u64 a1])]) (fun z hz => List.mem_cons_of_mem _ hz) (fun q hq => hq))
                clear h M7
                go_wp2_with fail
                go_roundg (nn n - (p + 1))
                case measure => omega
                case rel => exact ⟨p + 1, by go_num, by omega, by omega, M8⟩
            · have HK : Aside0 ((¬ (p : Int) < (nn n : Int)) ∨ ((p : Int) < (nn n : Int) ∧ ¬ ((left L).length : Int) > 0)) := ⟨by omega⟩
              have i0 : wr.cell? ⟨idb, 0, none⟩ = some (.int .u8 a0) := (blk_cell (MP.out.blk (b := idb) (t := tID) (o := #[.int .u8 a0, .int .u64 a1]) (by simp)) 0).trans rfl
              have i1 : wr.cell? ⟨idb, 1, none⟩ = some (.int .u64 a1) := (blk_cell (MP.out.blk (b := idb) (t := tID) (o := #[.int .u8 a0, .int .u64 a1]) (by simp)) 1).trans rfl
              have HC : Aside0 (Calls Try.prog 22 #[.pointer (some ⟨ga, 0, none⟩), .agg #[.int .u8 a0, .int .u64 a1]] wr fun e w' => ∃ v, e = .returned v ∧ Kd.R (Kd.int .i64) tI64 w' wr.heap.size (fun _ => True) v (holders L a0 a1) ∧ Below wr.heap.size wr w') := ⟨by
                obtain ⟨_, S, hM, _⟩ := MP.out
                exact Holders_calls hM a0 a1 AI.out.1 AI.out.2⟩
              clear hcc
              rcases HK.out with hk1 | ⟨hk1, hk2⟩
              all_goals
                clear HK
                go_wp2_with fail
                refine HC.out.mono ?_
                rintro e w9 ⟨v, rfl, hR, hb⟩
                obtain ⟨A14, c14, rfl⟩ := Kd.R_slice hR
                have C9 := Aside0.mk (Kd.R_reads' hR).2.2
                have M9 := Aside0.mk ((MP.out.sub (P' := []) (Q' := [(gb, tBool, gcells L), (idb, tID, #[.int .u8 a0, .int .u64 a1])]) (fun z hz => by cases hz) (fun q hq => hq)).step hb)
                have HL := Aside0.mk (holders_len OKL.out a0 a1)
                have hHL := HL.out
                clear hR hb HC MP i0 i1
                obtain ⟨H, hH⟩ : ∃ H, H = holders L a0 a1 := ⟨_, rfl⟩
                have EH := Aside0.mk hH
                rw [← hH] at C9 hHL ⊢
                clear hH HL
                go_wp2_with fail
                go_loopg [15] H.length (fun gg s15 wk => ∃ i : Nat, s15 = .int .i64 i ∧ i ≤ H.length ∧ H.length - i ≤ gg ∧ Aside0 (MS w wk ga ra ca L [] [(gb, tBool, gcells L), (idb, tID, #[.int .u8 a0, .int .u64 a1])]) ∧ Aside0 (Below w9.heap.size w9 wk))
                case atStart => exact ⟨0, rfl, Nat.zero_le _, by omega, M9, ⟨Below.refl _ _⟩⟩
                case round =>
                  clear M9
                  obtain ⟨i, rfl, hi, hgi, MI, BI⟩ := hrel
                  by_cases hlt : i < H.length
                  · have hltz : (i : Int) < (H.length : Int) := by omega
                    have HX : Aside0 (H[i]? = some H[i]) := ⟨List.getElem?_eq_getElem hlt⟩
                    obtain ⟨q, hq, hqL, hqg, hqh⟩ := (holders_ok AI.out.1 (by rw [← EH.out]; exact List.mem_of_getElem? HX.out) : hok L a0 a1 H[i]).ex
                    obtain ⟨ad, ea, hc0⟩ := at_int_nat C9.out HX.out
                    cases ea
                    rw [hq] at hc0
                    have c0 := pw_cell_below BI.out hc0
                    have hq20 : q < 20 := by omega
                    have hq1 : ¬ ((q : Int) < 0) := by omega
                    have hq2 : ¬ ((q : Int) > 19) := by omega
                    have hq3 : (q : Int) < 20 := by omega
                    have hq4 : decide ((q : Int) < 0) = false := decide_eq_false hq1
                    have hq5 : decide ((q : Int) > 19) = false := decide_eq_false hq2
                    have hq6 : decide (19 < (q : Int)) = false := decide_eq_false hq2
                    have hA : ¬ (rd (heldOf L (q : Int)) a0 < a1) := by omega
                    have hA2 : decide (rd (heldOf L (q : Int)) a0 < a1) = false := decide_eq_false hA
                    have AT : Aside0 (unisonref04_At.f (heldOf L (q : Int)) a0 = some (rd (heldOf L (q : Int)) a0)) := ⟨by
                      have h0 := AI.out.1
                      obtain ⟨ka, hka⟩ : ∃ ka : Nat, a0 = ka := ⟨a0.toNat, by omega⟩
                      rw [hka]
                      exact at_f _ _⟩
                    have hcv : IntKind.i64.wrap a0 = a0 := by rw [IntKind.wrap_i64]; have := AI.out; omega
                    have hwi : IntKind.i64.wrap ((i : Int) + 1) = ((i + 1 : Nat) : Int) := by rw [IntKind.wrap_i64]; omega
                    have cg : wr.cell? ⟨gb, q, none⟩ = some (.bool false) := by rw [← hqg]; exact (blk_cell (MI.out.blk (b := gb) (t := tBool) (o := gcells L) (by simp)) q).trans (gcells_get L hq20)
                    have ci0 : wr.cell? ⟨idb, 0, none⟩ = some (.int .u8 a0) := (blk_cell (MI.out.blk (b := idb) (t := tID) (o := #[.int .u8 a0, .int .u64 a1]) (by simp)) 0).trans rfl
                    have ci1 : wr.cell? ⟨idb, 1, none⟩ = some (.int .u64 a1) := (blk_cell (MI.out.blk (b := idb) (t := tID) (o := #[.int .u8 a0, .int .u64 a1]) (by simp)) 1).trans rfl
                    have HQ : Aside0 (Calls Try.prog 19 #[.pointer (some ⟨ga, 0, none⟩), .int .i64 (q : Int)] wr.drew fun e w' => ∃ v, e = .returned v ∧ Kd.R kU tU w' wr.drew.heap.size (fun _ => True) v (heldOf L (q : Int)) ∧ Below wr.drew.heap.size wr.drew w') := ⟨by
                      obtain ⟨_, S, hM, _⟩ := MI.out
                      exact Held_calls hM.drew (q : Int)⟩
                    clear hqg hqL
                    rcases Nat.eq_zero_or_pos i with hi0 | hi0
                    · obtain rfl : i = 0 := hi0
                      have c0 : wr.cell? ad = some (.int .i64 (q : Int)) := c0
                      go_wp2_with fail
                      refine wp_region_held_drew (S := fun w' => w'.cell? ad = some (.int .i64 (q : Int)) ∧ w'.cell? ⟨gb, q, none⟩ = some (.bool false) ∧ w'.cell? ⟨idb, 0, none⟩ = some (.int .u8 a0) ∧ w'.cell? ⟨idb, 1, none⟩ = some (.int .u64 a1)) (by kernel_rfl) (by go_keep) (fun hHeld => ?_)
                      refine wpAnyH_take (i := 0) (oi := { dst := some 117, op := Op.move (Operand.tmp 14), type := 42, pos := "law.go:129", after := #[], guard := none }) (v := ?_) rfl (by kernel_rfl) (by kernel_rfl) (by kernel_rfl) (fun _ _ _ h => h) (Or.inl ⟨by rfl, ?_⟩) (by assumption) ?_
                      rotate_left
                      · (intro w hSw; (try dsimp only at hSw); go_simp; try with_reducible rfl)
                      simp only [Act.put, List.setIfInBounds_toArray, List.set_cons_zero, List.set_cons_succ]
                      refine wpAnyH_take (i := 1) (oi := { dst := some 118, op := Op.move (Operand.tmp 15), type := 3, pos := "law.go:129", after := #[], guard := none }) (v := ?_) rfl (by kernel_rfl) (by kernel_rfl) (by kernel_rfl) (fun _ _ _ h => h) (Or.inl ⟨by rfl, ?_⟩) (by assumption) ?_
                      rotate_left
                      · (intro w hSw; (try dsimp only at hSw); go_simp; try with_reducible rfl)
                      simp only [Act.put, List.setIfInBounds_toArray, List.set_cons_zero, List.set_cons_succ]
                      refine wpAnyH_take (i := 2) (oi := { dst := some 119, op := Op.indexAddr 42 (Operand.tmp 117) (Operand.tmp 118), type := 0, pos := "law.go:129", after := #[{ on := 0, ground := Ground.data }, { on := 1, ground := Ground.data }], guard := none }) (v := ?_) rfl (by kernel_rfl) (by kernel_rfl) (by kernel_rfl) (fun _ _ _ h => h) (Or.inl ⟨by rfl, ?_⟩) (by assumption) ?_
                      rotate_left
                      · (intro w hSw; (try dsimp only at hSw); go_simp; try with_reducible rfl)
                      simp only [Act.put, List.setIfInBounds_toArray, List.set_cons_zero, List.set_cons_succ]
                      refine wpAnyH_take (i := 3) (oi := { dst := some 120, op := Op.load 3 (Operand.tmp 119), type := 3, pos := "law.go:129", after := #[{ on := 2, ground := Ground.data }], guard := none }) (v := ?_) rfl (by kernel_rfl) (by kernel_rfl) (by kernel_rfl) (fun _ _ _ h => h) (Or.inl ⟨by rfl, ?_⟩) (by assumption) ?_
                      rotate_left
                      · (intro w hSw; (try dsimp only at hSw); go_simp; try with_reducible rfl)
                      simp only [Act.put, List.setIfInBounds_toArray, List.set_cons_zero, List.set_cons_succ]
                      refine wpAnyH_take (i := 4) (oi := { dst := some 121, op := Op.binOp BinOp.lss 3 (Operand.tmp 120) (Operand.const (Value.int IntKind.i64 0)) 3, type := 4, pos := "law.go:129", after := #[{ on := 3, ground := Ground.data }], guard := none }) (v := ?_) rfl (by kernel_rfl) (by kernel_rfl) (by kernel_rfl) (fun _ _ _ h => h) (Or.inl ⟨by rfl, ?_⟩) (by assumption) ?_
                      rotate_left
                      · (intro w hSw; (try dsimp only at hSw); go_simp; try with_reducible rfl)
                      simp only [Act.put, List.setIfInBounds_toArray, List.set_cons_zero, List.set_cons_succ]
                      refine wpAnyH_take (i := 5) (oi := { dst := some 122, op := Op.move (Operand.tmp 121), type := 4, pos := "law.go:129", after := #[{ on := 4, ground := Ground.data }], guard := none }) (v := ?_) rfl (by kernel_rfl) (by kernel_rfl) (by kernel_rfl) (fun _ _ _ h => h) (Or.inl ⟨by rfl, ?_⟩) (by assumption) ?_
                      rotate_left
                      · (intro w hSw; (try dsimp only at hSw); go_simp; try with_reducible rfl)
                      simp only [Act.put, List.setIfInBounds_toArray, List.set_cons_zero, List.set_cons_succ]
                      refine wpAnyH_take (i := 6) (oi := { dst := some 123, op := Op.move (Operand.tmp 14), type := 42, pos := "law.go:129", after := #[{ on := 5, ground := Ground.guard }], guard := some (5, false) }) (v := ?_) rfl (by kernel_rfl) (by kernel_rfl) (by kernel_rfl) (fun _ _ _ h => h) (Or.inl ⟨by rfl, ?_⟩) (by assumption) ?_
                      rotate_left
                      · (intro w hSw; (try dsimp only at hSw); go_simp; try with_reducible rfl)
                      simp only [Act.put, List.setIfInBounds_toArray, List.set_cons_zero, List.set_cons_succ]
                      refine wpAnyH_take (i := 7) (oi := { dst := some 124, op := Op.move (Operand.tmp 15), type := 3, pos := "law.go:129", after := #[{ on := 5, ground := Ground.guard }], guard := some (5, false) }) (v := ?_) rfl (by kernel_rfl) (by kernel_rfl) (by kernel_rfl) (fun _ _ _ h => h) (Or.inl ⟨by rfl, ?_⟩) (by assumption) ?_
                      rotate_left
                      · (intro w hSw; (try dsimp only at hSw); go_simp; try with_reducible rfl)
                      simp only [Act.put, List.setIfInBounds_toArray, List.set_cons_zero, List.set_cons_succ]
                      refine wpAnyH_take (i := 8) (oi := { dst := some 125, op := Op.indexAddr 42 (Operand.tmp 123) (Operand.tmp 124), type := 0, pos := "law.go:129", after := #[{ on := 6, ground := Ground.data }, { on := 7, ground := Ground.data }, { on := 5, ground := Ground.guard }], guard := some (5, false) }) (v := ?_) rfl (by kernel_rfl) (by kernel_rfl) (by kernel_rfl) (fun _ _ _ h => h) (Or.inl ⟨by rfl, ?_⟩) (by assumption) ?_
                      rotate_left
                      · (intro w hSw; (try dsimp only at hSw); go_simp; try with_reducible rfl)
                      simp only [Act.put, List.setIfInBounds_toArray, List.set_cons_zero, List.set_cons_succ]
                      refine wpAnyH_take (i := 9) (oi := { dst := some 126, op := Op.load 3 (Operand.tmp 125), type := 3, pos := "law.go:129", after := #[{ on := 8, ground := Ground.data }, { on := 5, ground := Ground.guard }], guard := some (5, false) }) (v := ?_) rfl (by kernel_rfl) (by kernel_rfl) (by kernel_rfl) (fun _ _ _ h => h) (Or.inl ⟨by rfl, ?_⟩) (by assumption) ?_
                      rotate_left
                      · (intro w hSw; (try dsimp only at hSw); go_simp; try with_reducible rfl)
                      simp only [Act.put, List.setIfInBounds_toArray, List.set_cons_zero, List.set_cons_succ]
                      refine wpAnyH_take (i := 10) (oi := { dst := some 127, op := Op.binOp BinOp.gtr 3 (Operand.tmp 126) (Operand.const (Value.int IntKind.i64 19)) 3, type := 4, pos := "law.go:129", after := #[{ on := 9, ground := Ground.data }, { on := 5, ground := Ground.guard }], guard := some (5, false) }) (v := ?_) rfl (by kernel_rfl) (by kernel_rfl) (by kernel_rfl) (fun _ _ _ h => h) (Or.inl ⟨by rfl, ?_⟩) (by assumption) ?_
                      rotate_left
                      · (intro w hSw; (try dsimp only at hSw); go_simp; try with_reducible rfl)
                      simp only [Act.put, List.setIfInBounds_toArray, List.set_cons_zero, List.set_cons_succ]
                      refine wpAnyH_take (i := 11) (oi := { dst := some 128, op := Op.pick (Operand.tmp 122) (Operand.const (Value.bool true)) (Operand.tmp 127), type := 4, pos := "law.go:129", after := #[{ on := 5, ground := Ground.data }, { on := 10, ground := Ground.data }], guard := none }) (v := ?_) rfl (by kernel_rfl) (by kernel_rfl) (by kernel_rfl) (fun _ _ _ h => h) (Or.inl ⟨by rfl, ?_⟩) (by assumption) ?_
                      rotate_left
                      · (intro w hSw; (try dsimp only at hSw); go_simp; try with_reducible rfl)
                      simp only [Act.put, List.setIfInBounds_toArray, List.set_cons_zero, List.set_cons_succ]
                      refine wpAnyH_take (i := 12) (oi := { dst := some 129, op := Op.move (Operand.tmp 128), type := 4, pos := "law.go:129", after := #[{ on := 11, ground := Ground.data }, { on := 5, ground := Ground.chain }], guard := none }) (v := ?_) rfl (by kernel_rfl) (by kernel_rfl) (by kernel_rfl) (fun _ _ _ h => h) (Or.inl ⟨by rfl, ?_⟩) (by assumption) ?_
                      rotate_left
                      · (intro w hSw; (try dsimp only at hSw); go_simp; try with_reducible rfl)
                      simp only [Act.put, List.setIfInBounds_toArray, List.set_cons_zero, List.set_cons_succ]
                      refine wpAnyH_take (i := 13) (oi := { dst := some 130, op := Op.move (Operand.tmp 8), type := 41, pos := "law.go:129", after := #[{ on := 12, ground := Ground.guard }], guard := some (12, false) }) (v := ?_) rfl (by kernel_rfl) (by kernel_rfl) (by kernel_rfl) (fun _ _ _ h => h) (Or.inl ⟨by rfl, ?_⟩) (by assumption) ?_
                      rotate_left
                      · (intro w hSw; (try dsimp only at hSw); go_simp; try with_reducible rfl)
                      simp only [Act.put, List.setIfInBounds_toArray, List.set_cons_zero, List.set_cons_succ]
                      refine wpAnyH_take (i := 14) (oi := { dst := some 131, op := Op.move (Operand.tmp 14), type := 42, pos := "law.go:129", after := #[{ on := 12, ground := Ground.guard }], guard := some (12, false) }) (v := ?_) rfl (by kernel_rfl) (by kernel_rfl) (by kernel_rfl) (fun _ _ _ h => h) (Or.inl ⟨by rfl, ?_⟩) (by assumption) ?_
                      rotate_left
                      · (intro w hSw; (try dsimp only at hSw); go_simp; try with_reducible rfl)
                      simp only [Act.put, List.setIfInBounds_toArray, List.set_cons_zero, List.set_cons_succ]
                      refine wpAnyH_take (i := 15) (oi := { dst := some 132, op := Op.move (Operand.tmp 15), type := 3, pos := "law.go:129", after := #[{ on := 12, ground := Ground.guard }], guard := some (12, false) }) (v := ?_) rfl (by kernel_rfl) (by kernel_rfl) (by kernel_rfl) (fun _ _ _ h => h) (Or.inl ⟨by rfl, ?_⟩) (by assumption) ?_
                      rotate_left
                      · (intro w hSw; (try dsimp only at hSw); go_simp; try with_reducible rfl)
                      simp only [Act.put, List.setIfInBounds_toArray, List.set_cons_zero, List.set_cons_succ]
                      refine wpAnyH_take (i := 16) (oi := { dst := some 133, op := Op.indexAddr 42 (Operand.tmp 131) (Operand.tmp 132), type := 0, pos := "law.go:129", after := #[{ on := 14, ground := Ground.data }, { on := 15, ground := Ground.data }, { on := 12, ground := Ground.guard }], guard := some (12, false) }) (v := ?_) rfl (by kernel_rfl) (by kernel_rfl) (by kernel_rfl) (fun _ _ _ h => h) (Or.inl ⟨by rfl, ?_⟩) (by assumption) ?_
                      rotate_left
                      · (intro w hSw; (try dsimp only at hSw); go_simp; try with_reducible rfl)
                      simp only [Act.put, List.setIfInBounds_toArray, List.set_cons_zero, List.set_cons_succ]
                      refine wpAnyH_take (i := 17) (oi := { dst := some 134, op := Op.load 3 (Operand.tmp 133), type := 3, pos := "law.go:129", after := #[{ on := 16, ground := Ground.data }, { on := 12, ground := Ground.guard }], guard := some (12, false) }) (v := ?_) rfl (by kernel_rfl) (by kernel_rfl) (by kernel_rfl) (fun _ _ _ h => h) (Or.inl ⟨by rfl, ?_⟩) (by assumption) ?_
                      rotate_left
                      · (intro w hSw; (try dsimp only at hSw); go_simp; try with_reducible rfl)
                      simp only [Act.put, List.setIfInBounds_toArray, List.set_cons_zero, List.set_cons_succ]
                      refine wpAnyH_take (i := 18) (oi := { dst := some 135, op := Op.indexAddr 41 (Operand.tmp 130) (Operand.tmp 134), type := 0, pos := "law.go:129", after := #[{ on := 13, ground := Ground.data }, { on := 17, ground := Ground.data }, { on := 12, ground := Ground.guard }], guard := some (12, false) }) (v := ?_) rfl (by kernel_rfl) (by kernel_rfl) (by kernel_rfl) (fun _ _ _ h => h) (Or.inl ⟨by rfl, ?_⟩) (by assumption) ?_
                      rotate_left
                      · (intro w hSw; (try dsimp only at hSw); go_simp; try with_reducible rfl)
                      simp only [Act.put, List.setIfInBounds_toArray, List.set_cons_zero, List.set_cons_succ]
                      refine wpAnyH_take (i := 19) (oi := { dst := some 136, op := Op.load 4 (Operand.tmp 135), type := 4, pos := "law.go:129", after := #[{ on := 18, ground := Ground.data }, { on := 12, ground := Ground.guard }], guard := some (12, false) }) (v := ?_) rfl (by kernel_rfl) (by kernel_rfl) (by kernel_rfl) (fun _ _ _ h => h) (Or.inl ⟨by rfl, ?_⟩) (by assumption) ?_
                      rotate_left
                      · (intro w hSw; (try dsimp only at hSw); go_simp; try with_reducible rfl)
                      simp only [Act.put, List.setIfInBounds_toArray, List.set_cons_zero, List.set_cons_succ]
                      refine wpAnyH_take (i := 20) (oi := { dst := some 137, op := Op.pick (Operand.tmp 129) (Operand.const (Value.bool true)) (Operand.tmp 136), type := 4, pos := "law.go:129", after := #[{ on := 12, ground := Ground.data }, { on := 19, ground := Ground.data }], guard := none }) (v := ?_) rfl (by kernel_rfl) (by kernel_rfl) (by kernel_rfl) (fun _ _ _ h => h) (Or.inl ⟨by rfl, ?_⟩) (by assumption) ?_
                      rotate_left
                      · (intro w hSw; (try dsimp only at hSw); go_simp; try with_reducible rfl)
                      simp only [Act.put, List.setIfInBounds_toArray, List.set_cons_zero, List.set_cons_succ]
                      refine wpAnyH_take (i := 21) (oi := { dst := some 138, op := Op.move (Operand.tmp 137), type := 4, pos := "law.go:129", after := #[{ on := 20, ground := Ground.data }, { on := 12, ground := Ground.chain }], guard := none }) (v := ?_) rfl (by kernel_rfl) (by kernel_rfl) (by kernel_rfl) (fun _ _ _ h => h) (Or.inl ⟨by rfl, ?_⟩) (by assumption) ?_
                      rotate_left
                      · (intro w hSw; (try dsimp only at hSw); go_simp; try with_reducible rfl)
                      simp only [Act.put, List.setIfInBounds_toArray, List.set_cons_zero, List.set_cons_succ]
                      refine wpAnyH_take (i := 22) (oi := { dst := some 139, op := Op.move (Operand.tmp 7), type := 24, pos := "law.go:129", after := #[{ on := 21, ground := Ground.guard }], guard := some (21, false) }) (v := ?_) rfl (by kernel_rfl) (by kernel_rfl) (by kernel_rfl) (fun _ _ _ h => h) (Or.inl ⟨by rfl, ?_⟩) (by assumption) ?_
                      rotate_left
                      · (intro w hSw; (try dsimp only at hSw); go_simp; try with_reducible rfl)
                      simp only [Act.put, List.setIfInBounds_toArray, List.set_cons_zero, List.set_cons_succ]
                      refine wpAnyH_take (i := 23) (oi := { dst := some 140, op := Op.move (Operand.tmp 14), type := 42, pos := "law.go:129", after := #[{ on := 21, ground := Ground.guard }], guard := some (21, false) }) (v := ?_) rfl (by kernel_rfl) (by kernel_rfl) (by kernel_rfl) (fun _ _ _ h => h) (Or.inl ⟨by rfl, ?_⟩) (by assumption) ?_
                      rotate_left
                      · (intro w hSw; (try dsimp only at hSw); go_simp; try with_reducible rfl)
                      simp only [Act.put, List.setIfInBounds_toArray, List.set_cons_zero, List.set_cons_succ]
                      refine wpAnyH_take (i := 24) (oi := { dst := some 141, op := Op.move (Operand.tmp 15), type := 3, pos := "law.go:129", after := #[{ on := 21, ground := Ground.guard }], guard := some (21, false) }) (v := ?_) rfl (by kernel_rfl) (by kernel_rfl) (by kernel_rfl) (fun _ _ _ h => h) (Or.inl ⟨by rfl, ?_⟩) (by assumption) ?_
                      rotate_left
                      · (intro w hSw; (try dsimp only at hSw); go_simp; try with_reducible rfl)
                      simp only [Act.put, List.setIfInBounds_toArray, List.set_cons_zero, List.set_cons_succ]
                      refine wpAnyH_take (i := 25) (oi := { dst := some 142, op := Op.indexAddr 42 (Operand.tmp 140) (Operand.tmp 141), type := 0, pos := "law.go:129", after := #[{ on := 23, ground := Ground.data }, { on := 24, ground := Ground.data }, { on := 21, ground := Ground.guard }], guard := some (21, false) }) (v := ?_) rfl (by kernel_rfl) (by kernel_rfl) (by kernel_rfl) (fun _ _ _ h => h) (Or.inl ⟨by rfl, ?_⟩) (by assumption) ?_
                      rotate_left
                      · (intro w hSw; (try dsimp only at hSw); go_simp; try with_reducible rfl)
                      simp only [Act.put, List.setIfInBounds_toArray, List.set_cons_zero, List.set_cons_succ]
                      refine wpAnyH_take (i := 26) (oi := { dst := some 143, op := Op.load 3 (Operand.tmp 142), type := 3, pos := "law.go:129", after := #[{ on := 25, ground := Ground.data }, { on := 21, ground := Ground.guard }], guard := some (21, false) }) (v := ?_) rfl (by kernel_rfl) (by kernel_rfl) (by kernel_rfl) (fun _ _ _ h => h) (Or.inl ⟨by rfl, ?_⟩) (by assumption) ?_
                      rotate_left
                      · (intro w hSw; (try dsimp only at hSw); go_simp; try with_reducible rfl)
                      simp only [Act.put, List.setIfInBounds_toArray, List.set_cons_zero, List.set_cons_succ]
                      refine wpAnyH_take (i := 28) (oi := { dst := some 145, op := Op.fieldAddr 40 (Operand.tmp 5) 0, type := 0, pos := "law.go:129", after := #[{ on := 21, ground := Ground.guard }], guard := some (21, false) }) (v := ?_) rfl (by kernel_rfl) (by kernel_rfl) (by kernel_rfl) (fun _ _ _ h => h) (Or.inl ⟨by rfl, ?_⟩) (by assumption) ?_
                      rotate_left
                      · (intro w hSw; (try dsimp only at hSw); go_simp; try with_reducible rfl)
                      simp only [Act.put, List.setIfInBounds_toArray, List.set_cons_zero, List.set_cons_succ]
                      refine wpAnyH_take (i := 29) (oi := { dst := some 146, op := Op.load 5 (Operand.tmp 145), type := 5, pos := "law.go:129", after := #[{ on := 28, ground := Ground.data }, { on := 21, ground := Ground.guard }], guard := some (21, false) }) (v := ?_) rfl (by kernel_rfl) (by kernel_rfl) (by kernel_rfl) (fun _ _ _ h => h) (Or.inl ⟨by rfl, ?_⟩) (by assumption) ?_
                      rotate_left
                      · (intro w hSw; (try dsimp only at hSw); go_simp; try with_reducible rfl)
                      simp only [Act.put, List.setIfInBounds_toArray, List.set_cons_zero, List.set_cons_succ]
                      refine wpAnyH_take (i := 30) (oi := { dst := some 147, op := Op.convert 5 3 (Operand.tmp 146), type := 3, pos := "law.go:129", after := #[{ on := 29, ground := Ground.data }, { on := 21, ground := Ground.guard }], guard := some (21, false) }) (v := ?_) rfl (by kernel_rfl) (by kernel_rfl) (by kernel_rfl) (fun _ _ _ h => h) (Or.inl ⟨by rfl, ?_⟩) (by assumption) ?_
                      rotate_left
                      · (intro w hSw; (try dsimp only at hSw); go_simp; try with_reducible rfl)
                      simp only [Act.put, List.setIfInBounds_toArray, List.set_cons_zero, List.set_cons_succ]
                      refine wpAnyH_take (i := 32) (oi := { dst := some 149, op := Op.fieldAddr 40 (Operand.tmp 5) 1, type := 0, pos := "law.go:129", after := #[{ on := 21, ground := Ground.guard }], guard := some (21, false) }) (v := ?_) rfl (by kernel_rfl) (by kernel_rfl) (by kernel_rfl) (fun _ _ _ h => h) (Or.inl ⟨by rfl, ?_⟩) (by assumption) ?_
                      rotate_left
                      · (intro w hSw; (try dsimp only at hSw); go_simp; try with_reducible rfl)
                      simp only [Act.put, List.setIfInBounds_toArray, List.set_cons_zero, List.set_cons_succ]
                      refine wpAnyH_take (i := 33) (oi := { dst := some 150, op := Op.load 26 (Operand.tmp 149), type := 26, pos := "law.go:129", after := #[{ on := 32, ground := Ground.data }, { on := 21, ground := Ground.guard }], guard := some (21, false) }) (v := ?_) rfl (by kernel_rfl) (by kernel_rfl) (by kernel_rfl) (fun _ _ _ h => h) (Or.inl ⟨by rfl, ?_⟩) (by assumption) ?_
                      rotate_left
                      · (intro w hSw; (try dsimp only at hSw); go_simp; try with_reducible rfl)
                      simp only [Act.put, List.setIfInBounds_toArray, List.set_cons_zero, List.set_cons_succ]
                      refine wpAnyH_ready (rs := [27]) (by kernel_rfl) (by simp) ?_
                      refine AllReadyH.cons (o := { dst := some 144, op := Op.call { callee := Callee.value (Operand.func 19), args := #[Operand.tmp 139, Operand.tmp 143], argTypes := #[24, 3] }, type := 27, pos := "law.go:129", after := #[{ on := 22, ground := Ground.data }, { on := 26, ground := Ground.data }, { on := 21, ground := Ground.chain }, { on := 21, ground := Ground.guard }], guard := some (21, false) }) rfl (fun K hK => ?_) AllReadyH.nil
                      go_simp
                      go_at_call 19
                      refine HQ.out.mono ?_
                      rintro e w10 ⟨v, rfl, hR, hb⟩
                      obtain ⟨A10, c10, rfl⟩ := Kd.R_slice hR
                      have C10 := Aside0.mk (Kd.R_reads' hR).2
                      have B10 := Aside0.mk (below_step (below_drew (Below.refl wr.heap.size wr)) hb)
                      clear hR hb
                      have zb0 := pw_cell_below B10.out c0
                      have zb1 := pw_cell_below B10.out cg
                      have zb2 := pw_cell_below B10.out ci0
                      have zb3 := pw_cell_below B10.out ci1
                      try go_wp2_with fail
                      refine hK.out _ _ ⟨zb0, zb1, zb2, zb3⟩ (fun hHeld => ?_)
                      clear hK K
                      try simp only [Act.put, List.setIfInBounds_toArray, List.set_cons_zero, List.set_cons_succ]
                      refine wpAnyH_ready (rs := [31]) (by kernel_rfl) (by simp) ?_
                      refine AllReadyH.cons (o := { dst := some 148, op := Op.call { callee := Callee.value (Operand.func 23), args := #[Operand.tmp 144, Operand.tmp 147], argTypes := #[27, 3] }, type := 26, pos := "law.go:129", after := #[{ on := 27, ground := Ground.data }, { on := 30, ground := Ground.data }, { on := 27, ground := Ground.chain }, { on := 21, ground := Ground.guard }], guard := some (21, false) }) rfl (fun K hK => ?_) AllReadyH.nil
                      go_simp
                      go_at_call 23
                      refine (unisonref04_At.calls A10 c10 (heldOf L (q : Int)) a0 _ w10 C10.out.2 C10.out.1 AT.out).mono ?_
                      rintro e w11 ⟨rfl, hd⟩
                      have B11 := Aside0.mk (below_step B10.out hd.below)
                      clear hd
                      have yb0 := pw_cell_below B11.out c0
                      have yb1 := pw_cell_below B11.out cg
                      have yb2 := pw_cell_below B11.out ci0
                      have yb3 := pw_cell_below B11.out ci1
                      try go_wp2_with fail
                      refine hK.out _ _ ⟨yb0, yb1, yb2, yb3⟩ (fun hHeld => ?_)
                      clear hK K
                      try simp only [Act.put, List.setIfInBounds_toArray, List.set_cons_zero, List.set_cons_succ]
                      refine wpAnyH_take (i := 34) (oi := { dst := some 151, op := Op.binOp BinOp.lss 26 (Operand.tmp 148) (Operand.tmp 150) 26, type := 4, pos := "law.go:129", after := #[{ on := 31, ground := Ground.data }, { on := 33, ground := Ground.data }, { on := 21, ground := Ground.guard }], guard := some (21, false) }) (v := ?_) rfl (by kernel_rfl) (by kernel_rfl) (by kernel_rfl) (fun _ _ _ h => h) (Or.inl ⟨by rfl, ?_⟩) (by assumption) ?_
                      rotate_left
                      · (intro w hSw; (try dsimp only at hSw); go_simp; try with_reducible rfl)
                      simp only [Act.put, List.setIfInBounds_toArray, List.set_cons_zero, List.set_cons_succ]
                      refine wpAnyH_take (i := 35) (oi := { dst := some 152, op := Op.pick (Operand.tmp 138) (Operand.const (Value.bool true)) (Operand.tmp 151), type := 4, pos := "law.go:129", after := #[{ on := 21, ground := Ground.data }, { on := 34, ground := Ground.data }], guard := none }) (v := ?_) rfl (by kernel_rfl) (by kernel_rfl) (by kernel_rfl) (fun _ _ _ h => h) (Or.inl ⟨by rfl, ?_⟩) (by assumption) ?_
                      rotate_left
                      · (intro w hSw; (try dsimp only at hSw); go_simp; try with_reducible rfl)
                      simp only [Act.put, List.setIfInBounds_toArray, List.set_cons_zero, List.set_cons_succ]
                      refine wpAnyH_take (i := 36) (oi := { dst := some 153, op := Op.move (Operand.tmp 152), type := 4, pos := "law.go:129", after := #[{ on := 35, ground := Ground.data }, { on := 31, ground := Ground.chain }], guard := none }) (v := ?_) rfl (by kernel_rfl) (by kernel_rfl) (by kernel_rfl) (fun _ _ _ h => h) (Or.inl ⟨by rfl, ?_⟩) (by assumption) ?_
                      rotate_left
                      · (intro w hSw; (try dsimp only at hSw); go_simp; try with_reducible rfl)
                      simp only [Act.put, List.setIfInBounds_toArray, List.set_cons_zero, List.set_cons_succ]
                      refine wpAnyH_take (i := 37) (oi := { dst := some 154, op := Op.move (Operand.tmp 15), type := 3, pos := "law.go:129", after := #[{ on := 36, ground := Ground.guard }], guard := some (36, false) }) (v := ?_) rfl (by kernel_rfl) (by kernel_rfl) (by kernel_rfl) (fun _ _ _ h => h) (Or.inl ⟨by rfl, ?_⟩) (by assumption) ?_
                      rotate_left
                      · (intro w hSw; (try dsimp only at hSw); go_simp; try with_reducible rfl)
                      simp only [Act.put, List.setIfInBounds_toArray, List.set_cons_zero, List.set_cons_succ]
                      refine wpAnyH_take (i := 38) (oi := { dst := some 155, op := Op.binOp BinOp.gtr 3 (Operand.tmp 154) (Operand.const (Value.int IntKind.i64 0)) 3, type := 4, pos := "law.go:129", after := #[{ on := 37, ground := Ground.data }, { on := 36, ground := Ground.guard }], guard := some (36, false) }) (v := ?_) rfl (by kernel_rfl) (by kernel_rfl) (by kernel_rfl) (fun _ _ _ h => h) (Or.inl ⟨by rfl, ?_⟩) (by assumption) ?_
                      rotate_left
                      · (intro w hSw; (try dsimp only at hSw); go_simp; try with_reducible rfl)
                      simp only [Act.put, List.setIfInBounds_toArray, List.set_cons_zero, List.set_cons_succ]
                      refine wpAnyH_take (i := 39) (oi := { dst := some 156, op := Op.move (Operand.tmp 155), type := 4, pos := "law.go:129", after := #[{ on := 38, ground := Ground.data }, { on := 36, ground := Ground.chain }, { on := 36, ground := Ground.guard }], guard := some (36, false) }) (v := ?_) rfl (by kernel_rfl) (by kernel_rfl) (by kernel_rfl) (fun _ _ _ h => h) (Or.inl ⟨by rfl, ?_⟩) (by assumption) ?_
                      rotate_left
                      · (intro w hSw; (try dsimp only at hSw); go_simp; try with_reducible rfl)
                      simp only [Act.put, List.setIfInBounds_toArray, List.set_cons_zero, List.set_cons_succ]
                      refine wpAnyH_take (i := 40) (oi := { dst := some 157, op := Op.move (Operand.tmp 14), type := 42, pos := "law.go:129", after := #[{ on := 39, ground := Ground.guard }], guard := some (39, true) }) (v := undef) rfl (by kernel_rfl) (by kernel_rfl) (by kernel_rfl) (fun _ _ _ h => h) (Or.inr ⟨by rfl, rfl⟩) (by assumption) ?_
                      simp only [Act.put, List.setIfInBounds_toArray, List.set_cons_zero, List.set_cons_succ]
                      refine wpAnyH_take (i := 41) (oi := { dst := some 158, op := Op.move (Operand.tmp 15), type := 3, pos := "law.go:129", after := #[{ on := 39, ground := Ground.guard }], guard := some (39, true) }) (v := undef) rfl (by kernel_rfl) (by kernel_rfl) (by kernel_rfl) (fun _ _ _ h => h) (Or.inr ⟨by rfl, rfl⟩) (by assumption) ?_
                      simp only [Act.put, List.setIfInBounds_toArray, List.set_cons_zero, List.set_cons_succ]
                      refine wpAnyH_take (i := 42) (oi := { dst := some 159, op := Op.binOp BinOp.sub 3 (Operand.tmp 158) (Operand.const (Value.int IntKind.i64 1)) 3, type := 3, pos := "law.go:129", after := #[{ on := 41, ground := Ground.data }, { on := 39, ground := Ground.guard }], guard := some (39, true) }) (v := undef) rfl (by kernel_rfl) (by kernel_rfl) (by kernel_rfl) (fun _ _ _ h => h) (Or.inr ⟨by rfl, rfl⟩) (by assumption) ?_
                      simp only [Act.put, List.setIfInBounds_toArray, List.set_cons_zero, List.set_cons_succ]
                      refine wpAnyH_take (i := 43) (oi := { dst := some 160, op := Op.indexAddr 42 (Operand.tmp 157) (Operand.tmp 159), type := 0, pos := "law.go:129", after := #[{ on := 40, ground := Ground.data }, { on := 42, ground := Ground.data }, { on := 39, ground := Ground.guard }], guard := some (39, true) }) (v := undef) rfl (by kernel_rfl) (by kernel_rfl) (by kernel_rfl) (fun _ _ _ h => h) (Or.inr ⟨by rfl, rfl⟩) (by assumption) ?_
                      simp only [Act.put, List.setIfInBounds_toArray, List.set_cons_zero, List.set_cons_succ]
                      refine wpAnyH_take (i := 44) (oi := { dst := some 161, op := Op.load 3 (Operand.tmp 160), type := 3, pos := "law.go:129", after := #[{ on := 43, ground := Ground.data }, { on := 39, ground := Ground.guard }], guard := some (39, true) }) (v := undef) rfl (by kernel_rfl) (by kernel_rfl) (by kernel_rfl) (fun _ _ _ h => h) (Or.inr ⟨by rfl, rfl⟩) (by assumption) ?_
                      simp only [Act.put, List.setIfInBounds_toArray, List.set_cons_zero, List.set_cons_succ]
                      refine wpAnyH_take (i := 45) (oi := { dst := some 162, op := Op.move (Operand.tmp 14), type := 42, pos := "law.go:129", after := #[{ on := 39, ground := Ground.guard }], guard := some (39, true) }) (v := undef) rfl (by kernel_rfl) (by kernel_rfl) (by kernel_rfl) (fun _ _ _ h => h) (Or.inr ⟨by rfl, rfl⟩) (by assumption) ?_
                      simp only [Act.put, List.setIfInBounds_toArray, List.set_cons_zero, List.set_cons_succ]
                      refine wpAnyH_take (i := 46) (oi := { dst := some 163, op := Op.move (Operand.tmp 15), type := 3, pos := "law.go:129", after := #[{ on := 39, ground := Ground.guard }], guard := some (39, true) }) (v := undef) rfl (by kernel_rfl) (by kernel_rfl) (by kernel_rfl) (fun _ _ _ h => h) (Or.inr ⟨by rfl, rfl⟩) (by assumption) ?_
                      simp only [Act.put, List.setIfInBounds_toArray, List.set_cons_zero, List.set_cons_succ]
                      refine wpAnyH_take (i := 47) (oi := { dst := some 164, op := Op.indexAddr 42 (Operand.tmp 162) (Operand.tmp 163), type := 0, pos := "law.go:129", after := #[{ on := 45, ground := Ground.data }, { on := 46, ground := Ground.data }, { on := 39, ground := Ground.guard }], guard := some (39, true) }) (v := undef) rfl (by kernel_rfl) (by kernel_rfl) (by kernel_rfl) (fun _ _ _ h => h) (Or.inr ⟨by rfl, rfl⟩) (by assumption) ?_
                      simp only [Act.put, List.setIfInBounds_toArray, List.set_cons_zero, List.set_cons_succ]
                      refine wpAnyH_take (i := 48) (oi := { dst := some 165, op := Op.load 3 (Operand.tmp 164), type := 3, pos := "law.go:129", after := #[{ on := 47, ground := Ground.data }, { on := 39, ground := Ground.guard }], guard := some (39, true) }) (v := undef) rfl (by kernel_rfl) (by kernel_rfl) (by kernel_rfl) (fun _ _ _ h => h) (Or.inr ⟨by rfl, rfl⟩) (by assumption) ?_
                      simp only [Act.put, List.setIfInBounds_toArray, List.set_cons_zero, List.set_cons_succ]
                      refine wpAnyH_take (i := 49) (oi := { dst := some 166, op := Op.binOp BinOp.geq 3 (Operand.tmp 161) (Operand.tmp 165) 3, type := 4, pos := "law.go:129", after := #[{ on := 44, ground := Ground.data }, { on := 48, ground := Ground.data }, { on := 39, ground := Ground.guard }], guard := some (39, true) }) (v := undef) rfl (by kernel_rfl) (by kernel_rfl) (by kernel_rfl) (fun _ _ _ h => h) (Or.inr ⟨by rfl, rfl⟩) (by assumption) ?_
                      simp only [Act.put, List.setIfInBounds_toArray, List.set_cons_zero, List.set_cons_succ]
                      refine wpAnyH_take (i := 50) (oi := { dst := some 167, op := Op.pick (Operand.tmp 156) (Operand.tmp 166) (Operand.const (Value.bool false)), type := 4, pos := "law.go:129", after := #[{ on := 39, ground := Ground.data }, { on := 49, ground := Ground.data }, { on := 36, ground := Ground.guard }], guard := some (36, false) }) (v := ?_) rfl (by kernel_rfl) (by kernel_rfl) (by kernel_rfl) (fun _ _ _ h => h) (Or.inl ⟨by rfl, ?_⟩) (by assumption) ?_
                      rotate_left
                      · (intro w hSw; (try dsimp only at hSw); go_simp; try with_reducible rfl)
                      simp only [Act.put, List.setIfInBounds_toArray, List.set_cons_zero, List.set_cons_succ]
                      refine wpAnyH_take (i := 51) (oi := { dst := some 168, op := Op.pick (Operand.tmp 153) (Operand.const (Value.bool true)) (Operand.tmp 167), type := 4, pos := "law.go:129", after := #[{ on := 36, ground := Ground.data }, { on := 50, ground := Ground.data }], guard := none }) (v := ?_) rfl (by kernel_rfl) (by kernel_rfl) (by kernel_rfl) (fun _ _ _ h => h) (Or.inl ⟨by rfl, ?_⟩) (by assumption) ?_
                      rotate_left
                      · (intro w hSw; (try dsimp only at hSw); go_simp; try with_reducible rfl)
                      simp only [Act.put, List.setIfInBounds_toArray, List.set_cons_zero, List.set_cons_succ]
                      refine wpAnyH_done (by kernel_rfl) ?_ _
                      go_wp2_with fail
                      go_roundg (H.length - 1)
                      case measure => omega
                      case rel => exact ⟨1, by go_num, by omega, by omega, ⟨MI.out.step B11.out⟩, ⟨below_step BI.out B11.out⟩⟩
                    · have hiz : (i : Int) > 0 := by omega
                      have hiz2 : decide ((i : Int) > 0) = true := decide_eq_true hiz
                      have hiz3 : decide (0 < (i : Int)) = true := decide_eq_true hiz
                      have hiz4 : decide (0 < i) = true := decide_eq_true (by omega)
                      obtain ⟨ip, hip⟩ : ∃ ip : Nat, i = ip + 1 := ⟨i - 1, by omega⟩
                      have hiw : IntKind.i64.wrap ((i : Int) - 1) = (ip : Int) := by rw [IntKind.wrap_i64]; omega
                      have hipl : ip < H.length := by omega
                      have hipz : (ip : Int) < (H.length : Int) := by omega
                      have HP : Aside0 (H[ip]? = some H[ip]) := ⟨List.getElem?_eq_getElem hipl⟩
                      have hzq : H[ip] < (q : Int) := by
                        rw [← hq]
                        exact holders_next (by rw [← EH.out]; exact HP.out) (by rw [← EH.out, ← hip]; exact HX.out)
                      obtain ⟨ad2, ea, hcp⟩ := at_int_nat C9.out HP.out
                      cases ea
                      have cp := pw_cell_below BI.out hcp
                      generalize H[ip] = z at hzq hcp cp HP
                      have hzq2 : ¬ (z ≥ (q : Int)) := by omega
                      have hzq3 : decide (z ≥ (q : Int)) = false := decide_eq_false hzq2
                      have hzq4 : decide ((q : Int) ≤ z) = false := decide_eq_false hzq2
                      clear hi0 hip hcp
                      go_wp2_with fail
                      go_region_held3 (fun w' => w'.cell? (ad.add i) = some (.int .i64 (q : Int)) ∧ w'.cell? ⟨gb, q, none⟩ = some (.bool false) ∧ w'.cell? ⟨idb, 0, none⟩ = some (.int .u8 a0) ∧ w'.cell? ⟨idb, 1, none⟩ = some (.int .u64 a1) ∧ w'.cell? (ad.add ip) = some (.int .i64 (z : Int))) (go_keep)
                        ((first
                          | (go_at_call 19; refine HQ.out.mono ?_; rintro e w10 ⟨v, rfl, hR, hb⟩; obtain ⟨A10, c10, rfl⟩ := Kd.R_slice hR; have C10 := Aside0.mk (Kd.R_reads' hR).2; have B10 := Aside0.mk (below_step (below_drew (Below.refl wr.heap.size wr)) hb); clear hR hb; have zb0 := pw_cell_below B10.out c0; have zb1 := pw_cell_below B10.out cg; have zb2 := pw_cell_below B10.out ci0; have zb3 := pw_cell_below B10.out ci1; have zb4 := pw_cell_below B10.out cp; skip)
                          | (go_at_call 23; refine (unisonref04_At.calls A10 c10 (heldOf L (q : Int)) a0 _ w10 C10.out.2 C10.out.1 AT.out).mono ?_; rintro e w11 ⟨rfl, hd⟩; have B11 := Aside0.mk (below_step B10.out hd.below); clear hd; have yb0 := pw_cell_below B11.out c0; have yb1 := pw_cell_below B11.out cg; have yb2 := pw_cell_below B11.out ci0; have yb3 := pw_cell_below B11.out ci1; have yb4 := pw_cell_below B11.out cp; skip)))
                      go_wp2_with fail
                      go_roundg (H.length - (i + 1))
                      case measure => omega
                      case rel => exact ⟨i + 1, by go_num, by omega, by omega, ⟨MI.out.step B11.out⟩, ⟨below_step BI.out B11.out⟩⟩
                  · obtain rfl : i = H.length := by omega
                    have hltz : ¬ (H.length : Int) < (H.length : Int) := by omega
                    go_wp2_with fail
                    refine (AW.out _).mono ?_
                    rintro e w11 ⟨rfl, hb⟩
                    have B11 := Aside0.mk (below_step MI.out.below hb)
                    clear hb
                    go_wp2_with fail
                    go_ret
                    exact ⟨rfl, B11.out⟩
    · have hnz : (n > 20) := by omega
      have hnz2 : decide (n > 20) = true := decide_eq_true hnz
      go_enter Try.func5, Try.ntmps5
      go_upto_region 2 with (fail)
      generalize w.alloc (.cells #[.int .u8 a0, .int .u64 a1] tID) = w0 at XI BI ⊢
      go_wp2_with fail
      refine (AW.out _).mono ?_
      rintro e w1 ⟨rfl, hb⟩
      have B1 := Aside0.mk (below_step BI.out hb)
      clear hb
      go_wp2_with fail
      go_ret
      exact ⟨rfl, B1.out⟩
  · have hlz : ((l1.length : Int) > 100) := by omega
    have hlz2 : decide ((l1.length : Int) > 100) = true := decide_eq_true hlz
    go_enter Try.func5, Try.ntmps5
    go_upto_region 2 with (fail)
    generalize w.alloc (.cells #[.int .u8 a0, .int .u64 a1] tID) = w0 at XI BI ⊢
    go_wp2_with fail
    refine (AW.out _).mono ?_
    rintro e w1 ⟨rfl, hb⟩
    have B1 := Aside0.mk (below_step BI.out hb)
    clear hb
    go_wp2_with fail
    go_ret
    exact ⟨rfl, B1.out⟩

end Go.Proofs.Ytahdbiddpphepaa.Walk
