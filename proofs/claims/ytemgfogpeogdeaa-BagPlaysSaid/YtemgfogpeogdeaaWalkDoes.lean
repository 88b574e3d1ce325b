/- One act, on both. Conditions: none beyond the statement's own. -/
import Derived.Test.YtemgfogpeogdeaaWalkDoesL
import Derived.Test.YtemgfogpeogdeaaArgs
import Derived.Deep.QuietTactic
import Derived.BigQuiet
import Derived.Lib.QuietBelow
import Derived.Outline
import Derived.Deep.RegionHeld3
import Derived.Deep.CutRange
namespace Go.Proofs.Ytemgfogpeogdeaa.Walk
open Go.RowKit Go.Proofs.Ytemgfogpeogdeaa.F Go.Proofs.YtemgfogpeogdeaaW.PrintWords Go.Proofs.YtemgfogpeogdeaaW.PrintLast Go.Proofs.YtemgfogpeogdeaaW.PrintMore Go.Proofs.Ytemgfogpeogdeaa.Open
open Go.Sort (grow)
attribute [local go_sem] max2_int min2_int max_two min_two max_three min_three max_four min_four
set_option linter.unusedVariables false
set_option linter.unusedSimpArgs false

/-! ### One act, on both -/
set_option maxHeartbeats 8000000 in
set_option maxRecDepth 100000 in
theorem does_calls {F : Nat → Prop} {w0 w : World} {g n : Nat} {L : List Th} {lost : Int} {v : Value} {x : S36} {A : Option Addr} {c : Nat} (h00 : Below w0.heap.size w0 w) (hD : DS F w0 w g n L lost v) (hF : ∀ k, F k → k < w.heap.size)
    (hx : (Kd.int .u8).C w0 A x.f1.length x.f1) (hxc : x.f1.length ≤ c) (hx8 : u8s x.f1 ∧ x.f1.length ≤ 1000000) (hl : lost + 1 ≤ 4611686018427387904) (hU : x.f3 ≤ 9223372036854775807 ∧ 0 ≤ x.f4 ∧ x.f4 < 4294967296) :
    Calls Try.prog 18 #[.pointer (some ⟨g, 0, none⟩), .agg #[.int .i64 n, v, .int .i64 lost], .agg #[.int .i64 x.f0, .slice A x.f1.length c, .int .i64 x.f2, .int .i64 x.f3, .int .u32 x.f4]] w fun e w' =>
      ∃ v' L' lost', e = .returned (.tuple #[.bool true, .agg #[.int .i64 n, v', .int .i64 lost']]) ∧ (DS F w0 w' g n L' lost' v' ∧ Below w0.heap.size w0 w' ∧ ∀ k, F k → w'.heap[k]? = w.heap[k]?) ∧ lost' ≤ lost + 1 := by
  obtain ⟨⟨SB, ok, hB, hR, hSB, hok⟩, h8⟩ := hD
  obtain ⟨A1, c1, rfl⟩ := Kd.R_slice hR
  rw [List.length_map] at hR ⊢
  have hn := hB.ok.n2
  have hL := hB.ok.fit
  have hl0 := hB.ok.l0
  have HR := Aside0.mk hR
  have HB := Aside0.mk hB
  have HSB := Aside0.mk hSB
  have HOK := Aside0.mk hok
  have HF := Aside0.mk hF
  have H8 := Aside0.mk h8
  have HX := Aside0.mk hx
  have HXC := Aside0.mk hxc
  have HX8 := Aside0.mk hx8
  have HU := Aside0.mk hU
  have H00 := Aside0.mk h00
  have hu := Try.underlying43
  clear hB hR hSB hok h8 hF hx hxc hx8 hU h00
  by_cases e0 : x.f0 = 0
  · have e0' : (x.f0 == 0) = true := beq_iff_eq.2 e0
    clear e0
    go_enter Try.func18, Try.ntmps18
    go_upto_region 3 with (fail)
    have B3 : Aside0 (Below w.heap.size w (((w.alloc (.cells #[.int .i64 n, .slice A1 L.length c1, .int .i64 lost] tG)).alloc (.cells #[.int .i64 x.f0, .slice A x.f1.length c, .int .i64 x.f2, .int .i64 x.f3, .int .u32 x.f4] 36)).alloc (.cells #[.int .i64 0, .slice none 0 0, .int .i64 0] tG))) := ⟨below_alloc (below_alloc (below_alloc (Below.refl _ _) _) _) _⟩
    have XG : Aside0 ((((w.alloc (.cells #[.int .i64 n, .slice A1 L.length c1, .int .i64 lost] tG)).alloc (.cells #[.int .i64 x.f0, .slice A x.f1.length c, .int .i64 x.f2, .int .i64 x.f3, .int .u32 x.f4] 36)).alloc (.cells #[.int .i64 0, .slice none 0 0, .int .i64 0] tG)).heap[w.heap.size]? = some (.cells #[.int .i64 n, .slice A1 L.length c1, .int .i64 lost] tG (0, 0))) := ⟨blk_alloc (blk_alloc (blk_new w _) _) _⟩
    have XA : Aside0 ((((w.alloc (.cells #[.int .i64 n, .slice A1 L.length c1, .int .i64 lost] tG)).alloc (.cells #[.int .i64 x.f0, .slice A x.f1.length c, .int .i64 x.f2, .int .i64 x.f3, .int .u32 x.f4] 36)).alloc (.cells #[.int .i64 0, .slice none 0 0, .int .i64 0] tG)).heap[w.heap.size + 1]? = some (.cells #[.int .i64 x.f0, .slice A x.f1.length c, .int .i64 x.f2, .int .i64 x.f3, .int .u32 x.f4] 36 (0, 0))) := ⟨blk_alloc (blk_new1 w _ _) _⟩
    have XZ : Aside0 ((((w.alloc (.cells #[.int .i64 n, .slice A1 L.length c1, .int .i64 lost] tG)).alloc (.cells #[.int .i64 x.f0, .slice A x.f1.length c, .int .i64 x.f2, .int .i64 x.f3, .int .u32 x.f4] 36)).alloc (.cells #[.int .i64 0, .slice none 0 0, .int .i64 0] tG)).heap[w.heap.size + 1 + 1]? = some (.cells #[.int .i64 0, .slice none 0 0, .int .i64 0] tG (0, 0))) := ⟨blk_new2 w _ _ _⟩
    have N3 : Aside0 ((((w.alloc (.cells #[.int .i64 n, .slice A1 L.length c1, .int .i64 lost] tG)).alloc (.cells #[.int .i64 x.f0, .slice A x.f1.length c, .int .i64 x.f2, .int .i64 x.f3, .int .u32 x.f4] 36)).alloc (.cells #[.int .i64 0, .slice none 0 0, .int .i64 0] tG)).heap.size = w.heap.size + 1 + 1 + 1) := ⟨by simp⟩
    generalize ((w.alloc (.cells #[.int .i64 n, .slice A1 L.length c1, .int .i64 lost] tG)).alloc (.cells #[.int .i64 x.f0, .slice A x.f1.length c, .int .i64 x.f2, .int .i64 x.f3, .int .u32 x.f4] 36)).alloc (.cells #[.int .i64 0, .slice none 0 0, .int .i64 0] tG) = w3 at *
    have HR3 := Aside0.mk (Kd.R_below HR.out B3.out)
    have HB3 := Aside0.mk (HB.out.below B3.out)
    have g0 : w3.cell? ⟨w.heap.size, 0, none⟩ = some (.int .i64 n) := (blk_cell XG.out 0).trans rfl
    have g1 : w3.cell? ⟨w.heap.size, 1, none⟩ = some (.slice A1 L.length c1) := (blk_cell XG.out 1).trans rfl
    have g2 : w3.cell? ⟨w.heap.size, 2, none⟩ = some (.int .i64 lost) := (blk_cell XG.out 2).trans rfl
    have a0 : w3.cell? ⟨w.heap.size + 1, 0, none⟩ = some (.int .i64 x.f0) := (blk_cell XA.out 0).trans rfl
    have a1 : w3.cell? ⟨w.heap.size + 1, 1, none⟩ = some (.slice A x.f1.length c) := (blk_cell XA.out 1).trans rfl
    have a2 : w3.cell? ⟨w.heap.size + 1, 2, none⟩ = some (.int .i64 x.f2) := (blk_cell XA.out 2).trans rfl
    have a3 : w3.cell? ⟨w.heap.size + 1, 3, none⟩ = some (.int .i64 x.f3) := (blk_cell XA.out 3).trans rfl
    have a4 : w3.cell? ⟨w.heap.size + 1, 4, none⟩ = some (.int .u32 x.f4) := (blk_cell XA.out 4).trans rfl
    have a1a : ∀ o, (w3.alloc o).cell? ⟨w.heap.size + 1, 1, none⟩ = some (.slice A x.f1.length c) := fun o => (blk_cell (blk_alloc XA.out o) 1).trans rfl
    have hlen : x.f1.length ≤ 1000000 := HX8.out.2
    go_wp2_with ((with_reducible refine gate_dst (N := 31) rfl ?_); go_loud (refine Kd.R_append_rows (Kd.int .u8) (w0 := w3) w3.heap.size rfl (.tmp 28) (.tmp 30) 24 5 (.int .u8 0) 1 rfl Try.underlying24 info5 rfl (by decide) (by decide) (.slice (some ⟨w3.heap.size, 0, none⟩) 0 0) [] x.f1 A x.f1.length c (fun k => w3.heap.size ≤ k) (fun _ => False) rfl rfl (R_empty (Kd.int .u8) (blk_new w3 _) (Nat.le_refl _) (Nat.le_refl _)) (Kd.C_below HX.out (below_alloc (below_step H00.out B3.out) _)) (fun _ _ h => h) (fun _ h => h.elim) (fun k hk => Nat.le_trans (below_alloc (Below.refl w3.heap.size w3) _).size hk) (below_alloc (Below.refl _ _) _) (below_alloc (Below.refl w3.heap.size w3) _).size (by simp; omega) ?_); intro v5 w5 hr hb hg hat; rw [List.nil_append] at hr; obtain ⟨A5, c5, rfl⟩ := Kd.R_slice hr; have R5 : Aside0 (Kd.R (Kd.int .u8) 5 w5 w3.heap.size (fun k => w3.heap.size ≤ k ∧ k < w5.heap.size) (.slice A5 x.f1.length c5) x.f1) := ⟨Kd.R_mono (Kd.R_bound hr) (fun k hk => ⟨hk.1, hk.2.2.1⟩)⟩; have B5 := Aside0.mk hb; clear hr hb hg hat; have g0' : w5.cell? ⟨w.heap.size, 0, none⟩ = some (.int .i64 n) := (blk_cell (blk_below XG.out B5.out) 0).trans rfl; have g1' : w5.cell? ⟨w.heap.size, 1, none⟩ = some (.slice A1 L.length c1) := (blk_cell (blk_below XG.out B5.out) 1).trans rfl; have g2' : w5.cell? ⟨w.heap.size, 2, none⟩ = some (.int .i64 lost) := (blk_cell (blk_below XG.out B5.out) 2).trans rfl)
    refine (refPut_calls (Kd.R_below HR3.out B5.out) (Kd.R_reads' R5.out).2.2 hn hL hl0 hl).mono ?_
    rintro e w6 ⟨v6, rfl, hr, hb⟩
    obtain ⟨A6, c6, rfl⟩ := Kd.R_slice hr
    rw [List.length_map] at hr
    have R6 := Aside0.mk hr
    have B6 := Aside0.mk hb
    clear hr hb g0 g1 g2 a0 a1 a2 a3 a4 g0' g1' g2' a1a
    obtain ⟨lo2, hlo2⟩ : ∃ q, q = putLost n L lost := ⟨_, rfl⟩
    have LO := Aside0.mk hlo2
    rw [← hlo2]
    clear hlo2
    go_wp2_with fail
    have B8 : Aside0 (Below w5.heap.size w5 ((w6.alloc (.cells #[.int .i64 n, .slice A6 (putL n L x.f1).length c6, .int .i64 lo2] tG)).alloc (.cells #[.slice A5 x.f1.length c5] 24))) := ⟨below_alloc (below_alloc B6.out _) _⟩
    have XB8 : Aside0 (((w6.alloc (.cells #[.int .i64 n, .slice A6 (putL n L x.f1).length c6, .int .i64 lo2] tG)).alloc (.cells #[.slice A5 x.f1.length c5] 24)).heap[w6.heap.size]? = some (.cells #[.int .i64 n, .slice A6 (putL n L x.f1).length c6, .int .i64 lo2] tG (0, 0))) := ⟨blk_alloc (blk_new w6 _) _⟩
    have XR8 : Aside0 (((w6.alloc (.cells #[.int .i64 n, .slice A6 (putL n L x.f1).length c6, .int .i64 lo2] tG)).alloc (.cells #[.slice A5 x.f1.length c5] 24)).heap[w6.heap.size + 1]? = some (.cells #[.slice A5 x.f1.length c5] 24 (0, 0))) := ⟨blk_new1 w6 _ _⟩
    have R8 := Aside0.mk (Kd.R_alloc (Kd.R_alloc R6.out (.cells #[.int .i64 n, .slice A6 (putL n L x.f1).length c6, .int .i64 lo2] tG)) (.cells #[.slice A5 x.f1.length c5] 24))
    have N6 : Aside0 (w5.heap.size ≤ w6.heap.size) := ⟨B6.out.size⟩
    have N8 : Aside0 (w6.heap.size + 1 < ((w6.alloc (.cells #[.int .i64 n, .slice A6 (putL n L x.f1).length c6, .int .i64 lo2] tG)).alloc (.cells #[.slice A5 x.f1.length c5] 24)).heap.size) := ⟨blk_lt XR8.out⟩
    have N5 : Aside0 (w3.heap.size ≤ w5.heap.size) := ⟨B5.out.size⟩
    generalize (w6.alloc (.cells #[.int .i64 n, .slice A6 (putL n L x.f1).length c6, .int .i64 lo2] tG)).alloc (.cells #[.slice A5 x.f1.length c5] 24) = w8 at *
    obtain ⟨b9, hb9⟩ : ∃ b, b = w6.heap.size := ⟨_, rfl⟩
    rw [← hb9] at XB8 XR8 N6 N8 ⊢
    clear hb9
    have HNS : Aside0 (∀ k, w.heap.size ≤ k → ¬ SB k) := ⟨fun k hk hs => by have := HSB.out k hs; omega⟩
    have O8 := Aside0.mk (Kd.R_below R5.out B8.out)
    have B38 := Aside0.mk (below_step B5.out B8.out)
    have XZ8 := Aside0.mk (blk_below XZ.out B38.out)
    have L5 := Aside0.mk (Kd.R_reads' R5.out).2.1
    have PC := Aside0.mk (Put1_calls (HB3.out.below B38.out) XR8.out (HNS.out _ (by have := N3.out; have := N5.out; have := N6.out; omega)) (fun w' hB' => (Kd.R_reads' (Kd.R_step O8.out (fun k hk hlt => hB'.block k hlt (HNS.out k (by have := N3.out; have := hk.1; omega))))).2.2) L5.out hlen hl)
    refine PC.out.mono ?_
    rintro e w9 ⟨rfl, hW, hb⟩
    rw [← LO.out] at hW
    have W9 := Aside0.mk hW
    have D9 := Aside0.mk hb
    have O9 := Aside0.mk (Kd.R_step O8.out (fun k hk hlt => hb.block k hlt (HNS.out k (by have := N3.out; have := hk.1; omega))))
    have XB9 := Aside0.mk ((hb.block _ (blk_lt XB8.out) (HNS.out _ (by have := N3.out; have := N5.out; have := N6.out; omega))).trans XB8.out)
    have XZ9 := Aside0.mk ((hb.block _ (blk_lt XZ8.out) (HNS.out _ (by omega))).trans XZ8.out)
    clear hW hb PC
    go_wp2_with fail
    go_loopg [12] x.f1.length (fun kq v12 w' => ∃ (j : Nat) (xs : List Int), v12 = .int .i64 j ∧ j ≤ x.f1.length ∧ x.f1.length ≤ kq + j ∧ xs.length = x.f1.length ∧ Aside0 (Kd.R (Kd.int .u8) 5 w' w3.heap.size (fun k => w3.heap.size ≤ k ∧ k < w5.heap.size) (.slice A5 x.f1.length c5) xs) ∧ Aside0 (Beside (fun k => w3.heap.size ≤ k ∧ k < w5.heap.size) w9 w'))
    case atStart => exact ⟨0, x.f1, rfl, by omega, by omega, rfl, O9, ⟨Beside.refl _ _⟩⟩
    case round =>
      obtain ⟨j, xs, rfl, hj, hkj, hxl, R, E9⟩ := hrel
      by_cases hlt : j < x.f1.length
      · have hlt' : decide ((j : Int) < (x.f1.length : Int)) = true := decide_eq_true (by omega)
        have hlt2 : decide (j < x.f1.length) = true := decide_eq_true hlt
        obtain ⟨ob, co', ev, _, hob, hol⟩ := R_head R.out (by omega)
        rw [hxl] at ev
        injection ev with e1 _ e3
        subst e1
        subst e3
        obtain ⟨hby, hbz⟩ := Kd.R_celln (0 : Int) R.out (j : Int) (by omega) (by omega)
        rw [Int.toNat_natCast] at hby hbz
        have RP : Aside0 (∀ X : Int, Kd.R (Kd.int .u8) 5 (wr.setCell ⟨ob, j, none⟩ (.int .u8 X)) w3.heap.size (fun k => w3.heap.size ≤ k ∧ k < w5.heap.size) (.slice (some ⟨ob, 0, none⟩) x.f1.length c5) (xs.set j X)) := ⟨fun X => by
          have h := (Kd.R_putg R.out (j : Int) X).1
          rwa [Int.toNat_natCast] at h⟩
        have OB := Aside0.mk (R.out.1 ob (by simp [Value.ownBlock]))
        have p1 : (0 ≤ (j : Int)) = True := eq_true (by omega)
        have p2 : ((j : Int) < (x.f1.length : Int)) = True := eq_true (by omega)
        generalize rdOf (0 : Int) xs (j : Int) = y at hby
        have HXL := Aside0.mk hxl
        clear hxl hob hol
        go_wp2_with fail
        go_roundg (gk - 1)
        case measure => omega
        case rel => exact ⟨j + 1, _, by simp, by omega, by omega, by rw [List.length_set]; exact HXL.out, ⟨RP.out _⟩, ⟨E9.out.setCell (p := ⟨ob, j, none⟩) OB.out _⟩⟩
      · have hlt' : decide ((j : Int) < (x.f1.length : Int)) = false := decide_eq_false (by omega)
        have hlt2 : decide (j < x.f1.length) = false := decide_eq_false hlt
        have xb := (E9.out.block _ (blk_lt XB9.out) (fun h => by have := N6.out; omega)).trans XB9.out
        have xz := (E9.out.block _ (blk_lt XZ9.out) (fun h => by have := N3.out; omega)).trans XZ9.out
        have XZR := Aside0.mk xz
        have q0 : wr.cell? ⟨b9, 0, none⟩ = some (.int .i64 n) := (blk_cell xb 0).trans rfl
        have q1 : wr.cell? ⟨b9, 1, none⟩ = some (.slice A6 (putL n L x.f1).length c6) := (blk_cell xb 1).trans rfl
        have q2 : wr.cell? ⟨b9, 2, none⟩ = some (.int .i64 lo2) := (blk_cell xb 2).trans rfl
        have z0 : wr.cell? ⟨w.heap.size + 1 + 1, 0, none⟩ = some (.int .i64 0) := (blk_cell xz 0).trans rfl
        have z1 : wr.cell? ⟨w.heap.size + 1 + 1, 1, none⟩ = some (.slice none 0 0) := (blk_cell xz 1).trans rfl
        have z2 : wr.cell? ⟨w.heap.size + 1 + 1, 2, none⟩ = some (.int .i64 0) := (blk_cell xz 2).trans rfl
        have f0 := blk_frozen xz 0
        have f1 := blk_frozen xz 1
        have f2 := blk_frozen xz 2
        have LO2 : Aside0 (lo2 ≤ lost + 1) := ⟨by rw [LO.out]; unfold putLost; split <;> omega⟩
        clear xb xz R
        go_wp2_with fail
        go_region
        go_wp2_with fail
        refine bodyPost_ret (results_tc rfl _ _ (w.heap.size + 1 + 1) tG #[.int .i64 n, .slice A6 (putL n L x.f1).length c6, .int .i64 lo2] (0, 0) _ rfl (put3 XZR.out) hu rfl (by kernel_rfl)) rfl ?_
        refine ⟨_, _, _, by simp, DS_end (t := w5.heap.size) (E := fun k => (w3.heap.size ≤ k ∧ k < w5.heap.size) ∨ k = w.heap.size + 1 + 1) H00.out HSB.out HOK.out HF.out (Beside.of_below ok (below_step B3.out B38.out)) (by have := N3.out; have := N5.out; omega) R8.out W9.out (fun k hk => hk) D9.out ?_ (fun k hk => ?_) (u8_put H8.out HX8.out), LO2.out⟩
        · exact ((((E9.out.mono (S' := fun k => (w3.heap.size ≤ k ∧ k < w5.heap.size) ∨ k = w.heap.size + 1 + 1) (fun k hk => Or.inl hk)).setCell (p := ⟨w.heap.size + 1 + 1, 0, none⟩) (Or.inr rfl) _).setCell (p := ⟨w.heap.size + 1 + 1, 1, none⟩) (Or.inr rfl) _).setCell (p := ⟨w.heap.size + 1 + 1, 2, none⟩) (Or.inr rfl) _).drew
        · have := N3.out
          have := N5.out
          have := N6.out
          have := N8.out
          have h1 : w.heap.size ≤ k ∧ k < w5.heap.size := by omega
          exact ⟨h1.1, fun h => h.elim (HNS.out _ h1.1) (fun h => by omega), Or.inl h1.2⟩
  · have e0' : (x.f0 == 0) = false := beq_eq_false_iff_ne.2 e0
    by_cases e1 : x.f0 = 1
    · have e1' : (x.f0 == 1) = true := beq_iff_eq.2 e1
      clear e0 e1
      go_enter Try.func18, Try.ntmps18
      go_upto_region 13 with (fail)
      have B3 : Aside0 (Below w.heap.size w (((w.alloc (.cells #[.int .i64 n, .slice A1 L.length c1, .int .i64 lost] tG)).alloc (.cells #[.int .i64 x.f0, .slice A x.f1.length c, .int .i64 x.f2, .int .i64 x.f3, .int .u32 x.f4] 36)).alloc (.cells #[.int .i64 0, .slice none 0 0, .int .i64 0] tG))) := ⟨below_alloc (below_alloc (below_alloc (Below.refl _ _) _) _) _⟩
      have XG : Aside0 ((((w.alloc (.cells #[.int .i64 n, .slice A1 L.length c1, .int .i64 lost] tG)).alloc (.cells #[.int .i64 x.f0, .slice A x.f1.length c, .int .i64 x.f2, .int .i64 x.f3, .int .u32 x.f4] 36)).alloc (.cells #[.int .i64 0, .slice none 0 0, .int .i64 0] tG)).heap[w.heap.size]? = some (.cells #[.int .i64 n, .slice A1 L.length c1, .int .i64 lost] tG (0, 0))) := ⟨blk_alloc (blk_alloc (blk_new w _) _) _⟩
      have XA : Aside0 ((((w.alloc (.cells #[.int .i64 n, .slice A1 L.length c1, .int .i64 lost] tG)).alloc (.cells #[.int .i64 x.f0, .slice A x.f1.length c, .int .i64 x.f2, .int .i64 x.f3, .int .u32 x.f4] 36)).alloc (.cells #[.int .i64 0, .slice none 0 0, .int .i64 0] tG)).heap[w.heap.size + 1]? = some (.cells #[.int .i64 x.f0, .slice A x.f1.length c, .int .i64 x.f2, .int .i64 x.f3, .int .u32 x.f4] 36 (0, 0))) := ⟨blk_alloc (blk_new1 w _ _) _⟩
      have XZ : Aside0 ((((w.alloc (.cells #[.int .i64 n, .slice A1 L.length c1, .int .i64 lost] tG)).alloc (.cells #[.int .i64 x.f0, .slice A x.f1.length c, .int .i64 x.f2, .int .i64 x.f3, .int .u32 x.f4] 36)).alloc (.cells #[.int .i64 0, .slice none 0 0, .int .i64 0] tG)).heap[w.heap.size + 1 + 1]? = some (.cells #[.int .i64 0, .slice none 0 0, .int .i64 0] tG (0, 0))) := ⟨blk_new2 w _ _ _⟩
      have N3 : Aside0 ((((w.alloc (.cells #[.int .i64 n, .slice A1 L.length c1, .int .i64 lost] tG)).alloc (.cells #[.int .i64 x.f0, .slice A x.f1.length c, .int .i64 x.f2, .int .i64 x.f3, .int .u32 x.f4] 36)).alloc (.cells #[.int .i64 0, .slice none 0 0, .int .i64 0] tG)).heap.size = w.heap.size + 1 + 1 + 1) := ⟨by simp⟩
      generalize ((w.alloc (.cells #[.int .i64 n, .slice A1 L.length c1, .int .i64 lost] tG)).alloc (.cells #[.int .i64 x.f0, .slice A x.f1.length c, .int .i64 x.f2, .int .i64 x.f3, .int .u32 x.f4] 36)).alloc (.cells #[.int .i64 0, .slice none 0 0, .int .i64 0] tG) = w3 at *
      have HR3 := Aside0.mk (Kd.R_below HR.out B3.out)
      have HB3 := Aside0.mk (HB.out.below B3.out)
      have g0 : w3.cell? ⟨w.heap.size, 0, none⟩ = some (.int .i64 n) := (blk_cell XG.out 0).trans rfl
      have g1 : w3.cell? ⟨w.heap.size, 1, none⟩ = some (.slice A1 L.length c1) := (blk_cell XG.out 1).trans rfl
      have g2 : w3.cell? ⟨w.heap.size, 2, none⟩ = some (.int .i64 lost) := (blk_cell XG.out 2).trans rfl
      have a0 : w3.cell? ⟨w.heap.size + 1, 0, none⟩ = some (.int .i64 x.f0) := (blk_cell XA.out 0).trans rfl
      have a1 : w3.cell? ⟨w.heap.size + 1, 1, none⟩ = some (.slice A x.f1.length c) := (blk_cell XA.out 1).trans rfl
      have a2 : w3.cell? ⟨w.heap.size + 1, 2, none⟩ = some (.int .i64 x.f2) := (blk_cell XA.out 2).trans rfl
      have a3 : w3.cell? ⟨w.heap.size + 1, 3, none⟩ = some (.int .i64 x.f3) := (blk_cell XA.out 3).trans rfl
      have a4 : w3.cell? ⟨w.heap.size + 1, 4, none⟩ = some (.int .u32 x.f4) := (blk_cell XA.out 4).trans rfl
      have hL4 : L.length ≤ 4096 := by omega
      have hT : unisonref07_G_Take.f 1 n (L.map rt) lost x.f2 true = some ((n : Int), (rest L x.f2).map rt, lost, strOfNums (lk L x.f2), has L x.f2) := (refTake_f n lost L x.f2 true hL4).trans (by rw [if_pos rfl])
      have B03 := Aside0.mk (below_step H00.out B3.out)
      have TC := Aside0.mk (unisonref07_G_Take.calls 1 n ok (.slice A1 L.length c1) (L.map rt) lost x.f2 true n ((rest L x.f2).map rt) lost (strOfNums (lk L x.f2)) (has L x.f2) w0 w3 B03.out (R_raise HR3.out (fun k hk => (HOK.out k hk).1)) hT)
      clear hT hL4
      go_wp2_with fail
      refine TC.out.mono ?_
      rintro e w4 ⟨v4, rfl, hr, hb, hk⟩
      obtain ⟨A4, c4, rfl⟩ := Kd.R_slice hr
      rw [List.length_map] at hr
      have R4 := Aside0.mk (Kd.R_lower hr (Nat.zero_le _))
      have D4 : Aside0 (Beside ok w3 w4) := ⟨hb.os.trans B03.out.os.symm, hb.tape.trans B03.out.tape.symm, hb.output.trans B03.out.output.symm, hk.1, fun k hlt hn => hk.2 k hlt hn⟩
      clear g0 g1 g2 a0 a1 a2 a3 a4 hr hb hk TC
      have HNO : Aside0 (∀ k, w.heap.size ≤ k → ¬ ok k) := ⟨fun k hk hs => by have := HOK.out k hs; omega⟩
      have HNS : Aside0 (∀ k, w.heap.size ≤ k → ¬ SB k) := ⟨fun k hk hs => by have := HSB.out k hs; omega⟩
      have XA4 := Aside0.mk ((D4.out.block _ (blk_lt XA.out) (HNO.out _ (by omega))).trans XA.out)
      have XZ4 := Aside0.mk ((D4.out.block _ (blk_lt XZ.out) (HNO.out _ (by omega))).trans XZ.out)
      have HB4 := Aside0.mk (HB3.out.beside D4.out (fun k hk ho => (HOK.out k ho).2.2.2 hk))
      have a0 : ∀ o o', ((w4.alloc o).alloc o').cell? ⟨w.heap.size + 1, 0, none⟩ = some (.int .i64 x.f0) := fun o o' => (blk_cell (blk_alloc (blk_alloc XA4.out o) o') 0).trans rfl
      go_upto_region 16 with (fail)
      have B5 : Aside0 (Below w4.heap.size w4 ((w4.alloc (.cells #[.int .i64 n, .slice A4 (rest L x.f2).length c4, .int .i64 lost] tG)).alloc (.cells #[] 5))) := ⟨below_alloc (below_alloc (Below.refl _ _) _) _⟩
      have XB5 : Aside0 (((w4.alloc (.cells #[.int .i64 n, .slice A4 (rest L x.f2).length c4, .int .i64 lost] tG)).alloc (.cells #[] 5)).heap[w4.heap.size]? = some (.cells #[.int .i64 n, .slice A4 (rest L x.f2).length c4, .int .i64 lost] tG (0, 0))) := ⟨blk_alloc (blk_new w4 _) _⟩
      have N4 : Aside0 (w3.heap.size ≤ w4.heap.size) := ⟨D4.out.size⟩
      have N5 : Aside0 (w4.heap.size < ((w4.alloc (.cells #[.int .i64 n, .slice A4 (rest L x.f2).length c4, .int .i64 lost] tG)).alloc (.cells #[] 5)).heap.size) := ⟨blk_lt XB5.out⟩
      generalize (w4.alloc (.cells #[.int .i64 n, .slice A4 (rest L x.f2).length c4, .int .i64 lost] tG)).alloc (.cells #[] 5) = w5 at *
      have XA5 := Aside0.mk (blk_below XA4.out B5.out)
      have XZ5 := Aside0.mk (blk_below XZ4.out B5.out)
      have HB5 := Aside0.mk (HB4.out.below B5.out)
      have R5 := Aside0.mk (Kd.R_below R4.out B5.out)
      have D5 := Aside0.mk (D4.out.then_below B5.out)
      generalize w4.heap.size = b9 at *
      have a2 : w5.cell? ⟨w.heap.size + 1, 2, none⟩ = some (.int .i64 x.f2) := (blk_cell XA5.out 2).trans rfl
      clear a0
      go_wp2_with fail
      refine (Take_calls HB5.out x.f2).mono ?_
      rintro e w6 ⟨v, rfl, ho, hW, hb⟩
      obtain ⟨A6, c6, rfl⟩ := Kd.R_slice ho
      have O6 : Aside0 (Kd.R (Kd.int .u8) 5 w6 w5.heap.size (fun k => w5.heap.size ≤ k ∧ k < w6.heap.size) (.slice A6 (lk L x.f2).length c6) (lk L x.f2)) := ⟨Kd.R_mono (Kd.R_bound ho) (fun k hk => ⟨hk.2.1, hk.2.2.1⟩)⟩
      have W6 : Aside0 (Bag w6 (fun k => SB k ∧ k < w5.heap.size) g n (rest L x.f2) lost) := ⟨hW⟩
      have D6 : Aside0 (Beside SB w5 w6) := ⟨hb⟩
      have XB6 := Aside0.mk ((D6.out.block _ (blk_lt XB5.out) (HNS.out _ (by have := N3.out; have := N4.out; omega))).trans XB5.out)
      have XZ6 := Aside0.mk ((D6.out.block _ (blk_lt XZ5.out) (HNS.out _ (by omega))).trans XZ5.out)
      have sg : (convert 24 9 (.slice A6 (lk L x.f2).length c6)).run Try.prog w6 = .ok (.string (strOfNums (lk L x.f2))) w6 := str_run (Kd.R_reads' ho).2.2
      have HYL : Aside0 ((lk L x.f2).length ≤ 1000000) := ⟨by
        unfold lk
        split
        · refine (H8.out _ ?_).2
          rw [List.getD_eq_getElem?_getD, List.getElem?_eq_getElem (by omega)]
          exact List.getElem_mem _
        · simp⟩
      clear a2 ho hW hb
      generalize lk L x.f2 = y at *
      generalize has L x.f2 = hs at *
      go_wp2_with fail
      clear sg
      go_loopg [19] y.length (fun kq v19 w' => ∃ (j : Nat) (xs : List Int), v19 = .int .i64 j ∧ j ≤ y.length ∧ y.length ≤ kq + j ∧ xs.length = y.length ∧ Aside0 (Kd.R (Kd.int .u8) 5 w' w5.heap.size (fun k => w5.heap.size ≤ k ∧ k < w6.heap.size) (.slice A6 y.length c6) xs) ∧ Aside0 (Beside (fun k => w5.heap.size ≤ k ∧ k < w6.heap.size) w6 w'))
      case atStart => exact ⟨0, y, rfl, by omega, by omega, rfl, O6, ⟨Beside.refl _ _⟩⟩
      case round =>
        obtain ⟨j, xs, rfl, hj, hkj, hxl, R, E9⟩ := hrel
        have hyl := HYL.out
        by_cases hlt : j < y.length
        · have hlt' : decide ((j : Int) < (y.length : Int)) = true := decide_eq_true (by omega)
          have hlt2 : decide (j < y.length) = true := decide_eq_true hlt
          obtain ⟨ob, co', ev, _, hob, hol⟩ := R_head R.out (by omega)
          rw [hxl] at ev
          injection ev with e1 _ e3
          subst e1
          subst e3
          obtain ⟨hby, hbz⟩ := Kd.R_celln (0 : Int) R.out (j : Int) (by omega) (by omega)
          rw [Int.toNat_natCast] at hby hbz
          have RP : Aside0 (∀ X : Int, Kd.R (Kd.int .u8) 5 (wr.setCell ⟨ob, j, none⟩ (.int .u8 X)) w5.heap.size (fun k => w5.heap.size ≤ k ∧ k < w6.heap.size) (.slice (some ⟨ob, 0, none⟩) y.length c6) (xs.set j X)) := ⟨fun X => by
            have h := (Kd.R_putg R.out (j : Int) X).1
            rwa [Int.toNat_natCast] at h⟩
          have OB := Aside0.mk (R.out.1 ob (by simp [Value.ownBlock]))
          have p1 : (0 ≤ (j : Int)) = True := eq_true (by omega)
          have p2 : ((j : Int) < (y.length : Int)) = True := eq_true (by omega)
          generalize rdOf (0 : Int) xs (j : Int) = z at hby
          have HXL := Aside0.mk hxl
          clear hxl hob hol
          go_wp2_with fail
          go_roundg (gk - 1)
          case measure => omega
          case rel => exact ⟨j + 1, _, by simp, by omega, by omega, by rw [List.length_set]; exact HXL.out, ⟨RP.out _⟩, ⟨E9.out.setCell (p := ⟨ob, j, none⟩) OB.out _⟩⟩
        · have hlt' : decide ((j : Int) < (y.length : Int)) = false := decide_eq_false (by omega)
          have hlt2 : decide (j < y.length) = false := decide_eq_false hlt
          have xb := (E9.out.block _ (blk_lt XB6.out) (fun h => by have := N5.out; omega)).trans XB6.out
          have xz := (E9.out.block _ (blk_lt XZ6.out) (fun h => by have := N3.out; have := N4.out; have := N5.out; omega)).trans XZ6.out
          have XZR := Aside0.mk xz
          have q0 : wr.cell? ⟨b9, 0, none⟩ = some (.int .i64 n) := (blk_cell xb 0).trans rfl
          have q1 : wr.cell? ⟨b9, 1, none⟩ = some (.slice A4 (rest L x.f2).length c4) := (blk_cell xb 1).trans rfl
          have q2 : wr.cell? ⟨b9, 2, none⟩ = some (.int .i64 lost) := (blk_cell xb 2).trans rfl
          have z0 : wr.cell? ⟨w.heap.size + 1 + 1, 0, none⟩ = some (.int .i64 0) := (blk_cell xz 0).trans rfl
          have z1 : wr.cell? ⟨w.heap.size + 1 + 1, 1, none⟩ = some (.slice none 0 0) := (blk_cell xz 1).trans rfl
          have z2 : wr.cell? ⟨w.heap.size + 1 + 1, 2, none⟩ = some (.int .i64 0) := (blk_cell xz 2).trans rfl
          have f0 := blk_frozen xz 0
          have f1 := blk_frozen xz 1
          have f2 := blk_frozen xz 2
          clear xb xz R
          go_wp2_with fail
          go_region
          go_wp2_with fail
          refine bodyPost_ret (results_tc rfl _ _ (w.heap.size + 1 + 1) tG #[.int .i64 n, .slice A4 (rest L x.f2).length c4, .int .i64 lost] (0, 0) _ rfl (put3 XZR.out) hu rfl (by kernel_rfl)) rfl ?_
          refine ⟨_, _, _, by simp, DS_end (t := w3.heap.size) (E := fun k => (w5.heap.size ≤ k ∧ k < w6.heap.size) ∨ k = w.heap.size + 1 + 1) H00.out HSB.out HOK.out HF.out ((Beside.of_below ok B3.out).trans D5.out) B3.out.size R5.out W6.out (fun k hk => Or.inl hk.1) D6.out ?_ (fun k hk => ?_) (u8_rest _ H8.out), by omega⟩
          · exact ((((E9.out.mono (S' := fun k => (w5.heap.size ≤ k ∧ k < w6.heap.size) ∨ k = w.heap.size + 1 + 1) (fun k hk => Or.inl hk)).setCell (p := ⟨w.heap.size + 1 + 1, 0, none⟩) (Or.inr rfl) _).setCell (p := ⟨w.heap.size + 1 + 1, 1, none⟩) (Or.inr rfl) _).setCell (p := ⟨w.heap.size + 1 + 1, 2, none⟩) (Or.inr rfl) _).drew
          · have := N3.out
            have := N4.out
            have := N5.out
            have h1 : w.heap.size ≤ k ∧ (k < w3.heap.size ∨ w5.heap.size ≤ k) := by omega
            exact ⟨h1.1, fun h => HNS.out _ h1.1 h.1, h1.2⟩
    · have e1' : (x.f0 == 1) = false := beq_eq_false_iff_ne.2 e1
      by_cases e2 : x.f0 = 2
      · have e2' : (x.f0 == 2) = true := beq_iff_eq.2 e2
        clear e0 e1 e2
        go_enter Try.func18, Try.ntmps18
        go_upto_region 13 with (fail)
        have B3 : Aside0 (Below w.heap.size w (((w.alloc (.cells #[.int .i64 n, .slice A1 L.length c1, .int .i64 lost] tG)).alloc (.cells #[.int .i64 x.f0, .slice A x.f1.length c, .int .i64 x.f2, .int .i64 x.f3, .int .u32 x.f4] 36)).alloc (.cells #[.int .i64 0, .slice none 0 0, .int .i64 0] tG))) := ⟨below_alloc (below_alloc (below_alloc (Below.refl _ _) _) _) _⟩
        have XG : Aside0 ((((w.alloc (.cells #[.int .i64 n, .slice A1 L.length c1, .int .i64 lost] tG)).alloc (.cells #[.int .i64 x.f0, .slice A x.f1.length c, .int .i64 x.f2, .int .i64 x.f3, .int .u32 x.f4] 36)).alloc (.cells #[.int .i64 0, .slice none 0 0, .int .i64 0] tG)).heap[w.heap.size]? = some (.cells #[.int .i64 n, .slice A1 L.length c1, .int .i64 lost] tG (0, 0))) := ⟨blk_alloc (blk_alloc (blk_new w _) _) _⟩
        have XA : Aside0 ((((w.alloc (.cells #[.int .i64 n, .slice A1 L.length c1, .int .i64 lost] tG)).alloc (.cells #[.int .i64 x.f0, .slice A x.f1.length c, .int .i64 x.f2, .int .i64 x.f3, .int .u32 x.f4] 36)).alloc (.cells #[.int .i64 0, .slice none 0 0, .int .i64 0] tG)).heap[w.heap.size + 1]? = some (.cells #[.int .i64 x.f0, .slice A x.f1.length c, .int .i64 x.f2, .int .i64 x.f3, .int .u32 x.f4] 36 (0, 0))) := ⟨blk_alloc (blk_new1 w _ _) _⟩
        have XZ : Aside0 ((((w.alloc (.cells #[.int .i64 n, .slice A1 L.length c1, .int .i64 lost] tG)).alloc (.cells #[.int .i64 x.f0, .slice A x.f1.length c, .int .i64 x.f2, .int .i64 x.f3, .int .u32 x.f4] 36)).alloc (.cells #[.int .i64 0, .slice none 0 0, .int .i64 0] tG)).heap[w.heap.size + 1 + 1]? = some (.cells #[.int .i64 0, .slice none 0 0, .int .i64 0] tG (0, 0))) := ⟨blk_new2 w _ _ _⟩
        have N3 : Aside0 ((((w.alloc (.cells #[.int .i64 n, .slice A1 L.length c1, .int .i64 lost] tG)).alloc (.cells #[.int .i64 x.f0, .slice A x.f1.length c, .int .i64 x.f2, .int .i64 x.f3, .int .u32 x.f4] 36)).alloc (.cells #[.int .i64 0, .slice none 0 0, .int .i64 0] tG)).heap.size = w.heap.size + 1 + 1 + 1) := ⟨by simp⟩
        generalize ((w.alloc (.cells #[.int .i64 n, .slice A1 L.length c1, .int .i64 lost] tG)).alloc (.cells #[.int .i64 x.f0, .slice A x.f1.length c, .int .i64 x.f2, .int .i64 x.f3, .int .u32 x.f4] 36)).alloc (.cells #[.int .i64 0, .slice none 0 0, .int .i64 0] tG) = w3 at *
        have HR3 := Aside0.mk (Kd.R_below HR.out B3.out)
        have HB3 := Aside0.mk (HB.out.below B3.out)
        have g0 : w3.cell? ⟨w.heap.size, 0, none⟩ = some (.int .i64 n) := (blk_cell XG.out 0).trans rfl
        have g1 : w3.cell? ⟨w.heap.size, 1, none⟩ = some (.slice A1 L.length c1) := (blk_cell XG.out 1).trans rfl
        have g2 : w3.cell? ⟨w.heap.size, 2, none⟩ = some (.int .i64 lost) := (blk_cell XG.out 2).trans rfl
        have a0 : w3.cell? ⟨w.heap.size + 1, 0, none⟩ = some (.int .i64 x.f0) := (blk_cell XA.out 0).trans rfl
        have a1 : w3.cell? ⟨w.heap.size + 1, 1, none⟩ = some (.slice A x.f1.length c) := (blk_cell XA.out 1).trans rfl
        have a2 : w3.cell? ⟨w.heap.size + 1, 2, none⟩ = some (.int .i64 x.f2) := (blk_cell XA.out 2).trans rfl
        have a3 : w3.cell? ⟨w.heap.size + 1, 3, none⟩ = some (.int .i64 x.f3) := (blk_cell XA.out 3).trans rfl
        have a4 : w3.cell? ⟨w.heap.size + 1, 4, none⟩ = some (.int .u32 x.f4) := (blk_cell XA.out 4).trans rfl
        have hL4 : L.length ≤ 4096 := by omega
        have hT : unisonref07_G_Take.f 1 n (L.map rt) lost x.f2 false = some ((n : Int), (L).map rt, lost, strOfNums (lk L x.f2), has L x.f2) := (refTake_f n lost L x.f2 false hL4).trans (by rw [if_neg Bool.false_ne_true])
        have B03 := Aside0.mk (below_step H00.out B3.out)
        have TC := Aside0.mk (unisonref07_G_Take.calls 1 n ok (.slice A1 L.length c1) (L.map rt) lost x.f2 false n ((L).map rt) lost (strOfNums (lk L x.f2)) (has L x.f2) w0 w3 B03.out (R_raise HR3.out (fun k hk => (HOK.out k hk).1)) hT)
        clear hT hL4
        go_wp2_with fail
        refine TC.out.mono ?_
        rintro e w4 ⟨v4, rfl, hr, hb, hk⟩
        obtain ⟨A4, c4, rfl⟩ := Kd.R_slice hr
        rw [List.length_map] at hr
        have R4 := Aside0.mk (Kd.R_lower hr (Nat.zero_le _))
        have D4 : Aside0 (Beside ok w3 w4) := ⟨hb.os.trans B03.out.os.symm, hb.tape.trans B03.out.tape.symm, hb.output.trans B03.out.output.symm, hk.1, fun k hlt hn => hk.2 k hlt hn⟩
        clear g0 g1 g2 a0 a1 a2 a3 a4 hr hb hk TC
        have HNO : Aside0 (∀ k, w.heap.size ≤ k → ¬ ok k) := ⟨fun k hk hs => by have := HOK.out k hs; omega⟩
        have HNS : Aside0 (∀ k, w.heap.size ≤ k → ¬ SB k) := ⟨fun k hk hs => by have := HSB.out k hs; omega⟩
        have XA4 := Aside0.mk ((D4.out.block _ (blk_lt XA.out) (HNO.out _ (by omega))).trans XA.out)
        have XZ4 := Aside0.mk ((D4.out.block _ (blk_lt XZ.out) (HNO.out _ (by omega))).trans XZ.out)
        have HB4 := Aside0.mk (HB3.out.beside D4.out (fun k hk ho => (HOK.out k ho).2.2.2 hk))
        have a0 : ∀ o o', ((w4.alloc o).alloc o').cell? ⟨w.heap.size + 1, 0, none⟩ = some (.int .i64 x.f0) := fun o o' => (blk_cell (blk_alloc (blk_alloc XA4.out o) o') 0).trans rfl
        go_upto_region 17 with (fail)
        have B5 : Aside0 (Below w4.heap.size w4 ((w4.alloc (.cells #[.int .i64 n, .slice A4 (L).length c4, .int .i64 lost] tG)).alloc (.cells #[] 5))) := ⟨below_alloc (below_alloc (Below.refl _ _) _) _⟩
        have XB5 : Aside0 (((w4.alloc (.cells #[.int .i64 n, .slice A4 (L).length c4, .int .i64 lost] tG)).alloc (.cells #[] 5)).heap[w4.heap.size]? = some (.cells #[.int .i64 n, .slice A4 (L).length c4, .int .i64 lost] tG (0, 0))) := ⟨blk_alloc (blk_new w4 _) _⟩
        have N4 : Aside0 (w3.heap.size ≤ w4.heap.size) := ⟨D4.out.size⟩
        have N5 : Aside0 (w4.heap.size < ((w4.alloc (.cells #[.int .i64 n, .slice A4 (L).length c4, .int .i64 lost] tG)).alloc (.cells #[] 5)).heap.size) := ⟨blk_lt XB5.out⟩
        generalize (w4.alloc (.cells #[.int .i64 n, .slice A4 (L).length c4, .int .i64 lost] tG)).alloc (.cells #[] 5) = w5 at *
        have XA5 := Aside0.mk (blk_below XA4.out B5.out)
        have XZ5 := Aside0.mk (blk_below XZ4.out B5.out)
        have HB5 := Aside0.mk (HB4.out.below B5.out)
        have R5 := Aside0.mk (Kd.R_below R4.out B5.out)
        have D5 := Aside0.mk (D4.out.then_below B5.out)
        generalize w4.heap.size = b9 at *
        have a2 : w5.cell? ⟨w.heap.size + 1, 2, none⟩ = some (.int .i64 x.f2) := (blk_cell XA5.out 2).trans rfl
        clear a0
        go_wp2_with fail
        refine (Look_calls HB5.out x.f2).mono ?_
        rintro e w6 ⟨v, rfl, ho, hb⟩
        obtain ⟨A6, c6, rfl⟩ := Kd.R_slice ho
        have O6 : Aside0 (Kd.R (Kd.int .u8) 5 w6 w5.heap.size (fun k => w5.heap.size ≤ k ∧ k < w6.heap.size) (.slice A6 (lk L x.f2).length c6) (lk L x.f2)) := ⟨Kd.R_mono (Kd.R_bound ho) (fun k hk => ⟨hk.2.1, hk.2.2.1⟩)⟩
        have W6 : Aside0 (Bag w6 (SB) g n (L) lost) := ⟨HB5.out.below hb⟩
        have D6 : Aside0 (Beside SB w5 w6) := ⟨Beside.of_below SB hb⟩
        have XB6 := Aside0.mk ((D6.out.block _ (blk_lt XB5.out) (HNS.out _ (by have := N3.out; have := N4.out; omega))).trans XB5.out)
        have XZ6 := Aside0.mk ((D6.out.block _ (blk_lt XZ5.out) (HNS.out _ (by omega))).trans XZ5.out)
        have sg : (convert 24 9 (.slice A6 (lk L x.f2).length c6)).run Try.prog w6 = .ok (.string (strOfNums (lk L x.f2))) w6 := str_run (Kd.R_reads' ho).2.2
        have HYL : Aside0 ((lk L x.f2).length ≤ 1000000) := ⟨by
          unfold lk
          split
          · refine (H8.out _ ?_).2
            rw [List.getD_eq_getElem?_getD, List.getElem?_eq_getElem (by omega)]
            exact List.getElem_mem _
          · simp⟩
        clear a2 ho hb
        generalize lk L x.f2 = y at *
        generalize has L x.f2 = hs at *
        go_wp2_with fail
        clear sg
        go_loopg [19] y.length (fun kq v19 w' => ∃ (j : Nat) (xs : List Int), v19 = .int .i64 j ∧ j ≤ y.length ∧ y.length ≤ kq + j ∧ xs.length = y.length ∧ Aside0 (Kd.R (Kd.int .u8) 5 w' w5.heap.size (fun k => w5.heap.size ≤ k ∧ k < w6.heap.size) (.slice A6 y.length c6) xs) ∧ Aside0 (Beside (fun k => w5.heap.size ≤ k ∧ k < w6.heap.size) w6 w'))
        case atStart => exact ⟨0, y, rfl, by omega, by omega, rfl, O6, ⟨Beside.refl _ _⟩⟩
        case round =>
          obtain ⟨j, xs, rfl, hj, hkj, hxl, R, E9⟩ := hrel
          have hyl := HYL.out
          by_cases hlt : j < y.length
          · have hlt' : decide ((j : Int) < (y.length : Int)) = true := decide_eq_true (by omega)
            have hlt2 : decide (j < y.length) = true := decide_eq_true hlt
            obtain ⟨ob, co', ev, _, hob, hol⟩ := R_head R.out (by omega)
            rw [hxl] at ev
            injection ev with e1 _ e3
            subst e1
            subst e3
            obtain ⟨hby, hbz⟩ := Kd.R_celln (0 : Int) R.out (j : Int) (by omega) (by omega)
            rw [Int.toNat_natCast] at hby hbz
            have RP : Aside0 (∀ X : Int, Kd.R (Kd.int .u8) 5 (wr.setCell ⟨ob, j, none⟩ (.int .u8 X)) w5.heap.size (fun k => w5.heap.size ≤ k ∧ k < w6.heap.size) (.slice (some ⟨ob, 0, none⟩) y.length c6) (xs.set j X)) := ⟨fun X => by
              have h := (Kd.R_putg R.out (j : Int) X).1
              rwa [Int.toNat_natCast] at h⟩
            have OB := Aside0.mk (R.out.1 ob (by simp [Value.ownBlock]))
            have p1 : (0 ≤ (j : Int)) = True := eq_true (by omega)
            have p2 : ((j : Int) < (y.length : Int)) = True := eq_true (by omega)
            generalize rdOf (0 : Int) xs (j : Int) = z at hby
            have HXL := Aside0.mk hxl
            clear hxl hob hol
            go_wp2_with fail
            go_roundg (gk - 1)
            case measure => omega
            case rel => exact ⟨j + 1, _, by simp, by omega, by omega, by rw [List.length_set]; exact HXL.out, ⟨RP.out _⟩, ⟨E9.out.setCell (p := ⟨ob, j, none⟩) OB.out _⟩⟩
          · have hlt' : decide ((j : Int) < (y.length : Int)) = false := decide_eq_false (by omega)
            have hlt2 : decide (j < y.length) = false := decide_eq_false hlt
            have xb := (E9.out.block _ (blk_lt XB6.out) (fun h => by have := N5.out; omega)).trans XB6.out
            have xz := (E9.out.block _ (blk_lt XZ6.out) (fun h => by have := N3.out; have := N4.out; have := N5.out; omega)).trans XZ6.out
            have XZR := Aside0.mk xz
            have q0 : wr.cell? ⟨b9, 0, none⟩ = some (.int .i64 n) := (blk_cell xb 0).trans rfl
            have q1 : wr.cell? ⟨b9, 1, none⟩ = some (.slice A4 (L).length c4) := (blk_cell xb 1).trans rfl
            have q2 : wr.cell? ⟨b9, 2, none⟩ = some (.int .i64 lost) := (blk_cell xb 2).trans rfl
            have z0 : wr.cell? ⟨w.heap.size + 1 + 1, 0, none⟩ = some (.int .i64 0) := (blk_cell xz 0).trans rfl
            have z1 : wr.cell? ⟨w.heap.size + 1 + 1, 1, none⟩ = some (.slice none 0 0) := (blk_cell xz 1).trans rfl
            have z2 : wr.cell? ⟨w.heap.size + 1 + 1, 2, none⟩ = some (.int .i64 0) := (blk_cell xz 2).trans rfl
            have f0 := blk_frozen xz 0
            have f1 := blk_frozen xz 1
            have f2 := blk_frozen xz 2
            clear xb xz R
            go_wp2_with fail
            go_region
            go_wp2_with fail
            refine bodyPost_ret (results_tc rfl _ _ (w.heap.size + 1 + 1) tG #[.int .i64 n, .slice A4 (L).length c4, .int .i64 lost] (0, 0) _ rfl (put3 XZR.out) hu rfl (by kernel_rfl)) rfl ?_
            refine ⟨_, _, _, by simp, DS_end (t := w3.heap.size) (E := fun k => (w5.heap.size ≤ k ∧ k < w6.heap.size) ∨ k = w.heap.size + 1 + 1) H00.out HSB.out HOK.out HF.out ((Beside.of_below ok B3.out).trans D5.out) B3.out.size R5.out W6.out (fun k hk => Or.inl hk) D6.out ?_ (fun k hk => ?_) (H8.out), by omega⟩
            · exact ((((E9.out.mono (S' := fun k => (w5.heap.size ≤ k ∧ k < w6.heap.size) ∨ k = w.heap.size + 1 + 1) (fun k hk => Or.inl hk)).setCell (p := ⟨w.heap.size + 1 + 1, 0, none⟩) (Or.inr rfl) _).setCell (p := ⟨w.heap.size + 1 + 1, 1, none⟩) (Or.inr rfl) _).setCell (p := ⟨w.heap.size + 1 + 1, 2, none⟩) (Or.inr rfl) _).drew
            · have := N3.out
              have := N4.out
              have := N5.out
              have h1 : w.heap.size ≤ k ∧ (k < w3.heap.size ∨ w5.heap.size ≤ k) := by omega
              exact ⟨h1.1, fun h => HNS.out _ h1.1 h, h1.2⟩
      · have e2' : (x.f0 == 2) = false := beq_eq_false_iff_ne.2 e2
        by_cases e3 : x.f0 = 3
        · have e3' : (x.f0 == 3) = true := beq_iff_eq.2 e3
          clear e0 e1 e2 e3
          go_enter Try.func18, Try.ntmps18
          go_upto_region 25 with (fail)
          have B3 : Aside0 (Below w.heap.size w (((w.alloc (.cells #[.int .i64 n, .slice A1 L.length c1, .int .i64 lost] tG)).alloc (.cells #[.int .i64 x.f0, .slice A x.f1.length c, .int .i64 x.f2, .int .i64 x.f3, .int .u32 x.f4] 36)).alloc (.cells #[.int .i64 0, .slice none 0 0, .int .i64 0] tG))) := ⟨below_alloc (below_alloc (below_alloc (Below.refl _ _) _) _) _⟩
          have XG : Aside0 ((((w.alloc (.cells #[.int .i64 n, .slice A1 L.length c1, .int .i64 lost] tG)).alloc (.cells #[.int .i64 x.f0, .slice A x.f1.length c, .int .i64 x.f2, .int .i64 x.f3, .int .u32 x.f4] 36)).alloc (.cells #[.int .i64 0, .slice none 0 0, .int .i64 0] tG)).heap[w.heap.size]? = some (.cells #[.int .i64 n, .slice A1 L.length c1, .int .i64 lost] tG (0, 0))) := ⟨blk_alloc (blk_alloc (blk_new w _) _) _⟩
          have XA : Aside0 ((((w.alloc (.cells #[.int .i64 n, .slice A1 L.length c1, .int .i64 lost] tG)).alloc (.cells #[.int .i64 x.f0, .slice A x.f1.length c, .int .i64 x.f2, .int .i64 x.f3, .int .u32 x.f4] 36)).alloc (.cells #[.int .i64 0, .slice none 0 0, .int .i64 0] tG)).heap[w.heap.size + 1]? = some (.cells #[.int .i64 x.f0, .slice A x.f1.length c, .int .i64 x.f2, .int .i64 x.f3, .int .u32 x.f4] 36 (0, 0))) := ⟨blk_alloc (blk_new1 w _ _) _⟩
          have XZ : Aside0 ((((w.alloc (.cells #[.int .i64 n, .slice A1 L.length c1, .int .i64 lost] tG)).alloc (.cells #[.int .i64 x.f0, .slice A x.f1.length c, .int .i64 x.f2, .int .i64 x.f3, .int .u32 x.f4] 36)).alloc (.cells #[.int .i64 0, .slice none 0 0, .int .i64 0] tG)).heap[w.heap.size + 1 + 1]? = some (.cells #[.int .i64 0, .slice none 0 0, .int .i64 0] tG (0, 0))) := ⟨blk_new2 w _ _ _⟩
          have N3 : Aside0 ((((w.alloc (.cells #[.int .i64 n, .slice A1 L.length c1, .int .i64 lost] tG)).alloc (.cells #[.int .i64 x.f0, .slice A x.f1.length c, .int .i64 x.f2, .int .i64 x.f3, .int .u32 x.f4] 36)).alloc (.cells #[.int .i64 0, .slice none 0 0, .int .i64 0] tG)).heap.size = w.heap.size + 1 + 1 + 1) := ⟨by simp⟩
          generalize ((w.alloc (.cells #[.int .i64 n, .slice A1 L.length c1, .int .i64 lost] tG)).alloc (.cells #[.int .i64 x.f0, .slice A x.f1.length c, .int .i64 x.f2, .int .i64 x.f3, .int .u32 x.f4] 36)).alloc (.cells #[.int .i64 0, .slice none 0 0, .int .i64 0] tG) = w3 at *
          have HR3 := Aside0.mk (Kd.R_below HR.out B3.out)
          have HB3 := Aside0.mk (HB.out.below B3.out)
          have g0 : w3.cell? ⟨w.heap.size, 0, none⟩ = some (.int .i64 n) := (blk_cell XG.out 0).trans rfl
          have g1 : w3.cell? ⟨w.heap.size, 1, none⟩ = some (.slice A1 L.length c1) := (blk_cell XG.out 1).trans rfl
          have g2 : w3.cell? ⟨w.heap.size, 2, none⟩ = some (.int .i64 lost) := (blk_cell XG.out 2).trans rfl
          have a0 : w3.cell? ⟨w.heap.size + 1, 0, none⟩ = some (.int .i64 x.f0) := (blk_cell XA.out 0).trans rfl
          have a1 : w3.cell? ⟨w.heap.size + 1, 1, none⟩ = some (.slice A x.f1.length c) := (blk_cell XA.out 1).trans rfl
          have a2 : w3.cell? ⟨w.heap.size + 1, 2, none⟩ = some (.int .i64 x.f2) := (blk_cell XA.out 2).trans rfl
          have a3 : w3.cell? ⟨w.heap.size + 1, 3, none⟩ = some (.int .i64 x.f3) := (blk_cell XA.out 3).trans rfl
          have a4 : w3.cell? ⟨w.heap.size + 1, 4, none⟩ = some (.int .u32 x.f4) := (blk_cell XA.out 4).trans rfl
          go_wp2_with fail
          refine (refTwice_calls HR3.out x.f2 hn hL).mono ?_
          rintro e w4 ⟨v4, rfl, hr, hb⟩
          obtain ⟨A4, c4, rfl⟩ := Kd.R_slice hr
          rw [List.length_map] at hr
          have R4 := Aside0.mk hr
          have B4 := Aside0.mk (below_step (Below.refl _ _) hb : Below w3.heap.size w3 w4)
          clear g0 g1 g2 a0 a1 a2 a3 a4 hr hb
          go_upto_region 26 with (fail)
          have B5 : Aside0 (Below w3.heap.size w3 (w4.alloc (.cells #[.int .i64 n, .slice A4 (twice n L x.f2).length c4, .int .i64 lost] tG))) := ⟨below_alloc B4.out _⟩
          have XB : Aside0 ((w4.alloc (.cells #[.int .i64 n, .slice A4 (twice n L x.f2).length c4, .int .i64 lost] tG)).heap[w4.heap.size]? = some (.cells #[.int .i64 n, .slice A4 (twice n L x.f2).length c4, .int .i64 lost] tG (0, 0))) := ⟨blk_new w4 _⟩
          have R5 := Aside0.mk (Kd.R_alloc R4.out (.cells #[.int .i64 n, .slice A4 (twice n L x.f2).length c4, .int .i64 lost] tG))
          have N4 : Aside0 (w3.heap.size ≤ w4.heap.size) := ⟨B4.out.size⟩
          have N5 : Aside0 (w4.heap.size < (w4.alloc (.cells #[.int .i64 n, .slice A4 (twice n L x.f2).length c4, .int .i64 lost] tG)).heap.size) := ⟨blk_lt XB.out⟩
          generalize w4.alloc (.cells #[.int .i64 n, .slice A4 (twice n L x.f2).length c4, .int .i64 lost] tG) = w5 at *
          obtain ⟨bq, hbq⟩ : ∃ b, b = w4.heap.size := ⟨_, rfl⟩
          rw [← hbq] at XB N5 ⊢
          have NQ : Aside0 (w.heap.size + 1 + 1 < bq) := ⟨by have := N3.out; have := N4.out; omega⟩
          clear hbq
          have HNS : Aside0 (∀ k, w.heap.size ≤ k → ¬ SB k) := ⟨fun k hk hs => by have := HSB.out k hs; omega⟩
          have XA5 := Aside0.mk (blk_below XA.out B5.out)
          have XZ5 := Aside0.mk (blk_below XZ.out B5.out)
          have HB5 := Aside0.mk (HB3.out.below B5.out)
          have a2 : w5.cell? ⟨w.heap.size + 1, 2, none⟩ = some (.int .i64 x.f2) := (blk_cell XA5.out 2).trans rfl
          have a3 : w5.cell? ⟨w.heap.size + 1, 3, none⟩ = some (.int .i64 x.f3) := (blk_cell XA5.out 3).trans rfl
          have a4 : w5.cell? ⟨w.heap.size + 1, 4, none⟩ = some (.int .u32 x.f4) := (blk_cell XA5.out 4).trans rfl
          have q0 : w5.cell? ⟨bq, 0, none⟩ = some (.int .i64 n) := (blk_cell XB.out 0).trans rfl
          have q1 : w5.cell? ⟨bq, 1, none⟩ = some (.slice A4 (twice n L x.f2).length c4) := (blk_cell XB.out 1).trans rfl
          have q2 : w5.cell? ⟨bq, 2, none⟩ = some (.int .i64 lost) := (blk_cell XB.out 2).trans rfl
          have n1 : bq ≠ w.heap.size + 1 + 1 := by have := NQ.out; omega
          have n2 : w.heap.size + 1 + 1 ≠ bq := by have := NQ.out; omega
          have n3 : w.heap.size + 1 ≠ w.heap.size + 1 + 1 := by omega
          go_region_held3 (fun w' => w'.cell? ⟨w.heap.size + 1, 2, none⟩ = some (.int .i64 x.f2) ∧ w'.cell? ⟨w.heap.size + 1, 3, none⟩ = some (.int .i64 x.f3) ∧ w'.cell? ⟨w.heap.size + 1, 4, none⟩ = some (.int .u32 x.f4) ∧ w'.cell? ⟨bq, 0, none⟩ = some (.int .i64 n) ∧ w'.cell? ⟨bq, 1, none⟩ = some (.slice A4 (twice n L x.f2).length c4) ∧ w'.cell? ⟨bq, 2, none⟩ = some (.int .i64 lost)) (go_keep)
            ((go_at_call 14; refine (Twice_calls (by first | exact HB5.out | exact HB5.out.drew) x.f2).mono ?_; rintro e w6 ⟨rfl, hW, hb⟩; have W6 : Aside0 (Bag w6 (fun k => SB k ∨ w5.heap.size ≤ k) g n (twice n L x.f2) lost) := ⟨hW⟩; have D6 : Aside0 (Beside SB w5 w6) := ⟨by first | exact hb | exact ((Beside.refl SB w5).drew).trans hb⟩; clear hW hb; have xa := (D6.out.block _ (blk_lt XA5.out) (HNS.out _ (Nat.le_succ _))).trans XA5.out; have xb := (D6.out.block _ (blk_lt XB.out) (HNS.out _ (by have := NQ.out; omega))).trans XB.out; have xz := (D6.out.block _ (blk_lt XZ5.out) (HNS.out _ (by omega))).trans XZ5.out; have XZ6 := Aside0.mk xz; have ya2 : w6.cell? ⟨w.heap.size + 1, 2, none⟩ = some (.int .i64 x.f2) := (blk_cell xa 2).trans rfl; have ya3 : w6.cell? ⟨w.heap.size + 1, 3, none⟩ = some (.int .i64 x.f3) := (blk_cell xa 3).trans rfl; have ya4 : w6.cell? ⟨w.heap.size + 1, 4, none⟩ = some (.int .u32 x.f4) := (blk_cell xa 4).trans rfl; have yq0 : w6.cell? ⟨bq, 0, none⟩ = some (.int .i64 n) := (blk_cell xb 0).trans rfl; have yq1 : w6.cell? ⟨bq, 1, none⟩ = some (.slice A4 (twice n L x.f2).length c4) := (blk_cell xb 1).trans rfl; have yq2 : w6.cell? ⟨bq, 2, none⟩ = some (.int .i64 lost) := (blk_cell xb 2).trans rfl; have yz0 : w6.cell? ⟨w.heap.size + 1 + 1, 0, none⟩ = some (.int .i64 0) := (blk_cell xz 0).trans rfl; have yz1 : w6.cell? ⟨w.heap.size + 1 + 1, 1, none⟩ = some (.slice none 0 0) := (blk_cell xz 1).trans rfl; have yz2 : w6.cell? ⟨w.heap.size + 1 + 1, 2, none⟩ = some (.int .i64 0) := (blk_cell xz 2).trans rfl; have zf0 := blk_frozen xz 0; have zf1 := blk_frozen xz 1; have zf2 := blk_frozen xz 2; clear xa xb xz))
          go_wp2_with fail
          refine bodyPost_ret (results_tc rfl _ _ (w.heap.size + 1 + 1) tG #[.int .i64 n, .slice A4 (twice n L x.f2).length c4, .int .i64 lost] (0, 0) _ rfl (put3 XZ6.out) hu rfl (by kernel_rfl)) rfl ?_
          refine ⟨_, _, _, by simp, DS_end (t := w3.heap.size) (E := fun k => k = w.heap.size + 1 + 1) H00.out HSB.out HOK.out HF.out (Beside.of_below ok (below_step B3.out B5.out)) B3.out.size R5.out W6.out (fun k hk => hk) D6.out ?_ (fun k hk => ?_) (u8_twice _ H8.out), by omega⟩
          · exact (((Beside.refl (fun k => k = w.heap.size + 1 + 1) w6).setCell (p := ⟨w.heap.size + 1 + 1, 0, none⟩) rfl _).setCell (p := ⟨w.heap.size + 1 + 1, 1, none⟩) rfl _).setCell (p := ⟨w.heap.size + 1 + 1, 2, none⟩) rfl _
          · have := N3.out
            have := N4.out
            have := N5.out
            have := NQ.out
            rw [hk]
            exact ⟨by omega, fun h => h.elim (HNS.out _ (by omega)) (fun h => by omega), Or.inl (by omega)⟩
        · have e3' : (x.f0 == 3) = false := beq_eq_false_iff_ne.2 e3
          clear e0 e1 e2 e3
          go_enter Try.func18, Try.ntmps18
          go_upto_region 27 with (fail)
          have B3 : Aside0 (Below w.heap.size w (((w.alloc (.cells #[.int .i64 n, .slice A1 L.length c1, .int .i64 lost] tG)).alloc (.cells #[.int .i64 x.f0, .slice A x.f1.length c, .int .i64 x.f2, .int .i64 x.f3, .int .u32 x.f4] 36)).alloc (.cells #[.int .i64 0, .slice none 0 0, .int .i64 0] tG))) := ⟨below_alloc (below_alloc (below_alloc (Below.refl _ _) _) _) _⟩
          have XG : Aside0 ((((w.alloc (.cells #[.int .i64 n, .slice A1 L.length c1, .int .i64 lost] tG)).alloc (.cells #[.int .i64 x.f0, .slice A x.f1.length c, .int .i64 x.f2, .int .i64 x.f3, .int .u32 x.f4] 36)).alloc (.cells #[.int .i64 0, .slice none 0 0, .int .i64 0] tG)).heap[w.heap.size]? = some (.cells #[.int .i64 n, .slice A1 L.length c1, .int .i64 lost] tG (0, 0))) := ⟨blk_alloc (blk_alloc (blk_new w _) _) _⟩
          have XA : Aside0 ((((w.alloc (.cells #[.int .i64 n, .slice A1 L.length c1, .int .i64 lost] tG)).alloc (.cells #[.int .i64 x.f0, .slice A x.f1.length c, .int .i64 x.f2, .int .i64 x.f3, .int .u32 x.f4] 36)).alloc (.cells #[.int .i64 0, .slice none 0 0, .int .i64 0] tG)).heap[w.heap.size + 1]? = some (.cells #[.int .i64 x.f0, .slice A x.f1.length c, .int .i64 x.f2, .int .i64 x.f3, .int .u32 x.f4] 36 (0, 0))) := ⟨blk_alloc (blk_new1 w _ _) _⟩
          have XZ : Aside0 ((((w.alloc (.cells #[.int .i64 n, .slice A1 L.length c1, .int .i64 lost] tG)).alloc (.cells #[.int .i64 x.f0, .slice A x.f1.length c, .int .i64 x.f2, .int .i64 x.f3, .int .u32 x.f4] 36)).alloc (.cells #[.int .i64 0, .slice none 0 0, .int .i64 0] tG)).heap[w.heap.size + 1 + 1]? = some (.cells #[.int .i64 0, .slice none 0 0, .int .i64 0] tG (0, 0))) := ⟨blk_new2 w _ _ _⟩
          have N3 : Aside0 ((((w.alloc (.cells #[.int .i64 n, .slice A1 L.length c1, .int .i64 lost] tG)).alloc (.cells #[.int .i64 x.f0, .slice A x.f1.length c, .int .i64 x.f2, .int .i64 x.f3, .int .u32 x.f4] 36)).alloc (.cells #[.int .i64 0, .slice none 0 0, .int .i64 0] tG)).heap.size = w.heap.size + 1 + 1 + 1) := ⟨by simp⟩
          generalize ((w.alloc (.cells #[.int .i64 n, .slice A1 L.length c1, .int .i64 lost] tG)).alloc (.cells #[.int .i64 x.f0, .slice A x.f1.length c, .int .i64 x.f2, .int .i64 x.f3, .int .u32 x.f4] 36)).alloc (.cells #[.int .i64 0, .slice none 0 0, .int .i64 0] tG) = w3 at *
          have HR3 := Aside0.mk (Kd.R_below HR.out B3.out)
          have HB3 := Aside0.mk (HB.out.below B3.out)
          have g0 : w3.cell? ⟨w.heap.size, 0, none⟩ = some (.int .i64 n) := (blk_cell XG.out 0).trans rfl
          have g1 : w3.cell? ⟨w.heap.size, 1, none⟩ = some (.slice A1 L.length c1) := (blk_cell XG.out 1).trans rfl
          have g2 : w3.cell? ⟨w.heap.size, 2, none⟩ = some (.int .i64 lost) := (blk_cell XG.out 2).trans rfl
          have a0 : w3.cell? ⟨w.heap.size + 1, 0, none⟩ = some (.int .i64 x.f0) := (blk_cell XA.out 0).trans rfl
          have a1 : w3.cell? ⟨w.heap.size + 1, 1, none⟩ = some (.slice A x.f1.length c) := (blk_cell XA.out 1).trans rfl
          have a2 : w3.cell? ⟨w.heap.size + 1, 2, none⟩ = some (.int .i64 x.f2) := (blk_cell XA.out 2).trans rfl
          have a3 : w3.cell? ⟨w.heap.size + 1, 3, none⟩ = some (.int .i64 x.f3) := (blk_cell XA.out 3).trans rfl
          have a4 : w3.cell? ⟨w.heap.size + 1, 4, none⟩ = some (.int .u32 x.f4) := (blk_cell XA.out 4).trans rfl
          go_wp2_with fail
          refine (refTurn_calls HR3.out x.f2 x.f3 x.f4 (by omega) H8.out HU.out.2.1 HU.out.2.2).mono ?_
          rintro e w4 ⟨v4, rfl, hr, hb⟩
          obtain ⟨A4, c4, rfl⟩ := Kd.R_slice hr
          rw [List.length_map] at hr
          have R4 := Aside0.mk hr
          have B4 := Aside0.mk (below_step (Below.refl _ _) hb : Below w3.heap.size w3 w4)
          clear g0 g1 g2 a0 a1 a2 a3 a4 hr hb
          go_upto_region 28 with (fail)
          have B5 : Aside0 (Below w3.heap.size w3 (w4.alloc (.cells #[.int .i64 n, .slice A4 (turn L x.f2 x.f3 x.f4).length c4, .int .i64 lost] tG))) := ⟨below_alloc B4.out _⟩
          have XB : Aside0 ((w4.alloc (.cells #[.int .i64 n, .slice A4 (turn L x.f2 x.f3 x.f4).length c4, .int .i64 lost] tG)).heap[w4.heap.size]? = some (.cells #[.int .i64 n, .slice A4 (turn L x.f2 x.f3 x.f4).length c4, .int .i64 lost] tG (0, 0))) := ⟨blk_new w4 _⟩
          have R5 := Aside0.mk (Kd.R_alloc R4.out (.cells #[.int .i64 n, .slice A4 (turn L x.f2 x.f3 x.f4).length c4, .int .i64 lost] tG))
          have N4 : Aside0 (w3.heap.size ≤ w4.heap.size) := ⟨B4.out.size⟩
          have N5 : Aside0 (w4.heap.size < (w4.alloc (.cells #[.int .i64 n, .slice A4 (turn L x.f2 x.f3 x.f4).length c4, .int .i64 lost] tG)).heap.size) := ⟨blk_lt XB.out⟩
          generalize w4.alloc (.cells #[.int .i64 n, .slice A4 (turn L x.f2 x.f3 x.f4).length c4, .int .i64 lost] tG) = w5 at *
          obtain ⟨bq, hbq⟩ : ∃ b, b = w4.heap.size := ⟨_, rfl⟩
          rw [← hbq] at XB N5 ⊢
          have NQ : Aside0 (w.heap.size + 1 + 1 < bq) := ⟨by have := N3.out; have := N4.out; omega⟩
          clear hbq
          have HNS : Aside0 (∀ k, w.heap.size ≤ k → ¬ SB k) := ⟨fun k hk hs => by have := HSB.out k hs; omega⟩
          have XA5 := Aside0.mk (blk_below XA.out B5.out)
          have XZ5 := Aside0.mk (blk_below XZ.out B5.out)
          have HB5 := Aside0.mk (HB3.out.below B5.out)
          have a2 : w5.cell? ⟨w.heap.size + 1, 2, none⟩ = some (.int .i64 x.f2) := (blk_cell XA5.out 2).trans rfl
          have a3 : w5.cell? ⟨w.heap.size + 1, 3, none⟩ = some (.int .i64 x.f3) := (blk_cell XA5.out 3).trans rfl
          have a4 : w5.cell? ⟨w.heap.size + 1, 4, none⟩ = some (.int .u32 x.f4) := (blk_cell XA5.out 4).trans rfl
          have q0 : w5.cell? ⟨bq, 0, none⟩ = some (.int .i64 n) := (blk_cell XB.out 0).trans rfl
          have q1 : w5.cell? ⟨bq, 1, none⟩ = some (.slice A4 (turn L x.f2 x.f3 x.f4).length c4) := (blk_cell XB.out 1).trans rfl
          have q2 : w5.cell? ⟨bq, 2, none⟩ = some (.int .i64 lost) := (blk_cell XB.out 2).trans rfl
          have n1 : bq ≠ w.heap.size + 1 + 1 := by have := NQ.out; omega
          have n2 : w.heap.size + 1 + 1 ≠ bq := by have := NQ.out; omega
          have n3 : w.heap.size + 1 ≠ w.heap.size + 1 + 1 := by omega
          go_region_held3 (fun w' => w'.cell? ⟨w.heap.size + 1, 2, none⟩ = some (.int .i64 x.f2) ∧ w'.cell? ⟨w.heap.size + 1, 3, none⟩ = some (.int .i64 x.f3) ∧ w'.cell? ⟨w.heap.size + 1, 4, none⟩ = some (.int .u32 x.f4) ∧ w'.cell? ⟨bq, 0, none⟩ = some (.int .i64 n) ∧ w'.cell? ⟨bq, 1, none⟩ = some (.slice A4 (turn L x.f2 x.f3 x.f4).length c4) ∧ w'.cell? ⟨bq, 2, none⟩ = some (.int .i64 lost)) (go_keep)
            ((go_at_call 16; refine (Turn_calls (by first | exact HB5.out | exact HB5.out.drew) x.f2 x.f3 x.f4 HU.out.1 HU.out.2.1 HU.out.2.2).mono ?_; rintro e w6 ⟨rfl, hW, hb⟩; have W6 : Aside0 (Bag w6 (fun k => SB k ∨ w5.heap.size ≤ k) g n (turn L x.f2 x.f3 x.f4) lost) := ⟨hW.mono (fun b hb => Or.inl hb)⟩; have D6 : Aside0 (Beside SB w5 w6) := ⟨by first | exact hb | exact ((Beside.refl SB w5).drew).trans hb⟩; clear hW hb; have xa := (D6.out.block _ (blk_lt XA5.out) (HNS.out _ (Nat.le_succ _))).trans XA5.out; have xb := (D6.out.block _ (blk_lt XB.out) (HNS.out _ (by have := NQ.out; omega))).trans XB.out; have xz := (D6.out.block _ (blk_lt XZ5.out) (HNS.out _ (by omega))).trans XZ5.out; have XZ6 := Aside0.mk xz; have ya2 : w6.cell? ⟨w.heap.size + 1, 2, none⟩ = some (.int .i64 x.f2) := (blk_cell xa 2).trans rfl; have ya3 : w6.cell? ⟨w.heap.size + 1, 3, none⟩ = some (.int .i64 x.f3) := (blk_cell xa 3).trans rfl; have ya4 : w6.cell? ⟨w.heap.size + 1, 4, none⟩ = some (.int .u32 x.f4) := (blk_cell xa 4).trans rfl; have yq0 : w6.cell? ⟨bq, 0, none⟩ = some (.int .i64 n) := (blk_cell xb 0).trans rfl; have yq1 : w6.cell? ⟨bq, 1, none⟩ = some (.slice A4 (turn L x.f2 x.f3 x.f4).length c4) := (blk_cell xb 1).trans rfl; have yq2 : w6.cell? ⟨bq, 2, none⟩ = some (.int .i64 lost) := (blk_cell xb 2).trans rfl; have yz0 : w6.cell? ⟨w.heap.size + 1 + 1, 0, none⟩ = some (.int .i64 0) := (blk_cell xz 0).trans rfl; have yz1 : w6.cell? ⟨w.heap.size + 1 + 1, 1, none⟩ = some (.slice none 0 0) := (blk_cell xz 1).trans rfl; have yz2 : w6.cell? ⟨w.heap.size + 1 + 1, 2, none⟩ = some (.int .i64 0) := (blk_cell xz 2).trans rfl; have zf0 := blk_frozen xz 0; have zf1 := blk_frozen xz 1; have zf2 := blk_frozen xz 2; clear xa xb xz))
          go_wp2_with fail
          refine bodyPost_ret (results_tc rfl _ _ (w.heap.size + 1 + 1) tG #[.int .i64 n, .slice A4 (turn L x.f2 x.f3 x.f4).length c4, .int .i64 lost] (0, 0) _ rfl (put3 XZ6.out) hu rfl (by kernel_rfl)) rfl ?_
          refine ⟨_, _, _, by simp, DS_end (t := w3.heap.size) (E := fun k => k = w.heap.size + 1 + 1) H00.out HSB.out HOK.out HF.out (Beside.of_below ok (below_step B3.out B5.out)) B3.out.size R5.out W6.out (fun k hk => hk) D6.out ?_ (fun k hk => ?_) (u8_turn _ _ _ H8.out), by omega⟩
          · exact (((Beside.refl (fun k => k = w.heap.size + 1 + 1) w6).setCell (p := ⟨w.heap.size + 1 + 1, 0, none⟩) rfl _).setCell (p := ⟨w.heap.size + 1 + 1, 1, none⟩) rfl _).setCell (p := ⟨w.heap.size + 1 + 1, 2, none⟩) rfl _
          · have := N3.out
            have := N4.out
            have := N5.out
            have := NQ.out
            rw [hk]
            exact ⟨by omega, fun h => h.elim (HNS.out _ (by omega)) (fun h => by omega), Or.inl (by omega)⟩

end Go.Proofs.Ytemgfogpeogdeaa.Walk
