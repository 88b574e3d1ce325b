/- Whatever is done, each thing that comes out was put in, but for bits that lie within 32 in a row. Conditions: none beyond the statement's own. -/
import Derived.Test.YtemgfogpeogdeaaWalkAwake
import Derived.Test.YtemgfogpeogdeaaWalkKeepsL
import Derived.Test.YtemgfogpeogdeaaArgs
import Derived.Deep.QuietTactic
import Derived.BigQuiet
import Derived.Lib.QuietBelow
import Derived.Outline
import Derived.Deep.RegionHeld3
import Derived.Deep.CutRange
namespace Go.Proofs.Ytemgfogpeogdeaa.Walk
open Go.RowKit Go.Proofs.Ytemgfogpeogdeaa.F Go.Proofs.YtemgfogpeogdeaaW.PrintWords Go.Proofs.YtemgfogpeogdeaaW.PrintLast Go.Proofs.YtemgfogpeogdeaaW.PrintMore Go.Proofs.Ytemgfogpeogdeaa.Open
open Go.Sort (grow)
attribute [local go_sem] max2_int min2_int max_two min_two max_three min_three max_four min_four
set_option linter.unusedVariables false
set_option linter.unusedSimpArgs false

/-! ### The law: what comes out was put in, but for bits within 32 -/
theorem has_came {L : List Th} {P : List (List Int)} (i : Int) (h : ∀ x ∈ L, ∃ p ∈ P, cameOf p x) (hh : has L i = true) : ahead P (lk L i) 0 := by
  have hi := of_decide_eq_true hh
  obtain ⟨p, hp, hc⟩ := h (L.getD i.toNat zT) (by rw [List.getD_eq_getElem?_getD, List.getElem?_eq_getElem (by omega)]; exact List.getElem_mem _)
  obtain ⟨j, hj, rfl⟩ := List.getElem_of_mem hp
  refine ⟨j, Nat.zero_le _, hj, L.getD i.toNat zT, ?_, hc⟩
  unfold lk
  rw [if_pos hi]
theorem ahead_next {P : List (List Int)} {y : List Int} {k : Nat} (hk : k < P.length) (h5 : ∀ p ∈ P, u8s p ∧ p.length ≤ 100) (h : ahead P y k) (hn : ¬ (y.length = P[k].length ∧ unisonlaw07_near.f (8 * P[k].length + 1) (strOfNums P[k]) (strOfNums y) = some true)) : ahead P y (k + 1) := by
  obtain ⟨j, hkj, hj, x, hx, hc⟩ := h
  by_cases e : j = k
  · subst e
    have hp := h5 _ (List.getElem_mem hj)
    refine absurd ⟨?_, ?_⟩ hn
    · rw [← hx]; exact hc.1
    · rw [← hx]; exact hc.near hp.1 (by omega)
  · exact ⟨j, by omega, hj, x, hx, hc⟩
set_option maxHeartbeats 8000000 in
set_option maxRecDepth 100000 in
theorem BagKeeps (a0 : Int) (A1 : Option Addr) (c1 : Nat) (l1 : List S36) (w : World) (hr1 : Kd.C k36 w A1 l1.length l1) (hc1 : l1.length ≤ c1)
    (w0 : (Lit.int .i64 a0).wf = true) (w1 : l1.length ≤ maxLen ∧ ∀ x ∈ l1, wf36 x) :
    Calls Try.prog 4 #[.int .i64 a0, .slice A1 l1.length c1] w fun e w' => e = .returned (.bool true) ∧ Below w.heap.size w w' := by
  have HR := Aside0.mk hr1
  have HWF := Aside0.mk w1.2
  clear w0 w1 hr1 hc1
  by_cases hl : (60 : Int) < l1.length
  · have hl' : decide ((60 : Int) < l1.length) = true := decide_eq_true hl
    have hl2 : decide (60 < l1.length) = true := decide_eq_true (by omega)
    go_enter Try.func4, Try.ntmps4
    go_wp2_with fail
    refine (awake_calls _).mono ?_
    rintro e w1 ⟨rfl, hb⟩
    have B1 := Aside0.mk hb
    clear hb
    go_wp2_with fail
    go_ret
    exact ⟨rfl, B1.out⟩
  · have hl' : decide ((60 : Int) < l1.length) = false := decide_eq_false hl
    have hl2 : decide (60 < l1.length) = false := decide_eq_false (by omega)
    have hl60 : l1.length ≤ 60 := by omega
    go_enter Try.func4, Try.ntmps4
    go_wp2_with fail
    refine (New_calls a0 _).mono ?_
    rintro e w1 ⟨g, rfl, hge, hW, hb⟩
    obtain ⟨n, hn⟩ : ∃ n, n = rm a0 := ⟨_, rfl⟩
    rw [← hn] at hW
    have K1 : Aside0 (KI w (w1.alloc (.cells #[] 9)) g n [] 0 (.slice (some ⟨w1.heap.size, 0, none⟩) 0 0) []) := ⟨by
      refine ⟨⟨fun k => w.heap.size ≤ k ∧ k < w1.heap.size, (hW.bound).below (below_alloc (Below.refl _ _) _), fun k hk => ⟨hk.1, by simp; omega⟩, ?_⟩, by simp, by simp⟩
      refine ⟨fun k hk => ?_, [], World.ownsRow_made w1 #[] 0 (Nat.zero_le _) (by simp) (by simp), Reps.none _ _⟩
      have : w1.heap.size = k := by simpa [Value.ownBlock] using hk
      have := hb.size
      exact ⟨by omega, fun h => by omega⟩⟩
    have B1 := Aside0.mk (below_alloc hb (.cells #[] 9))
    clear hge hW hb hn
    go_wp2_with fail
    generalize w1.alloc (.cells #[] 9) = w2 at *
    go_loopg [7, 6] l1.length (fun kq v7 v6 w' => ∃ (i : Nat) (Lb : List Th) (lost : Int) (A6 : Option Addr) (c6 : Nat) (P : List (List Int)), v7 = .int .i64 i ∧ v6 = .slice A6 P.length c6 ∧ i ≤ l1.length ∧ l1.length ≤ kq + i ∧ P.length ≤ i ∧ lost ≤ i ∧ Aside0 (KI w w' g n Lb lost (.slice A6 P.length c6) P) ∧ Aside0 (Below w.heap.size w w'))
    case atStart => exact ⟨0, [], 0, _, 0, [], rfl, rfl, by omega, by omega, Nat.le_refl _, by omega, K1, B1⟩
    case round =>
      obtain ⟨i, Lb, lost, A6, c6, P, rfl, rfl, hi, hki, hPi, hlo, KW, BW⟩ := hrel
      by_cases hlt : i < l1.length
      · have hlt' : decide ((i : Int) < l1.length) = true := decide_eq_true (by omega)
        have hlt2 : decide (i < l1.length) = true := decide_eq_true hlt
        obtain ⟨ad, D1, d1, ea, k0, k1, k2, k3, k4, l0, g0⟩ := at_T36 HR.out (i : Int) (by omega) (by omega)
        cases ea
        rw [Int.toNat_natCast] at k0 k1 k2 k3 k4
        have k0 := (BW.out.cell (World.block_lt_of_cell? w _ k0)).trans k0
        have k1 := (BW.out.cell (World.block_lt_of_cell? w _ k1)).trans k1
        have k2 := (BW.out.cell (World.block_lt_of_cell? w _ k2)).trans k2
        have k3 := (BW.out.cell (World.block_lt_of_cell? w _ k3)).trans k3
        have k4 := (BW.out.cell (World.block_lt_of_cell? w _ k4)).trans k4
        have hxm : rd_T36 l1 (i : Int) ∈ l1 := by
          unfold rd_T36
          rw [Int.toNat_natCast, List.getD_eq_getElem?_getD, List.getElem?_eq_getElem hlt]
          exact List.getElem_mem _
        have WF := Aside0.mk (HWF.out _ hxm)
        generalize rd_T36 l1 (i : Int) = x at *
        have G0 := Aside0.mk g0
        have L0 := Aside0.mk l0
        have pm : (0 ≤ (i : Int)) = True := eq_true (by omega)
        have qm : ((i : Int) < (l1.length : Int)) = True := eq_true (by omega)
        have hwi : wrap64 ((i : Int) + 1) = ((i + 1 : Nat) : Int) := by rw [w64 (by omega) (by omega)]; simp
        have HWI := Aside0.mk hwi
        clear g0 l0 hxm hwi
        by_cases h100 : 100 < x.f1.length
        · have h1 : decide ((100 : Int) < (x.f1.length : Int)) = true := decide_eq_true (by omega)
          have h2 : decide (100 < x.f1.length) = true := decide_eq_true h100
          go_wp2_with fail
          have B2 := Aside0.mk (below_alloc BW.out (.cells #[.int .i64 x.f0, .slice D1 x.f1.length d1, .int .i64 x.f2, .int .i64 x.f3, .int .u32 x.f4] 36))
          refine (awake_calls _).mono ?_
          rintro e w3 ⟨rfl, hb⟩
          have B3 := Aside0.mk (below_step B2.out hb)
          clear hb
          go_wp2_with fail
          go_ret
          exact ⟨rfl, B3.out⟩
        · have h1 : decide ((100 : Int) < (x.f1.length : Int)) = false := decide_eq_false (by omega)
          have h2 : decide (100 < x.f1.length) = false := decide_eq_false h100
          have HX : Aside0 (u8s x.f1 ∧ x.f1.length ≤ 100) := ⟨⟨fun y hy => by
            have h := WF.out.2.1.2 y hy
            simp [Lit.wf] at h
            have h1 : IntKind.u8.min = 0 := by decide
            have h2 : IntKind.u8.max = 255 := by decide
            omega, by omega⟩⟩
          have HU : Aside0 (x.f3 ≤ 9223372036854775807 ∧ 0 ≤ x.f4 ∧ x.f4 < 4294967296) := ⟨by
            have h3 := WF.out.2.2.2.1
            have h4 := WF.out.2.2.2.2
            simp [Lit.wf] at h3 h4
            have e1 : IntKind.i64.max = 9223372036854775807 := by decide
            have e2 : IntKind.u32.min = 0 := by decide
            have e3 : IntKind.u32.max = 4294967295 := by decide
            omega⟩
          go_upto_region 11 with (fail)
          obtain ⟨⟨SB, hBag, hSB, hRP⟩, hcame, hu8⟩ := KW.out
          have BA : Below wr.heap.size wr (wr.alloc (.cells #[.int .i64 x.f0, .slice D1 x.f1.length d1, .int .i64 x.f2, .int .i64 x.f3, .int .u32 x.f4] 36)) := below_alloc (Below.refl _ _) _
          have XA := Aside0.mk (blk_new wr (.cells #[.int .i64 x.f0, .slice D1 x.f1.length d1, .int .i64 x.f2, .int .i64 x.f3, .int .u32 x.f4] 36))
          have hBagA := Aside0.mk (hBag.below BA)
          have hSBA : Aside0 (∀ k, SB k → w.heap.size ≤ k ∧ k < wr.heap.size) := ⟨hSB⟩
          have hRPA := Aside0.mk (Kd.R_below hRP BA)
          have BWA := Aside0.mk (below_step BW.out BA)
          have HC := Aside0.mk hcame
          have H8 := Aside0.mk hu8
          clear hBag hSB hRP hcame hu8 BA KW k0 k1 k2 k3 k4 h1 h2
          have hsz : wr.heap.size < (wr.alloc (.cells #[.int .i64 x.f0, .slice D1 x.f1.length d1, .int .i64 x.f2, .int .i64 x.f3, .int .u32 x.f4] 36)).heap.size := blk_lt XA.out
          generalize wr.alloc (.cells #[.int .i64 x.f0, .slice D1 x.f1.length d1, .int .i64 x.f2, .int .i64 x.f3, .int .u32 x.f4] 36) = wa at *
          have HSZ := Aside0.mk hsz
          clear hsz BW
          generalize wr.heap.size = bx at *
          have SBA : Aside0 (∀ k, SB k → w.heap.size ≤ k ∧ k < wa.heap.size) := ⟨fun k hk => ⟨(hSBA.out k hk).1, Nat.lt_trans (hSBA.out k hk).2 HSZ.out⟩⟩
          have b0 : wa.cell? ⟨bx, 0, none⟩ = some (.int .i64 x.f0) := (blk_cell XA.out 0).trans rfl
          have b1 : wa.cell? ⟨bx, 1, none⟩ = some (.slice D1 x.f1.length d1) := (blk_cell XA.out 1).trans rfl
          have b2 : wa.cell? ⟨bx, 2, none⟩ = some (.int .i64 x.f2) := (blk_cell XA.out 2).trans rfl
          have b3 : wa.cell? ⟨bx, 3, none⟩ = some (.int .i64 x.f3) := (blk_cell XA.out 3).trans rfl
          have b4 : wa.cell? ⟨bx, 4, none⟩ = some (.int .u32 x.f4) := (blk_cell XA.out 4).trans rfl
          by_cases e0 : x.f0 = 0
          · have e0' : (x.f0 == 0) = true := beq_iff_eq.2 e0
            clear e0
            go_wp2_with fail
            obtain ⟨w3, hw3⟩ : ∃ w3, w3 = wa.alloc (.cells #[.slice D1 x.f1.length d1] 24) := ⟨_, rfl⟩
            rw [← hw3]
            have B3' : Below wa.heap.size wa w3 := by rw [hw3]; exact below_alloc (Below.refl _ _) _
            have X3 : w3.heap[wa.heap.size]? = some (.cells #[.slice D1 x.f1.length d1] 24 (0, 0)) := by rw [hw3]; exact blk_new wa _
            have B3 := Aside0.mk (below_step BWA.out B3')
            have SB3 : Aside0 (∀ k, SB k → w.heap.size ≤ k ∧ k < w3.heap.size) := ⟨fun k hk => ⟨(SBA.out k hk).1, Nat.lt_of_lt_of_le (SBA.out k hk).2 B3'.size⟩⟩
            have R3 := Aside0.mk (Kd.R_below hRPA.out B3')
            have XB3 := Aside0.mk (blk_below XA.out B3')
            have PC := Aside0.mk (Put1_calls (hBagA.out.below B3') X3 (fun h => by have := (SBA.out _ h).2; omega) (fun w' hB => Kd.C_below G0.out (Beside.step B3.out hB (fun k hk => (SBA.out k hk).1))) L0.out (by have := HX.out.2; omega) (by omega))
            clear hw3 X3 B3' b0 b1 b2 b3 b4
            by_cases hroom : Lb.length < n
            · refine PC.out.mono ?_
              rintro e w4 ⟨rfl, hW, hb⟩
              have e1 : putN n Lb = 1 := if_pos hroom
              have e2 : putL n Lb x.f1 = Lb ++ [th x.f1] := if_pos hroom
              have e3 : putLost n Lb lost = lost := if_pos hroom
              rw [e1]
              rw [e2, e3] at hW
              have W4 := Aside0.mk hW.bound
              have SB4 : Aside0 (∀ k, ((SB k ∨ w3.heap.size ≤ k) ∧ k < w4.heap.size) → w.heap.size ≤ k ∧ k < w4.heap.size) := ⟨fun k hk => ⟨hk.1.elim (fun h => (SB3.out k h).1) (fun h => Nat.le_trans B3.out.size h), hk.2⟩⟩
              have R4 : Aside0 (Kd.R kS tS w4 0 (fun k => w.heap.size ≤ k ∧ ¬ ((SB k ∨ w3.heap.size ≤ k) ∧ k < w4.heap.size)) (.slice A6 P.length c6) (P.map strOfNums)) := ⟨Kd.R_mono (Kd.R_step (Kd.R_bound R3.out) (fun k hk hlt => hb.block k hlt hk.1.2)) (fun k hk => ⟨hk.1.1, fun h => h.1.elim hk.1.2 (fun h => by have := hk.2.2.1; omega)⟩)⟩
              have B4 := Aside0.mk (Beside.step B3.out hb (fun k hk => (SB3.out k hk).1))
              have b4 := (hb.block bx (blk_lt XB3.out) (fun h => by have := (hSBA.out bx h).2; omega)).trans XB3.out
              have y1 : w4.cell? ⟨bx, 1, none⟩ = some (.slice D1 x.f1.length d1) := (blk_cell b4 1).trans rfl
              have sx : (convert 24 9 (.slice D1 x.f1.length d1)).run Try.prog w4 = .ok (.string (strOfNums x.f1)) w4 := str_run (Kd.C_below G0.out B4.out)
              clear hW hb e1 e2 e3 b4
              go_wp2_with ((with_reducible refine gate_dst (N := 58) rfl ?_); refine Kd.R_append kS (w0 := w4) 0 rfl (.tmp 53) (.tmp 57) 33 tS (.string ⟨#[]⟩) 16 rfl Try.underlying33 infoS rfl (by decide) (by decide) (.slice A6 P.length c6) (P.map strOfNums) (strOfNums x.f1) [.string (strOfNums x.f1)] (fun k => w.heap.size ≤ k ∧ ¬ ((SB k ∨ w3.heap.size ≤ k) ∧ k < w4.heap.size)) (fun _ => False) rfl rfl rfl (fun k hk => hk.elim) (fun k hk => ⟨by have := B4.out.size; omega, fun h => by have := h.2; omega⟩) R4.out (Below.refl _ _) (Nat.zero_le _) (by rw [List.length_map]; omega) ?_; intro v5 w5 hr hb hg hat; obtain ⟨A5, c5, rfl⟩ := Kd.R_slice hr; rw [show ((P.map strOfNums) ++ [strOfNums x.f1]).length = P.length + 1 by simp] at hr; have R5 := Aside0.mk hr; have G5 := Aside0.mk hg; clear hr hb hg hat)
              have K5 : Aside0 (KI w w5 g n (Lb ++ [th x.f1]) lost (.slice A5 (P ++ [x.f1]).length c5) (P ++ [x.f1])) := ⟨by
                rw [show (P ++ [x.f1]).length = P.length + 1 by simp]
                refine KI.more W4.out SB4.out R4.out R5.out G5.out (fun z hz => ?_) H8.out HX.out
                rcases List.mem_append.1 hz with h | h
                · obtain ⟨q, hq, hc⟩ := HC.out z h
                  exact ⟨q, List.mem_append_left _ hq, hc⟩
                · rw [List.mem_singleton.1 h]
                  exact ⟨x.f1, List.mem_append_right _ (List.mem_singleton.2 rfl), came_th x.f1⟩⟩
              have B5 : Aside0 (Below w.heap.size w w5) := ⟨B4.out.grown G5.out B4.out.size (fun k hk => (R4.out.1 k hk).1)⟩
              clear y1 sx
              have hwi := HWI.out
              go_wp2_with fail
              clear hwi
              go_roundg (gk - 1)
              case measure => omega
              case rel => exact ⟨i + 1, _, lost, A5, c5, P ++ [x.f1], by rfl, by simp, by omega, by omega, by simp; omega, by omega, K5, B5⟩
            · refine PC.out.mono ?_
              rintro e w4 ⟨rfl, hW, hb⟩
              have e1 : putN n Lb = 0 := if_neg hroom
              have e2 : putL n Lb x.f1 = Lb := if_neg hroom
              have e3 : putLost n Lb lost = lost + 1 := if_neg hroom
              rw [e1]
              rw [e2, e3] at hW
              have K4 := Aside0.mk (KI.step B3.out.size SB3.out R3.out H8.out hW hb HC.out)
              have B4 := Aside0.mk (Beside.step B3.out hb (fun k hk => (SB3.out k hk).1))
              clear hW hb e1 e2 e3
              have hwi := HWI.out
              go_wp2_with fail
              clear hwi
              go_roundg (gk - 1)
              case measure => omega
              case rel => exact ⟨i + 1, _, lost + 1, A6, c6, P, by rfl, rfl, by omega, by omega, by omega, by omega, K4, B4⟩
          · have e0' : (x.f0 == 0) = false := beq_eq_false_iff_ne.2 e0
            by_cases e3 : x.f0 = 3
            · have e3' : (x.f0 == 3) = true := beq_iff_eq.2 e3
              clear e3 e0
              go_wp2_with fail
              refine (Twice_calls hBagA.out x.f2).mono ?_
              rintro e w4 ⟨rfl, hW, hb⟩
              have K4 := Aside0.mk (KI.step BWA.out.size SBA.out hRPA.out H8.out hW hb (came_twice _ HC.out))
              have B4 := Aside0.mk (Beside.step BWA.out hb (fun k hk => (SBA.out k hk).1))
              clear hW hb b0 b1 b2 b3 b4
              have hwi := HWI.out
              go_wp2_with fail
              clear hwi
              go_roundg (gk - 1)
              case measure => omega
              case rel => exact ⟨i + 1, _, lost, A6, c6, P, by rfl, rfl, by omega, by omega, by omega, by omega, K4, B4⟩
            · have e3' : (x.f0 == 3) = false := beq_eq_false_iff_ne.2 e3
              by_cases e1 : x.f0 = 1
              · have e1' : (x.f0 == 1) = true := beq_iff_eq.2 e1
                clear e3 e0 e1
                go_wp2_with fail
                refine (Take_calls hBagA.out x.f2).mono ?_
                rintro e w4 ⟨v, rfl, ho, hW, hb⟩
                obtain ⟨Ay, cy, rfl⟩ := Kd.R_slice ho
                have K4 := Aside0.mk (KI.step BWA.out.size SBA.out hRPA.out H8.out (hW.mono (fun b hb => Or.inl hb.1)) hb (came_rest x.f2 HC.out))
                have B4 := Aside0.mk (Beside.step BWA.out hb (fun k hk => (SBA.out k hk).1))
                have AH := Aside0.mk (has_came x.f2 HC.out)
                have CY := Aside0.mk (Kd.R_reads' ho).2.2
                obtain ⟨Lr, hLr⟩ : ∃ Lr, Lr = rest Lb x.f2 := ⟨_, rfl⟩
                rw [← hLr] at K4
                clear hW hb b0 b1 b2 b3 b4 ho hLr
                generalize lk Lb x.f2 = y at *
                generalize has Lb x.f2 = ok at *
                obtain ⟨go_, hgo⟩ : ∃ go_, go_ = gk := ⟨_, rfl⟩
                have GO := Aside0.mk hgo
                clear hgo
                go_wp2_with fail
                go_loopg [12, 11] P.length (fun kq v12 v11 w' => ∃ (k : Nat) (mt : Bool), v12 = .int .i64 k ∧ v11 = .bool mt ∧ k ≤ P.length ∧ P.length ≤ kq + k ∧ Aside0 (mt = false → ahead P y k) ∧ Aside0 (KI w w' g n Lr lost (.slice A6 P.length c6) P) ∧ Aside0 (Below w.heap.size w w') ∧ Aside0 ((Kd.int .u8).C w' Ay y.length y))
                case atStart => exact ⟨0, !ok, rfl, rfl, by omega, by omega, ⟨fun h => AH.out (by simpa using h)⟩, K4, B4, CY⟩
                case round =>
                  clear AH K4 B4 CY
                  obtain ⟨k, mt, rfl, rfl, hk, hkk, HA, K5, B5, CY⟩ := hrel
                  by_cases hgo : k < P.length ∧ mt = false
                  · obtain ⟨hkl, rfl⟩ := hgo
                    have d1 : decide ((k : Int) < (P.length : Int)) = true := decide_eq_true (by omega)
                    have d2 : decide (k < P.length) = true := decide_eq_true hkl
                    have hCP : kS.C wr A6 P.length (P.map strOfNums) := by
                      obtain ⟨⟨SB5, _, _, hR5⟩, _, _⟩ := K5.out
                      have h := (Kd.R_reads' hR5).2.2
                      rwa [List.length_map] at h
                    obtain ⟨adP, cc, eA, _, hKc, hcc⟩ := Kd.C_get hCP ⟨#[]⟩ (k : Int) (by omega) (by omega)
                    cases eA
                    obtain ⟨p, hp⟩ : ∃ p, p = P[k] := ⟨_, rfl⟩
                    have hpk : (P.map strOfNums).getD (k : Int).toNat ⟨#[]⟩ = strOfNums p := by
                      rw [Int.toNat_natCast, List.getD_eq_getElem?_getD, List.getElem?_map, List.getElem?_eq_getElem hkl, hp]
                      rfl
                    rw [hpk] at hKc
                    have ecc : cc = [.string (strOfNums p)] := hKc
                    have k0 : wr.cell? (adP.add k) = some (.string (strOfNums p)) := by
                      have h := hcc 0 (.string (strOfNums p)) (by rw [ecc]; rfl)
                      rwa [Int.toNat_natCast, show k * kS.sz + 0 = k from Nat.mul_one k] at h
                    have pk := H8.out p (by rw [hp]; exact List.getElem_mem _)
                    have hsz : (strOfNums p).size = p.length := strOfNums_size p
                    have q0 : (0 ≤ (k : Int)) = True := eq_true (by omega)
                    have q1 : ((k : Int) < (P.length : Int)) = True := eq_true (by omega)
                    have HWK : Aside0 (wrap64 ((k : Int) + 1) = ((k + 1 : Nat) : Int)) := ⟨by rw [w64 (by omega) (by omega)]; simp⟩
                    have sy : ∀ q, (convert 24 9 (.slice Ay y.length cy)).run Try.prog (wr.drewN q) = .ok (.string (strOfNums y)) (wr.drewN q) := fun q => str_run (Kd.C_drewN CY.out q)
                    have HP := Aside0.mk hp
                    have PK := Aside0.mk pk
                    clear hKc hcc ecc hpk hp pk hCP
                    by_cases hlen : p.length = y.length
                    · obtain ⟨r, hr⟩ := near_some (p := p) (t := y) hlen.symm (by have := PK.out.2; omega)
                      have NR : Aside0 (∀ q, Calls Try.prog 15 #[.string (strOfNums p), .string (strOfNums y)] (wr.drewN q) fun e w'' => e = .returned (.bool r) ∧ ∃ m, w'' = wr.drewN m) := ⟨fun q => (unisonlaw07_near.calls _ _ _ _ _ hr).mono (fun e w' h => ⟨h.1, by obtain ⟨m, hm⟩ := h.2.out; exact ⟨q + m, by rw [hm, World.drewN_drewN]⟩⟩)⟩
                      have c1_ : ((p.length : Int) == (y.length : Int)) = true := beq_iff_eq.2 (by omega)
                      have c2_ : (p.length == y.length) = true := beq_iff_eq.2 hlen
                      have HA2 : Aside0 (r = false → ahead P y (k + 1)) := ⟨fun h => ahead_next hkl H8.out (HA.out rfl) (fun hn => by rw [← HP.out, hr, h] at hn; simp at hn)⟩
                      clear hr hlen
                      go_wp2_with fail
                      go_quiet ((go_at_call 15; exact NR.out _))
                      have K6 := Aside0.mk (K5.out.below (pw_below_drewN (Below.refl _ _) nq))
                      have B6 := Aside0.mk (below_step B5.out (pw_below_drewN (Below.refl wr.heap.size wr) nq))
                      have C6 := Aside0.mk (Kd.C_drewN CY.out nq)
                      clear k0 sy hsz c1_ c2_
                      go_wp2_with fail
                      go_roundg (gk - 1)
                      case measure => omega
                      case rel => exact ⟨k + 1, r, by simp, by rfl, by omega, by omega, HA2, K6, B6, C6⟩
                    · have c1_ : ((p.length : Int) == (y.length : Int)) = false := beq_eq_false_iff_ne.2 (by omega)
                      have c2_ : (p.length == y.length) = false := beq_eq_false_iff_ne.2 hlen
                      have HA2 : Aside0 (ahead P y (k + 1)) := ⟨ahead_next hkl H8.out (HA.out rfl) (fun hn => by rw [← HP.out] at hn; exact hlen hn.1.symm)⟩
                      clear hlen
                      go_wp2_with fail
                      go_quiet (fail)
                      have K6 := Aside0.mk (K5.out.below (pw_below_drewN (Below.refl _ _) nq))
                      have B6 := Aside0.mk (below_step B5.out (pw_below_drewN (Below.refl wr.heap.size wr) nq))
                      have C6 := Aside0.mk (Kd.C_drewN CY.out nq)
                      clear k0 sy hsz c1_ c2_
                      go_wp2_with fail
                      go_roundg (gk - 1)
                      case measure => omega
                      case rel => exact ⟨k + 1, false, by simp, by rfl, by omega, by omega, ⟨fun _ => HA2.out⟩, K6, B6, C6⟩
                  · have hmt : mt = true := by
                      cases mt with
                      | true => rfl
                      | false =>
                        obtain ⟨j, h1, h2, _⟩ := HA.out rfl
                        exact absurd ⟨by omega, rfl⟩ hgo
                    subst hmt
                    clear hgo HA CY
                    have hwi := HWI.out
                    by_cases hkl : k < P.length
                    · have d1 : decide ((k : Int) < (P.length : Int)) = true := decide_eq_true (by omega)
                      have d2 : decide (k < P.length) = true := decide_eq_true hkl
                      go_wp2_with fail
                      clear hwi
                      go_roundg (go_ - 1)
                      case measure => have := GO.out; omega
                      case rel => exact ⟨i + 1, Lr, lost, A6, c6, P, by rfl, rfl, by omega, by have := GO.out; omega, by omega, by omega, K5, B5⟩
                    · have d1 : decide ((k : Int) < (P.length : Int)) = false := decide_eq_false (by omega)
                      have d2 : decide (k < P.length) = false := decide_eq_false hkl
                      go_wp2_with fail
                      clear hwi
                      go_roundg (go_ - 1)
                      case measure => have := GO.out; omega
                      case rel => exact ⟨i + 1, Lr, lost, A6, c6, P, by rfl, rfl, by omega, by have := GO.out; omega, by omega, by omega, K5, B5⟩
              · have e1' : (x.f0 == 1) = false := beq_eq_false_iff_ne.2 e1
                by_cases e2 : x.f0 = 2
                · have e2' : (x.f0 == 2) = true := beq_iff_eq.2 e2
                  clear e3 e0 e1 e2
                  go_wp2_with fail
                  refine (Take_calls hBagA.out x.f2).mono ?_
                  rintro e w4 ⟨v, rfl, ho, hW, hb⟩
                  obtain ⟨Ay, cy, rfl⟩ := Kd.R_slice ho
                  have K4 := Aside0.mk (KI.step BWA.out.size SBA.out hRPA.out H8.out (hW.mono (fun b hb => Or.inl hb.1)) hb (came_rest x.f2 HC.out))
                  have B4 := Aside0.mk (Beside.step BWA.out hb (fun k hk => (SBA.out k hk).1))
                  have AH := Aside0.mk (has_came x.f2 HC.out)
                  have CY := Aside0.mk (Kd.R_reads' ho).2.2
                  obtain ⟨Lr, hLr⟩ : ∃ Lr, Lr = rest Lb x.f2 := ⟨_, rfl⟩
                  rw [← hLr] at K4
                  clear hW hb b0 b1 b2 b3 b4 ho hLr
                  generalize lk Lb x.f2 = y at *
                  generalize has Lb x.f2 = ok at *
                  obtain ⟨go_, hgo⟩ : ∃ go_, go_ = gk := ⟨_, rfl⟩
                  have GO := Aside0.mk hgo
                  clear hgo
                  go_wp2_with fail
                  go_loopg [12, 11] P.length (fun kq v12 v11 w' => ∃ (k : Nat) (mt : Bool), v12 = .int .i64 k ∧ v11 = .bool mt ∧ k ≤ P.length ∧ P.length ≤ kq + k ∧ Aside0 (mt = false → ahead P y k) ∧ Aside0 (KI w w' g n Lr lost (.slice A6 P.length c6) P) ∧ Aside0 (Below w.heap.size w w') ∧ Aside0 ((Kd.int .u8).C w' Ay y.length y))
                  case atStart => exact ⟨0, !ok, rfl, rfl, by omega, by omega, ⟨fun h => AH.out (by simpa using h)⟩, K4, B4, CY⟩
                  case round =>
                    clear AH K4 B4 CY
                    obtain ⟨k, mt, rfl, rfl, hk, hkk, HA, K5, B5, CY⟩ := hrel
                    by_cases hgo : k < P.length ∧ mt = false
                    · obtain ⟨hkl, rfl⟩ := hgo
                      have d1 : decide ((k : Int) < (P.length : Int)) = true := decide_eq_true (by omega)
                      have d2 : decide (k < P.length) = true := decide_eq_true hkl
                      have hCP : kS.C wr A6 P.length (P.map strOfNums) := by
                        obtain ⟨⟨SB5, _, _, hR5⟩, _, _⟩ := K5.out
                        have h := (Kd.R_reads' hR5).2.2
                        rwa [List.length_map] at h
                      obtain ⟨adP, cc, eA, _, hKc, hcc⟩ := Kd.C_get hCP ⟨#[]⟩ (k : Int) (by omega) (by omega)
                      cases eA
                      obtain ⟨p, hp⟩ : ∃ p, p = P[k] := ⟨_, rfl⟩
                      have hpk : (P.map strOfNums).getD (k : Int).toNat ⟨#[]⟩ = strOfNums p := by
                        rw [Int.toNat_natCast, List.getD_eq_getElem?_getD, List.getElem?_map, List.getElem?_eq_getElem hkl, hp]
                        rfl
                      rw [hpk] at hKc
                      have ecc : cc = [.string (strOfNums p)] := hKc
                      have k0 : wr.cell? (adP.add k) = some (.string (strOfNums p)) := by
                        have h := hcc 0 (.string (strOfNums p)) (by rw [ecc]; rfl)
                        rwa [Int.toNat_natCast, show k * kS.sz + 0 = k from Nat.mul_one k] at h
                      have pk := H8.out p (by rw [hp]; exact List.getElem_mem _)
                      have hsz : (strOfNums p).size = p.length := strOfNums_size p
                      have q0 : (0 ≤ (k : Int)) = True := eq_true (by omega)
                      have q1 : ((k : Int) < (P.length : Int)) = True := eq_true (by omega)
                      have HWK : Aside0 (wrap64 ((k : Int) + 1) = ((k + 1 : Nat) : Int)) := ⟨by rw [w64 (by omega) (by omega)]; simp⟩
                      have sy : ∀ q, (convert 24 9 (.slice Ay y.length cy)).run Try.prog (wr.drewN q) = .ok (.string (strOfNums y)) (wr.drewN q) := fun q => str_run (Kd.C_drewN CY.out q)
                      have HP := Aside0.mk hp
                      have PK := Aside0.mk pk
                      clear hKc hcc ecc hpk hp pk hCP
                      by_cases hlen : p.length = y.length
                      · obtain ⟨r, hr⟩ := near_some (p := p) (t := y) hlen.symm (by have := PK.out.2; omega)
                        have NR : Aside0 (∀ q, Calls Try.prog 15 #[.string (strOfNums p), .string (strOfNums y)] (wr.drewN q) fun e w'' => e = .returned (.bool r) ∧ ∃ m, w'' = wr.drewN m) := ⟨fun q => (unisonlaw07_near.calls _ _ _ _ _ hr).mono (fun e w' h => ⟨h.1, by obtain ⟨m, hm⟩ := h.2.out; exact ⟨q + m, by rw [hm, World.drewN_drewN]⟩⟩)⟩
                        have c1_ : ((p.length : Int) == (y.length : Int)) = true := beq_iff_eq.2 (by omega)
                        have c2_ : (p.length == y.length) = true := beq_iff_eq.2 hlen
                        have HA2 : Aside0 (r = false → ahead P y (k + 1)) := ⟨fun h => ahead_next hkl H8.out (HA.out rfl) (fun hn => by rw [← HP.out, hr, h] at hn; simp at hn)⟩
                        clear hr hlen
                        go_wp2_with fail
                        go_quiet ((go_at_call 15; exact NR.out _))
                        have K6 := Aside0.mk (K5.out.below (pw_below_drewN (Below.refl _ _) nq))
                        have B6 := Aside0.mk (below_step B5.out (pw_below_drewN (Below.refl wr.heap.size wr) nq))
                        have C6 := Aside0.mk (Kd.C_drewN CY.out nq)
                        clear k0 sy hsz c1_ c2_
                        go_wp2_with fail
                        go_roundg (gk - 1)
                        case measure => omega
                        case rel => exact ⟨k + 1, r, by simp, by rfl, by omega, by omega, HA2, K6, B6, C6⟩
                      · have c1_ : ((p.length : Int) == (y.length : Int)) = false := beq_eq_false_iff_ne.2 (by omega)
                        have c2_ : (p.length == y.length) = false := beq_eq_false_iff_ne.2 hlen
                        have HA2 : Aside0 (ahead P y (k + 1)) := ⟨ahead_next hkl H8.out (HA.out rfl) (fun hn => by rw [← HP.out] at hn; exact hlen hn.1.symm)⟩
                        clear hlen
                        go_wp2_with fail
                        go_quiet (fail)
                        have K6 := Aside0.mk (K5.out.below (pw_below_drewN (Below.refl _ _) nq))
                        have B6 := Aside0.mk (below_step B5.out (pw_below_drewN (Below.refl wr.heap.size wr) nq))
                        have C6 := Aside0.mk (Kd.C_drewN CY.out nq)
                        clear k0 sy hsz c1_ c2_
                        go_wp2_with fail
                        go_roundg (gk - 1)
                        case measure => omega
                        case rel => exact ⟨k + 1, false, by simp, by rfl, by omega, by omega, ⟨fun _ => HA2.out⟩, K6, B6, C6⟩
                    · have hmt : mt = true := by
                        cases mt with
                        | true => rfl
                        | false =>
                          obtain ⟨j, h1, h2, _⟩ := HA.out rfl
                          exact absurd ⟨by omega, rfl⟩ hgo
                      subst hmt
                      clear hgo HA CY
                      have hwi := HWI.out
                      by_cases hkl : k < P.length
                      · have d1 : decide ((k : Int) < (P.length : Int)) = true := decide_eq_true (by omega)
                        have d2 : decide (k < P.length) = true := decide_eq_true hkl
                        go_wp2_with fail
                        clear hwi
                        go_roundg (go_ - 1)
                        case measure => have := GO.out; omega
                        case rel => exact ⟨i + 1, Lr, lost, A6, c6, P, by rfl, rfl, by omega, by have := GO.out; omega, by omega, by omega, K5, B5⟩
                      · have d1 : decide ((k : Int) < (P.length : Int)) = false := decide_eq_false (by omega)
                        have d2 : decide (k < P.length) = false := decide_eq_false hkl
                        go_wp2_with fail
                        clear hwi
                        go_roundg (go_ - 1)
                        case measure => have := GO.out; omega
                        case rel => exact ⟨i + 1, Lr, lost, A6, c6, P, by rfl, rfl, by omega, by have := GO.out; omega, by omega, by omega, K5, B5⟩
                · have e2' : (x.f0 == 2) = false := beq_eq_false_iff_ne.2 e2
                  clear e3 e0 e1 e2
                  go_wp2_with fail
                  refine (Turn_calls hBagA.out x.f2 x.f3 x.f4 HU.out.1 HU.out.2.1 HU.out.2.2).mono ?_
                  rintro e w4 ⟨rfl, hW, hb⟩
                  have K4 := Aside0.mk (KI.step BWA.out.size SBA.out hRPA.out H8.out (hW.mono (fun b hb => Or.inl hb)) hb (came_turn _ _ _ HC.out))
                  have B4 := Aside0.mk (Beside.step BWA.out hb (fun k hk => (SBA.out k hk).1))
                  clear hW hb b0 b1 b2 b3 b4
                  have hwi := HWI.out
                  go_wp2_with fail
                  clear hwi
                  go_roundg (gk - 1)
                  case measure => omega
                  case rel => exact ⟨i + 1, _, lost, A6, c6, P, by rfl, rfl, by omega, by omega, by omega, by omega, K4, B4⟩
      · have hlt' : decide ((i : Int) < l1.length) = false := decide_eq_false (by omega)
        have hlt2 : decide (i < l1.length) = false := decide_eq_false hlt
        clear KW
        go_wp2_with fail
        refine (awake_calls _).mono ?_
        rintro e w3 ⟨rfl, hb⟩
        have B3 := Aside0.mk (below_step BW.out hb)
        clear hb
        go_wp2_with fail
        go_ret
        exact ⟨rfl, B3.out⟩

end Go.Proofs.Ytemgfogpeogdeaa.Walk
