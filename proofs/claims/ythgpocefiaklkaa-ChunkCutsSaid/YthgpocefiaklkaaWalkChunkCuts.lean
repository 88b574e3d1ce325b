/- Each chunk of any payload is the document's, and the frames of all of them; what is handed in stays. Conditions: none beyond the statement's own. -/
import Derived.Test.YthgpocefiaklkaaWalkCutsP
import Derived.Test.YthgpocefiaklkaaF2
import Derived.Test.YthgpocefiaklkaaArgs
import Derived.Deep.QuietTactic
import Derived.BigQuiet
import Derived.Lib.QuietBelow
import Derived.Outline
import Derived.Deep.RegionHeld3
import Derived.Deep.CutRange
import Derived.Deep.MidRow
namespace Go.Proofs.Ythgpocefiaklkaa.Walk
open Go.RowKit Go.Proofs.Ythgpocefiaklkaa.F Go.Proofs.YthgpocefiaklkaaW.PrintWords Go.Proofs.YthgpocefiaklkaaW.PrintLast Go.Proofs.YthgpocefiaklkaaW.PrintMore Go.Proofs.Ythgpocefiaklkaa.Open
open Go.Sort (grow)
attribute [local go_sem] max2_int min2_int max_two min_two max_three min_three max_four min_four
set_option linter.unusedVariables false
set_option linter.unusedSimpArgs false

/-! ### Whole structs, loaded in a quiet region -/
section
variable {P : Program} {o : Oper} {a : Act} {C : World → Prop} {K : Act → Prop}
theorem quiet_load_any (ty : TypeId) (x : Operand) (ho : o.op = .load ty x) (ad : Addr) (hx : a.eval x = .pointer (some ad)) (cs : List Value) (d : TypeDesc)
    (hc : ∀ w, C w → ∀ j v, cs[j]? = some v → w.cell? (ad.add j) = some v) (hu : P.underlying ty = some d) (hd : d.isRow = true) (hi : (P.info? ty).map (·.size) = some cs.length)
    (h : K (a.put o.dst (.agg cs.toArray))) : o.quiet P a C K := by
  refine ⟨.agg cs.toArray, fun w hw => ?_, h⟩
  unfold Oper.quietAt execOp
  simp only [ho, hx, Instr.loadAt, Instr.sureAddr, Sem.run_bind, Sem.run_pure, Result.andThen_ok, run_loadVar_any w ad ty cs d (hc w hw) hu hd hi]
  exact ⟨rfl, rfl⟩
end

/-! ### The law: each chunk is the document's -/
set_option maxHeartbeats 8000000 in
set_option maxRecDepth 100000 in
theorem ChunkCuts (a b : Int) (A1 : Option Addr) (c1 : Nat) (l1 : List Int) (a2 a3 : Int) (w : World) (hr1 : Kd.C (Kd.int .u8) w A1 l1.length l1) (hc1 : l1.length ≤ c1)
    (w0 : (Lit.int .u8 a).wf = true ∧ (Lit.int .u64 b).wf = true) (w1 : l1.length ≤ maxLen ∧ ∀ x ∈ l1, (Lit.int .u8 x).wf = true) (w2 : (Lit.int .i64 a2).wf = true) (w3 : (Lit.int .i64 a3).wf = true) :
    Calls Try.prog 7 #[.agg #[.int .u8 a, .int .u64 b], .slice A1 l1.length c1, .int .i64 a2, .int .i64 a3] w fun e w' => e = .returned (.bool true) ∧ Below w.heap.size w w' := by
  have HR := Aside0.mk hr1
  have HC := Aside0.mk hc1
  have H3 := Aside0.mk (wf_i64 w3)
  have H2 := Aside0.mk (wf_i64 w2)
  have AW : Aside0 (∀ W, Calls Try.prog 8 #[] W fun e w' => e = .returned (.bool true) ∧ Below W.heap.size W w') := ⟨fun W => unisonlaw12_awake.calls true W awake_eq⟩
  clear w0 w1 w2 w3 hr1 hc1
  by_cases hl : (2000 : Int) < l1.length
  · have hl' : decide ((2000 : Int) < l1.length) = true := decide_eq_true hl
    go_enter Try.func7, Try.ntmps7
    go_wp2_with fail
    refine (AW.out _).mono ?_
    rintro e w1 ⟨rfl, hb⟩
    have B1 := Aside0.mk (below_step (below_alloc (Below.refl _ _) _) hb)
    clear hb
    go_wp2_with fail
    go_ret
    exact ⟨rfl, B1.out⟩
  · have hl' : decide ((2000 : Int) < l1.length) = false := decide_eq_false hl
    have LN : Aside0 (l1.length ≤ 2000) := ⟨by omega⟩
    go_enter Try.func7, Try.ntmps7
    go_upto_region 3 with (fail)
    obtain ⟨wA, hwA⟩ : ∃ q, q = w.alloc (.cells #[.int .u8 a, .int .u64 b] 30) := ⟨_, rfl⟩
    rw [← hwA]
    have IBA : Aside0 (wA.heap[w.heap.size]? = some (.cells #[.int .u8 a, .int .u64 b] 30 (0, 0))) := ⟨by rw [hwA]; exact blk_new w _⟩
    have BA : Aside0 (Below w.heap.size w wA) := ⟨by rw [hwA]; exact below_alloc (Below.refl _ _) _⟩
    clear hwA
    have HE : Aside0 ((Kd.int .u8).R 5 (wA.alloc (.cells #[] 5)) wA.heap.size (fun _ => True) (.slice (some ⟨wA.heap.size, 0, none⟩) 0 0) []) := ⟨emptyU wA _ (Nat.le_refl _)⟩
    go_upto_region 4 with ((with_reducible refine gate_dst (N := 24) rfl ?_); refine Kd.R_append_rows (Kd.int .u8) (Rr := fun x cs => (Kd.int .u8).K w x cs) (w0 := wA.alloc (.cells #[] 5)) wA.heap.size rfl (.tmp 22) (.tmp 23) 34 5 _ 1 rfl Try.underlying34 info5 rfl (by decide) (by decide) (.slice (some ⟨wA.heap.size, 0, none⟩) 0 0) [] l1 A1 l1.length c1 (fun _ => True) (fun _ => False) rfl rfl HE.out (Kd.C_below HR.out (below_alloc BA.out _)) (fun x cs hx => hx) (fun k hk => hk.elim) (fun _ _ => trivial) (Below.refl _ _) (by simp) (by have := LN.out; simp; omega) ?_; intro v9 w2 ho hb hg hat; rw [List.nil_append] at ho; obtain ⟨A9, c9, rfl⟩ := Kd.R_slice ho; have R9 := Aside0.mk ho; have G2 := Aside0.mk hg; have B2_ := Aside0.mk hb; clear ho hb hg hat)
    have B2 : Aside0 (Below w.heap.size w w2) := ⟨by
      have hE : Below w.heap.size w (wA.alloc (.cells #[] 5)) := below_alloc BA.out _
      exact hE.grown G2.out hE.size (fun k hk => by have := BA.out.size; simp [Value.ownBlock] at hk; omega)⟩
    have IB2 : Aside0 (w2.heap[w.heap.size]? = some (.cells #[.int .u8 a, .int .u64 b] 30 (0, 0))) := ⟨(G2.out.block _ (by have := blk_lt IBA.out; simp; omega) (by have := blk_lt IBA.out; simp [Value.ownBlock]; omega)).trans (blk_alloc IBA.out _)⟩
    clear IBA HE G2 B2_ BA
    obtain ⟨n, hn⟩ : ∃ q, q = cnt l1.length a2 := ⟨_, rfl⟩
    have NB : Aside0 (0 ≤ n ∧ n ≤ 1048576) := ⟨by rw [hn]; exact cnt_bound _ _⟩
    have NE := Aside0.mk hn
    clear hn
    obtain ⟨CL, hCL⟩ : ∃ q, q = pcs l1 a2 n.toNat 0 := ⟨_, rfl⟩
    have CLE := Aside0.mk hCL
    have CLL : Aside0 ((CL.length : Int) = n) := ⟨by rw [hCL, pcs_length]; have := NB.out; omega⟩
    have CF := Aside0.mk (unisonref12_Cuts.calls 3000000 (fun k => k < w.heap.size) A1 c1 l1 a2 CL w2 (Kd.V_mk HC.out (C_F (Kd.heap_int _) HR.out B2.out)) (by rw [hCL, NE.out]; exact cuts_f l1 a2 LN.out))
    clear hCL
    go_wp2_with fail
    refine CF.out.mono ?_
    rintro e w3 ⟨v10, rfl, hN, hb⟩
    obtain ⟨A10, c10, rfl⟩ := Kd.N_slice hN
    have C10 : Aside0 (∀ W, Below w3.heap.size w3 W → Kd.C (Kd.slice 5 (Kd.int .u8)) W A10 CL.length CL) := ⟨fun W hW => Kd.C_below (Kd.N_reads' hN).2.2 hW⟩
    have C9 : Aside0 (∀ W, Below w3.heap.size w3 W → Kd.C (Kd.int .u8) W A9 l1.length l1) := ⟨fun W hW => Kd.C_below (Kd.C_below (Kd.R_reads' R9.out).2.2 hb) hW⟩
    have HC9 : Aside0 (l1.length ≤ c9) := ⟨(Kd.R_reads' R9.out).2.1⟩
    have C1 : Aside0 (∀ W, Below w3.heap.size w3 W → Kd.C (Kd.int .u8) W A1 l1.length l1) := ⟨fun W hW => Kd.C_below HR.out (below_step (below_step B2.out hb) hW)⟩
    have B3 := Aside0.mk (below_step B2.out hb)
    have IB3 := Aside0.mk (blk_below IB2.out hb)
    clear hN hb CF R9 IB2 B2
    obtain ⟨r1, r2, hcut, hr2, hr1⟩ : ∃ (r1 : List Int) (r2 : Bool), chunk_Cut.f l1 a2 a3 = some (r1, r2) ∧ r2 = decide (0 ≤ a3 ∧ a3 < n) ∧ r1 = if 0 ≤ a3 ∧ a3 < n then pc l1 a2 a3 else [] := by
      by_cases h : 0 ≤ a3 ∧ a3 < n
      · have hk : okC l1.length a2 := by
          by_cases hk : okC l1.length a2
          · exact hk
          · have e := NE.out
            unfold cnt at e
            rw [if_neg hk] at e
            omega
        refine ⟨_, _, (cut_yes l1 a2 a3 hk h.1 (by rw [← NE.out]; exact h.2)).1, (decide_eq_true h).symm, by rw [if_pos h]; rfl⟩
      · exact ⟨_, _, cut_no l1 a2 a3 (by rw [← NE.out]; exact h), (decide_eq_false h).symm, by rw [if_neg h]⟩
    have CC := Aside0.mk (chunk_Cut.calls A9 c9 l1 a2 a3 r1 r2 w3 (C9.out _ (Below.refl _ _)) HC9.out hcut)
    have HR2 := Aside0.mk hr2
    have HR1 := Aside0.mk hr1
    clear hcut hr2 hr1
    go_wp2_with fail
    refine CC.out.mono ?_
    rintro e w4 ⟨v11, rfl, hO, hb⟩
    obtain ⟨A11, c11, rfl⟩ := Kd.R_slice hO
    have R11 := Aside0.mk hO
    have B4 := Aside0.mk hb
    clear hO hb CC
    go_upto_region 6 with (fail)
    go_cut [13] (fun v13 w' => v13 = .bool r2 ∧ Aside0 (Below w4.heap.size w4 w'))
    case first =>
      by_cases h0 : 0 ≤ a3
      · have d0 : decide (0 ≤ a3) = true := decide_eq_true h0
        by_cases h1 : a3 < n
        · have d1 : decide (a3 < (CL.length : Int)) = true := decide_eq_true (by rw [CLL.out]; exact h1)
          have e : r2 = true := by rw [HR2.out]; exact decide_eq_true ⟨h0, h1⟩
          subst e
          clear h0 h1
          go_wp2_with fail
          go_meet
          exact ⟨rfl, ⟨Below.refl _ _⟩⟩
        · have d1 : decide (a3 < (CL.length : Int)) = false := decide_eq_false (by rw [CLL.out]; exact h1)
          have e : r2 = false := by rw [HR2.out]; exact decide_eq_false (fun h => h1 h.2)
          subst e
          clear h0 h1
          go_wp2_with fail
          go_meet
          exact ⟨rfl, ⟨Below.refl _ _⟩⟩
      · have d0 : decide (0 ≤ a3) = false := decide_eq_false h0
        have e : r2 = false := by rw [HR2.out]; exact decide_eq_false (fun h => h0 h.1)
        subst e
        clear h0
        go_wp2_with fail
        go_meet
        exact ⟨rfl, ⟨Below.refl _ _⟩⟩
    case rest =>
      obtain ⟨rfl, BC⟩ := hcut
      have B5 := Aside0.mk (below_step B4.out BC.out)
      have R11 := Aside0.mk (Kd.R_below R11.out BC.out)
      clear BC B4
      generalize wc = w5 at *
      go_upto_region 7 with (fail)
      go_cut [67] (fun v67 w' => v67 = .bool false ∧ Aside0 (Below w5.heap.size w5 w'))
      case first =>
        by_cases h : 0 ≤ a3 ∧ a3 < n
        · have e : r2 = true := by rw [HR2.out]; exact decide_eq_true h
          obtain ⟨pp, hpp⟩ : ∃ q, q = pc l1 a2 a3 := ⟨_, rfl⟩
          have e1 : r1 = pp := by rw [HR1.out, if_pos h, hpp]
          subst e
          subst e1
          have hix : a3.toNat < CL.length := by have := CLL.out; omega
          have eL : CL.getD a3.toNat [] = r1 := by
            rw [CLE.out]
            simp only [List.getD]
            rw [pcs_get l1 a2 n.toNat 0 a3.toNat (by omega)]
            simp only [Option.getD_some]
            rw [show (0 : Int) + (a3.toNat : Int) = a3 by omega]
            exact hpp.symm
          obtain ⟨ad, A0, c0, ea, k0, _, d0⟩ := at_row (C10.out w5 B5.out) a3.toNat hix
          rw [eL] at k0 d0
          cases ea
          have q0 : ∀ d os, (grow (redrawn w5 d) os).cell? (ad.add a3.toNat) = some (.slice A0 r1.length c0) := cell_regrown k0
          have s1 : ∀ d os, (convert 34 9 (.slice A11 r1.length c11)).run Try.prog (grow (redrawn w5 d) os) = .ok (.string (strOfNums r1)) (grow (redrawn w5 d) os) := fun d os => Kd.C_string Try.underlying34 Try.underlying5 Try.underlying9 (Kd.C_below (Kd.R_reads' R11.out).2.2 (below_regrown w5 d os))
          have s2 : ∀ d os, (convert 34 9 (.slice A0 r1.length c0)).run Try.prog (grow (redrawn w5 d) os) = .ok (.string (strOfNums r1)) (grow (redrawn w5 d) os) := fun d os => Kd.C_string Try.underlying34 Try.underlying5 Try.underlying9 (Kd.C_below d0 (below_regrown w5 d os))
          have p_ : (0 ≤ a3) = True := eq_true h.1
          have q_ : (a3 < (CL.length : Int)) = True := eq_true (by have := CLL.out; omega)
          clear k0 d0 eL hix hpp h HR1
          refine wp_region_quiet_below (by kernel_rfl) (by kernel_rfl) ?_
          repeat (go_big_quiet_step (fail))
          refine wpQuiet_nil ?_
          intro _ hw'
          obtain ⟨⟨dq, osq⟩, hw''⟩ := hw'
          subst hw''
          go_wp2_with fail
          go_meet
          exact ⟨rfl, ⟨below_regrown w5 dq osq⟩⟩
        · have e : r2 = false := by rw [HR2.out]; exact decide_eq_false h
          have e1 : r1 = [] := by rw [HR1.out, if_neg h]
          subst e
          subst e1
          clear h HR1
          refine wp_region_quiet_below (by kernel_rfl) (by kernel_rfl) ?_
          repeat (go_big_quiet_step (fail))
          refine wpQuiet_nil ?_
          intro _ hw'
          obtain ⟨⟨dq, osq⟩, hw''⟩ := hw'
          subst hw''
          go_wp2_with fail
          go_meet
          exact ⟨rfl, ⟨below_regrown w5 dq osq⟩⟩
      case rest =>
        obtain ⟨rfl, BC⟩ := hcut
        have B6 := Aside0.mk (below_step B5.out BC.out)
        have R6 := Aside0.mk (Kd.R_below R11.out BC.out)
        clear BC R11
        generalize wc = w6 at *
        clear B5 HR2
        go_wp2_with fail
        go_loopg [14] r1.length (fun kq v14 w' => ∃ (j : Nat) (rr : List Int), v14 = .int .i64 j ∧ j ≤ r1.length ∧ r1.length ≤ kq + j ∧ rr.length = r1.length ∧ Aside0 ((Kd.int .u8).R 5 w' w3.heap.size (fun _ => True) (.slice A11 r1.length c11) rr) ∧ Aside0 (Below w3.heap.size w3 w'))
        case atStart => exact ⟨0, r1, rfl, by omega, by omega, rfl, R6, B6⟩
        case round =>
          clear R6 B6
          obtain ⟨j, rr, rfl, hj, hkj, hrr, R6, B6⟩ := hrel
          by_cases hlt : j < r1.length
          · have hlt' : decide ((j : Int) < r1.length) = true := decide_eq_true (by omega)
            have hlt2 : decide (j < r1.length) = true := decide_eq_true hlt
            obtain ⟨g, cg, hv, _, hgb, hgl⟩ := R_head R6.out (by omega)
            injection hv with ha hn hc
            subst ha
            subst hc
            have R7 : (Kd.int .u8).R 5 wr w3.heap.size (fun _ => True) (.slice (some ⟨g, 0, none⟩) rr.length c11) rr := by rw [hrr]; exact R6.out
            have h0 := (Kd.R_cell (0 : Int) R7 (j : Int) (by omega) (by omega))
            rw [Int.toNat_natCast] at h0
            obtain ⟨k0, z0⟩ := h0
            have RP : Aside0 (∀ X : Int, (Kd.int .u8).R 5 (wr.setCell ⟨g, j, none⟩ (.int .u8 X)) w3.heap.size (fun _ => True) (.slice (some ⟨g, 0, none⟩) r1.length c11) (rr.set j X) ∧ Below w3.heap.size w3 (wr.setCell ⟨g, j, none⟩ (.int .u8 X))) := ⟨fun X => by
              obtain ⟨h1, h2⟩ := Kd.R_put R7 (j : Int) X
              rw [Int.toNat_natCast, hrr] at h1
              exact ⟨h1, below_set B6.out hgb⟩⟩
            have p_ : (0 ≤ (j : Int)) = True := eq_true (by omega)
            have q_ : ((j : Int) < (r1.length : Int)) = True := eq_true (by omega)
            have RL : Aside0 (r1.length ≤ 2000) := ⟨by
              have h := HR1.out
              rw [h]
              split
              · unfold pc; have := LN.out; simp; omega
              · simp⟩
            have wj : wrap64 ((j : Int) + 1) = j + 1 := w64 (by omega) (by have := RL.out; omega)
            have WJ := Aside0.mk wj
            generalize rdOf (0 : Int) rr (j : Int) = v at k0
            clear hn R7 hgb hgl R6 B6 wj
            go_wp2_with fail
            go_roundg (gk - 1)
            case measure => omega
            case rel => exact ⟨j + 1, rr.set j _, by simp [WJ.out], by omega, by omega, by rw [List.length_set]; exact hrr, ⟨(RP.out _).1⟩, ⟨(RP.out _).2⟩⟩
          · have hlt' : decide ((j : Int) < r1.length) = false := decide_eq_false (by omega)
            have hlt2 : decide (j < r1.length) = false := decide_eq_false hlt
            have B7 := B6
            clear R6 hrr hkj hj
            go_upto_region 13 with (fail)
            have i0 : wr.cell? ⟨w.heap.size, 0, none⟩ = some (.int .u8 a) := (blk_cell (blk_below IB3.out B7.out) 0).trans rfl
            have i1 : wr.cell? ⟨w.heap.size, 1, none⟩ = some (.int .u64 b) := (blk_cell (blk_below IB3.out B7.out) 1).trans rfl
            obtain ⟨FR, hFR⟩ : ∃ q, q = frms l1 a2 n a b n.toNat 0 := ⟨_, rfl⟩
            have FRE := Aside0.mk hFR
            have FRL : Aside0 ((FR.length : Int) = n) := ⟨by rw [hFR, frms_length]; have := NB.out; omega⟩
            have AC := Aside0.mk (chunk_All.calls (n.toNat + 1) a b A9 c9 l1 a2 FR wr (C9.out _ B7.out) HC9.out (by rw [hFR]; exact all_any l1 a2 a b n NE.out))
            clear hFR
            go_wp2_with fail
            refine AC.out.mono ?_
            rintro e w8 ⟨v15, rfl, hS, hb⟩
            obtain ⟨A15, c15, rfl⟩ := Kd.S_slice hS
            have R8 := Aside0.mk (Kd.S_R hS)
            have B8 := Aside0.mk (below_step B7.out hb)
            clear hS hb AC i0 i1
            have s1 : (convert 34 9 (.slice A9 l1.length c9)).run Try.prog w8 = .ok (.string (strOfNums l1)) w8 := Kd.C_string Try.underlying34 Try.underlying5 Try.underlying9 (C9.out _ B8.out)
            have s2 : (convert 34 9 (.slice A1 l1.length c1)).run Try.prog w8 = .ok (.string (strOfNums l1)) w8 := Kd.C_string Try.underlying34 Try.underlying5 Try.underlying9 (C1.out _ B8.out)
            have eFC : FR.length = CL.length := by have h1 := FRL.out; have h2 := CLL.out; omega
            have d1 : ((FR.length : Int) != (CL.length : Int)) = false := by rw [eFC]; simp
            have d2 : (FR.length != CL.length) = false := by rw [eFC]; simp
            have EFC := Aside0.mk eFC
            clear eFC B7
            go_wp2_with fail
            clear s1 s2 d1 d2
            go_loopg [16] FR.length (fun kq v16 w' => ∃ (j : Nat), v16 = .int .i64 j ∧ j ≤ FR.length ∧ FR.length ≤ kq + j ∧ Aside0 (Below w8.heap.size w8 w'))
            case atStart => exact ⟨0, rfl, by omega, by omega, ⟨Below.refl _ _⟩⟩
            case round =>
              obtain ⟨i, rfl, hi, hki, BW⟩ := hrel
              have B9 := Aside0.mk (below_step B8.out BW.out)
              by_cases hlt : i < FR.length
              · have hlt' : decide ((i : Int) < FR.length) = true := decide_eq_true (by omega)
                have hlt2 : decide (i < FR.length) = true := decide_eq_true hlt
                go_upto_region 19 with (fail)
                have i0 : wr.cell? ⟨w.heap.size, 0, none⟩ = some (.int .u8 a) := (blk_cell (blk_below IB3.out B9.out) 0).trans rfl
                have i1 : wr.cell? ⟨w.heap.size, 1, none⟩ = some (.int .u64 b) := (blk_cell (blk_below IB3.out B9.out) 1).trans rfl
                obtain ⟨pp, hpp⟩ : ∃ q, q = pc l1 a2 i := ⟨_, rfl⟩
                have hix : i < CL.length := by have := EFC.out; omega
                have eL : CL.getD i [] = pp := by
                  rw [CLE.out]
                  simp only [List.getD]
                  rw [pcs_get l1 a2 n.toNat 0 i (by have := CLL.out; omega)]
                  simp only [Option.getD_some]
                  rw [Int.zero_add]
                  exact hpp.symm
                obtain ⟨ad, A0, c0, ea, k0, l0, d0⟩ := at_row (C10.out wr B9.out) i hix
                rw [eL] at k0 d0 l0
                cases ea
                have D0 := Aside0.mk d0
                have L0 := Aside0.mk l0
                have PPE := Aside0.mk hpp
                have hn2 : CL.length ≤ 1048576 := by have h1 := NB.out; have h2 := CLL.out; omega
                have u1 : IntKind.u32.wrap (i : Int) = i := by simp [IntKind.wrap, IntKind.signed, IntKind.bits]; omega
                have u2 : IntKind.u32.wrap (CL.length : Int) = CL.length := by simp [IntKind.wrap, IntKind.signed, IntKind.bits]; omega
                have u3 : IntKind.u32.wrap (l1.length : Int) = l1.length := by have := LN.out; simp [IntKind.wrap, IntKind.signed, IntKind.bits]; omega
                have p_ : (0 ≤ (i : Int)) = True := eq_true (by omega)
                have q_ : ((i : Int) < (CL.length : Int)) = True := eq_true (by omega)
                have q2_ : ((i : Int) < (FR.length : Int)) = True := eq_true (by omega)
                clear eL d0 l0 hpp
                go_region_held3 (fun w' => w'.cell? ⟨w.heap.size, 0, none⟩ = some (.int .u8 a) ∧ w'.cell? ⟨w.heap.size, 1, none⟩ = some (.int .u64 b) ∧ w'.cell? (ad.add i) = some (.slice A0 pp.length c0)) (go_keep) ((fail))
                obtain ⟨wb, hwb⟩ : ∃ q, q = wr.heap.size := ⟨_, rfl⟩
                rw [← hwb]
                obtain ⟨wW, hwW⟩ : ∃ q, q = (wr.alloc (.cells #[.int .u8 0, .int .u8 0, .int .u8 0, .int .u8 a, .int .u64 b, .int .u64 0, .int .u32 i, .int .u32 CL.length, .int .u32 l1.length, .int .u64 0, .int .u64 0, .slice none 0 0, .slice none 0 0, .slice none 0 0, .slice none 0 0, .slice A0 pp.length c0] 36)).drew := ⟨_, rfl⟩
                rw [← hwW]
                have WB : Aside0 (wW.heap[wb]? = some (.cells #[.int .u8 0, .int .u8 0, .int .u8 0, .int .u8 a, .int .u64 b, .int .u64 0, .int .u32 i, .int .u32 CL.length, .int .u32 l1.length, .int .u64 0, .int .u64 0, .slice none 0 0, .slice none 0 0, .slice none 0 0, .slice none 0 0, .slice A0 pp.length c0] 36 (0, 0))) := ⟨by rw [hwW, hwb]; exact blk_new wr _⟩
                have BWW : Aside0 (Below wr.heap.size wr wW) := ⟨by rw [hwW]; exact below_drew (below_alloc (Below.refl _ _) _)⟩
                clear hwW hwb i0 i1 k0 u1 u2 u3
                obtain ⟨x, hx⟩ : ∃ x, x = wantF a b i CL.length l1.length pp := ⟨_, rfl⟩
                have XE := Aside0.mk hx
                have hFx : FR[i]? = some x := by
                  rw [FRE.out, frms_get l1 a2 n a b n.toNat 0 i (by have := CLL.out; omega), hx, Int.zero_add, frm_want l1 a2 a b n i LN.out NB.out (by have := CLL.out; omega), PPE.out, CLL.out]
                have KW : Aside0 (kF.K wW x [.int .u8 0, .int .u8 0, .int .u8 0, .int .u8 a, .int .u64 b, .int .u64 0, .int .u32 i, .int .u32 CL.length, .int .u32 l1.length, .int .u64 0, .int .u64 0, .slice none 0 0, .slice none 0 0, .slice none 0 0, .slice none 0 0, .slice A0 pp.length c0]) := ⟨by rw [hx]; exact k36_mk wW (wantF a b i CL.length l1.length pp) (Nat.le_refl _) (Kd.C_nil _ _) (Nat.le_refl _) (Kd.C_nil _ _) (Nat.le_refl _) (Kd.C_nil _ _) (Nat.le_refl _) (Kd.C_nil _ _) L0.out (Kd.C_below D0.out BWW.out)⟩
                have FKX : Aside0 (fok x ∧ fnum x) := ⟨by
                  rw [hx]
                  refine ⟨⟨by simp [wantF], by simp [wantF], by simp [wantF], by simp [wantF], ?_⟩, ⟨fun y hy => absurd hy List.not_mem_nil, fun y hy => absurd hy List.not_mem_nil⟩⟩
                  show pp.length ≤ 1000000
                  rw [PPE.out]
                  unfold pc
                  have := LN.out
                  simp
                  omega⟩
                have RX : Aside0 (∀ most : Int, chunk_Right.f x.f0.f0 x.f0.f1 x.f0.f2 x.f1.f0 x.f1.f1 x.f2 x.f3 x.f4 x.f5 x.f6 x.f7 x.f8 x.f9 x.f10 x.f11 x.f12 a2 most = some (decide ((l1.length : Int) ≤ most))) := ⟨fun most => by
                  rw [hx]
                  show chunk_Right.f 0 0 0 a b 0 (i : Int) (CL.length : Int) (l1.length : Int) 0 0 [] [] [] [] pp a2 most = _
                  rw [PPE.out, CLL.out]
                  exact want_right l1 a2 a b most n i LN.out NE.out (by have := CLL.out; omega)⟩
                clear hx
                have RW := Kd.R_below (Kd.R_below R8.out BW.out) BWW.out
                obtain ⟨ra, ca, hv, _, hra, _⟩ := R_head RW (by omega)
                injection hv with ha hn hc
                subst ha
                subst hc
                obtain ⟨cc, hcl, hM, hcc, _⟩ := Kd.R_elem RW z36 (i : Int) (by omega) (by omega)
                rw [show (i : Int).toNat = i from Int.toNat_natCast i] at hM hcc
                have hxe : FR.getD i z36 = x := by simp only [List.getD]; rw [hFx]; rfl
                rw [hxe] at hM
                have KX := Aside0.mk (kF.K_of_M hM)
                obtain ⟨WL, hWL⟩ : ∃ q : List Value, q = [.int .u8 0, .int .u8 0, .int .u8 0, .int .u8 a, .int .u64 b, .int .u64 0, .int .u32 i, .int .u32 CL.length, .int .u32 l1.length, .int .u64 0, .int .u64 0, .slice none 0 0, .slice none 0 0, .slice none 0 0, .slice none 0 0, .slice A0 pp.length c0] := ⟨_, rfl⟩
                have KW2 : Aside0 (kF.K wW x WL) := ⟨by rw [hWL]; exact KW.out⟩
                have WL16 : Aside0 (WL.length = 16) := ⟨by rw [hWL]; rfl⟩
                have XL16 : Aside0 (cc.length = 16) := ⟨hcl⟩
                have LX : Aside0 (∀ w2, (∃ p : Regrown, w2 = grow (redrawn wW p.d) p.os) → ∀ j v, cc[j]? = some v → w2.cell? ((⟨ra, i * 16, none⟩ : Addr).add j) = some v) := ⟨by
                  rintro w2 ⟨p, rfl⟩ j v hv
                  rw [Addr.add_lit]
                  exact cell_regrown (hcc j v hv) p.d p.os⟩
                have LW : Aside0 (∀ w2, (∃ p : Regrown, w2 = grow (redrawn wW p.d) p.os) → ∀ j v, WL[j]? = some v → w2.cell? ((⟨wb, 0, none⟩ : Addr).add j) = some v) := ⟨by
                  rintro w2 ⟨p, rfl⟩ j v hv
                  refine cell_regrown ?_ p.d p.os
                  rw [Addr.add_lit, Nat.zero_add, blk_cell WB.out, List.getElem?_toArray, ← hWL]
                  exact hv⟩
                have SS : Aside0 (∀ d os, Calls Try.prog 19 #[.agg cc.toArray, .agg WL.toArray] (grow (redrawn wW d) os) fun e w' => e = .returned (.bool true) ∧ Below (grow (redrawn wW d) os).heap.size (grow (redrawn wW d) os) w') := ⟨fun d os => same_K x (kF.K_below (below_regrown wW d os) KX.out) (kF.K_below (below_regrown wW d os) KW2.out) FKX.out.1 FKX.out.2⟩
                have RT : Aside0 (∀ (most : Int) d os, Calls Try.prog 14 #[.agg cc.toArray, .int .i64 a2, .int .i64 most] (grow (redrawn wW d) os) fun e w' => e = .returned (.bool (decide ((l1.length : Int) ≤ most))) ∧ Below (grow (redrawn wW d) os).heap.size (grow (redrawn wW d) os) w') := ⟨fun most d os => right_K x a2 most _ (kF.K_below (below_regrown wW d os) KX.out) (RX.out most)⟩
                clear hWL hcc hcl hM RW hra hFx hxe KW WB
                have ln0 : IntKind.i64.wrap ((l1.length : Int) - 1) = l1.length - 1 := (i64_w _).trans (w64 (by omega) (by have := LN.out; omega))
                have ln1 : wrap64 ((l1.length : Int) - 1) = l1.length - 1 := (i64_w _).symm.trans ln0
                have dd0 : decide ((l1.length : Int) ≤ (l1.length : Int)) = true := decide_eq_true (Int.le_refl _)
                have dd1 : decide ((l1.length : Int) ≤ (l1.length : Int) - 1) = false := decide_eq_false (by omega)
                by_cases hz : 0 < l1.length
                · have hz1 : decide (0 < l1.length) = true := decide_eq_true hz
                  have hz2 : decide ((0 : Int) < l1.length) = true := decide_eq_true (by omega)
                  go_upto_region 20 with (fail)
                  refine wp_region_quiet_below (by kernel_rfl) (by kernel_rfl) ?_
                  repeat (first | (go_big_quiet_want; refine quiet_load_any 36 _ rfl ⟨ra, i * 16, none⟩ rfl cc _ LX.out Try.underlying36 rfl (by rw [XL16.out]; rfl) ?_; dsimp only [Act.put]; simp only [List.setIfInBounds_toArray, List.set_cons_succ, List.set_cons_zero]; go_big_quiet_on) | (go_big_quiet_want; refine quiet_load_any 36 _ rfl ⟨wb, 0, none⟩ rfl WL _ LW.out Try.underlying36 rfl (by rw [WL16.out]; rfl) ?_; dsimp only [Act.put]; simp only [List.setIfInBounds_toArray, List.set_cons_succ, List.set_cons_zero]; go_big_quiet_on) | go_big_quiet_step ((first | (go_at_call 19; exact Calls.regrown_of (SS.out _ _)) | (go_at_call 14; exact Calls.regrown_of (RT.out _ _ _)))))
                  refine wpQuiet_nil ?_
                  intro _ hw'
                  obtain ⟨⟨dq, osq⟩, hw''⟩ := hw'
                  subst hw''
                  have B10 : Aside0 (Below w8.heap.size w8 (grow (redrawn wW dq) osq)) := ⟨below_step (below_step BW.out BWW.out) (below_regrown wW dq osq)⟩
                  go_wp2_with fail
                  go_roundg (gk - 1)
                  case measure => omega
                  case rel => exact ⟨i + 1, by simp, by omega, by omega, B10⟩
                · have hz1 : decide (0 < l1.length) = false := decide_eq_false hz
                  have hz2 : decide ((0 : Int) < l1.length) = false := decide_eq_false (by omega)
                  go_upto_region 20 with (fail)
                  refine wp_region_quiet_below (by kernel_rfl) (by kernel_rfl) ?_
                  repeat (first | (go_big_quiet_want; refine quiet_load_any 36 _ rfl ⟨ra, i * 16, none⟩ rfl cc _ LX.out Try.underlying36 rfl (by rw [XL16.out]; rfl) ?_; dsimp only [Act.put]; simp only [List.setIfInBounds_toArray, List.set_cons_succ, List.set_cons_zero]; go_big_quiet_on) | (go_big_quiet_want; refine quiet_load_any 36 _ rfl ⟨wb, 0, none⟩ rfl WL _ LW.out Try.underlying36 rfl (by rw [WL16.out]; rfl) ?_; dsimp only [Act.put]; simp only [List.setIfInBounds_toArray, List.set_cons_succ, List.set_cons_zero]; go_big_quiet_on) | go_big_quiet_step ((first | (go_at_call 19; exact Calls.regrown_of (SS.out _ _)) | (go_at_call 14; exact Calls.regrown_of (RT.out _ _ _)))))
                  refine wpQuiet_nil ?_
                  intro _ hw'
                  obtain ⟨⟨dq, osq⟩, hw''⟩ := hw'
                  subst hw''
                  have B10 : Aside0 (Below w8.heap.size w8 (grow (redrawn wW dq) osq)) := ⟨below_step (below_step BW.out BWW.out) (below_regrown wW dq osq)⟩
                  go_wp2_with fail
                  go_roundg (gk - 1)
                  case measure => omega
                  case rel => exact ⟨i + 1, by simp, by omega, by omega, B10⟩
              · have hlt' : decide ((i : Int) < FR.length) = false := decide_eq_false (by omega)
                have hlt2 : decide (i < FR.length) = false := decide_eq_false hlt
                go_wp2_with fail
                refine (AW.out _).mono ?_
                rintro e w9 ⟨rfl, hb⟩
                have BZ := Aside0.mk (below_step (below_step B3.out B9.out) hb)
                clear hb
                go_wp2_with fail
                go_ret
                exact ⟨rfl, BZ.out⟩

end Go.Proofs.Ythgpocefiaklkaa.Walk
