/- PullAsks. Conditions: none beyond the statement's own. -/
import Derived.Test.YtncofecfljocgaaWalkAsksP
import Derived.Test.YtncofecfljocgaaF4
import Derived.Test.YtncofecfljocgaaArgs
import Derived.Deep.QuietTactic
import Derived.BigQuiet
import Derived.Lib.QuietBelow
import Derived.Outline
import Derived.Deep.RegionHeld3
import Derived.Deep.CutRange
namespace Go.Proofs.Ytncofecfljocgaa.Walk
open Go.RowKit Go.Proofs.Ytncofecfljocgaa.F Go.Proofs.YtncofecfljocgaaW.PrintWords Go.Proofs.YtncofecfljocgaaW.PrintLast Go.Proofs.YtncofecfljocgaaW.PrintMore Go.Proofs.Ytncofecfljocgaa.Open
open Go.Sort (grow)
attribute [local go_sem] max2_int min2_int max_two min_two max_three min_three max_four min_four
set_option linter.unusedVariables false
set_option linter.unusedSimpArgs false

/-! ### PullAsks -/
abbrev Ac := S40
abbrev kAc : Kd Ac := k40
abbrev tAc : Nat := 40
def grt (y : Ac) : Bool := decide ((y.f3.length : Int) > 100) || decide ((y.f4.length : Int) > 100)
theorem great_f (y : Ac) : unisonlaw20_great.f y.f0 y.f1 y.f2 y.f3 y.f4 = some (grt y) := by
  unfold unisonlaw20_great.f grt
  by_cases h : (y.f3.length : Int) > 100
  · rw [if_pos h, decide_eq_true h]; rfl
  · rw [if_neg h, decide_eq_false h]; rfl
theorem at_f (a : List Int) {i : Int} (h : 0 ≤ i) : unisonref04_At.f a i = some (rd a i) := by
  unfold unisonref04_At.f
  rw [if_pos h]
  by_cases hl : i < (a.length : Int)
  · rw [if_pos hl, if_pos h]
  · rw [if_neg hl, rd_over (by omega)]
theorem u64s_of {l : List Int} (h : ∀ x ∈ l, (Lit.int .u64 x).wf = true) : u64s l := by
  intro x hx
  have := h x hx
  simp only [Lit.wf, Bool.and_eq_true, decide_eq_true_eq, show IntKind.u64.min = 0 from rfl, show IntKind.u64.max = 18446744073709551615 from rfl] at this
  exact this
theorem take_mem {l : List Int} {j : Nat} {z q : Int} (h : l[j]? = some z) : decide (q ∈ l.take (j + 1)) = (decide (q ∈ l.take j) || decide (z = q)) := by
  rw [List.take_add_one, h, Option.toList_some]
  simp only [List.mem_append, List.mem_singleton, Bool.decide_or]
  congr 1
  simp only [eq_comm]
set_option maxHeartbeats 16000000 in
set_option maxRecDepth 100000 in
theorem PullAsks (n me again : Int) (A3 : Option Addr) (c3 : Nat) (l3 : List Ac) (w : World) (hr : Kd.C kAc w A3 l3.length l3) (hc : l3.length ≤ c3) (v0_ : (Lit.int .i64 n).wf = true) (v1_ : (Lit.int .i64 me).wf = true) (v2_ : (Lit.int .i64 again).wf = true) (hw : l3.length ≤ maxLen ∧ ∀ x ∈ l3, wf40 x) :
    Calls Try.prog 4 #[.int .i64 n, .int .i64 me, .int .i64 again, .slice A3 l3.length c3] w fun e w' => e = .returned (.bool true) ∧ Below w.heap.size w w' := by
  have HR := Aside0.mk hr
  have HW := Aside0.mk hw.2
  clear v0_ v1_ v2_ hr hw
  by_cases hl : (l3.length : Int) > 100
  · have hd : decide ((l3.length : Int) > 100) = true := decide_eq_true hl
    go_enter Try.func4, Try.ntmps4
    go_wp2_with fail
    refine (awake_calls _).mono ?_
    rintro e w2 ⟨rfl, hb⟩
    have B2 := Aside0.mk hb
    clear hb
    go_wp2_with fail
    go_ret
    exact ⟨rfl, B2.out⟩
  · have hd : decide ((l3.length : Int) > 100) = false := decide_eq_false hl
    by_cases hn : n > 20
    · have hd2 : decide (n > 20) = true := decide_eq_true hn
      go_enter Try.func4, Try.ntmps4
      go_wp2_with fail
      refine (awake_calls _).mono ?_
      rintro e w2 ⟨rfl, hb⟩
      have B2 := Aside0.mk hb
      clear hb
      go_wp2_with fail
      go_ret
      exact ⟨rfl, B2.out⟩
    · have hd2 : decide (n > 20) = false := decide_eq_false hn
      obtain ⟨n2, hn2⟩ : ∃ n2 : Int, n2 = if 1 < n then n else 1 := ⟨_, rfl⟩
      obtain ⟨m1, hm1⟩ : ∃ m1 : Int, m1 = if n2 - 1 < me then n2 - 1 else me := ⟨_, rfl⟩
      obtain ⟨M, hM⟩ : ∃ M : Int, M = if 0 < m1 then m1 else 0 := ⟨_, rfl⟩
      have b1 : Builtin.max2 (.int .i64 1) (.int .i64 n) = pure (.int .i64 n2) := by rw [max2_int]; congr 2; rw [hn2]
      have b2 : Builtin.min2 (.int .i64 me) (.int .i64 (n2 - 1)) = pure (.int .i64 m1) := by rw [min2_int]; congr 2; rw [hm1]
      have b3 : Builtin.max2 (.int .i64 0) (.int .i64 m1) = pure (.int .i64 M) := by rw [max2_int]; congr 2; rw [hM]
      have hn2b : 1 ≤ n2 ∧ n2 ≤ 20 := by rw [hn2]; split <;> omega
      have hw2 : IntKind.i64.wrap (n2 - 1) = n2 - 1 := by rw [IntKind.wrap_i64]; omega
      have ME : Aside0 ((newP n me again).me = M) := ⟨by
        show clmp 0 (clmp 1 64 n - 1) me = M
        have e1 : clmp 1 64 n = n2 := by unfold clmp; rw [if_neg (show ¬ 64 < n by omega), hn2]
        rw [e1, hM, hm1]
        rfl⟩
      clear hn2 hm1 hM
      go_enter Try.func4, Try.ntmps4
      go_wp2_with fail
      refine (New_calls n _).mono ?_
      rintro e w1 ⟨gm, rb, cp, rfl, hM, hb1⟩
      go_wp2_with fail
      refine (NewP_calls n me again _).mono ?_
      rintro e w2 ⟨x, rfl, hP, hb2⟩
      have LW0 := Aside0.mk (LW.make hM hb1 hP hb2)
      clear hM hb1 hP hb2
      go_wp2_with fail
      go_loopg [12] l3.length (fun gg s12 wr => ∃ i : Nat, s12 = .int .i64 i ∧ i ≤ l3.length ∧ l3.length - i ≤ gg ∧ ∃ (SM SP : Nat → Prop) (L : List X) (p : Pu), Aside0 (LW w wr SM SP gm rb cp x L p) ∧ Aside0 (p.me = M ∧ p.count ≤ i))
      case atStart => exact ⟨0, rfl, Nat.zero_le _, by omega, _, _, _, _, LW0, ⟨ME.out, Int.le_refl _⟩⟩
      case round =>
        clear LW0 ME
        obtain ⟨i, rfl, hi, hgg, SM, SP, L, p, LI, PI⟩ := hrel
        by_cases hlt : i < l3.length
        · have hltz : (i : Int) < (l3.length : Int) := by omega
          have hwi : IntKind.i64.wrap ((i : Int) + 1) = ((i + 1 : Nat) : Int) := by rw [IntKind.wrap_i64]; omega
          have HY : Aside0 (rd_T40 l3 (i : Int) ∈ l3) := ⟨by
            unfold rd_T40
            rw [Int.toNat_natCast, List.getD_eq_getElem?_getD, List.getElem?_eq_getElem hlt]
            exact List.getElem_mem hlt⟩
          have WY := Aside0.mk (HW.out _ HY.out)
          obtain ⟨ad, A4, c4, A5, c5, e, k0, k1, k2, k3, k4, l4, g4, l5, g5⟩ := at_T40 HR.out (i : Int) (by omega) hltz
          cases e
          rw [Int.toNat_natCast] at k0 k1 k2 k3 k4
          generalize rd_T40 l3 (i : Int) = y at *
          have BI := Aside0.mk LI.out.below
          have G4 := Aside0.mk g4
          have G5 := Aside0.mk g5
          have k0 := pw_cell_below BI.out k0
          have k1 := pw_cell_below BI.out k1
          have k2 := pw_cell_below BI.out k2
          have k3 := pw_cell_below BI.out k3
          have k4 := pw_cell_below BI.out k4
          have hu := Try.underlying40
          have hu2 := Try.underlying33
          clear g4 g5
          go_upto_region 10 with (fail)
          have XB := Aside0.mk (blk_new wr (.cells #[.int .i64 y.f0, .int .i64 y.f1, .int .i64 y.f2, .slice A4 y.f3.length c4, .slice A5 y.f4.length c5] tAc))
          have LB := Aside0.mk (LI.out.step (below_alloc (Below.refl wr.heap.size wr) (.cells #[.int .i64 y.f0, .int .i64 y.f1, .int .i64 y.f2, .slice A4 y.f3.length c4, .slice A5 y.f4.length c5] tAc)))
          have NB : Aside0 (¬ SM wr.heap.size ∧ ¬ SP wr.heap.size) := ⟨fun h => by have := (LI.out.sm _ h).2; omega, fun h => by have := (LI.out.sp _ h).2; omega⟩
          obtain ⟨b, hb⟩ : ∃ b, b = wr.heap.size := ⟨_, rfl⟩
          rw [← hb] at XB NB ⊢
          clear hb k0 k1 k2 k3 k4 LI BI
          generalize wr.alloc (.cells #[.int .i64 y.f0, .int .i64 y.f1, .int .i64 y.f2, .slice A4 y.f3.length c4, .slice A5 y.f4.length c5] tAc) = wq at XB LB ⊢
          have q0 : wq.cell? ⟨b, 0, none⟩ = some (.int .i64 y.f0) := (blk_cell XB.out 0).trans rfl
          have q1 : wq.cell? ⟨b, 1, none⟩ = some (.int .i64 y.f1) := (blk_cell XB.out 1).trans rfl
          have q2 : wq.cell? ⟨b, 2, none⟩ = some (.int .i64 y.f2) := (blk_cell XB.out 2).trans rfl
          have q3 : wq.cell? ⟨b, 3, none⟩ = some (.slice A4 y.f3.length c4) := (blk_cell XB.out 3).trans rfl
          have q4 : wq.cell? ⟨b, 4, none⟩ = some (.slice A5 y.f4.length c5) := (blk_cell XB.out 4).trans rfl
          go_wp2_with fail
          refine (unisonlaw20_great.calls y.f0 y.f1 y.f2 A4 c4 y.f3 A5 c5 y.f4 (grt y) _ (Kd.C_below G4.out LB.out.below) l4 (Kd.C_below G5.out LB.out.below) l5 (great_f y)).mono ?_
          rintro e wc ⟨rfl, hb⟩
          have XC := Aside0.mk (blk_below XB.out hb)
          have LC := Aside0.mk (LB.out.step hb)
          clear hb XB LB q0 q1 q2 q3 q4
          have q0 : wc.cell? ⟨b, 0, none⟩ = some (.int .i64 y.f0) := (blk_cell XC.out 0).trans rfl
          have q1 : wc.cell? ⟨b, 1, none⟩ = some (.int .i64 y.f1) := (blk_cell XC.out 1).trans rfl
          have q2 : wc.cell? ⟨b, 2, none⟩ = some (.int .i64 y.f2) := (blk_cell XC.out 2).trans rfl
          have q3 : wc.cell? ⟨b, 3, none⟩ = some (.slice A4 y.f3.length c4) := (blk_cell XC.out 3).trans rfl
          have q4 : wc.cell? ⟨b, 4, none⟩ = some (.slice A5 y.f4.length c5) := (blk_cell XC.out 4).trans rfl
          cases hg : grt y with
          | true =>
            go_wp2_with fail
            refine (awake_calls _).mono ?_
            rintro e w8 ⟨rfl, hb⟩
            have B8 := Aside0.mk (below_step LC.out.below hb)
            clear hb
            go_wp2_with fail
            go_ret
            exact ⟨rfl, B8.out⟩
          | false =>
            have GR : Aside0 (y.f3.length ≤ 100 ∧ y.f4.length ≤ 100) := ⟨by
              unfold grt at hg
              simp only [Bool.or_eq_false_iff, decide_eq_false_iff_not] at hg
              omega⟩
            clear hg
            by_cases hk1 : y.f0 = 1
            · have hd1 : (y.f0 == 1) = true := by rw [hk1]; rfl
              have TC := Aside0.mk (Tell_calls LC.out.m y.f1 0 (A := none) (B := A4) (c := 0) (d := c4) (a := []) (b := y.f3) (Kd.C_nil _ _) (Kd.C_below G4.out LC.out.below) (Nat.le_refl _) l4 (by simp) GR.out.1 (fun w' _ => Kd.C_nil _ _) (fun w' hw => Kd.C_below G4.out (Beside.step LC.out.below hw (fun k hk => (LC.out.sm k hk).1))) (by decide) (fun x hx => by cases hx) (u64s_of WY.out.2.2.2.1.2))
              clear hk1
              go_wp2_with fail
              refine TC.out.mono ?_
              rintro e w8 ⟨rfl, hM, hb⟩
              obtain ⟨SM', hL⟩ := LC.out.mat hM hb
              have LN := Aside0.mk hL
              clear hM hb hL TC
              go_wp2_with fail
              go_roundg (l3.length - (i + 1))
              case measure => omega
              case rel => exact ⟨i + 1, by go_num, by omega, Nat.le_refl _, _, _, _, _, LN, ⟨PI.out.1, by have := PI.out.2; omega⟩⟩
            · have hd1 : (y.f0 == 1) = false := beq_eq_false_iff_ne.2 hk1
              by_cases hk0 : y.f0 = 0
              · have hd0 : (y.f0 == 0) = true := by rw [hk0]; rfl
                have hd0' : (y.f0 != 0) = false := by rw [hk0]; rfl
                have NX := LC.out.next (Kd.C_below G4.out (Below.refl _ _)) l4 (Kd.C_below G5.out (Below.refl _ _)) l5 GR.out.2 y.f2 (by have := PI.out.2; omega)
                have NO := next_ok LC.out.p.ok (now := y.f2) (held := y.f3) (skip := y.f4) (H := holders L) (fun f s q hq => holders_pos L f s q hq)
                have NS := next_same p y.f2 y.f3 y.f4 (holders L)
                generalize nextP p y.f2 y.f3 y.f4 (holders L) = R at NX NO NS
                obtain ⟨p', f, s, q, okb⟩ := R
                dsimp only at NX NO NS
                have NX := Aside0.mk NX
                have NO := Aside0.mk NO
                have NS := Aside0.mk NS
                clear hk1 hk0
                go_wp2_with fail
                refine NX.out.mono ?_
                rintro e w8 ⟨rfl, ⟨SP', hL⟩, hb⟩
                have LN := Aside0.mk hL
                have X8 := Aside0.mk (hb.blk XC.out NB.out.2)
                clear hL hb NX q0 q1 q2 q3 q4 XC LC
                cases okb with
                | false =>
                  have LN2 := Aside0.mk (LN.out.step (below_alloc (Below.refl w8.heap.size w8) (.cells #[.int .u8 f, .int .u64 s] tID)))
                  go_wp2_with fail
                  go_roundg (l3.length - (i + 1))
                  case measure => omega
                  case rel => exact ⟨i + 1, by go_num, by omega, Nat.le_refl _, _, _, _, _, LN2, ⟨NS.out.2.1.trans PI.out.1, by have h1 := NS.out.2.2; have h2 := PI.out.2; omega⟩⟩
                | true =>
                  obtain ⟨hin, hns, hnm, hse, hwn⟩ := NO.out rfl
                  have HIN := Aside0.mk hin
                  have HNS := Aside0.mk hns
                  have HF := Aside0.mk (LN.out.p.ok.want _ hwn).1
                  have hqm : (q == M) = false := beq_eq_false_iff_ne.2 (by rw [← PI.out.1]; exact hnm)
                  have HSE := Aside0.mk hse
                  dsimp only at HF
                  clear hin hns hnm hse hwn NO
                  have XI := Aside0.mk (blk_new w8 (.cells #[.int .u8 f, .int .u64 s] tID))
                  have X9 := Aside0.mk (blk_alloc X8.out (.cells #[.int .u8 f, .int .u64 s] tID))
                  have L9 := Aside0.mk (LN.out.step (below_alloc (Below.refl w8.heap.size w8) (.cells #[.int .u8 f, .int .u64 s] tID)))
                  go_upto_region 18 with (fail)
                  obtain ⟨ib, hib⟩ : ∃ ib, ib = w8.heap.size := ⟨_, rfl⟩
                  rw [← hib] at XI ⊢
                  clear hib X8 LN
                  generalize w8.alloc (.cells #[.int .u8 f, .int .u64 s] tID) = w9 at XI X9 L9 ⊢
                  have i0 : w9.cell? ⟨ib, 0, none⟩ = some (.int .u8 f) := (blk_cell XI.out 0).trans rfl
                  have i1 : w9.cell? ⟨ib, 1, none⟩ = some (.int .u64 s) := (blk_cell XI.out 1).trans rfl
                  go_wp2_with fail
                  refine (Holders_calls L9.out.m f s HF.out.1 HF.out.2).mono ?_
                  rintro e w10 ⟨v10, rfl, hR, hb⟩
                  obtain ⟨Ah, ch, rfl⟩ := Kd.R_slice hR
                  obtain ⟨hl2, hhl⟩ : ∃ hl2, hl2 = holders L f s := ⟨_, rfl⟩
                  rw [← hhl] at hR HIN ⊢
                  have RH := Aside0.mk (Kd.R_reads' hR).2.2
                  have HL64 : Aside0 (hl2.length ≤ 64) := ⟨by rw [hhl]; exact holders_len L L9.out.m.ok.n2 f s⟩
                  have XI2 := Aside0.mk (blk_below XI.out hb)
                  have X10 := Aside0.mk (blk_below X9.out hb)
                  have L10 := Aside0.mk (L9.out.step hb)
                  clear hR hb hhl i0 i1 XI X9 L9
                  go_wp2_with fail
                  go_loopg [17, 19] hl2.length (fun gg s17 s19 wz => wz = w10 ∧ ∃ j : Nat, s19 = .int .i64 j ∧ s17 = .bool (decide (q ∈ hl2.take j)) ∧ j ≤ hl2.length ∧ hl2.length - j ≤ gg)
                  case atStart => exact ⟨rfl, 0, rfl, by simp, Nat.zero_le _, by omega⟩
                  case round =>
                    obtain ⟨rfl, j, rfl, rfl, hj, hgg2⟩ := hrel
                    by_cases hlt2 : j < hl2.length
                    · have hltz2 : (j : Int) < (hl2.length : Int) := by omega
                      have hwj : IntKind.i64.wrap ((j : Int) + 1) = ((j + 1 : Nat) : Int) := by rw [IntKind.wrap_i64]; have := HL64.out; omega
                      have hx := List.getElem?_eq_getElem hlt2
                      obtain ⟨adh, cc, e, hcl, hKK, hcc⟩ := Kd.C_get RH.out 0 (j : Int) (by omega) hltz2
                      cases e
                      have e1 : hl2.getD ((j : Int)).toNat 0 = hl2[j] := by simp [List.getD, hlt2]
                      rw [e1] at hKK
                      rw [Int.toNat_natCast] at hcc
                      generalize hl2[j] = z at hKK hx
                      have hKK : cc = [.int .i64 z] := hKK
                      subst hKK
                      have z0 : wr.cell? (adh.add j) = some (.int .i64 z) := by
                        have := hcc 0 _ rfl
                        rwa [show j * (Kd.int .i64).sz + 0 = j from Nat.mul_one _] at this
                      have TK := Aside0.mk (take_mem (q := q) hx)
                      clear hx hcc hcl
                      cases hq : decide (q ∈ hl2.take j) with
                      | true =>
                        have TK2 : Aside0 (decide (q ∈ hl2.take (j + 1)) = true) := ⟨by rw [TK.out, hq]; rfl⟩
                        clear hq TK
                        go_wp2_with fail
                        go_roundg (hl2.length - (j + 1))
                        case measure => omega
                        case rel => exact ⟨rfl, j + 1, by go_num, by rw [TK2.out], by omega, Nat.le_refl _⟩
                      | false =>
                        have TK2 : Aside0 (decide (q ∈ hl2.take (j + 1)) = (z == q)) := ⟨by rw [TK.out, hq]; exact (Bool.false_or _).trans rfl⟩
                        clear hq TK
                        go_wp2_with fail
                        go_roundg (hl2.length - (j + 1))
                        case measure => omega
                        case rel => exact ⟨rfl, j + 1, by go_num, by rw [TK2.out], by omega, Nat.le_refl _⟩
                    · obtain rfl : j = hl2.length := by omega
                      have hltz2 : ¬ (hl2.length : Int) < (hl2.length : Int) := by omega
                      have hqt : decide (q ∈ hl2.take hl2.length) = true := by rw [List.take_length]; exact decide_eq_true HIN.out
                      rw [hqt]
                      have q4 : wr.cell? ⟨b, 4, none⟩ = some (.slice A5 y.f4.length c5) := (blk_cell X10.out 4).trans rfl
                      go_wp2_with fail
                      go_loopg [17, 20] y.f4.length (fun gg s17 s20 wz => wz = wr ∧ s17 = .bool true ∧ ∃ j : Nat, s20 = .int .i64 j ∧ j ≤ y.f4.length ∧ y.f4.length - j ≤ gg)
                      case atStart => exact ⟨rfl, rfl, 0, rfl, Nat.zero_le _, by omega⟩
                      case round =>
                        obtain ⟨rfl, rfl, j, rfl, hj3, hgg3⟩ := hrel
                        obtain ⟨wk, hwk⟩ : ∃ wk, wk = wr := ⟨_, rfl⟩
                        subst hwk
                        by_cases hlt3 : j < y.f4.length
                        · have hltz3 : (j : Int) < (y.f4.length : Int) := by omega
                          have hwj : IntKind.i64.wrap ((j : Int) + 1) = ((j + 1 : Nat) : Int) := by rw [IntKind.wrap_i64]; have := GR.out; omega
                          have hmem := List.getElem_mem hlt3
                          obtain ⟨adh, cc, e, hcl, hKK, hcc⟩ := Kd.C_get (Kd.C_below G5.out L10.out.below) 0 (j : Int) (by omega) hltz3
                          cases e
                          have e1 : y.f4.getD ((j : Int)).toNat 0 = y.f4[j] := by simp [List.getD, hlt3]
                          rw [e1] at hKK
                          rw [Int.toNat_natCast] at hcc
                          generalize y.f4[j] = z at hKK hmem
                          have hKK : cc = [.int .i64 z] := hKK
                          subst hKK
                          have z0 : wk.cell? (adh.add j) = some (.int .i64 z) := by
                            have := hcc 0 _ rfl
                            rwa [show j * (Kd.int .i64).sz + 0 = j from Nat.mul_one _] at this
                          have hzq : (z != q) = true := by
                            rw [bne_iff_ne]
                            intro e
                            exact HNS.out (e ▸ hmem)
                          clear hcc hcl hmem
                          go_wp2_with fail
                          go_roundg (y.f4.length - (j + 1))
                          case measure => omega
                          case rel => exact ⟨rfl, rfl, j + 1, by go_num, by omega, Nat.le_refl _⟩
                        · obtain rfl : j = y.f4.length := by omega
                          have hltz3 : ¬ (y.f4.length : Int) < (y.f4.length : Int) := by omega
                          have hcv : IntKind.i64.wrap f = f := by rw [IntKind.wrap_i64]; have := HF.out; omega
                          have hsx : IntKind.u64.wrap (rd y.f3 f + 1) = s := HSE.out
                          go_upto_region 28 with (fail)
                          clear q4
                          refine wp_region_held_drew (S := fun w' => Below wk.heap.size wk w') (by kernel_rfl) (by exact below_drew (Below.refl _ _)) (fun hHeld => ?_)
                          refine wpAnyH_take (i := 0) (oi := { dst := some 121, op := Op.move (Operand.tmp 17), type := 4, pos := "law.go:99", after := #[], guard := none }) (v := ?_) rfl (by kernel_rfl) (by kernel_rfl) (by kernel_rfl) (fun _ _ _ h => h) (Or.inl ⟨by rfl, ?_⟩) (by assumption) ?_
                          rotate_left
                          · (intro w hSw; (try dsimp only at hSw); go_simp; try with_reducible rfl)
                          simp only [Act.put, List.setIfInBounds_toArray, List.set_cons_zero, List.set_cons_succ]
                          refine wpAnyH_take (i := 1) (oi := { dst := some 122, op := Op.unOp UnOp.not 4 (Operand.tmp 121), type := 4, pos := "law.go:99", after := #[{ on := 0, ground := Ground.data }], guard := none }) (v := ?_) rfl (by kernel_rfl) (by kernel_rfl) (by kernel_rfl) (fun _ _ _ h => h) (Or.inl ⟨by rfl, ?_⟩) (by assumption) ?_
                          rotate_left
                          · (intro w hSw; (try dsimp only at hSw); go_simp; try with_reducible rfl)
                          simp only [Act.put, List.setIfInBounds_toArray, List.set_cons_zero, List.set_cons_succ]
                          refine wpAnyH_take (i := 2) (oi := { dst := some 123, op := Op.move (Operand.tmp 122), type := 4, pos := "law.go:99", after := #[{ on := 1, ground := Ground.data }], guard := none }) (v := ?_) rfl (by kernel_rfl) (by kernel_rfl) (by kernel_rfl) (fun _ _ _ h => h) (Or.inl ⟨by rfl, ?_⟩) (by assumption) ?_
                          rotate_left
                          · (intro w hSw; (try dsimp only at hSw); go_simp; try with_reducible rfl)
                          simp only [Act.put, List.setIfInBounds_toArray, List.set_cons_zero, List.set_cons_succ]
                          refine wpAnyH_take (i := 3) (oi := { dst := some 124, op := Op.move (Operand.tmp 15), type := 3, pos := "law.go:99", after := #[{ on := 2, ground := Ground.guard }], guard := some (2, false) }) (v := ?_) rfl (by kernel_rfl) (by kernel_rfl) (by kernel_rfl) (fun _ _ _ h => h) (Or.inl ⟨by rfl, ?_⟩) (by assumption) ?_
                          rotate_left
                          · (intro w hSw; (try dsimp only at hSw); go_simp; try with_reducible rfl)
                          simp only [Act.put, List.setIfInBounds_toArray, List.set_cons_zero, List.set_cons_succ]
                          refine wpAnyH_take (i := 4) (oi := { dst := some 125, op := Op.move (Operand.tmp 11), type := 3, pos := "law.go:99", after := #[{ on := 2, ground := Ground.guard }], guard := some (2, false) }) (v := ?_) rfl (by kernel_rfl) (by kernel_rfl) (by kernel_rfl) (fun _ _ _ h => h) (Or.inl ⟨by rfl, ?_⟩) (by assumption) ?_
                          rotate_left
                          · (intro w hSw; (try dsimp only at hSw); go_simp; try with_reducible rfl)
                          simp only [Act.put, List.setIfInBounds_toArray, List.set_cons_zero, List.set_cons_succ]
                          refine wpAnyH_take (i := 5) (oi := { dst := some 126, op := Op.binOp BinOp.eql 3 (Operand.tmp 124) (Operand.tmp 125) 3, type := 4, pos := "law.go:99", after := #[{ on := 3, ground := Ground.data }, { on := 4, ground := Ground.data }, { on := 2, ground := Ground.guard }], guard := some (2, false) }) (v := ?_) rfl (by kernel_rfl) (by kernel_rfl) (by kernel_rfl) (fun _ _ _ h => h) (Or.inl ⟨by rfl, ?_⟩) (by assumption) ?_
                          rotate_left
                          · (intro w hSw; (try dsimp only at hSw); go_simp; try with_reducible rfl)
                          simp only [Act.put, List.setIfInBounds_toArray, List.set_cons_zero, List.set_cons_succ]
                          refine wpAnyH_take (i := 6) (oi := { dst := some 127, op := Op.pick (Operand.tmp 123) (Operand.const (Value.bool true)) (Operand.tmp 126), type := 4, pos := "law.go:99", after := #[{ on := 2, ground := Ground.data }, { on := 5, ground := Ground.data }], guard := none }) (v := ?_) rfl (by kernel_rfl) (by kernel_rfl) (by kernel_rfl) (fun _ _ _ h => h) (Or.inl ⟨by rfl, ?_⟩) (by assumption) ?_
                          rotate_left
                          · (intro w hSw; (try dsimp only at hSw); go_simp; try with_reducible rfl)
                          simp only [Act.put, List.setIfInBounds_toArray, List.set_cons_zero, List.set_cons_succ]
                          refine wpAnyH_take (i := 7) (oi := { dst := some 128, op := Op.move (Operand.tmp 127), type := 4, pos := "law.go:99", after := #[{ on := 6, ground := Ground.data }, { on := 2, ground := Ground.chain }], guard := none }) (v := ?_) rfl (by kernel_rfl) (by kernel_rfl) (by kernel_rfl) (fun _ _ _ h => h) (Or.inl ⟨by rfl, ?_⟩) (by assumption) ?_
                          rotate_left
                          · (intro w hSw; (try dsimp only at hSw); go_simp; try with_reducible rfl)
                          simp only [Act.put, List.setIfInBounds_toArray, List.set_cons_zero, List.set_cons_succ]
                          refine wpAnyH_take (i := 8) (oi := { dst := some 129, op := Op.fieldAddr 40 (Operand.tmp 13) 3, type := 0, pos := "law.go:99", after := #[{ on := 7, ground := Ground.guard }], guard := some (7, false) }) (v := ?_) rfl (by kernel_rfl) (by kernel_rfl) (by kernel_rfl) (fun _ _ _ h => h) (Or.inl ⟨by rfl, ?_⟩) (by assumption) ?_
                          rotate_left
                          · (intro w hSw; (try dsimp only at hSw); go_simp; try with_reducible rfl)
                          simp only [Act.put, List.setIfInBounds_toArray, List.set_cons_zero, List.set_cons_succ]
                          refine wpAnyH_take (i := 9) (oi := { dst := some 130, op := Op.load 28 (Operand.tmp 129), type := 28, pos := "law.go:99", after := #[{ on := 8, ground := Ground.data }, { on := 7, ground := Ground.guard }], guard := some (7, false) }) (v := ?_) rfl (by kernel_rfl) (by kernel_rfl) (by kernel_rfl) (fun _ _ _ h => h) (Or.inl ⟨by rfl, ?_⟩) (by assumption) ?_
                          rotate_left
                          · (intro w hSw; (try dsimp only at hSw); have y0 := pw_cell_below hSw ((blk_cell X10.out 3).trans rfl); go_simp; try with_reducible rfl)
                          simp only [Act.put, List.setIfInBounds_toArray, List.set_cons_zero, List.set_cons_succ]
                          refine wpAnyH_take (i := 10) (oi := { dst := some 131, op := Op.fieldAddr 33 (Operand.tmp 14) 0, type := 0, pos := "law.go:99", after := #[{ on := 7, ground := Ground.guard }], guard := some (7, false) }) (v := ?_) rfl (by kernel_rfl) (by kernel_rfl) (by kernel_rfl) (fun _ _ _ h => h) (Or.inl ⟨by rfl, ?_⟩) (by assumption) ?_
                          rotate_left
                          · (intro w hSw; (try dsimp only at hSw); go_simp; try with_reducible rfl)
                          simp only [Act.put, List.setIfInBounds_toArray, List.set_cons_zero, List.set_cons_succ]
                          refine wpAnyH_take (i := 11) (oi := { dst := some 132, op := Op.load 5 (Operand.tmp 131), type := 5, pos := "law.go:99", after := #[{ on := 10, ground := Ground.data }, { on := 7, ground := Ground.guard }], guard := some (7, false) }) (v := ?_) rfl (by kernel_rfl) (by kernel_rfl) (by kernel_rfl) (fun _ _ _ h => h) (Or.inl ⟨by rfl, ?_⟩) (by assumption) ?_
                          rotate_left
                          · (intro w hSw; (try dsimp only at hSw); have y0 := pw_cell_below hSw ((blk_cell XI2.out 0).trans rfl); go_simp; try with_reducible rfl)
                          simp only [Act.put, List.setIfInBounds_toArray, List.set_cons_zero, List.set_cons_succ]
                          refine wpAnyH_take (i := 12) (oi := { dst := some 133, op := Op.convert 5 3 (Operand.tmp 132), type := 3, pos := "law.go:99", after := #[{ on := 11, ground := Ground.data }, { on := 7, ground := Ground.guard }], guard := some (7, false) }) (v := ?_) rfl (by kernel_rfl) (by kernel_rfl) (by kernel_rfl) (fun _ _ _ h => h) (Or.inl ⟨by rfl, ?_⟩) (by assumption) ?_
                          rotate_left
                          · (intro w hSw; (try dsimp only at hSw); go_simp; try with_reducible rfl)
                          simp only [Act.put, List.setIfInBounds_toArray, List.set_cons_zero, List.set_cons_succ]
                          refine wpAnyH_take (i := 15) (oi := { dst := some 136, op := Op.fieldAddr 33 (Operand.tmp 14) 1, type := 0, pos := "law.go:99", after := #[{ on := 7, ground := Ground.guard }], guard := some (7, false) }) (v := ?_) rfl (by kernel_rfl) (by kernel_rfl) (by kernel_rfl) (fun _ _ _ h => h) (Or.inl ⟨by rfl, ?_⟩) (by assumption) ?_
                          rotate_left
                          · (intro w hSw; (try dsimp only at hSw); go_simp; try with_reducible rfl)
                          simp only [Act.put, List.setIfInBounds_toArray, List.set_cons_zero, List.set_cons_succ]
                          refine wpAnyH_take (i := 16) (oi := { dst := some 137, op := Op.load 27 (Operand.tmp 136), type := 27, pos := "law.go:99", after := #[{ on := 15, ground := Ground.data }, { on := 7, ground := Ground.guard }], guard := some (7, false) }) (v := ?_) rfl (by kernel_rfl) (by kernel_rfl) (by kernel_rfl) (fun _ _ _ h => h) (Or.inl ⟨by rfl, ?_⟩) (by assumption) ?_
                          rotate_left
                          · (intro w hSw; (try dsimp only at hSw); have y0 := pw_cell_below hSw ((blk_cell XI2.out 1).trans rfl); go_simp; try with_reducible rfl)
                          simp only [Act.put, List.setIfInBounds_toArray, List.set_cons_zero, List.set_cons_succ]
                          refine wpAnyH_ready (rs := [13]) (by kernel_rfl) (by simp) ?_
                          refine AllReadyH.cons (o := { dst := some 134, op := Op.call { callee := Callee.value (Operand.func 16), args := #[Operand.tmp 130, Operand.tmp 133], argTypes := #[28, 3] }, type := 27, pos := "law.go:99", after := #[{ on := 9, ground := Ground.data }, { on := 12, ground := Ground.data }, { on := 7, ground := Ground.chain }, { on := 7, ground := Ground.guard }], guard := some (7, false) }) rfl (fun K hK => ?_) AllReadyH.nil
                          go_simp
                          go_at_call 16
                          refine (unisonref04_At.calls A4 c4 y.f3 f _ _ (Kd.C_below G4.out (below_step L10.out.below hHeld)) l4 (at_f y.f3 HF.out.1)).mono ?_
                          rintro e wa ⟨rfl, hd⟩
                          have hb0 := hd.below
                          try go_wp2_with fail
                          refine hK.out _ _ (below_step hHeld hb0) (fun hHeld => ?_)
                          clear hK K
                          try simp only [Act.put, List.setIfInBounds_toArray, List.set_cons_zero, List.set_cons_succ]
                          refine wpAnyH_take (i := 14) (oi := { dst := some 135, op := Op.binOp BinOp.add 27 (Operand.tmp 134) (Operand.const (Value.int IntKind.u64 1)) 27, type := 27, pos := "law.go:99", after := #[{ on := 13, ground := Ground.data }, { on := 7, ground := Ground.guard }], guard := some (7, false) }) (v := ?_) rfl (by kernel_rfl) (by kernel_rfl) (by kernel_rfl) (fun _ _ _ h => h) (Or.inl ⟨by rfl, ?_⟩) (by assumption) ?_
                          rotate_left
                          · (intro w hSw; (try dsimp only at hSw); go_simp; try with_reducible rfl)
                          simp only [Act.put, List.setIfInBounds_toArray, List.set_cons_zero, List.set_cons_succ]
                          refine wpAnyH_take (i := 17) (oi := { dst := some 138, op := Op.binOp BinOp.neq 27 (Operand.tmp 135) (Operand.tmp 137) 27, type := 4, pos := "law.go:99", after := #[{ on := 14, ground := Ground.data }, { on := 16, ground := Ground.data }, { on := 7, ground := Ground.guard }], guard := some (7, false) }) (v := ?_) rfl (by kernel_rfl) (by kernel_rfl) (by kernel_rfl) (fun _ _ _ h => h) (Or.inl ⟨by rfl, ?_⟩) (by assumption) ?_
                          rotate_left
                          · (intro w hSw; (try dsimp only at hSw); go_simp; try with_reducible rfl)
                          simp only [Act.put, List.setIfInBounds_toArray, List.set_cons_zero, List.set_cons_succ]
                          refine wpAnyH_take (i := 18) (oi := { dst := some 139, op := Op.pick (Operand.tmp 128) (Operand.const (Value.bool true)) (Operand.tmp 138), type := 4, pos := "law.go:99", after := #[{ on := 7, ground := Ground.data }, { on := 17, ground := Ground.data }], guard := none }) (v := ?_) rfl (by kernel_rfl) (by kernel_rfl) (by kernel_rfl) (fun _ _ _ h => h) (Or.inl ⟨by rfl, ?_⟩) (by assumption) ?_
                          rotate_left
                          · (intro w hSw; (try dsimp only at hSw); go_simp; try with_reducible rfl)
                          simp only [Act.put, List.setIfInBounds_toArray, List.set_cons_zero, List.set_cons_succ]
                          refine wpAnyH_done (by kernel_rfl) ?_ _
                          go_wp2_with fail
                          go_roundg (l3.length - (i + 1))
                          case measure => omega
                          case rel => exact ⟨i + 1, by go_num, by omega, Nat.le_refl _, _, _, _, _, ⟨L10.out.step hHeld⟩, ⟨NS.out.2.1.trans PI.out.1, by have h1 := NS.out.2.2; have h2 := PI.out.2; omega⟩⟩
              · have hd0 : (y.f0 == 0) = false := beq_eq_false_iff_ne.2 hk0
                have hd0' : (y.f0 != 0) = true := by rw [bne_iff_ne]; exact hk0
                have L9 := Aside0.mk (LC.out.step (below_alloc (Below.refl wc.heap.size wc) (.cells #[.int .i64 y.f1] tI64)))
                have GC := Aside0.mk (Gone_calls L9.out.m y.f1 wc.heap.size 1 ((blk_cell (blk_new wc _) 0).trans rfl))
                clear hk0 hk1
                go_wp2_with fail
                refine GC.out.mono ?_
                rintro e w8 ⟨rfl, hM, hb⟩
                obtain ⟨SM', hL⟩ := L9.out.mat (hM.mono (fun k hk => .inl hk)) hb
                have LN := Aside0.mk hL
                clear hM hb hL GC
                go_wp2_with fail
                go_roundg (l3.length - (i + 1))
                case measure => omega
                case rel => exact ⟨i + 1, by go_num, by omega, Nat.le_refl _, _, _, _, _, LN, ⟨PI.out.1, by have := PI.out.2; omega⟩⟩
        · obtain rfl : i = l3.length := by omega
          have hltz : ¬ (l3.length : Int) < (l3.length : Int) := by omega
          go_wp2_with fail
          refine (awake_calls _).mono ?_
          rintro e w8 ⟨rfl, hb⟩
          have B8 := Aside0.mk (below_step LI.out.below hb)
          clear hb
          go_wp2_with fail
          go_ret
          exact ⟨rfl, B8.out⟩

end Go.Proofs.Ytncofecfljocgaa.Walk
