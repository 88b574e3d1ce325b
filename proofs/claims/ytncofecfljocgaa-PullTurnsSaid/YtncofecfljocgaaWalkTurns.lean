/- PullTurns. Conditions: none beyond the statement's own. -/
import Derived.Test.YtncofecfljocgaaWalkTurnsQ
import Derived.Test.YtncofecfljocgaaArgs
import Derived.Deep.QuietTactic
import Derived.BigQuiet
import Derived.Lib.QuietBelow
import Derived.Outline
import Derived.Deep.RegionHeld3
import Derived.Deep.CutRange
namespace Go.Proofs.Ytncofecfljocgaa.Walk
open Go.RowKit Go.Proofs.Ytncofecfljocgaa.F Go.Proofs.YtncofecfljocgaaW.PrintWords Go.Proofs.YtncofecfljocgaaW.PrintLast Go.Proofs.YtncofecfljocgaaW.PrintMore Go.Proofs.Ytncofecfljocgaa.Open
open Go.Sort (grow)
attribute [local go_sem] max2_int min2_int max_two min_two max_three min_three max_four min_four
set_option linter.unusedVariables false
set_option linter.unusedSimpArgs false

/-! ### PullTurns -/
section
variable {w0 w w1 : World} {SM SP : Nat → Prop} {gm rb cp x : Nat} {L L' : List X} {p p' : Pu}
theorem LW.pul2 (h : LW w0 w SM SP gm rb cp x L p) (hp : Pul w1 (fun k => SP k ∨ w.heap.size ≤ k) x p') (hb : Beside SP w w1) : ∃ SP', LW w0 w1 SM SP' gm rb cp x L p' ∧ ∀ k, k < w.heap.size → ¬ SP k → ¬ SP' k := by
  refine ⟨fun k => (SP k ∨ w.heap.size ≤ k) ∧ k < w1.heap.size, ⟨h.m.beside hb h.d, hp.bound, fun k hk hk2 => ?_, fun k hk => ⟨(h.sm k hk).1, Nat.lt_of_lt_of_le (h.sm k hk).2 hb.size⟩, fun k hk => ⟨hk.1.elim (fun h1 => (h.sp k h1).1) (fun h1 => Nat.le_trans h.below.size h1), hk.2⟩, Beside.step h.below hb (fun k hk => (h.sp k hk).1)⟩, fun k hk hn hk2 => ?_⟩
  · rcases hk2.1 with h1 | h1
    · exact h.d k hk h1
    · have := (h.sm k hk).2; omega
  · rcases hk2.1 with h1 | h1
    · exact hn h1
    · omega
theorem LW.next2 (h : LW w0 w SM SP gm rb cp x L p) {Ah : Option Addr} {ch : Nat} {held : List Int} (hH : ∀ W, Beside SP w W → Kd.C kU W Ah held.length held) (hc : held.length ≤ ch) (now : Int) (hct : p.count < 1000000) :
    Calls Try.prog 11 #[.pointer (some ⟨x, 0, none⟩), .int .i64 now, .slice Ah held.length ch, .pointer (some ⟨gm, 0, none⟩), .slice none 0 0] w fun e w' => e = .returned (.tuple #[.agg #[.int .u8 (nextP p now held [] (holders L)).2.1, .int .u64 (nextP p now held [] (holders L)).2.2.1], .int .i64 (nextP p now held [] (holders L)).2.2.2.1, .bool (nextP p now held [] (holders L)).2.2.2.2]) ∧ (∃ SP', LW w0 w' SM SP' gm rb cp x L (nextP p now held [] (holders L)).1 ∧ ∀ k, k < w.heap.size → ¬ SP k → ¬ SP' k) ∧ Beside SP w w' :=
  (Next_calls h.p (fun k hk => (h.sp k hk).2) (env_of (As := none) (cs := 0) (skip := []) h.m h.d hH hc (fun W _ => Kd.C_nil _ _) (Nat.le_refl _) (by simp)) now hct).mono fun e w' ⟨he, hp, hb⟩ => ⟨he, h.pul2 hp hb, hb⟩
end
theorem LW.far {w0 w w1 : World} {SM SP : Nat → Prop} {gm rb cp x b : Nat} {L : List X} {p : Pu} (h : LW w0 w SM SP gm rb cp x L p) (hb : Beside (fun k => k = b) w w1) (h1 : ¬ SM b) (h2 : ¬ SP b) (h3 : w0.heap.size ≤ b) : LW w0 w1 SM SP gm rb cp x L p :=
  ⟨h.m.beside hb (fun k hk e => h1 ((show k = b from e) ▸ hk)), h.p.beside hb (fun k hk e => h2 ((show k = b from e) ▸ hk)), h.d, fun k hk => ⟨(h.sm k hk).1, Nat.lt_of_lt_of_le (h.sm k hk).2 hb.size⟩, fun k hk => ⟨(h.sp k hk).1, Nat.lt_of_lt_of_le (h.sp k hk).2 hb.size⟩, Beside.step h.below hb (fun k hk => by rw [show k = b from hk]; exact h3)⟩
theorem range_filter_succ (t : Nat → Bool) (i : Nat) : ((List.range (i + 1)).filter t).length = ((List.range i).filter t).length + (if t i = true then 1 else 0) := by
  rw [List.range_succ, List.filter_append, List.length_append]
  congr 1
  cases h : t i <;> simp [h]
set_option maxHeartbeats 16000000 in
set_option maxRecDepth 100000 in
theorem PullTurns (n me again : Int) (A3 : Option Addr) (c3 : Nat) (l3 : List Bool) (w : World) (hr : Kd.C Kd.bool w A3 l3.length l3) (hc : l3.length ≤ c3) (v0_ : (Lit.int .i64 n).wf = true) (v1_ : (Lit.int .i64 me).wf = true) (v2_ : (Lit.int .i64 again).wf = true) (hw : l3.length ≤ maxLen ∧ ∀ x ∈ l3, True) :
    Calls Try.prog 3 #[.int .i64 n, .int .i64 me, .int .i64 again, .slice A3 l3.length c3] w fun e w' => e = .returned (.bool true) ∧ Below w.heap.size w w' := by
  have HR := Aside0.mk hr
  clear v0_ v1_ v2_ hr hw
  by_cases d0 : n < 2
  · have e0 : decide (n < 2) = true := decide_eq_true d0
    go_enter Try.func3, Try.ntmps3
    go_wp2_with fail
    refine (awake_calls _).mono ?_
    rintro e w2 ⟨rfl, hb⟩
    have B2 := Aside0.mk hb
    clear hb
    go_wp2_with fail
    go_ret
    exact ⟨rfl, B2.out⟩
  have e0 : decide (n < 2) = false := decide_eq_false d0
  by_cases d1 : n > 20
  · have e1 : decide (n > 20) = true := decide_eq_true d1
    go_enter Try.func3, Try.ntmps3
    go_wp2_with fail
    refine (awake_calls _).mono ?_
    rintro e w2 ⟨rfl, hb⟩
    have B2 := Aside0.mk hb
    clear hb
    go_wp2_with fail
    go_ret
    exact ⟨rfl, B2.out⟩
  have e1 : decide (n > 20) = false := decide_eq_false d1
  by_cases d2 : (l3.length : Int) > 100
  · have e2 : decide ((l3.length : Int) > 100) = true := decide_eq_true d2
    go_enter Try.func3, Try.ntmps3
    go_wp2_with fail
    refine (awake_calls _).mono ?_
    rintro e w2 ⟨rfl, hb⟩
    have B2 := Aside0.mk hb
    clear hb
    go_wp2_with fail
    go_ret
    exact ⟨rfl, B2.out⟩
  have e2 : decide ((l3.length : Int) > 100) = false := decide_eq_false d2
  by_cases d3 : me < 0
  · have e3 : decide (me < 0) = true := decide_eq_true d3
    go_enter Try.func3, Try.ntmps3
    go_wp2_with fail
    refine (awake_calls _).mono ?_
    rintro e w2 ⟨rfl, hb⟩
    have B2 := Aside0.mk hb
    clear hb
    go_wp2_with fail
    go_ret
    exact ⟨rfl, B2.out⟩
  have e3 : decide (me < 0) = false := decide_eq_false d3
  by_cases d4 : me ≥ n
  · have e4 : decide (me ≥ n) = true := decide_eq_true d4
    go_enter Try.func3, Try.ntmps3
    go_wp2_with fail
    refine (awake_calls _).mono ?_
    rintro e w2 ⟨rfl, hb⟩
    have B2 := Aside0.mk hb
    clear hb
    go_wp2_with fail
    go_ret
    exact ⟨rfl, B2.out⟩
  have e4 : decide (me ≥ n) = false := decide_eq_false d4
  by_cases d5 : again < 1
  · have e5 : decide (again < 1) = true := decide_eq_true d5
    go_enter Try.func3, Try.ntmps3
    go_wp2_with fail
    refine (awake_calls _).mono ?_
    rintro e w2 ⟨rfl, hb⟩
    have B2 := Aside0.mk hb
    clear hb
    go_wp2_with fail
    go_ret
    exact ⟨rfl, B2.out⟩
  have e5 : decide (again < 1) = false := decide_eq_false d5
  by_cases d6 : again > 1000
  · have e6 : decide (again > 1000) = true := decide_eq_true d6
    go_enter Try.func3, Try.ntmps3
    go_wp2_with fail
    refine (awake_calls _).mono ?_
    rintro e w2 ⟨rfl, hb⟩
    have B2 := Aside0.mk hb
    clear hb
    go_wp2_with fail
    go_ret
    exact ⟨rfl, B2.out⟩
  have e6 : decide (again > 1000) = false := decide_eq_false d6
  obtain ⟨N, rfl⟩ : ∃ N : Nat, n = N := ⟨n.toNat, by omega⟩
  have hN2 : 2 ≤ N := by omega
  have hN20 : N ≤ 20 := by omega
  have hnn : nn (N : Int) = N := by
    unfold nn
    rw [if_neg (by omega), if_pos (by omega)]
    omega
  have hlen : l3.length ≤ 100 := by omega
  go_enter Try.func3, Try.ntmps3
  go_wp2_with fail
  refine (New_calls N _).mono ?_
  rintro e w1 ⟨gm, rb, cp, rfl, hM, hb1⟩
  rw [hnn, ← LT_zero N me l3] at hM
  have M1 := Aside0.mk hM.bound
  have B1 := Aside0.mk hb1
  clear hM hb1 hnn
  go_wp2_with fail
  go_loopg [10, 11] N (fun gg s10 s11 wr => ∃ i : Nat, s11 = .int .i64 i ∧ i ≤ N ∧ N - i ≤ gg ∧ s10 = .int .i64 ((List.range i).filter (tl me l3)).length ∧ ∃ (SM : Nat → Prop), Aside0 (Mat wr SM gm rb cp (LT N me l3 i)) ∧ Aside0 (∀ k, SM k → w.heap.size ≤ k ∧ k < wr.heap.size) ∧ Aside0 (Below w.heap.size w wr))
  case atStart => exact ⟨0, rfl, Nat.zero_le _, by omega, rfl, _, M1, ⟨fun k hk => hk⟩, B1⟩
  case round =>
    clear M1 B1
    obtain ⟨i, rfl, hi, hgg, rfl, SM, MI, SI, BI⟩ := hrel
    by_cases hlt : i < N
    · have hltz : (i : Int) < (N : Int) := by omega
      have hwi : IntKind.i64.wrap ((i : Int) + 1) = ((i + 1 : Nat) : Int) := by rw [IntKind.wrap_i64]; omega
      have RF := Aside0.mk (range_filter_succ (tl me l3) i)
      have hcl : ((List.range i).filter (tl me l3)).length ≤ i := by
        have := List.length_filter_le (tl me l3) (List.range i)
        simpa using this
      obtain ⟨c, hcc⟩ : ∃ c, c = ((List.range i).filter (tl me l3)).length := ⟨_, rfl⟩
      rw [← hcc] at RF hcl ⊢
      have hwc : IntKind.i64.wrap ((c : Int) + 1) = ((c + 1 : Nat) : Int) := by rw [IntKind.wrap_i64]; omega
      clear hcc
      by_cases ht : tl me l3 i = true
      · have ht2 := ht
        unfold tl at ht2
        rw [Bool.and_eq_true, decide_eq_true_eq] at ht2
        have hil : i < l3.length := by
          rcases Nat.lt_or_ge i l3.length with h | h
          · exact h
          · rw [List.getD_eq_getElem?_getD, List.getElem?_eq_none h] at ht2
            cases ht2.1
        have hilz : (i : Int) < (l3.length : Int) := by omega
        have hme' : ((i : Int) != me) = true := by rw [bne_iff_ne]; exact ht2.2
        obtain ⟨ad, cs, e, _, hK, hcc⟩ := Kd.C_get (Kd.C_below HR.out BI.out) false (i : Int) (by omega) hilz
        cases e
        rw [Int.toNat_natCast] at hK hcc
        rw [ht2.1] at hK
        have hK : cs = [.bool true] := hK
        subst hK
        have k0 : wr.cell? (ad.add i) = some (.bool true) := by
          have := hcc 0 _ rfl
          rwa [show i * Kd.bool.sz + 0 = i from Nat.mul_one _] at this
        have LS := Aside0.mk (LT_yes hlt ht)
        have RF2 : Aside0 (((List.range (i + 1)).filter (tl me l3)).length = c + 1) := ⟨by rw [RF.out, if_pos ht]⟩
        have LB := Aside0.mk (blk_new wr (.cells #[.int .u64 1] tU))
        have MB := Aside0.mk (MI.out.below (below_alloc (Below.refl wr.heap.size wr) (.cells #[.int .u64 1] tU)))
        have BB := Aside0.mk (below_alloc BI.out (.cells #[.int .u64 1] tU))
        have ZB : Aside0 (wr.heap.size ≤ (wr.alloc (.cells #[.int .u64 1] tU)).heap.size) := ⟨by simp⟩
        have TC := Aside0.mk (Tell_calls MB.out (i : Int) 0 (A := none) (B := some ⟨wr.heap.size, 0, none⟩) (c := 0) (d := 1) (a := []) (b := [1]) (Kd.C_nil _ _) (one_U LB.out) (Nat.le_refl _) (Nat.le_refl _) (by decide) (by decide) (fun w' _ => Kd.C_nil _ _) (fun w' hw' => one_U (hw'.blk LB.out (fun h => by have := (SI.out _ h).2; omega))) (by decide) (fun x hx => by cases hx) (fun x hx => by rw [List.mem_singleton.1 hx]; decide))
        clear hcc ht ht2 RF LB MB
        go_wp2_with fail
        refine TC.out.mono ?_
        rintro e w3 ⟨rfl, hM, hb⟩
        rw [LS.out] at hM
        have M3 := Aside0.mk hM.bound
        have B3 := Aside0.mk (Beside.step BB.out hb (fun k hk => (SI.out k hk).1))
        have S3 : Aside0 (∀ k, ((SM k ∨ (wr.alloc (.cells #[.int .u64 1] tU)).heap.size ≤ k) ∧ k < w3.heap.size) → w.heap.size ≤ k ∧ k < w3.heap.size) := ⟨fun k hk => ⟨hk.1.elim (fun h => (SI.out k h).1) (fun h => Nat.le_trans (Nat.le_trans BI.out.size ZB.out) h), hk.2⟩⟩
        clear hM hb TC
        go_wp2_with fail
        go_roundg (N - (i + 1))
        case measure => omega
        case rel => exact ⟨i + 1, by go_num, by omega, Nat.le_refl _, by rw [RF2.out]; go_num, _, M3, S3, B3⟩
      · have htf : tl me l3 i = false := by
          cases h : tl me l3 i with
          | false => rfl
          | true => exact absurd h ht
        have LS := Aside0.mk (LT_no (n := N) htf)
        have RF2 : Aside0 (((List.range (i + 1)).filter (tl me l3)).length = c) := ⟨by rw [RF.out, if_neg ht]; rfl⟩
        have MN : Aside0 (Mat wr SM gm rb cp (LT N me l3 (i + 1))) := ⟨by rw [LS.out]; exact MI.out⟩
        by_cases hil : i < l3.length
        · have hilz : (i : Int) < (l3.length : Int) := by omega
          obtain ⟨ad, cs, e, _, hK, hcc⟩ := Kd.C_get (Kd.C_below HR.out BI.out) false (i : Int) (by omega) hilz
          cases e
          rw [Int.toNat_natCast] at hK hcc
          cases hg : l3.getD i false with
          | true =>
            rw [hg] at hK
            have hK : cs = [.bool true] := hK
            subst hK
            have k0 : wr.cell? (ad.add i) = some (.bool true) := by
              have := hcc 0 _ rfl
              rwa [show i * Kd.bool.sz + 0 = i from Nat.mul_one _] at this
            have hme' : ((i : Int) != me) = false := by
              unfold tl at htf
              rw [hg, Bool.true_and, decide_eq_false_iff_not, Classical.not_not] at htf
              rw [htf]
              simp
            clear hcc ht htf RF hg
            go_wp2_with fail
            go_roundg (N - (i + 1))
            case measure => omega
            case rel => exact ⟨i + 1, by go_num, by omega, Nat.le_refl _, by rw [RF2.out], _, MN, SI, BI⟩
          | false =>
            rw [hg] at hK
            have hK : cs = [.bool false] := hK
            subst hK
            have k0 : wr.cell? (ad.add i) = some (.bool false) := by
              have := hcc 0 _ rfl
              rwa [show i * Kd.bool.sz + 0 = i from Nat.mul_one _] at this
            clear hcc ht htf RF hg
            go_wp2_with fail
            go_roundg (N - (i + 1))
            case measure => omega
            case rel => exact ⟨i + 1, by go_num, by omega, Nat.le_refl _, by rw [RF2.out], _, MN, SI, BI⟩
        · have hilz : ¬ (i : Int) < (l3.length : Int) := by omega
          clear ht htf RF
          go_wp2_with fail
          go_roundg (N - (i + 1))
          case measure => omega
          case rel => exact ⟨i + 1, by go_num, by omega, Nat.le_refl _, by rw [RF2.out], _, MN, SI, BI⟩
    · obtain rfl : i = N := by omega
      have hltz : ¬ (i : Int) < (i : Int) := by omega
      obtain ⟨HL, hHL⟩ : ∃ HL, HL = HLt i me l3 := ⟨_, rfl⟩
      have hmany : ((List.range i).filter (tl me l3)).length = HL.length := by rw [hHL]; unfold HLt; simp
      rw [hmany]
      have HOK : Aside0 (HLok (i : Int) me HL) := ⟨by rw [hHL]; exact HLt_ok hN2 hN20 (by omega)⟩
      have H01 : Aside0 (holders (LT i me l3 i) 0 1 = HL) := ⟨by rw [hHL]; exact holders_01 hN2 me l3⟩
      have HL20 : HL.length ≤ 20 := by
        rw [← hmany]
        have := List.length_filter_le (tl me l3) (List.range i)
        simp at this
        omega
      have H02 := Aside0.mk (holders_02 hN2 me l3 i)
      have HF1 : Aside0 (∀ f, 1 ≤ f → holders (LT i me l3 i) f 1 = []) := ⟨fun f hf => holders_f1 me l3 i hf⟩
      generalize LT i me l3 i = L at MI H01 H02 HF1
      clear hHL hmany
      go_wp2_with fail
      refine (NewP_calls (i : Int) me again _).mono ?_
      rintro e w2 ⟨x, rfl, hP, hb2⟩
      have PE : newP (i : Int) me again = ⟨i, me, again, none, (i : Int) - 1, me, 0⟩ := by
        have e1 : clmp 1 64 (i : Int) = i := by unfold clmp; rw [if_neg (show ¬ (64 : Int) < i by omega)]; split <;> omega
        have e2 : clmp 0 ((i : Int) - 1) me = me := by unfold clmp; rw [if_neg (show ¬ (i : Int) - 1 < me by omega)]; split <;> omega
        have e3 : clmp 1 1099511627776 again = again := by unfold clmp; rw [if_neg (show ¬ (1099511627776 : Int) < again by omega)]; split <;> omega
        unfold newP
        rw [e1, e2, e3]
      rw [PE] at hP
      have LW0 := Aside0.mk (LW.make (MI.out.mono (fun k hk => (SI.out k hk).1)) BI.out hP hb2)
      have ZW2 := Aside0.mk hb2.size
      clear hP hb2 PE MI SI BI
      go_upto_region 13 with ((with_reducible refine gate_dst (N := 86) rfl ?_); refine Kd.R_make kI (w0 := w2) w2.heap.size tI64 rfl rfl 31 (.const (.int .i64 20)) (.const (.int .i64 20)) rfl 20 rfl rfl Try.underlying31 _ 8 infoI64 rfl (by decide) (by decide) 0 (ok := fun _ => True) (okp := fun _ => False) rfl (fun _ h => h.elim) trivial (by decide) (by decide) (Below.refl _ _) (Nat.le_refl _) ?_; intro v1 w3 hR hb hg hv; have R3 : Aside0 (Kd.R kI tI64 w3 w2.heap.size (fun _ => True) v1 (List.replicate 20 0)) := ⟨hR⟩; have B3 := Aside0.mk hb; clear hR hb hg hv)
      obtain ⟨mb, cb, e, hmb, hcb, hmb2⟩ := I_block R3.out (by decide)
      subst e
      rw [show (List.replicate 20 (0 : Int)).length = 20 from rfl] at R3 ⊢
      have R3 : Aside0 (RI w3 w2.heap.size mb 20 cb (List.replicate 20 0)) := ⟨R3.out⟩
      have LW3 := Aside0.mk (LW0.out.step B3.out)
      have NM : Aside0 (¬ (w.heap.size ≤ mb ∧ mb < wr.heap.size) ∧ ¬ (wr.heap.size ≤ mb ∧ mb < w2.heap.size)) := ⟨by have := ZW2.out; omega, by omega⟩
      have MBB : Aside0 (w.heap.size ≤ mb) := ⟨Nat.le_trans LW0.out.below.size hmb⟩
      have PT0 := Aside0.mk (PT.start HOK.out)
      have PS0 : Aside0 (PS (i : Int) me again 0 0 ⟨i, me, again, none, (i : Int) - 1, me, 0⟩) := ⟨rfl, rfl, rfl, rfl, by dsimp only; omega, .inl ⟨rfl, rfl⟩⟩
      clear hmb hcb hmb2 LW0 B3
      obtain ⟨mn, hmn⟩ : ∃ mn, mn = HL.length := ⟨_, rfl⟩
      rw [← hmn] at HL20 ⊢
      have HMN := Aside0.mk hmn
      clear hmn
      obtain ⟨wb, hwb⟩ : ∃ wb, wb = w2.heap.size := ⟨_, rfl⟩
      rw [← hwb] at R3
      clear hwb
      go_wp2_with fail
      have hw2m : IntKind.i64.wrap (2 * (mn : Int)) = ((2 * mn : Nat) : Int) := by rw [IntKind.wrap_i64]; omega
      go_loopg [14, 15] (2 * mn) (fun gg s14 s15 wr => ∃ (j : Nat) (now : Int) (SM SP : Nat → Prop) (p : Pu) (met : List Int), s15 = .int .i64 j ∧ s14 = .int .i64 now ∧ Aside0 (now = j * again) ∧ j ≤ 2 * mn ∧ 2 * mn - j ≤ gg ∧ Aside0 (LW w wr SM SP gm rb cp x L p) ∧ Aside0 (PS (i : Int) me again j now p) ∧ Aside0 (PT (i : Int) me HL j p.last met) ∧ Aside0 (RI wr wb mb 20 cb met) ∧ Aside0 (¬ SM mb ∧ ¬ SP mb))
      case atStart => exact ⟨0, 0, _, _, _, _, rfl, rfl, ⟨by simp⟩, Nat.zero_le _, by omega, LW3, PS0, PT0, R3, NM⟩
      case round =>
        clear LW3 PS0 PT0 R3 NM
        obtain ⟨j, now, SM, SP, p, met, rfl, rfl, NOW, hj, hgg, LI, PI, TI, RM, NI⟩ := hrel
        have hjb : (j : Int) * again ≤ 40 * 1000 := by
          have h1 : (j : Int) ≤ 40 := by omega
          exact Int.mul_le_mul h1 (by omega) (by omega) (by omega)
        have hj0 : 0 ≤ (j : Int) * again := Int.mul_nonneg (by omega) (by omega)
        have hnow : 0 ≤ now ∧ now ≤ 40000 := by have := NOW.out; omega
        have hwj : IntKind.i64.wrap ((j : Int) + 1) = ((j + 1 : Nat) : Int) := by rw [IntKind.wrap_i64]; omega
        have hwn : IntKind.i64.wrap (now + again) = now + again := by rw [IntKind.wrap_i64]; omega
        have hwn1 : IntKind.i64.wrap (now + again - 1) = now + again - 1 := by rw [IntKind.wrap_i64]; omega
        clear hjb hj0
        by_cases hlt : j < 2 * mn
        · have hltz : (j : Int) < ((2 * mn : Nat) : Int) := by omega
          have hmp : 0 < HL.length := by have := HMN.out; omega
          obtain ⟨y, p', hy, hnx, hpn, hpm, hpa, hpc, hpl, hpw⟩ := PI.out.one HOK.out H01.out hmp (by omega)
          have N2 := PS.two hpn hpm hpa hpw HOK.out H01.out hmp (by omega) (by omega)
          obtain ⟨hyH, hmy, TN⟩ := TI.out.next HOK.out PI.out.hla hmp hy
          have hyb := HOK.out.mem y hyH
          obtain ⟨Y, rfl⟩ : ∃ Y : Nat, y = Y := ⟨y.toNat, by omega⟩
          rw [Int.toNat_natCast] at hmy TN
          have hY20 : Y < 20 := by omega
          have PN : Aside0 (PS (i : Int) me again (j + 1) (now + again) p') := ⟨hpn, hpm, hpa, by rw [hpc]; push_cast; rfl, by rw [hpl]; exact ⟨hyb.1, hyb.2.1⟩, .inr ⟨now, hpw, rfl⟩⟩
          have TN : Aside0 (PT (i : Int) me HL (j + 1) p'.last (met.set Y (met.getD Y 0 + 1))) := ⟨by rw [hpl]; exact TN⟩
          have NX := LI.out.next2 (Ah := none) (ch := 0) (held := []) (fun W _ => Kd.C_nil _ _) (Nat.le_refl _) now (by rw [PI.out.hct]; omega)
          rw [hnx] at NX
          dsimp only at NX
          have NX := Aside0.mk NX
          have N2 := Aside0.mk N2
          have HMY := Aside0.mk hmy
          have PC := Aside0.mk hpc
          have hu := Try.underlying33
          clear hy hnx hpn hpm hpa hpl hpw hyH hmy hyb hpc
          go_wp2_with fail
          refine NX.out.mono ?_
          rintro e w4 ⟨rfl, ⟨SP', hL, hS⟩, hb⟩
          have L4 := Aside0.mk hL
          have RM4 : Aside0 (RI w4 wb mb 20 cb met) := ⟨Kd.R_step (Kd.R_tight rfl RM.out) (fun k hk hlt => by
            have hk : some k = (Value.slice (some ⟨mb, 0, none⟩) 20 cb).ownBlock := hk
            simp only [Value.ownBlock, Option.some.injEq] at hk
            exact hb.block k hlt (by rw [hk]; exact NI.out.2)) |> fun h => Kd.R_mono h (fun _ _ => trivial)⟩
          have MLT : Aside0 (mb < wr.heap.size) := ⟨World.block_lt_of_cell? _ _ (I_elem RM.out (List.getElem?_eq_getElem (show 0 < met.length by rw [TI.out.len]; decide))).1⟩
          have NS4 := Aside0.mk (hS mb MLT.out NI.out.2)
          have Z4 := Aside0.mk hb.size
          clear hL hS hb NX RM
          have XI := Aside0.mk (blk_new w4 (.cells #[.int .u8 0, .int .u64 1] tID))
          have BA := below_alloc (Below.refl w4.heap.size w4) (.cells #[.int .u8 0, .int .u64 1] tID)
          have L5 := Aside0.mk (L4.out.step BA)
          have RM5 : Aside0 (RI _ wb mb 20 cb met) := ⟨Kd.R_below RM4.out BA⟩
          have NIB : Aside0 (¬ SP' w4.heap.size) := ⟨fun h => by have := (L4.out.sp _ h).2; omega⟩
          have NX2 := L5.out.next2 (Ah := none) (ch := 0) (held := []) (fun W _ => Kd.C_nil _ _) (Nat.le_refl _) (now + again - 1) (by rw [PC.out]; omega)
          rw [N2.out] at NX2
          dsimp only at NX2
          have NX2 := Aside0.mk NX2
          clear BA
          go_upto_region 18 with (fail)
          obtain ⟨ib, hib⟩ : ∃ ib, ib = w4.heap.size := ⟨_, rfl⟩
          rw [← hib] at XI NIB ⊢
          have IBE := Aside0.mk hib
          have Z5 : Aside0 (w4.heap.size < (w4.alloc (.cells #[.int .u8 0, .int .u64 1] tID)).heap.size) := ⟨by simp⟩
          clear hib L4 RM4
          generalize w4.alloc (.cells #[.int .u8 0, .int .u64 1] tID) = w5 at XI L5 RM5 NX2 Z5 ⊢
          go_wp2_with fail
          refine NX2.out.mono ?_
          rintro e w6 ⟨rfl, ⟨SP2, hL, hS⟩, hb⟩
          have L6 := Aside0.mk hL
          have XI6 := Aside0.mk (hb.blk XI.out NIB.out)
          have RM6 : Aside0 (RI w6 wb mb 20 cb met) := ⟨Kd.R_step (Kd.R_tight rfl RM5.out) (fun k hk hlt => by
            have hk : some k = (Value.slice (some ⟨mb, 0, none⟩) 20 cb).ownBlock := hk
            simp only [Value.ownBlock, Option.some.injEq] at hk
            exact hb.block k hlt (by rw [hk]; exact NS4.out)) |> fun h => Kd.R_mono h (fun _ _ => trivial)⟩
          have NS6 := Aside0.mk (hS mb (by have h1 := MLT.out; have h2 := Z4.out; have h3 := Z5.out; omega) NS4.out)
          clear hL hS hb NX2 L5 RM5 XI
          have XI7 := Aside0.mk (blk_alloc XI6.out (.cells #[.int .u8 0, .int .u64 0] tID))
          have L7 := Aside0.mk (L6.out.step (below_alloc (Below.refl w6.heap.size w6) (.cells #[.int .u8 0, .int .u64 0] tID)))
          have RM7 : Aside0 (RI _ wb mb 20 cb met) := ⟨Kd.R_alloc RM6.out (.cells #[.int .u8 0, .int .u64 0] tID)⟩
          go_upto_region 19 with (fail)
          clear XI6 L6 RM6
          generalize w6.alloc (.cells #[.int .u8 0, .int .u64 0] tID) = w7 at XI7 L7 RM7 ⊢
          have i0 : w7.cell? ⟨ib, 0, none⟩ = some (.int .u8 0) := (blk_cell XI7.out 0).trans rfl
          have i1 : w7.cell? ⟨ib, 1, none⟩ = some (.int .u64 1) := (blk_cell XI7.out 1).trans rfl
          have hYl : Y < met.length := by rw [TI.out.len]; exact hY20
          have hgv : met[Y]? = some (met.getD Y 0) := by rw [List.getD_eq_getElem?_getD, List.getElem?_eq_getElem hYl]; rfl
          obtain ⟨v, hv⟩ : ∃ v, v = met.getD Y 0 := ⟨_, rfl⟩
          rw [← hv] at hgv HMY TN
          obtain ⟨q0, f0⟩ := I_elem RM7.out hgv
          have hvb : v = ((j / mn : Nat) : Int) := by have h1 := HMY.out; have h2 := HMN.out; rw [h2]; exact h1
          have hv2 : j / mn ≤ 40 := Nat.le_trans (Nat.div_le_self _ _) (by omega)
          have hv0 : 0 ≤ v := by rw [hvb]; exact Int.natCast_nonneg _
          have hv40 : v ≤ 40 := by rw [hvb]; exact Int.ofNat_le.2 hv2
          have hwv0 : IntKind.i64.wrap v = v := by rw [IntKind.wrap_i64]; omega
          have hwv : IntKind.i64.wrap (v + 1) = v + 1 := by rw [IntKind.wrap_i64]; omega
          have HVB := Aside0.mk hvb
          have hYn : ¬ ((Y : Int) < 0) := by omega
          have hYm : ¬ ((Y : Int) > 19) := by omega
          have NR := Aside0.mk (Kd.R_putn RM7.out (Y : Int) (v + 1))
          rw [Int.toNat_natCast] at NR
          have SG := Aside0.mk ((Beside.refl (fun k => k = mb) w7).setCell (p := ⟨mb, Y, none⟩) rfl (.int .i64 (v + 1)))
          have NI7 : Aside0 (¬ SM mb ∧ ¬ SP2 mb) := ⟨NI.out.1, NS6.out⟩
          clear hv hgv hvb hv2 hYl
          go_upto_region 22 with (fail)
          have SG7 := SG
          have RG : Aside0 ((met.set Y (v + 1))[Y]? = some (v + 1)) := ⟨List.getElem?_set_self (by rw [TI.out.len]; exact hY20)⟩
          generalize w7.setCell ⟨mb, Y, none⟩ (.int .i64 (v + 1)) = w8 at NR SG ⊢
          obtain ⟨q1, _⟩ := I_elem NR.out RG.out
          have L8 := Aside0.mk (L7.out.far SG.out NI7.out.1 NI7.out.2 MBB.out)
          have hdv : (j : Int).tdiv (mn : Int) = v := by rw [HVB.out]; exact Int.ofNat_tdiv _ _
          have hdv2 : (j : Int) / (mn : Int) = v := by rw [HVB.out]; rfl
          have hmz : ¬ (mn : Int) = 0 := by omega
          have hmz2 : ((mn : Int) == 0) = false := beq_eq_false_iff_ne.2 hmz
          have hmz3 : ¬ mn = 0 := by omega
          clear q0 f0 RM7 L7 i0 i1 SG SG7 hYn hYm hv0 hv40
          go_quiet (fail)
          have L9 := Aside0.mk (L8.out.step (pw_below_drewN (Below.refl _ _) nq))
          have R9 : Aside0 (RI _ wb mb 20 cb (met.set Y (v + 1))) := ⟨Kd.R_drewN NR.out nq⟩
          go_wp2_with fail
          go_roundg (2 * mn - (j + 1))
          case measure => omega
          case rel => exact ⟨j + 1, now + again, SM, SP2, p', met.set Y (v + 1), by go_num, rfl, ⟨by rw [NOW.out]; push_cast; rw [Int.add_mul]; omega⟩, by omega, Nat.le_refl _, L9, PN, TN, R9, NI7⟩
        · obtain rfl : j = 2 * mn := by omega
          have hltz : ¬ ((2 * mn : Nat) : Int) < ((2 * mn : Nat) : Int) := by omega
          have hu6 : IntKind.u64.wrap ((2 * mn : Nat) : Int) = ((2 * mn : Nat) : Int) := by rw [IntKind.wrap_u64]; omega
          have hse := LI.out.p.ok.sender
          rw [PI.out.hn] at hse
          obtain ⟨hf1, hf2⟩ := PI.out.fin (H := holders L) (by omega) hse H02.out HF1.out now
          have LL := Aside0.mk (blk_new wr (.cells #[.int .u64 1] tU))
          have L5 := Aside0.mk (LI.out.step (below_alloc (Below.refl wr.heap.size wr) (.cells #[.int .u64 1] tU)))
          have NX := L5.out.next2 (Ah := some ⟨wr.heap.size, 0, none⟩) (ch := 1) (held := [1]) (fun W hW => one_U (hW.blk LL.out (fun h => by have := (LI.out.sp _ h).2; omega))) (Nat.le_refl _) now (by rw [PI.out.hct]; omega)
          generalize nextP p now [1] [] (holders L) = R at NX hf1 hf2
          obtain ⟨p', f, s, q, okb⟩ := R
          dsimp only at NX hf1 hf2
          subst hf1
          have NX := Aside0.mk NX
          have HF2 := Aside0.mk hf2
          have hu := Try.underlying33
          clear hf2 hse LI PI TI RM L5 LL
          go_wp2_with fail
          refine NX.out.mono ?_
          rintro e w4 ⟨rfl, ⟨SP', hL, _⟩, hb⟩
          have L6 := Aside0.mk (hL.step (below_alloc (Below.refl w4.heap.size w4) (.cells #[.int .u8 f, .int .u64 s] tID)))
          have AC := Aside0.mk (Asked_calls L6.out.p)
          rw [HF2.out] at AC
          clear hL hb NX
          go_wp2_with fail
          refine AC.out.mono ?_
          rintro e w5 ⟨rfl, rfl⟩
          go_wp2_with fail
          refine (awake_calls _).mono ?_
          rintro e w8 ⟨rfl, hb⟩
          have B8 := Aside0.mk (below_step L6.out.below hb)
          clear hb
          go_wp2_with fail
          go_ret
          exact ⟨rfl, B8.out⟩

end Go.Proofs.Ytncofecfljocgaa.Walk
