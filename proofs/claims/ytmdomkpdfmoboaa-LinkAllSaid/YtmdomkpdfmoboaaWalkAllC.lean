/- What two links do. Conditions: none beyond the statement's own. -/
import Derived.Test.YtmdomkpdfmoboaaWalkAllL
import Derived.Test.YtmdomkpdfmoboaaArgs
import Derived.Deep.QuietTactic
import Derived.BigQuiet
import Derived.Lib.QuietBelow
import Derived.Outline
import Derived.Deep.RegionHeld3
import Derived.Deep.CutRange
namespace Go.Proofs.Ytmdomkpdfmoboaa.Walk
open Go.RowKit Go.Proofs.Ytmdomkpdfmoboaa.F Go.Proofs.YtmdomkpdfmoboaaW.PrintWords Go.Proofs.YtmdomkpdfmoboaaW.PrintLast Go.Proofs.YtmdomkpdfmoboaaW.PrintMore Go.Proofs.Ytmdomkpdfmoboaa.Open
open Go.Sort (grow)
attribute [local go_sem] max2_int min2_int max_two min_two max_three min_three max_four min_four
set_option linter.unusedVariables false
set_option linter.unusedSimpArgs false

/-! ### Contracts on two links at once -/
section
variable {w0 w : World} {ow : Nat → Nat} {ga gwa gga gb gwb ggb : Nat} {sa sb : LS} {vF vK : Value} {F K : List Fr} {X : List (Nat × Obj)}
theorem F4_Send (v : Int) (h4 : F4 w0 w ow ga gwa gga gb gwb ggb sa sb vF vK F K X) (hm : sa.last ≤ 1000000) :
    Calls Try.prog 11 #[.pointer (some ⟨ga, 0, none⟩), .slice (some ⟨w.heap.size, 0, none⟩) 1 1] (w.alloc (.cells #[.int .u8 0, .int .u8 0, .int .u8 0, .int .u8 0, .int .u64 0, .int .u64 0, .int .u32 v, .int .u32 0, .int .u32 0, .int .u64 0, .int .u64 0, .slice none 0 0, .slice none 0 0, .slice none 0 0, .slice none 0 0, .slice none 0 0] 39)) fun e w' => ∃ k : Nat, e = .returned (.int .i64 k) ∧ k ≤ 1 ∧ ∃ ow', F4 w0 w' ow' ga gwa gga gb gwb ggb (sentS sa (pf 0 0 0 0 0 0 v 0 0 0 0) k) sb vF vK F K X := by
  obtain ⟨w2, hw2⟩ : ∃ w2, w2 = w.alloc (.cells #[.int .u8 0, .int .u8 0, .int .u8 0, .int .u8 0, .int .u64 0, .int .u64 0, .int .u32 v, .int .u32 0, .int .u32 0, .int .u64 0, .int .u64 0, .slice none 0 0, .slice none 0 0, .slice none 0 0, .slice none 0 0, .slice none 0 0] 39) := ⟨_, rfl⟩
  rw [← hw2]
  have hF : Kd.F kF w2 (fun b => b = w.heap.size) (some ⟨w.heap.size, 0, none⟩) 1 [pf 0 0 0 0 0 0 v 0 0 0 0] := by
    refine Kd.F_mono (F_lit (t := 39) (g := w.heap.size) (ok := fun _ => False) (d := kF) [(pf 0 0 0 0 0 0 v 0 0 0 0, pcells 0 0 0 0 0 0 v 0 0 0 0)] (by rw [hw2]; exact blk_new w _) (by simp) ?_) (fun k hk => by rcases hk with h | h; exact h.elim; exact h)
    intro r hr
    rw [List.mem_singleton.1 hr]
    exact pf_FK _ _ _ _ _ _ _ _ _ _ _ _
  have hb2 : Below w.heap.size w w2 := by rw [hw2]; exact below_alloc (Below.refl _ _) _
  have h4' : F4 w0 w2 (owns ow w.heap.size 0) ga gwa gga gb gwb ggb sa sb vF vK F K X :=
    have hB : Beside (fun k => ow k = 0) w w2 := Beside.of_below _ hb2
    ⟨h4.keepA hB (by decide) 0, h4.keepB hB (by decide) 0, h4.keepF hB (by decide) 0, h4.keepK hB (by decide) 0, h4.keepX hB (by decide) 0, h4.keepO 0, below_step h4.below hb2⟩
  refine (Send1_calls (pf 0 0 0 0 0 0 v 0 0 0 0) (min 1 (sa.n - sa.L.length)) w2 h4'.a hF (fun b hb hS => by have h9 : b = w.heap.size := hb; rw [h9, owns_new (Nat.le_refl _)] at hS; exact absurd hS (by decide)) (Nat.le_refl _) (pf_fok _ _ _ _ _ _ _ _ _ _ _) (by omega) rfl).mono ?_
  rintro e w3 ⟨rfl, hL, hb⟩
  exact ⟨_, rfl, Nat.min_le_left _ _, _, h4'.inA hL (fun q hq => hq) hb⟩
theorem F4_OutA (a nw : Int) (hn : nw = clt a) (h4 : F4 w0 w ow ga gwa gga gb gwb ggb sa sb vF vK F K X) :
    Calls Try.prog 12 #[.pointer (some ⟨ga, 0, none⟩), .int .i64 a] w fun e w' => ∃ A c, e = .returned (.slice A (outL sa nw).length c) ∧ ∃ ow', F4 w0 w' ow' ga gwa gga gb gwb ggb (outS sa nw) sb (.slice A (outL sa nw).length c) vK (outL sa nw) K X := by
  refine (Out_calls a nw w h4.a.bound hn (fun k hk => hk.2)).mono ?_
  rintro e w' ⟨v, rfl, ho, hL, hb⟩
  obtain ⟨A, c, rfl⟩ := Kd.R_slice ho
  obtain ⟨h5, hR⟩ := h4.outA 3 (by decide) hL hb ho
  exact ⟨A, c, rfl, _, h5.a, h5.b, Kd.R_lower hR h4.below.size, h5.k, h5.x, h5.old, h5.below⟩
theorem F4_OutB (a nw : Int) (hn : nw = clt a) (h4 : F4 w0 w ow ga gwa gga gb gwb ggb sa sb vF vK F K X) :
    Calls Try.prog 12 #[.pointer (some ⟨gb, 0, none⟩), .int .i64 a] w fun e w' => ∃ A c, e = .returned (.slice A (outL sb nw).length c) ∧ ∃ ow', F4 w0 w' ow' ga gwa gga gb gwb ggb sa (outS sb nw) vF (.slice A (outL sb nw).length c) F (outL sb nw) X := by
  refine (Out_calls a nw w h4.b.bound hn (fun k hk => hk.2)).mono ?_
  rintro e w' ⟨v, rfl, ho, hL, hb⟩
  obtain ⟨A, c, rfl⟩ := Kd.R_slice ho
  obtain ⟨h5, hR⟩ := h4.outB 4 (by decide) hL hb ho
  exact ⟨A, c, rfl, _, h5.a, h5.b, h5.f, Kd.R_lower hR h4.below.size, h5.x, h5.old, h5.below⟩
theorem F4_ComeB (x : Fr) {A11 A12 A13 A14 A15 : Option Addr} {c11 c12 c13 c14 c15 : Nat} (h4 : F4 w0 w ow ga gwa gga gb gwb ggb sa sb vF vK F K X) (h1 : x.f0.f1 = sb.peer) (h2 : x.f0.f2 = sb.me) (h3 : x.f0.f0 = 1) (h5 : 0 ≤ x.f2) (h6 : x.f2 < 18446744073709551616) :
    Calls Try.prog 13 #[.pointer (some ⟨gb, 0, none⟩), .agg #[.int .u8 x.f0.f0, .int .u8 x.f0.f1, .int .u8 x.f0.f2, .int .u8 x.f1.f0, .int .u64 x.f1.f1, .int .u64 x.f2, .int .u32 x.f3, .int .u32 x.f4, .int .u32 x.f5, .int .u64 x.f6, .int .u64 x.f7, .slice A11 x.f8.length c11, .slice A12 x.f9.length c12, .slice A13 x.f10.length c13, .slice A14 x.f11.length c14, .slice A15 x.f12.length c15]] w fun e w' => ∃ (y : Fr) (B11 B12 B13 B14 B15 : Option Addr) (d11 d12 d13 d14 d15 : Nat) (b : Bool), e = .returned (.tuple #[.agg #[.int .u8 y.f0.f0, .int .u8 y.f0.f1, .int .u8 y.f0.f2, .int .u8 y.f1.f0, .int .u64 y.f1.f1, .int .u64 y.f2, .int .u32 y.f3, .int .u32 y.f4, .int .u32 y.f5, .int .u64 y.f6, .int .u64 y.f7, .slice B11 y.f8.length d11, .slice B12 y.f9.length d12, .slice B13 y.f10.length d13, .slice B14 y.f11.length d14, .slice B15 y.f12.length d15], .bool b]) ∧ (b = true → y = x) ∧ b = decide (x.f2 = sb.gs.u + 1) ∧ ∃ ow', F4 w0 w' ow' ga gwa gga gb gwb ggb sa (tookS sb x.f2) vF vK F K X := by
  by_cases hy : x.f2 = sb.gs.u + 1
  · refine (Come_take x w h4.b h1 h2 h3 h5 h6 (took_y hy)).mono ?_
    rintro e w' ⟨rfl, hL, hb⟩
    exact ⟨x, A11, A12, A13, A14, A15, c11, c12, c13, c14, c15, true, rfl, fun _ => rfl, (decide_eq_true hy).symm, _, h4.inB (sb' := tookS sb x.f2) hL (fun k hk => Or.inl hk) hb⟩
  · refine (Come_shut x w h4.b h1 h2 h3 h5 h6 (fun e => hy (took_1 e).1)).mono ?_
    rintro e w' ⟨rfl, hL, hb⟩
    exact ⟨pf 0 0 0 0 0 0 0 0 0 0 0, none, none, none, none, none, 0, 0, 0, 0, 0, false, rfl, fun h => (by cases h), (decide_eq_false hy).symm, _, h4.inB (sb' := tookS sb x.f2) hL (fun k hk => Or.inl hk) hb⟩
theorem F4_ComeA (x : Fr) {A11 A12 A13 A14 A15 : Option Addr} {c11 c12 c13 c14 c15 : Nat} (h4 : F4 w0 w ow ga gwa gga gb gwb ggb sa sb vF vK F K X) (h1 : x.f0.f1 = sa.peer) (h2 : x.f0.f2 = sa.me) (h3 : x.f0.f0 = 2) (h5 : 0 ≤ x.f2) (h6 : x.f2 < 18446744073709551616) :
    Calls Try.prog 13 #[.pointer (some ⟨ga, 0, none⟩), .agg #[.int .u8 x.f0.f0, .int .u8 x.f0.f1, .int .u8 x.f0.f2, .int .u8 x.f1.f0, .int .u64 x.f1.f1, .int .u64 x.f2, .int .u32 x.f3, .int .u32 x.f4, .int .u32 x.f5, .int .u64 x.f6, .int .u64 x.f7, .slice A11 x.f8.length c11, .slice A12 x.f9.length c12, .slice A13 x.f10.length c13, .slice A14 x.f11.length c14, .slice A15 x.f12.length c15]] w fun e w' => (∃ v, e = .returned v) ∧ ∃ ow', F4 w0 w' ow' ga gwa gga gb gwb ggb (ackS sa (ackd sa x.f2)) sb vF vK F K X := by
  refine (Come_ack x (ackd sa x.f2) w h4.a h1 h2 h3 h5 h6 rfl).mono ?_
  rintro e w' ⟨rfl, hL, hb⟩
  exact ⟨⟨_, rfl⟩, _, h4.inA hL (fun k hk => Or.inl hk) hb⟩
end
structure AW (w0 w : World) (ga gwa gga gb gwb ggb : Nat) (ag nw : Int) (sa sb : LS) (vF vK : Value) (F K : List Fr) : Prop where
  ex : ∃ ow, F4 w0 w ow ga gwa gga gb gwb ggb sa sb vF vK F K []
  q : AQ ag nw sa sb
section
variable {w0 w : World} {ga gwa gga gb gwb ggb : Nat} {ag nw : Int} {sa sb : LS} {vF vK : Value} {F K : List Fr}
theorem AW.below (h : AW w0 w ga gwa gga gb gwb ggb ag nw sa sb vF vK F K) : Below w0.heap.size w0 w := by
  obtain ⟨⟨ow, h4⟩, hq⟩ := h
  exact h4.below
theorem AW.step {w' : World} (h : AW w0 w ga gwa gga gb gwb ggb ag nw sa sb vF vK F K) (hb : Below w.heap.size w w') : AW w0 w' ga gwa gga gb gwb ggb ag nw sa sb vF vK F K := by
  obtain ⟨⟨ow, h4⟩, hq⟩ := h
  exact ⟨⟨ow, h4.step hb⟩, hq⟩
theorem AW.R (h : AW w0 w ga gwa gga gb gwb ggb ag nw sa sb vF vK F K) : Kd.R kF eF w w0.heap.size (fun _ => True) vF F ∧ Kd.R kF eF w w0.heap.size (fun _ => True) vK K := by
  obtain ⟨⟨ow, h4⟩, hq⟩ := h
  exact ⟨Kd.R_mono h4.f (fun _ _ => trivial), Kd.R_mono h4.k (fun _ _ => trivial)⟩
theorem AW_Send (v : Int) (hv : v = sa.last) (h : AW w0 w ga gwa gga gb gwb ggb ag nw sa sb vF vK F K) (hm : sa.last ≤ 1000000) :
    Calls Try.prog 11 #[.pointer (some ⟨ga, 0, none⟩), .slice (some ⟨w.heap.size, 0, none⟩) 1 1] (w.alloc (.cells #[.int .u8 0, .int .u8 0, .int .u8 0, .int .u8 0, .int .u64 0, .int .u64 0, .int .u32 v, .int .u32 0, .int .u32 0, .int .u64 0, .int .u64 0, .slice none 0 0, .slice none 0 0, .slice none 0 0, .slice none 0 0, .slice none 0 0] 39)) fun e w' => ∃ k : Nat, e = .returned (.int .i64 k) ∧ k ≤ 1 ∧ ∃ sa', sa'.last = sa.last + k ∧ AW w0 w' ga gwa gga gb gwb ggb ag nw sa' sb vF vK F K := by
  obtain ⟨⟨ow, h4⟩, hq⟩ := h
  refine (F4_Send v h4 hm).mono ?_
  rintro e w' ⟨k, rfl, hk, ow', h5⟩
  exact ⟨k, rfl, hk, _, rfl, ⟨ow', h5⟩, hq.send hk hv⟩
/-- Both sides are asked. -/
theorem AW_OutA (a : Int) (ha : 0 ≤ a ∧ a ≤ 1000000) (h : AW w0 w ga gwa gga gb gwb ggb ag nw sa sb vF vK F K) :
    Calls Try.prog 12 #[.pointer (some ⟨ga, 0, none⟩), .int .i64 a] w fun e w' => ∃ (D : List Fr) (A : Option Addr) (c : Nat), e = .returned (.slice A D.length c) ∧ D = sa.L.drop (outD sa a) ∧ ∃ ow', F4 w0 w' ow' ga gwa gga gb gwb ggb (outS sa a) sb (.slice A D.length c) vK D K [] := by
  obtain ⟨⟨ow, h4⟩, hq⟩ := h
  have e1 : outL sa a = sa.L.drop (outD sa a) := by simp [outL, hq.fp.ao]
  refine (F4_OutA a a (by unfold clt; split; omega; split <;> omega) h4).mono ?_
  rintro e w' ⟨A, c, rfl, ow', h5⟩
  exact ⟨_, A, c, rfl, e1, ow', h5⟩
theorem AW_OutB {ow : Nat → Nat} (a : Int) (ha : 0 ≤ a ∧ a ≤ 1000000) (h4 : F4 w0 w ow ga gwa gga gb gwb ggb sa sb vF vK F K []) :
    Calls Try.prog 12 #[.pointer (some ⟨gb, 0, none⟩), .int .i64 a] w fun e w' => ∃ (O : List Fr) (A : Option Addr) (c : Nat), e = .returned (.slice A O.length c) ∧ O = outL sb a ∧ ∃ ow', F4 w0 w' ow' ga gwa gga gb gwb ggb sa (outS sb a) vF (.slice A O.length c) F O [] := by
  refine (F4_OutB a a (by unfold clt; split; omega; split <;> omega) h4).mono ?_
  rintro e w' ⟨A, c, rfl, ow', h5⟩
  exact ⟨_, A, c, rfl, rfl, ow', h5⟩
end
theorem outB_eq {sa sb : LS} {ag n0 nw : Int} (hq : AQ ag n0 sa sb) : outL sb nw = if sb.gs.o = true then [ackf sb] else [] := by simp [outL, hq.fp.bL]
theorem sq_get {L : List Fr} {a : Int} (h : sq L a) (j : Nat) (x : Fr) (hx : L[j]? = some x) : x.f2 = a + j := h j x hx
section
variable {w0 w : World} {ga gwa gga gb gwb ggb : Nat} {ag nw : Int} {sa sb : LS} {vF vK : Value} {F K : List Fr}
theorem AW_ComeB (x : Fr) {A11 A12 A13 A14 A15 : Option Addr} {c11 c12 c13 c14 c15 : Nat} (h : AW w0 w ga gwa gga gb gwb ggb ag nw sa sb vF vK F K) (hx : chk x sa.last) (hm : sa.last ≤ 1000000) :
    Calls Try.prog 13 #[.pointer (some ⟨gb, 0, none⟩), .agg #[.int .u8 x.f0.f0, .int .u8 x.f0.f1, .int .u8 x.f0.f2, .int .u8 x.f1.f0, .int .u64 x.f1.f1, .int .u64 x.f2, .int .u32 x.f3, .int .u32 x.f4, .int .u32 x.f5, .int .u64 x.f6, .int .u64 x.f7, .slice A11 x.f8.length c11, .slice A12 x.f9.length c12, .slice A13 x.f10.length c13, .slice A14 x.f11.length c14, .slice A15 x.f12.length c15]] w fun e w' => ∃ (y : Fr) (B11 B12 B13 B14 B15 : Option Addr) (d11 d12 d13 d14 d15 : Nat) (b : Bool), e = .returned (.tuple #[.agg #[.int .u8 y.f0.f0, .int .u8 y.f0.f1, .int .u8 y.f0.f2, .int .u8 y.f1.f0, .int .u64 y.f1.f1, .int .u64 y.f2, .int .u32 y.f3, .int .u32 y.f4, .int .u32 y.f5, .int .u64 y.f6, .int .u64 y.f7, .slice B11 y.f8.length d11, .slice B12 y.f9.length d12, .slice B13 y.f10.length d13, .slice B14 y.f11.length d14, .slice B15 y.f12.length d15], .bool b]) ∧ (b = true → y.f3 = sb.gs.u) ∧ (tookS sb x.f2).gs.u = (if b = true then sb.gs.u + 1 else sb.gs.u) ∧ AW w0 w' ga gwa gga gb gwb ggb ag nw sa (tookS sb x.f2) vF vK F K := by
  obtain ⟨⟨ow, h4⟩, hq⟩ := h
  obtain ⟨x1, x2, x3, x4, x5, x6⟩ := hx
  refine (F4_ComeB x h4 (x2.trans hq.fp.bpeer.symm) (x3.trans hq.fp.bme.symm) x1 (by omega) (by omega)).mono ?_
  rintro e w' ⟨y, B11, B12, B13, B14, B15, d11, d12, d13, d14, d15, b, rfl, hy, hb, ow', h5⟩
  refine ⟨y, B11, B12, B13, B14, B15, d11, d12, d13, d14, d15, b, rfl, fun h => ?_, ?_, ⟨ow', h5⟩, hq.come (by omega)⟩
  · rw [hy h, x6]
    rw [h] at hb
    have := of_decide_eq_true hb.symm
    omega
  · show (Acc.took sb.gs x.f2).1.u = _
    rw [took_u, hb]
    by_cases hc : x.f2 = sb.gs.u + 1
    · rw [if_pos hc, if_pos (decide_eq_true hc), hc]
    · rw [if_neg hc, if_neg (by simpa using hc)]
theorem AW_ComeA (x : Fr) (u : Int) {A11 A12 A13 A14 A15 : Option Addr} {c11 c12 c13 c14 c15 : Nat} (h : AW w0 w ga gwa gga gb gwb ggb ag nw sa sb vF vK F K) (h1 : x.f0.f0 = 2) (h2 : x.f0.f1 = 1) (h3 : x.f0.f2 = 0) (hu : x.f2 = u) (h0 : 0 ≤ u) (hle : u ≤ sb.gs.u) (hm : sa.last ≤ 1000000) (hnow : sa.now = nw) :
    Calls Try.prog 13 #[.pointer (some ⟨ga, 0, none⟩), .agg #[.int .u8 x.f0.f0, .int .u8 x.f0.f1, .int .u8 x.f0.f2, .int .u8 x.f1.f0, .int .u64 x.f1.f1, .int .u64 x.f2, .int .u32 x.f3, .int .u32 x.f4, .int .u32 x.f5, .int .u64 x.f6, .int .u64 x.f7, .slice A11 x.f8.length c11, .slice A12 x.f9.length c12, .slice A13 x.f10.length c13, .slice A14 x.f11.length c14, .slice A15 x.f12.length c15]] w fun e w' => (∃ v, e = .returned v) ∧ AW w0 w' ga gwa gga gb gwb ggb ag nw (ackS sa (ackd sa u)) sb vF vK F K := by
  obtain ⟨⟨ow, h4⟩, hq⟩ := h
  have := hq.fp.le
  refine (F4_ComeA x h4 (h2.trans hq.fp.apeer.symm) (h3.trans hq.fp.ame.symm) h1 (by omega) (by omega)).mono ?_
  rintro e w' ⟨hv, ow', h5⟩
  rw [hu] at h5
  exact ⟨hv, ⟨ow', h5⟩, AQ_ack hq h0 hle hnow⟩
/-- A tick: what goes out of both. -/
structure TK (w0 w : World) (ga gwa gga gb gwb ggb : Nat) (ag nw : Int) (sa sb sa1 sb1 : LS) (vF vK : Value) (D O : List Fr) (p : Int) : Prop where
  aw : AW w0 w ga gwa gga gb gwb ggb ag nw sa1 sb1 vF vK D O
  a1 : sa1 = outS sa nw
  b1 : sb1 = outS sb nw
  dl : (D.length : Int) = sa.L.length - (outD sa nw : Int)
  pe : p = sa.last + 1 - sa.L.length + (outD sa nw : Nat)
  d : ∀ (j : Nat) (x : Fr), D[j]? = some x → chk x sa.last ∧ x.f2 = p + j
  o : O = if sb.gs.o = true then [ackf sb] else []
theorem AW_Outs {w2 : World} {ow : Nat → Nat} {n0 : Int} {B : Option Addr} {d : Nat} {h0 : AW w0 w ga gwa gga gb gwb ggb ag n0 sa sb vF vK F K} (hn : n0 ≤ nw) {A : Option Addr} {c : Nat} {D O : List Fr} (eD : D = sa.L.drop (outD sa nw)) (eO : O = outL sb nw)
    (h2 : F4 w0 w2 ow ga gwa gga gb gwb ggb (outS sa nw) (outS sb nw) (.slice A D.length c) (.slice B O.length d) D O []) :
    TK w0 w2 ga gwa gga gb gwb ggb ag nw sa sb (outS sa nw) (outS sb nw) (.slice A D.length c) (.slice B O.length d) D O (sa.last + 1 - sa.L.length + (outD sa nw : Nat)) := by
  have hq := h0.q
  have hd : outD sa nw ≤ sa.L.length := outD_le sa nw hq.snt.2 hq.ln
  refine ⟨⟨⟨ow, h2⟩, hq.out hn⟩, rfl, rfl, by rw [eD]; simp; omega, rfl, fun j x hx => ?_, eO.trans (outB_eq hq)⟩
  rw [eD] at hx
  exact ⟨hq.fp.L x (List.mem_of_mem_drop (List.mem_of_getElem? hx)), sq_drop hq.sq (outD sa nw) j x hx⟩
theorem TK.o1 {sa1 sb1 : LS} {D O : List Fr} {p : Int} (h : TK w0 w ga gwa gga gb gwb ggb ag nw sa sb sa1 sb1 vF vK D O p) (hb : sb.me = 1) (hp : sb.peer = 0) : O.length ≤ 1 ∧ ∀ x ∈ O, x.f0.f0 = 2 ∧ x.f0.f1 = 1 ∧ x.f0.f2 = 0 ∧ x.f2 = sb.gs.u := by
  rw [h.o]
  split
  · refine ⟨by simp, fun x hx => ?_⟩
    rw [List.mem_singleton.1 hx]
    exact ⟨rfl, hb, hp, rfl⟩
  · exact ⟨by simp, fun x hx => absurd hx List.not_mem_nil⟩
end
theorem DB.le {s s' : LS} {p : Int} {j : Nat} (h : DB s s' p j) : s.gs.u ≤ s'.gs.u := by
  rw [h.u]
  split <;> omega

end Go.Proofs.Ytmdomkpdfmoboaa.Walk
