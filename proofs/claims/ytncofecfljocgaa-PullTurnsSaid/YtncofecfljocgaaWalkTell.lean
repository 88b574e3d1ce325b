/- Tell. Conditions: none beyond the statement's own. -/
import Derived.Test.YtncofecfljocgaaWalkLeft
import Derived.Test.YtncofecfljocgaaF2
import Derived.Test.YtncofecfljocgaaArgs
import Derived.Deep.QuietTactic
import Derived.BigQuiet
import Derived.Lib.QuietBelow
import Derived.Outline
import Derived.Deep.RegionHeld3
import Derived.Deep.CutRange
import Derived.Deep.RegionLaw
namespace Go.Proofs.Ytncofecfljocgaa.Walk
open Go.RowKit Go.Proofs.Ytncofecfljocgaa.F Go.Proofs.YtncofecfljocgaaW.PrintWords Go.Proofs.YtncofecfljocgaaW.PrintLast Go.Proofs.YtncofecfljocgaaW.PrintMore Go.Proofs.Ytncofecfljocgaa.Open
open Go.Sort (grow)
attribute [local go_sem] max2_int min2_int max_two min_two max_three min_three max_four min_four
set_option linter.unusedVariables false
set_option linter.unusedSimpArgs false

/-! ### Tell -/
def riseL (a b : List Int) : List Int := (foldAll mx [a, b]).take a.length
theorem foldAll_len' (op : Int → Int → Int) (l : List (List Int)) : (foldAll op l).length = longest l := by simp [foldAll]
theorem riseL_len (a b : List Int) : (riseL a b).length = a.length := by
  unfold riseL
  rw [List.length_take, foldAll_len']
  have : a.length ≤ longest [a, b] := longest_mem List.mem_cons_self
  omega
theorem riseL_get {a b : List Int} {j : Nat} (hj : j < a.length) : (riseL a b)[j]? = some (mx (rd a j) (rd b j)) := by
  unfold riseL foldAll
  have : a.length ≤ longest [a, b] := longest_mem List.mem_cons_self
  rw [List.getElem?_take_of_lt hj, List.getElem?_map, List.getElem?_range (by omega)]
  rfl
theorem rd_u64 {a : List Int} (h : u64s a) (j : Nat) : 0 ≤ rd a j ∧ rd a j ≤ 18446744073709551615 := by
  unfold rd
  rw [Int.toNat_natCast, List.getD]
  cases hx : a[j]? with
  | none => simp
  | some x => exact h x (List.mem_of_getElem? hx)
theorem riseL_u64 {a b : List Int} (ha : u64s a) (hb : u64s b) : u64s (riseL a b) := by
  intro x hx
  obtain ⟨j, hj, rfl⟩ := List.getElem_of_mem hx
  have hl := riseL_len a b
  have hg := riseL_get (a := a) (b := b) (j := j) (by omega)
  rw [List.getElem?_eq_getElem hj] at hg
  rw [Option.some.inj hg]
  have h1 := rd_u64 ha j
  have h2 := rd_u64 hb j
  unfold mx
  split <;> omega
theorem rise_f {a b : List Int} (ha : a.length ≤ 64) (hb : b.length ≤ 100) : matrix_rise.f a b = some (riseL a b) := by
  have hl : longest [a, b] ≤ 100 := longest_le [a, b] (fun x hx => by
    rcases List.mem_cons.1 hx with rfl | hx
    · omega
    · obtain rfl := List.mem_singleton.1 hx
      exact hb)
  have hv : vec_Max.f [a, b] = some (foldAll mx [a, b]) := if_pos ⟨by simp, by omega⟩
  have hla : a.length ≤ longest [a, b] := longest_mem List.mem_cons_self
  unfold matrix_rise.f
  rw [hv]
  simp only [Option.bind_some]
  rw [if_pos (by omega), if_pos (by rw [foldAll_len']; omega), Int.toNat_natCast]
  rfl
theorem rise_C {W : World} {A B : Option Addr} {c d : Nat} {a b : List Int} (ha : Kd.C kU W A a.length a) (hb : Kd.C kU W B b.length b) (hc : a.length ≤ c) (hd : b.length ≤ d) (hal : a.length ≤ 64) (hbl : b.length ≤ 100) :
    Calls Try.prog 24 #[.slice A a.length c, .slice B b.length d] W fun e w' => ∃ v, e = .returned v ∧ Kd.R kU tU w' W.heap.size (fun k => W.heap.size ≤ k) v (riseL a b) ∧ Below W.heap.size W w' :=
  matrix_rise.calls _ A c a _ B d b (riseL a b) W (Kd.V_mk hc (Kd.C_F (Kd.heap_int .u64) ha)) (Kd.V_mk hd (Kd.C_F (Kd.heap_int .u64) hb)) (rise_f hal hbl)
def tellX (x : X) (i : Int) (d h : List Int) : X := ⟨mx x.f0 i, riseL x.f1 d, riseL x.f2 h, x.f3⟩
def tellL (L : List X) (p i : Int) (d h : List Int) : List X := match at_ L p with | some x => L.set p.toNat (tellX x i d h) | none => L
theorem Tell_done {w1 w3 : World} {S : Nat → Prop} {g rb cp : Nat} {L1 : List X} {n0 q : Nat} {y y' : X} {v1 v2 : Value} (h : Mat w1 S g rb cp L1) (hb : Below w1.heap.size w1 w3) (hn : n0 ≤ w1.heap.size) (hy : L1[q]? = some y) (e0 : y'.f0 = y.f0) (e3 : y'.f3 = y.f3) (ho : xok L1.length y')
    (r1 : Kd.R kU tU w3 w1.heap.size (fun _ => True) v1 y'.f1) (r2 : Kd.R kU tU w3 w1.heap.size (fun _ => True) v2 y'.f2) :
    Mat ((w3.setCell ⟨rb, q * 4 + 1, none⟩ v1).setCell ⟨rb, q * 4 + 2, none⟩ v2) (fun k => S k ∨ n0 ≤ k) g rb cp (L1.set q y') := by
  have hq : q < L1.length := (List.getElem?_eq_some_iff.1 hy).1
  have h3 : Mat w3 (fun k => S k ∨ n0 ≤ k) g rb cp L1 := (h.below hb).mono (fun k hk => .inl hk)
  have hg : g < w1.heap.size := blk_lt h.blk
  have hrb : rb < w1.heap.size := by
    obtain ⟨A1, c1, A2, c2, ⟨k0, _⟩, _⟩ := h.elem hy
    exact World.block_lt_of_cell? _ _ k0
  obtain ⟨A1, c1, A2, c2, ⟨k0, k1, k2, k3⟩, _, _, _⟩ := h3.elem hy
  have z1 : Kd.R kU tU w3 0 (fun k => ((S k ∨ n0 ≤ k) ∧ k ≠ g) ∧ k ≠ rb) v1 y'.f1 := Kd.R_lower (Kd.R_mono (Kd.R_bound r1) (fun k hk => ⟨⟨.inr (by have := hk.2.1; omega), by have := hk.2.1; omega⟩, by have := hk.2.1; omega⟩)) (Nat.zero_le _)
  have z2 : Kd.R kU tU w3 0 (fun k => ((S k ∨ n0 ≤ k) ∧ k ≠ g) ∧ k ≠ rb) v2 y'.f2 := Kd.R_lower (Kd.R_mono (Kd.R_bound r2) (fun k hk => ⟨⟨.inr (by have := hk.2.1; omega), by have := hk.2.1; omega⟩, by have := hk.2.1; omega⟩)) (Nat.zero_le _)
  exact Mat.setF h3 (p := q) (x' := y') hq (c := [.int .u64 y.f0, .slice A1 y.f1.length c1, .slice A2 y.f2.length c2, .bool y.f3]) rfl (fun j u hj => by
    match j, hj with
    | 0, hj => cases hj; exact k0
    | 1, hj => cases hj; exact k1
    | 2, hj => cases hj; exact k2
    | 3, hj => cases hj; exact k3) 1 [v1, v2] (by show 1 + 2 ≤ 4; decide) (by
      have := k65_mkM w3 0 _ y' z1 z2
      rw [e0, e3] at this
      exact this) ho
section
variable {w : World} {S : Nat → Prop} {g rb cp : Nat} {L : List X}
theorem Tell_none (h : Mat w S g rb cp L) (p i : Int) (v1 v2 : Value) (hx : at_ L p = none) : Calls Try.prog 9 #[.pointer (some ⟨g, 0, none⟩), .int .i64 p, .int .u64 i, v1, v2] w fun e w' => e = .returned (.tuple #[]) ∧ w' = w := by
  have OF := Aside0.mk (of_none h p (at_none hx))
  clear hx
  go_enter Try.func9, Try.ntmps9
  go_wp2_with fail
  refine (OF.out).mono ?_
  rintro e w1 ⟨rfl, rfl⟩
  go_wp2_with fail
  go_end0
  exact ⟨rfl, rfl⟩
set_option maxHeartbeats 8000000 in
theorem Tell_some (h : Mat w S g rb cp L) (q : Nat) (i : Int) {x : X} (hx : L[q]? = some x) {A B : Option Addr} {c d : Nat} {a b : List Int} (ha : Kd.C kU w A a.length a) (hb : Kd.C kU w B b.length b) (hc : a.length ≤ c) (hd : b.length ≤ d) (hal : a.length ≤ 100) (hbl : b.length ≤ 100)
    (hra : ∀ w', Beside S w w' → Kd.C kU w' A a.length a) (hrb : ∀ w', Beside S w w' → Kd.C kU w' B b.length b) (hi : 0 ≤ i ∧ i ≤ 18446744073709551615) (hua : u64s a) (hub : u64s b) :
    Calls Try.prog 9 #[.pointer (some ⟨g, 0, none⟩), .int .i64 q, .int .u64 i, .slice A a.length c, .slice B b.length d] w fun e w' => e = .returned (.tuple #[]) ∧ Mat w' (fun k => S k ∨ w.heap.size ≤ k) g rb cp (L.set q (tellX x i a b)) ∧ Beside S w w' := by
  have hq : q < L.length := (List.getElem?_eq_some_iff.1 hx).1
  have OF := Aside0.mk (of_calls h q hq)
  have HM := Aside0.mk h
  have xo := h.ok.row x (List.mem_of_getElem? hx)
  obtain ⟨A1, c1, A2, c2, ⟨k0, k1, k2, k3⟩, kf, r1, r2⟩ := h.elem hx
  have f0 := kf 0
  rw [Nat.add_zero] at f0
  have h64 := h.ok.n2
  have hl1 : x.f1.length ≤ 64 := by rw [xo.l1]; exact h64
  have hl2 : x.f2.length ≤ 64 := by rw [xo.l2]; exact h64
  have RA := Aside0.mk hra
  have RB := Aside0.mk hrb
  have XO := Aside0.mk xo
  have HX := Aside0.mk hx
  obtain ⟨m, hm⟩ : ∃ m, mx x.f0 i = m := ⟨_, rfl⟩
  have SF := Aside0.mk (Mat.setF h (p := q) (x' := ⟨m, x.f1, x.f2, x.f3⟩) hq (c := [.int .u64 x.f0, .slice A1 x.f1.length c1, .slice A2 x.f2.length c2, .bool x.f3]) rfl (fun j u hj => by
    match j, hj with
    | 0, hj => cases hj; exact k0
    | 1, hj => cases hj; exact k1
    | 2, hj => cases hj; exact k2
    | 3, hj => cases hj; exact k3) 0 [.int .u64 m] (by show 0 + 1 ≤ 4; decide) (k65_mkM _ _ _ (⟨m, x.f1, x.f2, x.f3⟩ : X) (Kd.R_mono r1 (fun k hk => ⟨⟨hk.1, hk.2.1⟩, hk.2.2⟩)) (Kd.R_mono r2 (fun k hk => ⟨⟨hk.1, hk.2.1⟩, hk.2.2⟩))) ⟨xo.l1, xo.l2, by rw [← hm]; unfold mx; have := xo.u0; dsimp only; split <;> omega, xo.u1, xo.u2⟩)
  have SB : Aside0 (Beside S w (w.setCell ⟨rb, q * 4, none⟩ (.int .u64 m))) := ⟨(Beside.refl S w).setCell (p := ⟨rb, q * 4, none⟩) h.S_rb.1 _⟩
  have SF2 : Aside0 (Mat (w.setCell ⟨rb, q * 4, none⟩ (.int .u64 m)) S g rb cp (L.set q ⟨m, x.f1, x.f2, x.f3⟩)) := ⟨SF.out⟩
  have hxx : (L.set q ⟨m, x.f1, x.f2, x.f3⟩)[q]? = some ⟨m, x.f1, x.f2, x.f3⟩ := List.getElem?_set_self hq
  have XY : Aside0 ((tellX x i a b).f0 = m) := ⟨hm⟩
  have XZ : Aside0 (xok (L.set q ⟨m, x.f1, x.f2, x.f3⟩).length (tellX x i a b)) := ⟨by
    rw [List.length_set]
    exact ⟨(riseL_len _ _).trans xo.l1, (riseL_len _ _).trans xo.l2, by show 0 ≤ mx x.f0 i ∧ mx x.f0 i ≤ _; unfold mx; have := xo.u0; split <;> omega, riseL_u64 xo.u1 hua, riseL_u64 xo.u2 hub⟩⟩
  clear k1 k2 k3 kf r1 r2 SF xo
  by_cases hlt : x.f0 < i
  · have hmi : m = i := by rw [← hm]; exact if_pos hlt
    rw [hmi] at SB SF2 hxx XZ
    go_enter Try.func9, Try.ntmps9
    go_wp2_with fail
    refine OF.out.mono ?_
    rintro e w9 ⟨rfl, h9⟩
    have h9 := h9.symm
    subst h9
    go_upto_region 3 with (fail)
    rw [hmi] at XY
    generalize w.setCell ⟨rb, q * 4, none⟩ (.int .u64 i) = w1 at SB SF2 ⊢
    obtain ⟨A1, c1, A2, c2, ⟨y0, y1, y2, y3⟩, yf, r1, r2⟩ := SF2.out.elem hxx
    obtain ⟨_, hc1, hC1⟩ := Kd.R_reads' r1
    obtain ⟨_, hc2, hC2⟩ := Kd.R_reads' r2
    have RI1 : Aside0 (∀ W, Below w1.heap.size w1 W → Calls Try.prog 24 #[.slice A1 x.f1.length c1, .slice A a.length c] W fun e w' => ∃ v, e = .returned v ∧ Kd.R kU tU w' W.heap.size (fun k => W.heap.size ≤ k) v (riseL x.f1 a) ∧ Below W.heap.size W w') := ⟨fun W hb => rise_C (Kd.C_below hC1 hb) (RA.out W (SB.out.then_below hb)) hc1 hc hl1 hal⟩
    have RI2 : Aside0 (∀ W, Below w1.heap.size w1 W → Calls Try.prog 24 #[.slice A2 x.f2.length c2, .slice B b.length d] W fun e w' => ∃ v, e = .returned v ∧ Kd.R kU tU w' W.heap.size (fun k => W.heap.size ≤ k) v (riseL x.f2 b) ∧ Below W.heap.size W w') := ⟨fun W hb => rise_C (Kd.C_below hC2 hb) (RB.out W (SB.out.then_below hb)) hc2 hd hl2 hbl⟩
    have B0 : Aside0 (Below w1.heap.size w1 w1.drew) := ⟨below_drew (Below.refl _ _)⟩
    have hg1 := yf 1
    have hg2 := yf 2
    have HY1 := Aside0.mk y1
    have HY2 := Aside0.mk y2
    have HG1 := Aside0.mk hg1
    have HG2 := Aside0.mk hg2
    clear y0 y3 yf r1 r2 hc1 hC1 hc2 hC2
    go_region_law
      ((first
        | (go_simp; go_at_call 24; have tok := Z2.out; refine (RI1.out _ BZ.out).mono ?_; rintro e w3 ⟨v1, rfl, hR, hb⟩; obtain ⟨Av1, cv1, rfl⟩ := Kd.R_slice hR; have BY : Aside0 (Below w1.heap.size w1 w3) := ⟨below_step BZ.out hb⟩; have Z1 : Aside0 (Kd.R kU tU w3 w1.heap.size (fun _ => True) (.slice Av1 (riseL x.f1 a).length cv1) (riseL x.f1 a)) := ⟨Kd.R_lower (Kd.R_mono hR (fun _ _ => trivial)) BZ.out.size⟩; have Z2 : Aside0 (Kd.R kU tU w3 w1.heap.size (fun _ => True) (.slice Av2 (riseL x.f2 b).length cv2) (riseL x.f2 b)) := ⟨Kd.R_below Z2.out hb⟩; have g1 := pw_cell_below BY.out HY1.out; have g2 := pw_cell_below BY.out HY2.out; have g3 := (BY.out.frozen (World.block_lt_of_cell? _ _ HY1.out)).trans HG1.out; have g4 := (BY.out.frozen (World.block_lt_of_cell? _ _ HY2.out)).trans HG2.out; clear tok hR hb)
        | (go_simp; go_at_call 24; have tok := Z1.out; refine (RI2.out _ BZ.out).mono ?_; rintro e w3 ⟨v2, rfl, hR, hb⟩; obtain ⟨Av2, cv2, rfl⟩ := Kd.R_slice hR; have BY : Aside0 (Below w1.heap.size w1 w3) := ⟨below_step BZ.out hb⟩; have Z2 : Aside0 (Kd.R kU tU w3 w1.heap.size (fun _ => True) (.slice Av2 (riseL x.f2 b).length cv2) (riseL x.f2 b)) := ⟨Kd.R_lower (Kd.R_mono hR (fun _ _ => trivial)) BZ.out.size⟩; have Z1 : Aside0 (Kd.R kU tU w3 w1.heap.size (fun _ => True) (.slice Av1 (riseL x.f1 a).length cv1) (riseL x.f1 a)) := ⟨Kd.R_below Z1.out hb⟩; have g1 := pw_cell_below BY.out HY1.out; have g2 := pw_cell_below BY.out HY2.out; have g3 := (BY.out.frozen (World.block_lt_of_cell? _ _ HY1.out)).trans HG1.out; have g4 := (BY.out.frozen (World.block_lt_of_cell? _ _ HY2.out)).trans HG2.out; clear tok hR hb)
        | (go_simp; go_at_call 24; refine (RI1.out _ B0.out).mono ?_; rintro e w2 ⟨v1, rfl, hR, hb⟩; obtain ⟨Av1, cv1, rfl⟩ := Kd.R_slice hR; have BZ : Aside0 (Below w1.heap.size w1 w2) := ⟨below_step B0.out hb⟩; have Z1 : Aside0 (Kd.R kU tU w2 w1.heap.size (fun _ => True) (.slice Av1 (riseL x.f1 a).length cv1) (riseL x.f1 a)) := ⟨Kd.R_lower (Kd.R_mono hR (fun _ _ => trivial)) B0.out.size⟩; have g1 := pw_cell_below BZ.out HY1.out; have g2 := pw_cell_below BZ.out HY2.out; clear hR hb)
        | (go_simp; go_at_call 24; refine (RI2.out _ B0.out).mono ?_; rintro e w2 ⟨v2, rfl, hR, hb⟩; obtain ⟨Av2, cv2, rfl⟩ := Kd.R_slice hR; have BZ : Aside0 (Below w1.heap.size w1 w2) := ⟨below_step B0.out hb⟩; have Z2 : Aside0 (Kd.R kU tU w2 w1.heap.size (fun _ => True) (.slice Av2 (riseL x.f2 b).length cv2) (riseL x.f2 b)) := ⟨Kd.R_lower (Kd.R_mono hR (fun _ _ => trivial)) B0.out.size⟩; have g1 := pw_cell_below BZ.out HY1.out; have g2 := pw_cell_below BZ.out HY2.out; clear hR hb)
        | fail))
    all_goals
      have hnb : w.heap.size ≤ w1.heap.size := SB.out.size
      have TD := Aside0.mk (Tell_done SF2.out BY.out hnb hxx (y' := tellX x i a b) XY.out rfl XZ.out Z1.out Z2.out)
      have TB : Aside0 (Beside S w ((w3.setCell ⟨rb, q * 4 + 1, none⟩ (.slice Av1 (riseL x.f1 a).length cv1)).setCell ⟨rb, q * 4 + 2, none⟩ (.slice Av2 (riseL x.f2 b).length cv2))) := ⟨((SB.out.then_below BY.out).setCell (p := ⟨rb, q * 4 + 1, none⟩) HM.out.S_rb.1 _).setCell (p := ⟨rb, q * 4 + 2, none⟩) HM.out.S_rb.1 _⟩
      clear g1 g2 g3 g4
      go_wp2_with fail
      go_end0
      refine ⟨rfl, ?_, ?_⟩
      · have := TD.out
        rw [List.set_set] at this
        first | exact this | exact this.drew
      · first | exact TB.out | exact TB.out.drew
  · have hmi : m = x.f0 := by rw [← hm]; exact if_neg hlt
    rw [hmi] at SB SF2 hxx XZ
    go_enter Try.func9, Try.ntmps9
    go_wp2_with fail
    refine OF.out.mono ?_
    rintro e w9 ⟨rfl, h9⟩
    have h9 := h9.symm
    subst h9
    go_upto_region 3 with (fail)
    rw [hmi] at XY
    generalize w.setCell ⟨rb, q * 4, none⟩ (.int .u64 x.f0) = w1 at SB SF2 ⊢
    obtain ⟨A1, c1, A2, c2, ⟨y0, y1, y2, y3⟩, yf, r1, r2⟩ := SF2.out.elem hxx
    obtain ⟨_, hc1, hC1⟩ := Kd.R_reads' r1
    obtain ⟨_, hc2, hC2⟩ := Kd.R_reads' r2
    have RI1 : Aside0 (∀ W, Below w1.heap.size w1 W → Calls Try.prog 24 #[.slice A1 x.f1.length c1, .slice A a.length c] W fun e w' => ∃ v, e = .returned v ∧ Kd.R kU tU w' W.heap.size (fun k => W.heap.size ≤ k) v (riseL x.f1 a) ∧ Below W.heap.size W w') := ⟨fun W hb => rise_C (Kd.C_below hC1 hb) (RA.out W (SB.out.then_below hb)) hc1 hc hl1 hal⟩
    have RI2 : Aside0 (∀ W, Below w1.heap.size w1 W → Calls Try.prog 24 #[.slice A2 x.f2.length c2, .slice B b.length d] W fun e w' => ∃ v, e = .returned v ∧ Kd.R kU tU w' W.heap.size (fun k => W.heap.size ≤ k) v (riseL x.f2 b) ∧ Below W.heap.size W w') := ⟨fun W hb => rise_C (Kd.C_below hC2 hb) (RB.out W (SB.out.then_below hb)) hc2 hd hl2 hbl⟩
    have B0 : Aside0 (Below w1.heap.size w1 w1.drew) := ⟨below_drew (Below.refl _ _)⟩
    have hg1 := yf 1
    have hg2 := yf 2
    have HY1 := Aside0.mk y1
    have HY2 := Aside0.mk y2
    have HG1 := Aside0.mk hg1
    have HG2 := Aside0.mk hg2
    clear y0 y3 yf r1 r2 hc1 hC1 hc2 hC2
    go_region_law
      ((first
        | (go_simp; go_at_call 24; have tok := Z2.out; refine (RI1.out _ BZ.out).mono ?_; rintro e w3 ⟨v1, rfl, hR, hb⟩; obtain ⟨Av1, cv1, rfl⟩ := Kd.R_slice hR; have BY : Aside0 (Below w1.heap.size w1 w3) := ⟨below_step BZ.out hb⟩; have Z1 : Aside0 (Kd.R kU tU w3 w1.heap.size (fun _ => True) (.slice Av1 (riseL x.f1 a).length cv1) (riseL x.f1 a)) := ⟨Kd.R_lower (Kd.R_mono hR (fun _ _ => trivial)) BZ.out.size⟩; have Z2 : Aside0 (Kd.R kU tU w3 w1.heap.size (fun _ => True) (.slice Av2 (riseL x.f2 b).length cv2) (riseL x.f2 b)) := ⟨Kd.R_below Z2.out hb⟩; have g1 := pw_cell_below BY.out HY1.out; have g2 := pw_cell_below BY.out HY2.out; have g3 := (BY.out.frozen (World.block_lt_of_cell? _ _ HY1.out)).trans HG1.out; have g4 := (BY.out.frozen (World.block_lt_of_cell? _ _ HY2.out)).trans HG2.out; clear tok hR hb)
        | (go_simp; go_at_call 24; have tok := Z1.out; refine (RI2.out _ BZ.out).mono ?_; rintro e w3 ⟨v2, rfl, hR, hb⟩; obtain ⟨Av2, cv2, rfl⟩ := Kd.R_slice hR; have BY : Aside0 (Below w1.heap.size w1 w3) := ⟨below_step BZ.out hb⟩; have Z2 : Aside0 (Kd.R kU tU w3 w1.heap.size (fun _ => True) (.slice Av2 (riseL x.f2 b).length cv2) (riseL x.f2 b)) := ⟨Kd.R_lower (Kd.R_mono hR (fun _ _ => trivial)) BZ.out.size⟩; have Z1 : Aside0 (Kd.R kU tU w3 w1.heap.size (fun _ => True) (.slice Av1 (riseL x.f1 a).length cv1) (riseL x.f1 a)) := ⟨Kd.R_below Z1.out hb⟩; have g1 := pw_cell_below BY.out HY1.out; have g2 := pw_cell_below BY.out HY2.out; have g3 := (BY.out.frozen (World.block_lt_of_cell? _ _ HY1.out)).trans HG1.out; have g4 := (BY.out.frozen (World.block_lt_of_cell? _ _ HY2.out)).trans HG2.out; clear tok hR hb)
        | (go_simp; go_at_call 24; refine (RI1.out _ B0.out).mono ?_; rintro e w2 ⟨v1, rfl, hR, hb⟩; obtain ⟨Av1, cv1, rfl⟩ := Kd.R_slice hR; have BZ : Aside0 (Below w1.heap.size w1 w2) := ⟨below_step B0.out hb⟩; have Z1 : Aside0 (Kd.R kU tU w2 w1.heap.size (fun _ => True) (.slice Av1 (riseL x.f1 a).length cv1) (riseL x.f1 a)) := ⟨Kd.R_lower (Kd.R_mono hR (fun _ _ => trivial)) B0.out.size⟩; have g1 := pw_cell_below BZ.out HY1.out; have g2 := pw_cell_below BZ.out HY2.out; clear hR hb)
        | (go_simp; go_at_call 24; refine (RI2.out _ B0.out).mono ?_; rintro e w2 ⟨v2, rfl, hR, hb⟩; obtain ⟨Av2, cv2, rfl⟩ := Kd.R_slice hR; have BZ : Aside0 (Below w1.heap.size w1 w2) := ⟨below_step B0.out hb⟩; have Z2 : Aside0 (Kd.R kU tU w2 w1.heap.size (fun _ => True) (.slice Av2 (riseL x.f2 b).length cv2) (riseL x.f2 b)) := ⟨Kd.R_lower (Kd.R_mono hR (fun _ _ => trivial)) B0.out.size⟩; have g1 := pw_cell_below BZ.out HY1.out; have g2 := pw_cell_below BZ.out HY2.out; clear hR hb)
        | fail))
    all_goals
      have hnb : w.heap.size ≤ w1.heap.size := SB.out.size
      have TD := Aside0.mk (Tell_done SF2.out BY.out hnb hxx (y' := tellX x i a b) XY.out rfl XZ.out Z1.out Z2.out)
      have TB : Aside0 (Beside S w ((w3.setCell ⟨rb, q * 4 + 1, none⟩ (.slice Av1 (riseL x.f1 a).length cv1)).setCell ⟨rb, q * 4 + 2, none⟩ (.slice Av2 (riseL x.f2 b).length cv2))) := ⟨((SB.out.then_below BY.out).setCell (p := ⟨rb, q * 4 + 1, none⟩) HM.out.S_rb.1 _).setCell (p := ⟨rb, q * 4 + 2, none⟩) HM.out.S_rb.1 _⟩
      clear g1 g2 g3 g4
      go_wp2_with fail
      go_end0
      refine ⟨rfl, ?_, ?_⟩
      · have := TD.out
        rw [List.set_set] at this
        first | exact this | exact this.drew
      · first | exact TB.out | exact TB.out.drew
end

end Go.Proofs.Ytncofecfljocgaa.Walk
