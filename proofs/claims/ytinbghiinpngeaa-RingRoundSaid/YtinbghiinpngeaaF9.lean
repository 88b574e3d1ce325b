/- What is proved: the Go functions that the law reaches come to what the Lean functions beside them tell, and (in the text of the law) the given statement follows. Conditions: none beyond each theorem's own. Written by a program (a turned copy of the kit's print.py), some walks by hand. -/
import Derived.Test.YtinbghiinpngeaaF0
import Derived.Test.YtinbghiinpngeaaF3
import Derived.Test.YtinbghiinpngeaaF4
import Derived.Test.YtinbghiinpngeaaF6
namespace Go.Proofs.Ytinbghiinpngeaa.F
open Go.RowKit Go.Proofs.YtinbghiinpngeaaW.PrintWords Go.Proofs.YtinbghiinpngeaaW.PrintLast Go.Proofs.YtinbghiinpngeaaW.PrintMore
attribute [local go_sem] max2_int min2_int max_two min_two max_three min_three max_four min_four   -- for this text's walks alone
set_option linter.unusedVariables false
set_option linter.unusedSimpArgs false

/-! ### unisonlaw15_RingRound: function 4 -/
mutual
def unisonlaw15_RingRound.j0 : Nat → Int → Int → Int → List Int → Bool → Option (Bool)
  | 0, _, _, _, _, _ => none
  | k + 1, x0, x1, x2, x3, x27 => if x27 = true then ((unisonlaw15_awake.f k).bind fun t170 => (some t170)) else (unisonlaw15_RingRound.l0 k x0 x1 x2 x3 0)
def unisonlaw15_RingRound.l0 : Nat → Int → Int → Int → List Int → Int → Option (Bool)
  | 0, _, _, _, _, _ => none
  | k + 1, x0, x1, x2, x3, x9 => if x9 < (x3.length : Int) then (if 0 ≤ x9 then (if (rd x3 x9) = x1 then ((unisonlaw15_awake.f k).bind fun t172 => (some t172)) else (if (rd x3 x9) = x2 then ((unisonlaw15_awake.f k).bind fun t174 => (some t174)) else (unisonlaw15_RingRound.l0 k x0 x1 x2 x3 (wrap64 (x9 + 1))))) else (none)) else (unisonlaw15_RingRound.l1 k x0 x2 x3 x1 0)
def unisonlaw15_RingRound.l1 : Nat → Int → Int → List Int → Int → Int → Option (Bool)
  | 0, _, _, _, _, _ => none
  | k + 1, x0, x2, x3, x10, x11 => if x11 < x0 then (unisonlaw15_RingRound.j3 k x0 x2 x3 x10 x11 (x10 != x2)) else (unisonlaw15_RingRound.j3 k x0 x2 x3 x10 x11 false)
def unisonlaw15_RingRound.j3 : Nat → Int → Int → List Int → Int → Int → Bool → Option (Bool)
  | 0, _, _, _, _, _, _ => none
  | k + 1, x0, x2, x3, x10, x11, x58 => if x58 = true then ((ring_Next.f k x0 x10 x3).bind fun t176 => ((unisonref15_Of.f x0 t176).bind fun t177 => (if t177 = true then ((ring_Steps.f k x0 t176 x2).bind fun t178 => ((ring_Steps.f k x0 x10 x2).bind fun t179 => (if t178 ≥ t179 then (some false) else (unisonlaw15_RingRound.l1 k x0 x2 x3 t176 (wrap64 (x11 + 1)))))) else (some false)))) else (if x10 = x2 then ((unisonlaw15_awake.f k).bind fun t175 => (some t175)) else (some false))
end
def unisonlaw15_RingRound.f (k : Nat) (a0 : Int) (a1 : Int) (a2 : Int) (l3 : List Int) : Option (Bool) := if (l3.length : Int) > 100 then (unisonlaw15_RingRound.j0 k a0 a1 a2 l3 true) else ((unisonref15_Of.f a0 a1).bind fun t168 => (if t168 = true then ((unisonref15_Of.f a0 a2).bind fun t169 => (unisonlaw15_RingRound.j0 k a0 a1 a2 l3 (!t169))) else (unisonlaw15_RingRound.j0 k a0 a1 a2 l3 true)))
theorem unisonlaw15_RingRound.mono_l : ∀ k, (∀ y0 y1 y2 y3 y4, LeO (unisonlaw15_RingRound.j0 k y0 y1 y2 y3 y4) (unisonlaw15_RingRound.j0 (k + 1) y0 y1 y2 y3 y4)) ∧ (∀ y0 y1 y2 y3 y4, LeO (unisonlaw15_RingRound.l0 k y0 y1 y2 y3 y4) (unisonlaw15_RingRound.l0 (k + 1) y0 y1 y2 y3 y4)) ∧ (∀ y0 y1 y2 y3 y4, LeO (unisonlaw15_RingRound.l1 k y0 y1 y2 y3 y4) (unisonlaw15_RingRound.l1 (k + 1) y0 y1 y2 y3 y4)) ∧ (∀ y0 y1 y2 y3 y4 y5, LeO (unisonlaw15_RingRound.j3 k y0 y1 y2 y3 y4 y5) (unisonlaw15_RingRound.j3 (k + 1) y0 y1 y2 y3 y4 y5))
  | 0 => ⟨fun _ _ _ _ _ r h => by simp [unisonlaw15_RingRound.j0] at h, fun _ _ _ _ _ r h => by simp [unisonlaw15_RingRound.l0] at h, fun _ _ _ _ _ r h => by simp [unisonlaw15_RingRound.l1] at h, fun _ _ _ _ _ _ r h => by simp [unisonlaw15_RingRound.j3] at h⟩
  | k + 1 => by
    obtain ⟨ih0, ih1, ih2, ih3⟩ := unisonlaw15_RingRound.mono_l k
    refine ⟨?_, ?_, ?_, ?_⟩
    · intro y0 y1 y2 y3 y4
      unfold unisonlaw15_RingRound.j0
      repeat' first
      | (with_reducible exact ih0 _ _ _ _ _)
      | (with_reducible exact ih1 _ _ _ _ _)
      | (with_reducible exact ih2 _ _ _ _ _)
      | (with_reducible exact ih3 _ _ _ _ _ _)
      | (with_reducible exact ring_Next.mono _ _ _ _)
      | (with_reducible exact ring_Steps.mono _ _ _ _)
      | (with_reducible exact unisonlaw15_awake.mono _)
      | (with_reducible exact LeO.refl _)
      | (with_reducible exact LeO.none _)
      | (with_reducible refine LeO.ite ?_ ?_)
      | (with_reducible refine LeO.bind ?_ (fun _ => ?_))
      | exact ih0 _ _ _ _ _
      | exact ih1 _ _ _ _ _
      | exact ih2 _ _ _ _ _
      | exact ih3 _ _ _ _ _ _
      | exact ring_Next.mono _ _ _ _
      | exact ring_Steps.mono _ _ _ _
      | exact unisonlaw15_awake.mono _
      | exact LeO.none _
      | refine LeO.ite ?_ ?_
      | refine LeO.bind ?_ (fun _ => ?_)
    · intro y0 y1 y2 y3 y4
      unfold unisonlaw15_RingRound.l0
      repeat' first
      | (with_reducible exact ih0 _ _ _ _ _)
      | (with_reducible exact ih1 _ _ _ _ _)
      | (with_reducible exact ih2 _ _ _ _ _)
      | (with_reducible exact ih3 _ _ _ _ _ _)
      | (with_reducible exact ring_Next.mono _ _ _ _)
      | (with_reducible exact ring_Steps.mono _ _ _ _)
      | (with_reducible exact unisonlaw15_awake.mono _)
      | (with_reducible exact LeO.refl _)
      | (with_reducible exact LeO.none _)
      | (with_reducible refine LeO.ite ?_ ?_)
      | (with_reducible refine LeO.bind ?_ (fun _ => ?_))
      | exact ih0 _ _ _ _ _
      | exact ih1 _ _ _ _ _
      | exact ih2 _ _ _ _ _
      | exact ih3 _ _ _ _ _ _
      | exact ring_Next.mono _ _ _ _
      | exact ring_Steps.mono _ _ _ _
      | exact unisonlaw15_awake.mono _
      | exact LeO.none _
      | refine LeO.ite ?_ ?_
      | refine LeO.bind ?_ (fun _ => ?_)
    · intro y0 y1 y2 y3 y4
      unfold unisonlaw15_RingRound.l1
      repeat' first
      | (with_reducible exact ih0 _ _ _ _ _)
      | (with_reducible exact ih1 _ _ _ _ _)
      | (with_reducible exact ih2 _ _ _ _ _)
      | (with_reducible exact ih3 _ _ _ _ _ _)
      | (with_reducible exact ring_Next.mono _ _ _ _)
      | (with_reducible exact ring_Steps.mono _ _ _ _)
      | (with_reducible exact unisonlaw15_awake.mono _)
      | (with_reducible exact LeO.refl _)
      | (with_reducible exact LeO.none _)
      | (with_reducible refine LeO.ite ?_ ?_)
      | (with_reducible refine LeO.bind ?_ (fun _ => ?_))
      | exact ih0 _ _ _ _ _
      | exact ih1 _ _ _ _ _
      | exact ih2 _ _ _ _ _
      | exact ih3 _ _ _ _ _ _
      | exact ring_Next.mono _ _ _ _
      | exact ring_Steps.mono _ _ _ _
      | exact unisonlaw15_awake.mono _
      | exact LeO.none _
      | refine LeO.ite ?_ ?_
      | refine LeO.bind ?_ (fun _ => ?_)
    · intro y0 y1 y2 y3 y4 y5
      unfold unisonlaw15_RingRound.j3
      repeat' first
      | (with_reducible exact ih0 _ _ _ _ _)
      | (with_reducible exact ih1 _ _ _ _ _)
      | (with_reducible exact ih2 _ _ _ _ _)
      | (with_reducible exact ih3 _ _ _ _ _ _)
      | (with_reducible exact ring_Next.mono _ _ _ _)
      | (with_reducible exact ring_Steps.mono _ _ _ _)
      | (with_reducible exact unisonlaw15_awake.mono _)
      | (with_reducible exact LeO.refl _)
      | (with_reducible exact LeO.none _)
      | (with_reducible refine LeO.ite ?_ ?_)
      | (with_reducible refine LeO.bind ?_ (fun _ => ?_))
      | exact ih0 _ _ _ _ _
      | exact ih1 _ _ _ _ _
      | exact ih2 _ _ _ _ _
      | exact ih3 _ _ _ _ _ _
      | exact ring_Next.mono _ _ _ _
      | exact ring_Steps.mono _ _ _ _
      | exact unisonlaw15_awake.mono _
      | exact LeO.none _
      | refine LeO.ite ?_ ?_
      | refine LeO.bind ?_ (fun _ => ?_)
theorem unisonlaw15_RingRound.mono : ∀ a0 a1 a2 a3 k, LeO (unisonlaw15_RingRound.f k a0 a1 a2 a3) (unisonlaw15_RingRound.f (k + 1) a0 a1 a2 a3) := by
  intro a0 a1 a2 a3 k
  obtain ⟨ih0, ih1, ih2, ih3⟩ := unisonlaw15_RingRound.mono_l k
  unfold unisonlaw15_RingRound.f
  repeat' first
      | (with_reducible exact ih0 _ _ _ _ _)
      | (with_reducible exact ih1 _ _ _ _ _)
      | (with_reducible exact ih2 _ _ _ _ _)
      | (with_reducible exact ih3 _ _ _ _ _ _)
      | (with_reducible exact ring_Next.mono _ _ _ _)
      | (with_reducible exact ring_Steps.mono _ _ _ _)
      | (with_reducible exact unisonlaw15_awake.mono _)
      | (with_reducible exact LeO.refl _)
      | (with_reducible exact LeO.none _)
      | (with_reducible refine LeO.ite ?_ ?_)
      | (with_reducible refine LeO.bind ?_ (fun _ => ?_))
      | exact ih0 _ _ _ _ _
      | exact ih1 _ _ _ _ _
      | exact ih2 _ _ _ _ _
      | exact ih3 _ _ _ _ _ _
      | exact ring_Next.mono _ _ _ _
      | exact ring_Steps.mono _ _ _ _
      | exact unisonlaw15_awake.mono _
      | exact LeO.none _
      | refine LeO.ite ?_ ?_
      | refine LeO.bind ?_ (fun _ => ?_)
set_option maxHeartbeats 8000000 in
set_option maxRecDepth 100000 in
theorem unisonlaw15_RingRound.calls (k : Nat) (a0 : Int) (a1 : Int) (a2 : Int) (A3 : Option Addr) (c3 : Nat) (l3 : List Int) (r : Bool) (w : World) (hr3 : Kd.C (Kd.int .i64) w A3 l3.length l3) (hc3 : l3.length ≤ c3) (h : unisonlaw15_RingRound.f k a0 a1 a2 l3 = some r) :
    Calls Try.prog 4 #[.int .i64 a0, .int .i64 a1, .int .i64 a2, .slice A3 l3.length c3] w fun e w' => e = .returned (.bool r) ∧ Below w.heap.size w w' := by
  have HR3 := Aside0.mk hr3
  have HC3 := Aside0.mk hc3
  clear hr3 hc3
  have HB := Aside0.mk (Below.refl w.heap.size w)
  have H : (if (l3.length : Int) > 100 then (unisonlaw15_RingRound.j0 k a0 a1 a2 l3 true) else ((unisonref15_Of.f a0 a1).bind fun t168 => (if t168 = true then ((unisonref15_Of.f a0 a2).bind fun t169 => (unisonlaw15_RingRound.j0 k a0 a1 a2 l3 (!t169))) else (unisonlaw15_RingRound.j0 k a0 a1 a2 l3 true)))) = some r := h
  clear h
  have HC5 := Aside0.mk H
  clear H
  go_enter Try.func4, Try.ntmps4
  go_upto_region 1 with (fail)
  go_cut [27] (fun v27 wc => ∃ (kq : Nat) (x27_4 : Bool), v27 = .bool x27_4 ∧ Aside0 (unisonlaw15_RingRound.j0 kq a0 a1 a2 l3 x27_4 = some r) ∧ Aside0 (kq ≤ k) ∧ Aside0 (Below w.heap.size w wc))
  case first =>
    have H := HC5.out
    clear HC5
    by_cases c6 : (l3.length : Int) > 100
    · rw [if_pos c6] at H
      have c6b0 : decide (100 < (l3.length : Int)) = true := decide_eq_true c6
      have c6b1 : decide (100 < l3.length) = true := decide_eq_true (by omega)
      clear c6
      (first | rw [c6b0] | (simp only [i64_w, i32_w]; rw [c6b0]) | skip)
      have H' := Aside0.mk H
      clear H
      go_wp2
      go_meet
      case rel => exact ⟨_, (true), (by first | rfl | (simp; done) | (simp [*]; done)), H', ⟨by first | omega | exact Nat.le_refl _⟩, ⟨by repeat (first | (with_reducible first | exact HB.out | apply below_alloc | apply pw_below_drewN | apply below_drew1) | exact HB.out)⟩⟩
    · rw [if_neg c6] at H
      have c6b0 : decide (100 < (l3.length : Int)) = false := decide_eq_false c6
      have c6b1 : decide (100 < l3.length) = false := decide_eq_false (by omega)
      clear c6
      (first | rw [c6b0] | (simp only [i64_w, i32_w]; rw [c6b0]) | skip)
      replace H := Option.bind_eq_some_iff.mp H
      obtain ⟨t168, A70, H⟩ := H
      replace H : (if t168 = true then ((unisonref15_Of.f a0 a2).bind fun t169 => (unisonlaw15_RingRound.j0 k a0 a1 a2 l3 (!t169))) else (unisonlaw15_RingRound.j0 k a0 a1 a2 l3 true)) = some r := H
      have A7 := Aside0.mk A70
      clear A70
      by_cases c8 : t168 = true
      · subst c8
        have H1 : ((unisonref15_Of.f a0 a2).bind fun t169 => (unisonlaw15_RingRound.j0 k a0 a1 a2 l3 (!t169))) = some r := by rw [if_pos rfl] at H; exact H
        clear H
        have H := H1
        clear H1
        replace H := Option.bind_eq_some_iff.mp H
        obtain ⟨t169, A90, H⟩ := H
        replace H : (unisonlaw15_RingRound.j0 k a0 a1 a2 l3 (!t169)) = some r := H
        have A9 := Aside0.mk A90
        clear A90
        have H' := Aside0.mk H
        clear H
        go_wp2_with (first | (go_at_call 14; (with_reducible refine (unisonref15_Of.calls a0 a1 true _ A7.out).mono ?_); rintro e w' ⟨rfl, ⟨nd, rfl⟩⟩) | (go_at_call 14; (with_reducible refine (unisonref15_Of.calls a0 a2 t169 _ A9.out).mono ?_); rintro e w' ⟨rfl, ⟨nd, rfl⟩⟩))
        go_meet
        case rel => exact ⟨_, (!t169), (by first | rfl | (simp; done) | (simp [*]; done)), H', ⟨by first | omega | exact Nat.le_refl _⟩, ⟨by repeat (first | (with_reducible first | exact HB.out | apply below_alloc | apply pw_below_drewN | apply below_drew1) | exact HB.out)⟩⟩
      · replace c8 := Bool.eq_false_iff.mpr c8
        subst c8
        have H1 : (unisonlaw15_RingRound.j0 k a0 a1 a2 l3 true) = some r := by rw [if_neg (show ¬ (false = true) by decide)] at H; exact H
        clear H
        have H := H1
        clear H1
        have H' := Aside0.mk H
        clear H
        go_wp2_with (first | (go_at_call 14; (with_reducible refine (unisonref15_Of.calls a0 a1 false _ A7.out).mono ?_); rintro e w' ⟨rfl, ⟨nd, rfl⟩⟩))
        go_meet
        case rel => exact ⟨_, (true), (by first | rfl | (simp; done) | (simp [*]; done)), H', ⟨by first | omega | exact Nat.le_refl _⟩, ⟨by repeat (first | (with_reducible first | exact HB.out | apply below_alloc | apply pw_below_drewN | apply below_drew1) | exact HB.out)⟩⟩
  case rest =>
    clear HC5
    try clear p2
    try clear c3
    try clear c4
    try clear c6
    try clear c6b0
    try clear c6b1
    try clear c8
    obtain ⟨kq, x27_4, rfl, HA, HJ4, HB⟩ := hcut
    cases kq with
    | zero => exact absurd HA.out (by simp [unisonlaw15_RingRound.j0])
    | succ kj4 =>
      have H := HA.out
      clear HA
      simp only [unisonlaw15_RingRound.j0] at H
      by_cases c10 : x27_4 = true
      · subst c10
        have H1 : ((unisonlaw15_awake.f kj4).bind fun t170 => (some t170)) = some r := by rw [if_pos rfl] at H; exact H
        clear H
        have H := H1
        clear H1
        replace H := Option.bind_eq_some_iff.mp H
        obtain ⟨t170, A110, H⟩ := H
        replace H : (some t170) = some r := H
        have A11 := Aside0.mk A110
        clear A110
        obtain rfl := Option.some.inj H
        go_wp2_with (first | ((with_reducible refine gate_callee (f := 6) rfl ?_); refine goesL_ (some 28) rfl rfl Try.func6 (by kernel_rfl) rfl #[] rfl (by (try simp only [List.map_toArray, List.map_cons, List.map_nil]); first | done | rfl | (simp only [List.length_drop, List.length_take]; rfl)) ?_; (with_reducible refine (unisonlaw15_awake.calls kj4  t170 _ A11.out).mono ?_); rintro e w12 ⟨rfl, hb⟩; refine ⟨_, rfl, ?_⟩; have n0_ := Aside0.mk (below_step (by repeat (first | (with_reducible first | exact HB.out | apply below_alloc | apply pw_below_drewN | apply below_drew1) | exact HB.out)) hb); clear HB; have HB := n0_; clear n0_; (try clear hb); (try clear hb2); (try clear hk); (try clear hi)))
        go_ret
        exact ⟨by first | rfl | (simp [errW_none, errW_some] <;> rfl) | (simp [*, errW_none, errW_some] <;> rfl), by repeat (first | (with_reducible first | exact HB.out | apply below_alloc | apply pw_below_drewN | apply below_drew1) | exact HB.out)⟩
      · replace c10 := Bool.eq_false_iff.mpr c10
        subst c10
        have H1 : (unisonlaw15_RingRound.l0 kj4 a0 a1 a2 l3 0) = some r := by rw [if_neg (show ¬ (false = true) by decide)] at H; exact H
        clear H
        have H := H1
        clear H1
        have H' := Aside0.mk H
        clear H
        go_wp2
        go_loopg [9] kj4 (fun kq v9 w' => ∃ (x9_2 : Int), v9 = .int .i64 x9_2 ∧ Aside0 (unisonlaw15_RingRound.l0 kq a0 a1 a2 l3 x9_2 = some r) ∧ Aside0 (kq ≤ kj4) ∧ Aside0 (Below w.heap.size w w'))
        case atStart => exact ⟨(0), (by first | rfl | (simp; done) | (simp [*]; done)), H', ⟨Nat.le_refl _⟩, ⟨by repeat (first | (with_reducible first | exact HB.out | apply below_alloc | apply pw_below_drewN | apply below_drew1) | exact HB.out)⟩⟩
        case round =>
          clear H'
          try clear c1
          try clear p2
          try clear c3
          try clear c4
          try clear c6
          try clear c6b0
          try clear c6b1
          try clear c8
          try clear c10
          try clear p2
          obtain ⟨x9_2, rfl, HA, HK2, HB⟩ := hrel
          cases gk with
          | zero => exact absurd HA.out (by simp [unisonlaw15_RingRound.l0])
          | succ k2 =>
            have H := HA.out
            clear HA
            simp only [unisonlaw15_RingRound.l0] at H
            by_cases c13 : x9_2 < (l3.length : Int)
            · rw [if_pos c13] at H
              have c13b0 : decide (x9_2 < (l3.length : Int)) = true := decide_eq_true c13
              clear c13
              by_cases c14 : 0 ≤ x9_2
              · rw [if_pos c14] at H
                have c14b0 : decide (0 ≤ x9_2) = true := decide_eq_true c14
                clear c14
                by_cases c15 : (rd l3 x9_2) = a1
                · rw [if_pos c15] at H
                  have c15b0 : ((rd l3 x9_2) == a1) = true := beq_iff_eq.mpr c15
                  have c15b1 : ((rd l3 x9_2) != a1) = false := bne_eq_false_iff_eq.mpr c15
                  clear c15
                  replace H := Option.bind_eq_some_iff.mp H
                  obtain ⟨t172, A160, H⟩ := H
                  replace H : (some t172) = some r := H
                  have A16 := Aside0.mk A160
                  clear A160
                  obtain rfl := Option.some.inj H
                  have p171 : 0 ≤ (x9_2 : Int) := of_decide_eq_true (by first | (with_reducible assumption) | assumption)
                  have q171 : x9_2 < (l3.length : Int) := of_decide_eq_true (by first | (with_reducible assumption) | assumption)
                  obtain ⟨ad171, e171, hx171_0⟩ := Kd.at_int HR3.out x9_2 p171 q171
                  cases e171
                  replace hx171_0 := (HB.out.cell (World.block_lt_of_cell? w _ hx171_0)).trans hx171_0
                  replace p171 := eq_true p171
                  replace q171 := eq_true q171
                  go_wp2_with (first | ((with_reducible refine gate_callee (f := 6) rfl ?_); refine goesL_ (some 49) rfl rfl Try.func6 (by kernel_rfl) rfl #[] rfl (by (try simp only [List.map_toArray, List.map_cons, List.map_nil]); first | done | rfl | (simp only [List.length_drop, List.length_take]; rfl)) ?_; (with_reducible refine (unisonlaw15_awake.calls k2  t172 _ A16.out).mono ?_); rintro e w17 ⟨rfl, hb⟩; refine ⟨_, rfl, ?_⟩; have n0_ := Aside0.mk (below_step (by repeat (first | (with_reducible first | exact HB.out | apply below_alloc | apply pw_below_drewN | apply below_drew1) | exact HB.out)) hb); clear HB; have HB := n0_; clear n0_; (try clear hb); (try clear hb2); (try clear hk); (try clear hi)))
                  go_ret
                  exact ⟨by first | rfl | (simp [errW_none, errW_some] <;> rfl) | (simp [*, errW_none, errW_some] <;> rfl), by repeat (first | (with_reducible first | exact HB.out | apply below_alloc | apply pw_below_drewN | apply below_drew1) | exact HB.out)⟩
                · rw [if_neg c15] at H
                  have c15b0 : ((rd l3 x9_2) == a1) = false := beq_eq_false_iff_ne.mpr c15
                  have c15b1 : ((rd l3 x9_2) != a1) = true := bne_iff_ne.mpr c15
                  by_cases c18 : (rd l3 x9_2) = a2
                  · rw [if_pos c18] at H
                    have c18b0 : ((rd l3 x9_2) == a2) = true := beq_iff_eq.mpr c18
                    have c18b1 : ((rd l3 x9_2) != a2) = false := bne_eq_false_iff_eq.mpr c18
                    clear c18
                    replace H := Option.bind_eq_some_iff.mp H
                    obtain ⟨t174, A190, H⟩ := H
                    replace H : (some t174) = some r := H
                    have A19 := Aside0.mk A190
                    clear A190
                    obtain rfl := Option.some.inj H
                    have p171 : 0 ≤ (x9_2 : Int) := of_decide_eq_true (by first | (with_reducible assumption) | assumption)
                    have q171 : x9_2 < (l3.length : Int) := of_decide_eq_true (by first | (with_reducible assumption) | assumption)
                    obtain ⟨ad171, e171, hx171_0⟩ := Kd.at_int HR3.out x9_2 p171 q171
                    cases e171
                    replace hx171_0 := (HB.out.cell (World.block_lt_of_cell? w _ hx171_0)).trans hx171_0
                    replace p171 := eq_true p171
                    replace q171 := eq_true q171
                    have p173 : 0 ≤ (x9_2 : Int) := of_decide_eq_true (by first | (with_reducible assumption) | assumption)
                    have q173 : x9_2 < (l3.length : Int) := of_decide_eq_true (by first | (with_reducible assumption) | assumption)
                    obtain ⟨ad173, e173, hx173_0⟩ := Kd.at_int HR3.out x9_2 p173 q173
                    obtain rfl : ad171 = ad173 := (by injection e173)
                    replace hx173_0 := (HB.out.cell (World.block_lt_of_cell? w _ hx173_0)).trans hx173_0
                    replace p173 := eq_true p173
                    replace q173 := eq_true q173
                    go_wp2_with (first | ((with_reducible refine gate_callee (f := 6) rfl ?_); refine goesL_ (some 49) rfl rfl Try.func6 (by kernel_rfl) rfl #[] rfl (by (try simp only [List.map_toArray, List.map_cons, List.map_nil]); first | done | rfl | (simp only [List.length_drop, List.length_take]; rfl)) ?_; (with_reducible refine (unisonlaw15_awake.calls k2  t174 _ A19.out).mono ?_); rintro e w20 ⟨rfl, hb⟩; refine ⟨_, rfl, ?_⟩; have n0_ := Aside0.mk (below_step (by repeat (first | (with_reducible first | exact HB.out | apply below_alloc | apply pw_below_drewN | apply below_drew1) | exact HB.out)) hb); clear HB; have HB := n0_; clear n0_; (try clear hb); (try clear hb2); (try clear hk); (try clear hi)))
                    go_ret
                    exact ⟨by first | rfl | (simp [errW_none, errW_some] <;> rfl) | (simp [*, errW_none, errW_some] <;> rfl), by repeat (first | (with_reducible first | exact HB.out | apply below_alloc | apply pw_below_drewN | apply below_drew1) | exact HB.out)⟩
                  · rw [if_neg c18] at H
                    have c18b0 : ((rd l3 x9_2) == a2) = false := beq_eq_false_iff_ne.mpr c18
                    have c18b1 : ((rd l3 x9_2) != a2) = true := bne_iff_ne.mpr c18
                    have H' := Aside0.mk H
                    clear H
                    have p171 : 0 ≤ (x9_2 : Int) := of_decide_eq_true (by first | (with_reducible assumption) | assumption)
                    have q171 : x9_2 < (l3.length : Int) := of_decide_eq_true (by first | (with_reducible assumption) | assumption)
                    obtain ⟨ad171, e171, hx171_0⟩ := Kd.at_int HR3.out x9_2 p171 q171
                    cases e171
                    replace hx171_0 := (HB.out.cell (World.block_lt_of_cell? w _ hx171_0)).trans hx171_0
                    replace p171 := eq_true p171
                    replace q171 := eq_true q171
                    have p173 : 0 ≤ (x9_2 : Int) := of_decide_eq_true (by first | (with_reducible assumption) | assumption)
                    have q173 : x9_2 < (l3.length : Int) := of_decide_eq_true (by first | (with_reducible assumption) | assumption)
                    obtain ⟨ad173, e173, hx173_0⟩ := Kd.at_int HR3.out x9_2 p173 q173
                    obtain rfl : ad171 = ad173 := (by injection e173)
                    replace hx173_0 := (HB.out.cell (World.block_lt_of_cell? w _ hx173_0)).trans hx173_0
                    replace p173 := eq_true p173
                    replace q173 := eq_true q173
                    go_wp2
                    go_roundg k2
                    case measure => have := HJ4.out; have := HK2.out; omega
                    case rel => exact ⟨(wrap64 (x9_2 + 1)), (by first | rfl | (simp; done) | (simp [*]; done)), H', ⟨by have := HJ4.out; have := HK2.out; omega⟩, ⟨by repeat (first | (with_reducible first | exact HB.out | apply below_alloc | apply pw_below_drewN | apply below_drew1) | exact HB.out)⟩⟩
              · rw [if_neg c14] at H
                exact absurd H (by simp)
            · rw [if_neg c13] at H
              have c13b0 : decide (x9_2 < (l3.length : Int)) = false := decide_eq_false c13
              clear c13
              have H' := Aside0.mk H
              clear H
              go_wp2
              go_loopg [10, 11] k2 (fun kq v10 v11 w' => ∃ (x10_3 : Int) (x11_3 : Int), v10 = .int .i64 x10_3 ∧ v11 = .int .i64 x11_3 ∧ Aside0 (unisonlaw15_RingRound.l1 kq a0 a2 l3 x10_3 x11_3 = some r) ∧ Aside0 (kq ≤ k2) ∧ Aside0 (Below w.heap.size w w'))
              case atStart => exact ⟨(a1), (0), (by first | rfl | (simp; done) | (simp [*]; done)), (by first | rfl | (simp; done) | (simp [*]; done)), H', ⟨Nat.le_refl _⟩, ⟨by repeat (first | (with_reducible first | exact HB.out | apply below_alloc | apply pw_below_drewN | apply below_drew1) | exact HB.out)⟩⟩
              case round =>
                clear H'
                try clear c1
                try clear p1
                try clear q1
                try clear hx1
                try clear p2
                try clear c3
                try clear c4
                try clear c6
                try clear c6b0
                try clear c6b1
                try clear p6
                try clear c8
                try clear c10
                try clear c13
                try clear c13b0
                try clear c14
                try clear c14b0
                try clear c15
                try clear c15b0
                try clear c15b1
                try clear p17
                try clear q17
                try clear hx17
                try clear c18
                try clear c18b0
                try clear c18b1
                try clear hx171_0
                try clear hx173_0
                try clear p171
                try clear p173
                try clear p2
                try clear q171
                try clear q173
                obtain ⟨x10_3, x11_3, rfl, rfl, HA, HK3, HB⟩ := hrel
                cases gk with
                | zero => exact absurd HA.out (by simp [unisonlaw15_RingRound.l1])
                | succ k3 =>
                  have H := HA.out
                  clear HA
                  simp only [unisonlaw15_RingRound.l1] at H
                  have HC21 := Aside0.mk H
                  clear H
                  go_upto_region 10 with (fail)
                  go_cut [58] (fun v58 wc => ∃ (kq : Nat) (x58_20 : Bool), v58 = .bool x58_20 ∧ Aside0 (unisonlaw15_RingRound.j3 kq a0 a2 l3 x10_3 x11_3 x58_20 = some r) ∧ Aside0 (kq ≤ k3) ∧ Aside0 (Below w.heap.size w wc))
                  case first =>
                    have H := HC21.out
                    clear HC21
                    by_cases c22 : x11_3 < a0
                    · rw [if_pos c22] at H
                      have c22b0 : decide (x11_3 < a0) = true := decide_eq_true c22
                      clear c22
                      (first | rw [c22b0] | (simp only [i64_w, i32_w]; rw [c22b0]) | skip)
                      have H' := Aside0.mk H
                      clear H
                      go_wp2
                      go_meet
                      case rel => exact ⟨_, ((x10_3 != a2)), (by first | rfl | (simp; done) | (simp [*]; done)), H', ⟨by have := HJ4.out; have := HK2.out; have := HK3.out; first | omega | exact Nat.le_refl _⟩, ⟨by repeat (first | (with_reducible first | exact HB.out | apply below_alloc | apply pw_below_drewN | apply below_drew1) | exact HB.out)⟩⟩
                    · rw [if_neg c22] at H
                      have c22b0 : decide (x11_3 < a0) = false := decide_eq_false c22
                      clear c22
                      (first | rw [c22b0] | (simp only [i64_w, i32_w]; rw [c22b0]) | skip)
                      have H' := Aside0.mk H
                      clear H
                      go_wp2
                      go_meet
                      case rel => exact ⟨_, (false), (by first | rfl | (simp; done) | (simp [*]; done)), H', ⟨by have := HJ4.out; have := HK2.out; have := HK3.out; first | omega | exact Nat.le_refl _⟩, ⟨by repeat (first | (with_reducible first | exact HB.out | apply below_alloc | apply pw_below_drewN | apply below_drew1) | exact HB.out)⟩⟩
                  case rest =>
                    clear HC21
                    try clear c1
                    try clear p1
                    try clear q1
                    try clear hx1
                    try clear c2
                    try clear p2
                    try clear c3
                    try clear c4
                    try clear c6
                    try clear c6b0
                    try clear c6b1
                    try clear p6
                    try clear c8
                    try clear c10
                    try clear c13
                    try clear c13b0
                    try clear c14
                    try clear c14b0
                    try clear c15
                    try clear c15b0
                    try clear c15b1
                    try clear p17
                    try clear q17
                    try clear hx17
                    try clear c18
                    try clear c18b0
                    try clear c18b1
                    try clear c22
                    try clear c22b0
                    try clear hx171_0
                    try clear hx173_0
                    try clear p1
                    try clear p17
                    try clear p171
                    try clear p173
                    try clear p2
                    try clear p6
                    try clear q1
                    try clear q17
                    try clear q171
                    try clear q173
                    obtain ⟨kq, x58_20, rfl, HA, HJ20, HB⟩ := hcut
                    cases kq with
                    | zero => exact absurd HA.out (by simp [unisonlaw15_RingRound.j3])
                    | succ kj20 =>
                      have H := HA.out
                      clear HA
                      simp only [unisonlaw15_RingRound.j3] at H
                      by_cases c23 : x58_20 = true
                      · subst c23
                        have H1 : ((ring_Next.f kj20 a0 x10_3 l3).bind fun t176 => ((unisonref15_Of.f a0 t176).bind fun t177 => (if t177 = true then ((ring_Steps.f kj20 a0 t176 a2).bind fun t178 => ((ring_Steps.f kj20 a0 x10_3 a2).bind fun t179 => (if t178 ≥ t179 then (some false) else (unisonlaw15_RingRound.l1 kj20 a0 a2 l3 t176 (wrap64 (x11_3 + 1)))))) else (some false)))) = some r := by rw [if_pos rfl] at H; exact H
                        clear H
                        have H := H1
                        clear H1
                        replace H := Option.bind_eq_some_iff.mp H
                        obtain ⟨t176, A240, H⟩ := H
                        replace H : ((unisonref15_Of.f a0 t176).bind fun t177 => (if t177 = true then ((ring_Steps.f kj20 a0 t176 a2).bind fun t178 => ((ring_Steps.f kj20 a0 x10_3 a2).bind fun t179 => (if t178 ≥ t179 then (some false) else (unisonlaw15_RingRound.l1 kj20 a0 a2 l3 t176 (wrap64 (x11_3 + 1)))))) else (some false))) = some r := H
                        have A24 := Aside0.mk A240
                        clear A240
                        replace H := Option.bind_eq_some_iff.mp H
                        obtain ⟨t177, A250, H⟩ := H
                        replace H : (if t177 = true then ((ring_Steps.f kj20 a0 t176 a2).bind fun t178 => ((ring_Steps.f kj20 a0 x10_3 a2).bind fun t179 => (if t178 ≥ t179 then (some false) else (unisonlaw15_RingRound.l1 kj20 a0 a2 l3 t176 (wrap64 (x11_3 + 1)))))) else (some false)) = some r := H
                        have A25 := Aside0.mk A250
                        clear A250
                        by_cases c26 : t177 = true
                        · subst c26
                          have H1 : ((ring_Steps.f kj20 a0 t176 a2).bind fun t178 => ((ring_Steps.f kj20 a0 x10_3 a2).bind fun t179 => (if t178 ≥ t179 then (some false) else (unisonlaw15_RingRound.l1 kj20 a0 a2 l3 t176 (wrap64 (x11_3 + 1)))))) = some r := by rw [if_pos rfl] at H; exact H
                          clear H
                          have H := H1
                          clear H1
                          replace H := Option.bind_eq_some_iff.mp H
                          obtain ⟨t178, A270, H⟩ := H
                          replace H : ((ring_Steps.f kj20 a0 x10_3 a2).bind fun t179 => (if t178 ≥ t179 then (some false) else (unisonlaw15_RingRound.l1 kj20 a0 a2 l3 t176 (wrap64 (x11_3 + 1))))) = some r := H
                          have A27 := Aside0.mk A270
                          clear A270
                          replace H := Option.bind_eq_some_iff.mp H
                          obtain ⟨t179, A280, H⟩ := H
                          replace H : (if t178 ≥ t179 then (some false) else (unisonlaw15_RingRound.l1 kj20 a0 a2 l3 t176 (wrap64 (x11_3 + 1)))) = some r := H
                          have A28 := Aside0.mk A280
                          clear A280
                          by_cases c29 : t178 ≥ t179
                          · rw [if_pos c29] at H
                            have c29b0 : decide (t179 ≤ t178) = true := decide_eq_true c29
                            clear c29
                            obtain rfl := Option.some.inj H
                            go_wp2_with (first | ((with_reducible refine gate_callee (f := 7) rfl ?_); refine goesL_ (some 64) rfl rfl Try.func7 (by kernel_rfl) rfl #[.int .i64 a0, .int .i64 x10_3, .slice A3 l3.length c3] rfl (by (try simp only [List.map_toArray, List.map_cons, List.map_nil]); first | done | rfl | (simp only [List.length_drop, List.length_take]; rfl)) ?_; (with_reducible refine (ring_Next.calls kj20 a0 x10_3 _ _ l3 t176 _ ?side1 ?side2 A24.out).mono ?_); (case side1 => repeat (first | exact (Kd.C_below HR3.out HB.out) | (with_reducible refine Kd.C_alloc ?_ _) | (with_reducible refine Kd.C_drewN ?_ _) | (with_reducible refine Kd.C_drew ?_))); (case side2 => exact HC3.out); rintro e w30 ⟨rfl, hb⟩; refine ⟨_, rfl, ?_⟩; have n0_ := Aside0.mk (below_step (by repeat (first | (with_reducible first | exact HB.out | apply below_alloc | apply pw_below_drewN | apply below_drew1) | exact HB.out)) hb); clear HB; have HB := n0_; clear n0_; (try clear hb); (try clear hb2); (try clear hk); (try clear hi)) | ((with_reducible refine gate_callee (f := 14) rfl ?_); refine goesL_ (some 67) rfl rfl Try.func14 (by kernel_rfl) rfl #[.int .i64 a0, .int .i64 t176] rfl (by (try simp only [List.map_toArray, List.map_cons, List.map_nil]); first | done | rfl | (simp only [List.length_drop, List.length_take]; rfl)) ?_; (with_reducible refine (unisonref15_Of.calls a0 t176 true _ A25.out).mono ?_); rintro e w' ⟨rfl, ⟨nd, rfl⟩⟩; refine ⟨_, rfl, ?_⟩) | (go_at_call 12; (with_reducible refine (ring_Steps.calls kj20 a0 t176 a2 t178 _ A27.out).mono ?_); rintro e w31 ⟨rfl, hb⟩; have n0_ := Aside0.mk (below_step (by repeat (first | (with_reducible first | exact HB.out | apply below_alloc | apply pw_below_drewN | apply below_drew1) | exact HB.out)) hb); clear HB; have HB := n0_; clear n0_; (try clear hb); (try clear hb2); (try clear hk); (try clear hi)) | (go_at_call 12; (with_reducible refine (ring_Steps.calls kj20 a0 x10_3 a2 t179 _ A28.out).mono ?_); rintro e w32 ⟨rfl, hb⟩; have n0_ := Aside0.mk (below_step (by repeat (first | (with_reducible first | exact HB.out | apply below_alloc | apply pw_below_drewN | apply below_drew1) | exact HB.out)) hb); clear HB; have HB := n0_; clear n0_; (try clear hb); (try clear hb2); (try clear hk); (try clear hi)))
                            go_ret
                            exact ⟨by first | rfl | (simp [errW_none, errW_some] <;> rfl) | (simp [*, errW_none, errW_some] <;> rfl), by repeat (first | (with_reducible first | exact HB.out | apply below_alloc | apply pw_below_drewN | apply below_drew1) | exact HB.out)⟩
                          · rw [if_neg c29] at H
                            have c29b0 : decide (t179 ≤ t178) = false := decide_eq_false c29
                            clear c29
                            have H' := Aside0.mk H
                            clear H
                            go_wp2_with (first | ((with_reducible refine gate_callee (f := 7) rfl ?_); refine goesL_ (some 64) rfl rfl Try.func7 (by kernel_rfl) rfl #[.int .i64 a0, .int .i64 x10_3, .slice A3 l3.length c3] rfl (by (try simp only [List.map_toArray, List.map_cons, List.map_nil]); first | done | rfl | (simp only [List.length_drop, List.length_take]; rfl)) ?_; (with_reducible refine (ring_Next.calls kj20 a0 x10_3 _ _ l3 t176 _ ?side1 ?side2 A24.out).mono ?_); (case side1 => repeat (first | exact (Kd.C_below HR3.out HB.out) | (with_reducible refine Kd.C_alloc ?_ _) | (with_reducible refine Kd.C_drewN ?_ _) | (with_reducible refine Kd.C_drew ?_))); (case side2 => exact HC3.out); rintro e w33 ⟨rfl, hb⟩; refine ⟨_, rfl, ?_⟩; have n0_ := Aside0.mk (below_step (by repeat (first | (with_reducible first | exact HB.out | apply below_alloc | apply pw_below_drewN | apply below_drew1) | exact HB.out)) hb); clear HB; have HB := n0_; clear n0_; (try clear hb); (try clear hb2); (try clear hk); (try clear hi)) | ((with_reducible refine gate_callee (f := 14) rfl ?_); refine goesL_ (some 67) rfl rfl Try.func14 (by kernel_rfl) rfl #[.int .i64 a0, .int .i64 t176] rfl (by (try simp only [List.map_toArray, List.map_cons, List.map_nil]); first | done | rfl | (simp only [List.length_drop, List.length_take]; rfl)) ?_; (with_reducible refine (unisonref15_Of.calls a0 t176 true _ A25.out).mono ?_); rintro e w' ⟨rfl, ⟨nd, rfl⟩⟩; refine ⟨_, rfl, ?_⟩) | (go_at_call 12; (with_reducible refine (ring_Steps.calls kj20 a0 t176 a2 t178 _ A27.out).mono ?_); rintro e w34 ⟨rfl, hb⟩; have n0_ := Aside0.mk (below_step (by repeat (first | (with_reducible first | exact HB.out | apply below_alloc | apply pw_below_drewN | apply below_drew1) | exact HB.out)) hb); clear HB; have HB := n0_; clear n0_; (try clear hb); (try clear hb2); (try clear hk); (try clear hi)) | (go_at_call 12; (with_reducible refine (ring_Steps.calls kj20 a0 x10_3 a2 t179 _ A28.out).mono ?_); rintro e w35 ⟨rfl, hb⟩; have n0_ := Aside0.mk (below_step (by repeat (first | (with_reducible first | exact HB.out | apply below_alloc | apply pw_below_drewN | apply below_drew1) | exact HB.out)) hb); clear HB; have HB := n0_; clear n0_; (try clear hb); (try clear hb2); (try clear hk); (try clear hi)))
                            go_roundg kj20
                            case measure => have := HJ4.out; have := HK2.out; have := HK3.out; have := HJ20.out; omega
                            case rel => exact ⟨(t176), (wrap64 (x11_3 + 1)), (by first | rfl | (simp; done) | (simp [*]; done)), (by first | rfl | (simp; done) | (simp [*]; done)), H', ⟨by have := HJ4.out; have := HK2.out; have := HK3.out; have := HJ20.out; omega⟩, ⟨by repeat (first | (with_reducible first | exact HB.out | apply below_alloc | apply pw_below_drewN | apply below_drew1) | exact HB.out)⟩⟩
                        · replace c26 := Bool.eq_false_iff.mpr c26
                          subst c26
                          have H1 : (some false) = some r := by rw [if_neg (show ¬ (false = true) by decide)] at H; exact H
                          clear H
                          have H := H1
                          clear H1
                          obtain rfl := Option.some.inj H
                          go_wp2_with (first | ((with_reducible refine gate_callee (f := 7) rfl ?_); refine goesL_ (some 64) rfl rfl Try.func7 (by kernel_rfl) rfl #[.int .i64 a0, .int .i64 x10_3, .slice A3 l3.length c3] rfl (by (try simp only [List.map_toArray, List.map_cons, List.map_nil]); first | done | rfl | (simp only [List.length_drop, List.length_take]; rfl)) ?_; (with_reducible refine (ring_Next.calls kj20 a0 x10_3 _ _ l3 t176 _ ?side1 ?side2 A24.out).mono ?_); (case side1 => repeat (first | exact (Kd.C_below HR3.out HB.out) | (with_reducible refine Kd.C_alloc ?_ _) | (with_reducible refine Kd.C_drewN ?_ _) | (with_reducible refine Kd.C_drew ?_))); (case side2 => exact HC3.out); rintro e w36 ⟨rfl, hb⟩; refine ⟨_, rfl, ?_⟩; have n0_ := Aside0.mk (below_step (by repeat (first | (with_reducible first | exact HB.out | apply below_alloc | apply pw_below_drewN | apply below_drew1) | exact HB.out)) hb); clear HB; have HB := n0_; clear n0_; (try clear hb); (try clear hb2); (try clear hk); (try clear hi)) | ((with_reducible refine gate_callee (f := 14) rfl ?_); refine goesL_ (some 67) rfl rfl Try.func14 (by kernel_rfl) rfl #[.int .i64 a0, .int .i64 t176] rfl (by (try simp only [List.map_toArray, List.map_cons, List.map_nil]); first | done | rfl | (simp only [List.length_drop, List.length_take]; rfl)) ?_; (with_reducible refine (unisonref15_Of.calls a0 t176 false _ A25.out).mono ?_); rintro e w' ⟨rfl, ⟨nd, rfl⟩⟩; refine ⟨_, rfl, ?_⟩))
                          go_ret
                          exact ⟨by first | rfl | (simp [errW_none, errW_some] <;> rfl) | (simp [*, errW_none, errW_some] <;> rfl), by repeat (first | (with_reducible first | exact HB.out | apply below_alloc | apply pw_below_drewN | apply below_drew1) | exact HB.out)⟩
                      · replace c23 := Bool.eq_false_iff.mpr c23
                        subst c23
                        have H1 : (if x10_3 = a2 then ((unisonlaw15_awake.f kj20).bind fun t175 => (some t175)) else (some false)) = some r := by rw [if_neg (show ¬ (false = true) by decide)] at H; exact H
                        clear H
                        have H := H1
                        clear H1
                        by_cases c37 : x10_3 = a2
                        · rw [if_pos c37] at H
                          have c37b0 : (x10_3 == a2) = true := beq_iff_eq.mpr c37
                          have c37b1 : (x10_3 != a2) = false := bne_eq_false_iff_eq.mpr c37
                          clear c37
                          replace H := Option.bind_eq_some_iff.mp H
                          obtain ⟨t175, A380, H⟩ := H
                          replace H : (some t175) = some r := H
                          have A38 := Aside0.mk A380
                          clear A380
                          obtain rfl := Option.some.inj H
                          go_wp2_with (first | (go_at_call 6; (with_reducible refine (unisonlaw15_awake.calls kj20  t175 _ A38.out).mono ?_); rintro e w39 ⟨rfl, hb⟩; have n0_ := Aside0.mk (below_step (by repeat (first | (with_reducible first | exact HB.out | apply below_alloc | apply pw_below_drewN | apply below_drew1) | exact HB.out)) hb); clear HB; have HB := n0_; clear n0_; (try clear hb); (try clear hb2); (try clear hk); (try clear hi)))
                          go_ret
                          exact ⟨by first | rfl | (simp [errW_none, errW_some] <;> rfl) | (simp [*, errW_none, errW_some] <;> rfl), by repeat (first | (with_reducible first | exact HB.out | apply below_alloc | apply pw_below_drewN | apply below_drew1) | exact HB.out)⟩
                        · rw [if_neg c37] at H
                          have c37b0 : (x10_3 == a2) = false := beq_eq_false_iff_ne.mpr c37
                          have c37b1 : (x10_3 != a2) = true := bne_iff_ne.mpr c37
                          obtain rfl := Option.some.inj H
                          go_wp2
                          go_ret
                          exact ⟨by first | rfl | (simp [errW_none, errW_some] <;> rfl) | (simp [*, errW_none, errW_some] <;> rfl), by repeat (first | (with_reducible first | exact HB.out | apply below_alloc | apply pw_below_drewN | apply below_drew1) | exact HB.out)⟩

/-- THE ONE PURE STATEMENT of unisonlaw15_RingRound: yours. -/
def unisonlaw15_RingRound.Pure : Prop := ∀ (a0 : Int) (a1 : Int) (a2 : Int) (l3 : List Int), (Lit.int .i64 a0).wf = true → (Lit.int .i64 a1).wf = true → (Lit.int .i64 a2).wf = true → l3.length ≤ maxLen → l3.length * 8 ≤ 140737488351232 → (∀ x ∈ l3, (Lit.int .i64 x).wf = true) → ∃ k, unisonlaw15_RingRound.f k a0 a1 a2 l3 = some true
theorem unisonlaw15_RingRound.walk (P : unisonlaw15_RingRound.Pure) (a0 : Int) (a1 : Int) (a2 : Int) (a3 : Option Addr) (len3 cap3 : Nat) (z3 : List Int) (w : World) (w0 : (Lit.int .i64 a0).wf = true) (w1 : (Lit.int .i64 a1).wf = true) (w2 : (Lit.int .i64 a2).wf = true) (w3 : (a3 = none ∧ len3 = 0 ∧ cap3 = 0 ∧ z3 = []) ∨ ∃ x, a3 = some x ∧ len3 ≤ cap3 ∧ cap3 ≤ maxLen ∧ z3.length = cap3 ∧ (∀ i, i < z3.length → w.cell? (x.add i) = some (.int .i64 (z3.getD i 0))) ∧ ∀ n ∈ z3, (Lit.int .i64 n).wf = true) (y3 : len3 * 8 ≤ 140737488351232) :
    Calls Try.prog 4 #[.int .i64 a0, .int .i64 a1, .int .i64 a2, .slice a3 len3 cap3] w fun e w' => e = .returned (.bool true) ∧ Below w.heap.size w w' := by
  obtain ⟨l3, rfl, hr3, hm3, hw3, hc3⟩ := ReadsInt.ofRowC w3
  obtain ⟨k, h⟩ := P a0 a1 a2 l3 w0 w1 w2 hm3 y3 hw3
  refine (unisonlaw15_RingRound.calls k a0 a1 a2 _ _ l3 true w (Kd.C_of_reads (d := (0 : Int)) (h1 := fun _ => rfl) hr3) hc3 h).mono ?_
  rintro e w' ⟨rfl, hd⟩
  exact ⟨rfl, hd⟩

end Go.Proofs.Ytinbghiinpngeaa.F
