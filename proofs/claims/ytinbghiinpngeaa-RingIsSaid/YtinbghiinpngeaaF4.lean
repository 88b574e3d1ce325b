/- What is proved: the Go functions that the law reaches come to what the Lean functions beside them tell, and (in the text of the law) the given statement follows. Conditions: none beyond each theorem's own. Written by a program (a turned copy of the kit's print.py), some walks by hand. -/
import Derived.Test.YtinbghiinpngeaaF0
import Derived.Test.YtinbghiinpngeaaF3
namespace Go.Proofs.Ytinbghiinpngeaa.F
open Go.RowKit Go.Proofs.YtinbghiinpngeaaW.PrintWords Go.Proofs.YtinbghiinpngeaaW.PrintLast Go.Proofs.YtinbghiinpngeaaW.PrintMore
attribute [local go_sem] max2_int min2_int max_two min_two max_three min_three max_four min_four   -- for this text's walks alone
set_option linter.unusedVariables false
set_option linter.unusedSimpArgs false

/-! ### unisonlaw15_awake: function 6 -/
def unisonlaw15_awake.f (k : Nat)  : Option (Bool) := (ring_Next.f k 4 2 (([3] : List Int))).bind fun t126 => (if t126 = 0 then ((ring_Next.f k 4 2 ([] : List Int)).bind fun t127 => (if t127 = 3 then ((ring_Next.f k 1 0 ([] : List Int)).bind fun t128 => (some (t128 == 0))) else (some false))) else (some false))
theorem unisonlaw15_awake.mono : ∀ k, LeO (unisonlaw15_awake.f k ) (unisonlaw15_awake.f (k + 1) ) := by
  intro  k
  unfold unisonlaw15_awake.f
  repeat' first
      | (with_reducible exact ring_Next.mono _ _ _ _)
      | (with_reducible exact LeO.refl _)
      | (with_reducible exact LeO.none _)
      | (with_reducible refine LeO.ite ?_ ?_)
      | (with_reducible refine LeO.bind ?_ (fun _ => ?_))
      | exact ring_Next.mono _ _ _ _
      | exact LeO.none _
      | refine LeO.ite ?_ ?_
      | refine LeO.bind ?_ (fun _ => ?_)
-- by hand: the printed walk of this function falls
set_option maxHeartbeats 1000000 in
theorem unisonlaw15_awake.calls (k : Nat)  (r : Bool) (w : World) (h : unisonlaw15_awake.f k  = some r) :
    Calls Try.prog 6 #[] w fun e w' => e = .returned (.bool r) ∧ Below w.heap.size w w' := by
  unfold unisonlaw15_awake.f at h
  obtain ⟨t1, h1, h⟩ := Option.bind_eq_some_iff.mp h
  have A1 := Aside0.mk h1
  have HN := Aside0.mk (fun W : World => (Kd.C_nil (Kd.int .i64) W))
  have HC : Aside0 (Kd.C (Kd.int .i64) (w.alloc (.cells #[.int .i64 3] 3)) (some ⟨w.heap.size, 0, none⟩) 1 [3]) := 
    ⟨Kd.C_of_reads (d := (0 : Int)) (h1 := fun _ => rfl) (own_reads' (own_lit w 0 3 .i64 [3] (Nat.zero_le _) (by simp)))⟩
  clear h1
  by_cases c1 : t1 = 0
  · rw [if_pos c1] at h
    subst c1
    obtain ⟨t2, h2, h⟩ := Option.bind_eq_some_iff.mp h
    have A2 := Aside0.mk h2
    clear h2
    by_cases c2 : t2 = 3
    · rw [if_pos c2] at h
      subst c2
      obtain ⟨t3, h3, h⟩ := Option.bind_eq_some_iff.mp h
      have A3 := Aside0.mk h3
      clear h3
      obtain rfl := Option.some.inj h
      clear h
      go_enter Try.func6, Try.ntmps6
      go_wp2_with fail
      refine (ring_Next.calls k 4 2 _ _ [3] 0 _ HC.out (Nat.le_refl _) A1.out).mono ?_
      rintro e w1 ⟨rfl, hb1⟩
      have B1 := Aside0.mk hb1
      clear hb1
      go_wp2_with fail
      refine (ring_Next.calls k 4 2 _ _ [] 3 _ (HN.out _) (Nat.le_refl _) A2.out).mono ?_
      rintro e w2 ⟨rfl, hb2⟩
      have B2 := Aside0.mk hb2
      clear hb2
      go_wp2_with fail
      refine (ring_Next.calls k 1 0 _ _ [] t3 _ (HN.out _) (Nat.le_refl _) A3.out).mono ?_
      rintro e w3 ⟨rfl, hb3⟩
      have B3 := Aside0.mk hb3
      clear hb3
      go_wp2_with fail
      go_ret
      exact ⟨by simp, below_step (below_step (below_step (below_alloc (Below.refl _ _) _) B1.out) B2.out) B3.out⟩
    · rw [if_neg c2] at h
      have c2b : (t2 == 3) = false := beq_eq_false_iff_ne.mpr c2
      obtain rfl := Option.some.inj h
      clear h c2
      go_enter Try.func6, Try.ntmps6
      go_wp2_with fail
      refine (ring_Next.calls k 4 2 _ _ [3] 0 _ HC.out (Nat.le_refl _) A1.out).mono ?_
      rintro e w1 ⟨rfl, hb1⟩
      have B1 := Aside0.mk hb1
      clear hb1
      go_wp2_with fail
      refine (ring_Next.calls k 4 2 _ _ [] t2 _ (HN.out _) (Nat.le_refl _) A2.out).mono ?_
      rintro e w2 ⟨rfl, hb2⟩
      have B2 := Aside0.mk hb2
      clear hb2
      go_wp2_with fail
      go_ret
      exact ⟨by simp, below_step (below_step (below_alloc (Below.refl _ _) _) B1.out) B2.out⟩
  · rw [if_neg c1] at h
    have c1b : (t1 == 0) = false := beq_eq_false_iff_ne.mpr c1
    obtain rfl := Option.some.inj h
    clear h c1
    go_enter Try.func6, Try.ntmps6
    go_wp2_with fail
    refine (ring_Next.calls k 4 2 _ _ [3] t1 _ HC.out (Nat.le_refl _) A1.out).mono ?_
    rintro e w1 ⟨rfl, hb1⟩
    have B1 := Aside0.mk hb1
    clear hb1
    go_wp2_with fail
    go_ret
    exact ⟨by simp, below_step (below_alloc (Below.refl _ _) _) B1.out⟩


/-! ### unisonref15_Of: function 14 -/
def unisonref15_Of.f (a0 : Int) (a1 : Int) : Option (Bool) := if a0 ≥ 1 then (if a0 ≤ 64 then (if a1 ≥ 0 then (some (decide (a1 < a0))) else (some false)) else (some false)) else (some false)
set_option maxHeartbeats 8000000 in
set_option maxRecDepth 100000 in
theorem unisonref15_Of.calls (a0 : Int) (a1 : Int) (r : Bool) (w : World) (h : unisonref15_Of.f a0 a1 = some r) :
    Calls Try.prog 14 #[.int .i64 a0, .int .i64 a1] w fun e w' => e = .returned (.bool r) ∧ Drawn0 w w' := by
  have H : (if a0 ≥ 1 then (if a0 ≤ 64 then (if a1 ≥ 0 then (some (decide (a1 < a0))) else (some false)) else (some false)) else (some false)) = some r := h
  clear h
  by_cases c3 : a0 ≥ 1
  · rw [if_pos c3] at H
    have c3b0 : decide (1 ≤ a0) = true := decide_eq_true c3
    clear c3
    by_cases c4 : a0 ≤ 64
    · rw [if_pos c4] at H
      have c4b0 : decide (a0 ≤ 64) = true := decide_eq_true c4
      clear c4
      by_cases c5 : a1 ≥ 0
      · rw [if_pos c5] at H
        have c5b0 : decide (0 ≤ a1) = true := decide_eq_true c5
        clear c5
        obtain rfl := Option.some.inj H
        go_enter Try.func14, Try.ntmps14
        go_wp2
        go_ret
        exact ⟨by first | rfl | (simp; done) | (simp [*]; done), by repeat (first | exact Drawn0.refl _ | apply Drawn0.step)⟩
      · rw [if_neg c5] at H
        have c5b0 : decide (0 ≤ a1) = false := decide_eq_false c5
        clear c5
        obtain rfl := Option.some.inj H
        go_enter Try.func14, Try.ntmps14
        go_wp2
        go_ret
        exact ⟨by first | rfl | (simp; done) | (simp [*]; done), by repeat (first | exact Drawn0.refl _ | apply Drawn0.step)⟩
    · rw [if_neg c4] at H
      have c4b0 : decide (a0 ≤ 64) = false := decide_eq_false c4
      clear c4
      obtain rfl := Option.some.inj H
      go_enter Try.func14, Try.ntmps14
      go_wp2
      go_ret
      exact ⟨by first | rfl | (simp; done) | (simp [*]; done), by repeat (first | exact Drawn0.refl _ | apply Drawn0.step)⟩
  · rw [if_neg c3] at H
    have c3b0 : decide (1 ≤ a0) = false := decide_eq_false c3
    clear c3
    obtain rfl := Option.some.inj H
    go_enter Try.func14, Try.ntmps14
    go_wp2
    go_ret
    exact ⟨by first | rfl | (simp; done) | (simp [*]; done), by repeat (first | exact Drawn0.refl _ | apply Drawn0.step)⟩

/-! ### unisonref15_behind: function 17 -/
def unisonref15_behind.f (a0 : Int) (a1 : Int) : Option (Int) := if (wrap64 (a1 + 1)) = a0 then (some 0) else (some (wrap64 (a1 + 1)))
set_option maxHeartbeats 8000000 in
set_option maxRecDepth 100000 in
theorem unisonref15_behind.calls (a0 : Int) (a1 : Int) (r : Int) (w : World) (h : unisonref15_behind.f a0 a1 = some r) :
    Calls Try.prog 17 #[.int .i64 a0, .int .i64 a1] w fun e w' => e = .returned (.int .i64 r) ∧ Drawn0 w w' := by
  have H : (if (wrap64 (a1 + 1)) = a0 then (some 0) else (some (wrap64 (a1 + 1)))) = some r := h
  clear h
  by_cases c3 : (wrap64 (a1 + 1)) = a0
  · rw [if_pos c3] at H
    have c3b0 : ((wrap64 (a1 + 1)) == a0) = true := beq_iff_eq.mpr c3
    have c3b1 : ((wrap64 (a1 + 1)) != a0) = false := bne_eq_false_iff_eq.mpr c3
    clear c3
    obtain rfl := Option.some.inj H
    go_enter Try.func17, Try.ntmps17
    go_wp2
    go_ret
    exact ⟨by first | rfl | (simp; done) | (simp [*]; done), by repeat (first | exact Drawn0.refl _ | apply Drawn0.step)⟩
  · rw [if_neg c3] at H
    have c3b0 : ((wrap64 (a1 + 1)) == a0) = false := beq_eq_false_iff_ne.mpr c3
    have c3b1 : ((wrap64 (a1 + 1)) != a0) = true := bne_iff_ne.mpr c3
    obtain rfl := Option.some.inj H
    go_enter Try.func17, Try.ntmps17
    go_wp2
    go_ret
    exact ⟨by first | rfl | (simp; done) | (simp [*]; done), by repeat (first | exact Drawn0.refl _ | apply Drawn0.step)⟩

/-! ### unisonref15_in: function 18 -/
def unisonref15_in.l0 : Nat → List Int → Int → Int → Int → Option (Bool)
  | 0, _, _, _, _ => none
  | k + 1, x0, x1, x7, x8 => if x8 < x7 then (if 0 ≤ x8 then (if x8 < (x0.length : Int) then (if (rd x0 x8) = x1 then (some true) else (unisonref15_in.l0 k x0 x1 x7 (wrap64 (x8 + 1)))) else (none)) else (none)) else (some false)
def unisonref15_in.f (k : Nat) (l0 : List Int) (a1 : Int) : Option (Bool) := unisonref15_in.l0 k l0 a1 (l0.length : Int) 0
theorem unisonref15_in.mono_l : ∀ k, (∀ y0 y1 y2 y3, LeO (unisonref15_in.l0 k y0 y1 y2 y3) (unisonref15_in.l0 (k + 1) y0 y1 y2 y3))
  | 0 => fun _ _ _ _ r h => by simp [unisonref15_in.l0] at h
  | k + 1 => by
    have ih0 := unisonref15_in.mono_l k
    · intro y0 y1 y2 y3
      unfold unisonref15_in.l0
      repeat' first
      | (with_reducible exact ih0 _ _ _ _)
      | (with_reducible exact LeO.refl _)
      | (with_reducible exact LeO.none _)
      | (with_reducible refine LeO.ite ?_ ?_)
      | (with_reducible refine LeO.bind ?_ (fun _ => ?_))
      | exact ih0 _ _ _ _
      | exact LeO.none _
      | refine LeO.ite ?_ ?_
      | refine LeO.bind ?_ (fun _ => ?_)
theorem unisonref15_in.mono : ∀ a0 a1 k, LeO (unisonref15_in.f k a0 a1) (unisonref15_in.f (k + 1) a0 a1) := by
  intro a0 a1 k
  have ih0 := unisonref15_in.mono_l k
  unfold unisonref15_in.f
  repeat' first
      | (with_reducible exact ih0 _ _ _ _)
      | (with_reducible exact LeO.refl _)
      | (with_reducible exact LeO.none _)
      | (with_reducible refine LeO.ite ?_ ?_)
      | (with_reducible refine LeO.bind ?_ (fun _ => ?_))
      | exact ih0 _ _ _ _
      | exact LeO.none _
      | refine LeO.ite ?_ ?_
      | refine LeO.bind ?_ (fun _ => ?_)
set_option maxHeartbeats 8000000 in
set_option maxRecDepth 100000 in
theorem unisonref15_in.calls (k : Nat) (A0 : Option Addr) (c0 : Nat) (l0 : List Int) (a1 : Int) (r : Bool) (w : World) (hr0 : Kd.C (Kd.int .i64) w A0 l0.length l0) (hc0 : l0.length ≤ c0) (h : unisonref15_in.f k l0 a1 = some r) :
    Calls Try.prog 18 #[.slice A0 l0.length c0, .int .i64 a1] w fun e w' => e = .returned (.bool r) ∧ Drawn0 w w' := by
  have HR0 := Aside0.mk hr0
  have HC0 := Aside0.mk hc0
  clear hr0 hc0
  have H : (unisonref15_in.l0 k l0 a1 (l0.length : Int) 0) = some r := h
  clear h
  have H' := Aside0.mk H
  clear H
  go_enter Try.func18, Try.ntmps18
  go_wp2
  go_loopg [8] k (fun kq v8 w' => ∃ (x8_1 : Int), v8 = .int .i64 x8_1 ∧ Aside0 (unisonref15_in.l0 kq l0 a1 (l0.length : Int) x8_1 = some r) ∧ Aside0 (kq ≤ k) ∧ Drawn0 w w')
  case atStart => exact ⟨(0), (by first | rfl | (simp; done) | (simp [*]; done)), H', ⟨Nat.le_refl _⟩, by repeat (first | exact Drawn0.refl _ | apply Drawn0.step)⟩
  case round =>
    clear H'
    try clear c1
    try clear p2
    obtain ⟨x8_1, rfl, HA, HK1, ⟨m1, rfl⟩⟩ := hrel
    cases gk with
    | zero => exact absurd HA.out (by simp [unisonref15_in.l0])
    | succ k1 =>
      have H := HA.out
      clear HA
      simp only [unisonref15_in.l0] at H
      by_cases c3 : x8_1 < (l0.length : Int)
      · rw [if_pos c3] at H
        have c3b0 : decide (x8_1 < (l0.length : Int)) = true := decide_eq_true c3
        clear c3
        by_cases c4 : 0 ≤ x8_1
        · rw [if_pos c4] at H
          have c4b0 : decide (0 ≤ x8_1) = true := decide_eq_true c4
          clear c4
          by_cases c5 : x8_1 < (l0.length : Int)
          · rw [if_pos c5] at H
            have c5b0 : decide (x8_1 < (l0.length : Int)) = true := decide_eq_true c5
            clear c5
            by_cases c6 : (rd l0 x8_1) = a1
            · rw [if_pos c6] at H
              have c6b0 : ((rd l0 x8_1) == a1) = true := beq_iff_eq.mpr c6
              have c6b1 : ((rd l0 x8_1) != a1) = false := bne_eq_false_iff_eq.mpr c6
              clear c6
              obtain rfl := Option.some.inj H
              have p129 : 0 ≤ (x8_1 : Int) := of_decide_eq_true (by first | (with_reducible assumption) | assumption)
              have q129 : x8_1 < (l0.length : Int) := of_decide_eq_true (by first | (with_reducible assumption) | assumption)
              obtain ⟨ad129, e129, hx129_0⟩ := Kd.at_int HR0.out x8_1 p129 q129
              cases e129
              replace p129 := eq_true p129
              replace q129 := eq_true q129
              go_wp2
              go_ret
              exact ⟨by first | rfl | (simp; done) | (simp [*]; done), by repeat (first | exact Drawn0.refl _ | apply Drawn0.step)⟩
            · rw [if_neg c6] at H
              have c6b0 : ((rd l0 x8_1) == a1) = false := beq_eq_false_iff_ne.mpr c6
              have c6b1 : ((rd l0 x8_1) != a1) = true := bne_iff_ne.mpr c6
              have H' := Aside0.mk H
              clear H
              have p129 : 0 ≤ (x8_1 : Int) := of_decide_eq_true (by first | (with_reducible assumption) | assumption)
              have q129 : x8_1 < (l0.length : Int) := of_decide_eq_true (by first | (with_reducible assumption) | assumption)
              obtain ⟨ad129, e129, hx129_0⟩ := Kd.at_int HR0.out x8_1 p129 q129
              cases e129
              replace p129 := eq_true p129
              replace q129 := eq_true q129
              go_wp2
              go_roundg k1
              case measure => have := HK1.out; omega
              case rel => exact ⟨(wrap64 (x8_1 + 1)), (by first | rfl | (simp; done) | (simp [*]; done)), H', ⟨by have := HK1.out; omega⟩, by repeat (first | exact Drawn0.refl _ | apply Drawn0.step)⟩
          · rw [if_neg c5] at H
            exact absurd H (by simp)
        · rw [if_neg c4] at H
          exact absurd H (by simp)
      · rw [if_neg c3] at H
        have c3b0 : decide (x8_1 < (l0.length : Int)) = false := decide_eq_false c3
        clear c3
        obtain rfl := Option.some.inj H
        go_wp2
        go_ret
        exact ⟨by first | rfl | (simp; done) | (simp [*]; done), by repeat (first | exact Drawn0.refl _ | apply Drawn0.step)⟩

end Go.Proofs.Ytinbghiinpngeaa.F
