/- What is proved: the Go functions that the law reaches come to what the Lean functions beside them tell, and (in the text of the law) the given statement follows. Conditions: none beyond each theorem's own. Written by a program (a turned copy of the kit's print.py), some walks by hand. -/
import Derived.Test.YtfdopedpplhhaaaF0
namespace Go.Proofs.Ytfdopedpplhhaaa.F
open Go.RowKit Go.Proofs.YtfdopedpplhhaaaW.PrintWords Go.Proofs.YtfdopedpplhhaaaW.PrintLast Go.Proofs.YtfdopedpplhhaaaW.PrintMore
attribute [local go_sem] max2_int min2_int max_two min_two max_three min_three max_four min_four   -- for this text's walks alone
set_option linter.unusedVariables false
set_option linter.unusedSimpArgs false

/-! ### unisonlaw04_great: function 9 -/
def unisonlaw04_great.l0 : Nat → List (List Int) → Int → Option (Bool)
  | 0, _, _ => none
  | k + 1, x0, x3 => if x3 < (x0.length : Int) then (if 0 ≤ x3 then (if ((rd_L1 x0 x3).length : Int) > 100 then (some true) else (unisonlaw04_great.l0 k x0 (wrap64 (x3 + 1)))) else (none)) else (some false)
def unisonlaw04_great.f (k : Nat) (l0 : List (List Int)) : Option (Bool) := if (l0.length : Int) > 30 then (some true) else (unisonlaw04_great.l0 k l0 0)
theorem unisonlaw04_great.mono_l : ∀ k, (∀ y0 y1, LeO (unisonlaw04_great.l0 k y0 y1) (unisonlaw04_great.l0 (k + 1) y0 y1))
  | 0 => fun _ _ r h => by simp [unisonlaw04_great.l0] at h
  | k + 1 => by
    have ih0 := unisonlaw04_great.mono_l k
    · intro y0 y1
      unfold unisonlaw04_great.l0
      repeat' first
      | (with_reducible exact ih0 _ _)
      | (with_reducible exact LeO.refl _)
      | (with_reducible exact LeO.none _)
      | (with_reducible refine LeO.ite ?_ ?_)
      | (with_reducible refine LeO.bind ?_ (fun _ => ?_))
      | exact ih0 _ _
      | exact LeO.none _
      | refine LeO.ite ?_ ?_
      | refine LeO.bind ?_ (fun _ => ?_)
theorem unisonlaw04_great.mono : ∀ a0 k, LeO (unisonlaw04_great.f k a0) (unisonlaw04_great.f (k + 1) a0) := by
  intro a0 k
  have ih0 := unisonlaw04_great.mono_l k
  unfold unisonlaw04_great.f
  repeat' first
      | (with_reducible exact ih0 _ _)
      | (with_reducible exact LeO.refl _)
      | (with_reducible exact LeO.none _)
      | (with_reducible refine LeO.ite ?_ ?_)
      | (with_reducible refine LeO.bind ?_ (fun _ => ?_))
      | exact ih0 _ _
      | exact LeO.none _
      | refine LeO.ite ?_ ?_
      | refine LeO.bind ?_ (fun _ => ?_)
set_option maxHeartbeats 8000000 in
set_option maxRecDepth 100000 in
theorem unisonlaw04_great.calls (k : Nat) (A0 : Option Addr) (c0 : Nat) (l0 : List (List Int)) (r : Bool) (w : World) (hr0 : Kd.C (Kd.slice 32 (Kd.int .u64)) w A0 l0.length l0) (hc0 : l0.length ≤ c0) (h : unisonlaw04_great.f k l0 = some r) :
    Calls Try.prog 9 #[.slice A0 l0.length c0] w fun e w' => e = .returned (.bool r) ∧ Drawn0 w w' := by
  have HR0 := Aside0.mk hr0
  have HC0 := Aside0.mk hc0
  clear hr0 hc0
  have H : (if (l0.length : Int) > 30 then (some true) else (unisonlaw04_great.l0 k l0 0)) = some r := h
  clear h
  by_cases c2 : (l0.length : Int) > 30
  · rw [if_pos c2] at H
    have c2b0 : decide (30 < (l0.length : Int)) = true := decide_eq_true c2
    have c2b1 : decide (30 < l0.length) = true := decide_eq_true (by omega)
    clear c2
    obtain rfl := Option.some.inj H
    go_enter Try.func9, Try.ntmps9
    go_wp2
    go_ret
    exact ⟨by first | rfl | (simp; done) | (simp [*]; done), by repeat (first | exact Drawn0.refl _ | apply Drawn0.step)⟩
  · rw [if_neg c2] at H
    have c2b0 : decide (30 < (l0.length : Int)) = false := decide_eq_false c2
    have c2b1 : decide (30 < l0.length) = false := decide_eq_false (by omega)
    clear c2
    have H' := Aside0.mk H
    clear H
    go_enter Try.func9, Try.ntmps9
    go_wp2
    go_loopg [3] k (fun kq v3 w' => ∃ (x3_1 : Int), v3 = .int .i64 x3_1 ∧ Aside0 (unisonlaw04_great.l0 kq l0 x3_1 = some r) ∧ Aside0 (kq ≤ k) ∧ Drawn0 w w')
    case atStart => exact ⟨(0), (by first | rfl | (simp; done) | (simp [*]; done)), H', ⟨Nat.le_refl _⟩, by repeat (first | exact Drawn0.refl _ | apply Drawn0.step)⟩
    case round =>
      clear H'
      try clear c2
      try clear c2b0
      try clear c2b1
      try clear p2
      obtain ⟨x3_1, rfl, HA, HK1, ⟨m1, rfl⟩⟩ := hrel
      cases gk with
      | zero => exact absurd HA.out (by simp [unisonlaw04_great.l0])
      | succ k1 =>
        have H := HA.out
        clear HA
        simp only [unisonlaw04_great.l0] at H
        by_cases c3 : x3_1 < (l0.length : Int)
        · rw [if_pos c3] at H
          have c3b0 : decide (x3_1 < (l0.length : Int)) = true := decide_eq_true c3
          clear c3
          by_cases c4 : 0 ≤ x3_1
          · rw [if_pos c4] at H
            have c4b0 : decide (0 ≤ x3_1) = true := decide_eq_true c4
            clear c4
            by_cases c5 : ((rd_L1 l0 x3_1).length : Int) > 100
            · rw [if_pos c5] at H
              have c5b0 : decide (100 < ((rd_L1 l0 x3_1).length : Int)) = true := decide_eq_true c5
              have c5b1 : decide (100 < (rd_L1 l0 x3_1).length) = true := decide_eq_true (by omega)
              clear c5
              obtain rfl := Option.some.inj H
              have p101 : 0 ≤ (x3_1 : Int) := of_decide_eq_true (by first | (with_reducible assumption) | assumption)
              have q101 : x3_1 < (l0.length : Int) := of_decide_eq_true (by first | (with_reducible assumption) | assumption)
              obtain ⟨ad101, A101_0, c101_0, e101, hx101_0, hl101_0, hi101_0⟩ := at_L1 HR0.out x3_1 p101 q101
              cases e101
              have HR101_0 := Aside0.mk hi101_0
              have HC101_0 := Aside0.mk hl101_0
              clear hi101_0 hl101_0
              replace p101 := eq_true p101
              replace q101 := eq_true q101
              go_wp2
              go_ret
              exact ⟨by first | rfl | (simp; done) | (simp [*]; done), by repeat (first | exact Drawn0.refl _ | apply Drawn0.step)⟩
            · rw [if_neg c5] at H
              have c5b0 : decide (100 < ((rd_L1 l0 x3_1).length : Int)) = false := decide_eq_false c5
              have c5b1 : decide (100 < (rd_L1 l0 x3_1).length) = false := decide_eq_false (by omega)
              clear c5
              have H' := Aside0.mk H
              clear H
              have p101 : 0 ≤ (x3_1 : Int) := of_decide_eq_true (by first | (with_reducible assumption) | assumption)
              have q101 : x3_1 < (l0.length : Int) := of_decide_eq_true (by first | (with_reducible assumption) | assumption)
              obtain ⟨ad101, A101_0, c101_0, e101, hx101_0, hl101_0, hi101_0⟩ := at_L1 HR0.out x3_1 p101 q101
              cases e101
              have HR101_0 := Aside0.mk hi101_0
              have HC101_0 := Aside0.mk hl101_0
              clear hi101_0 hl101_0
              replace p101 := eq_true p101
              replace q101 := eq_true q101
              go_wp2
              go_roundg k1
              case measure => have := HK1.out; omega
              case rel => exact ⟨(wrap64 (x3_1 + 1)), (by first | rfl | (simp; done) | (simp [*]; done)), H', ⟨by have := HK1.out; omega⟩, by repeat (first | exact Drawn0.refl _ | apply Drawn0.step)⟩
          · rw [if_neg c4] at H
            exact absurd H (by simp)
        · rw [if_neg c3] at H
          have c3b0 : decide (x3_1 < (l0.length : Int)) = false := decide_eq_false c3
          clear c3
          obtain rfl := Option.some.inj H
          go_wp2
          go_ret
          exact ⟨by first | rfl | (simp; done) | (simp [*]; done), by repeat (first | exact Drawn0.refl _ | apply Drawn0.step)⟩

/-! ### vec_At: function 21 -/
/-- vec.At: the number of a process (0 beyond). By hand. -/
def vec_At.f (l0 : List Int) (a1 : Int) : Option Int := some (if a1 < 0 then 0 else rd l0 a1)
theorem vec_At.calls (A0 : Option Addr) (c0 : Nat) (l0 : List Int) (a1 : Int) (r : Int) (w : World) (hr0 : Kd.C (Kd.int .u64) w A0 l0.length l0) (hc0 : l0.length ≤ c0) (h : vec_At.f l0 a1 = some r) :
    Calls Try.prog 21 #[.slice A0 l0.length c0, .int .i64 a1] w fun e w' => e = .returned (.int .u64 r) ∧ Drawn0 w w' := by
  obtain rfl := Option.some.inj h
  have HR := Aside0.mk hr0
  clear h hr0 hc0
  by_cases h1 : a1 < 0
  · have h1' : decide (a1 < 0) = true := decide_eq_true h1
    rw [if_pos h1]
    clear h1
    go_enter Try.func21, Try.ntmps21
    go_wp2
    go_ret
    exact ⟨rfl, Drawn0.refl _⟩
  · have h1' : decide (a1 < 0) = false := decide_eq_false h1
    rw [if_neg h1]
    by_cases h2 : (l0.length : Int) ≤ a1
    · have h2' : decide ((l0.length : Int) ≤ a1) = true := decide_eq_true h2
      rw [rd_over h2]
      clear h1 h2
      go_enter Try.func21, Try.ntmps21
      go_wp2
      go_ret
      exact ⟨rfl, Drawn0.refl _⟩
    · have h2' : decide ((l0.length : Int) ≤ a1) = false := decide_eq_false h2
      obtain ⟨ad, ead, hx⟩ := Kd.at_int HR.out a1 (by omega) (by omega)
      cases ead
      have p_ : (0 ≤ a1) = True := eq_true (by omega)
      have q_ : (a1 < (l0.length : Int)) = True := eq_true (by omega)
      clear h1 h2
      go_enter Try.func21, Try.ntmps21
      go_wp2
      go_ret
      exact ⟨rfl, Drawn0.refl _⟩
theorem At_eq (l : List Int) (i : Int) (h : 0 ≤ i) : vec_At.f l i = some (rd l i) := by
  unfold vec_At.f
  rw [if_neg (by omega)]

/-! ### vec_longest: function 32 -/
/-- vec.longest: the greatest length. By hand. -/
def longest : List (List Int) → Nat
  | [] => 0
  | a :: l => max a.length (longest l)
theorem longest_mem : ∀ {l : List (List Int)} {a : List Int}, a ∈ l → a.length ≤ longest l
  | b :: l, a, h => by
    rcases List.mem_cons.1 h with rfl | h
    · exact Nat.le_max_left _ _
    · exact Nat.le_trans (longest_mem h) (Nat.le_max_right _ _)
theorem longest_append : ∀ (l m : List (List Int)), longest (l ++ m) = max (longest l) (longest m)
  | [], m => by simp [longest]
  | a :: l, m => by simp [longest, longest_append l m, Nat.max_assoc]
def okV (l : List (List Int)) : Prop := l.length ≤ 1000 ∧ longest l ≤ 1000
instance (l : List (List Int)) : Decidable (okV l) := inferInstanceAs (Decidable (_ ∧ _))
def vec_longest.f (l0 : List (List Int)) : Option Int := if okV l0 then some (longest l0 : Int) else none
theorem longest_eq (l : List (List Int)) (h : okV l) : vec_longest.f l = some (longest l : Int) := if_pos h
theorem vec_longest.calls (A0 : Option Addr) (c0 : Nat) (l0 : List (List Int)) (r : Int) (w : World) (hr0 : Kd.C (Kd.slice 32 (Kd.int .u64)) w A0 l0.length l0) (hc0 : l0.length ≤ c0) (h : vec_longest.f l0 = some r) :
    Calls Try.prog 32 #[.slice A0 l0.length c0] w fun e w' => e = .returned (.int .i64 r) ∧ Drawn0 w w' := by
  unfold vec_longest.f at h
  by_cases hok : okV l0
  · rw [if_pos hok] at h
    obtain rfl := Option.some.inj h
    obtain ⟨h1, h2⟩ := hok
    have HR := Aside0.mk hr0
    clear h hr0 hc0
    go_enter Try.func32, Try.ntmps32
    go_wp2_with fail
    go_loopg [3, 8] l0.length (fun kq v3 v8 w' => ∃ j : Nat, v8 = .int .i64 j ∧ j ≤ l0.length ∧ l0.length ≤ kq + j ∧ v3 = .int .i64 (longest (l0.take j) : Int) ∧ Aside0 (Drawn0 w w'))
    case atStart => exact ⟨0, rfl, by omega, by omega, rfl, ⟨Drawn0.refl _⟩⟩
    case round =>
      obtain ⟨j, rfl, hj, hkj, rfl, HD⟩ := hrel
      by_cases hlt : j < l0.length
      · have hlt' : decide ((j : Int) < l0.length) = true := decide_eq_true (by omega)
        obtain ⟨ad, Ab, cb, ead, hx, _, _⟩ := at_row HR.out j hlt
        cases ead
        have X0 : wr.cell? (ad.add j) = some (.slice Ab (l0.getD j []).length cb) := (HD.out.below.cell (World.block_lt_of_cell? w _ hx)).trans hx
        have hT : Aside0 (longest (l0.take (j + 1)) = max (longest (l0.take j)) (l0.getD j []).length) := ⟨by
          have e : l0.take (j + 1) = l0.take j ++ [l0.getD j []] := by rw [List.take_add_one, List.getElem?_eq_getElem hlt]; simp [List.getD, hlt]
          rw [e, longest_append]
          congr 1
          exact Nat.max_zero _⟩
        clear hx
        generalize l0.getD j [] = b at *
        generalize longest (l0.take j) = m at *
        have pm : (0 ≤ (j : Int)) = True := eq_true (by omega)
        have qm : ((j : Int) < (l0.length : Int)) = True := eq_true (by omega)
        by_cases hmb : m < b.length
        · have hmb' : ((m : Int) < (b.length : Int)) = True := eq_true (by omega)
          have e1 : Aside0 (max m b.length = b.length) := ⟨by omega⟩
          clear hmb
          go_wp2
          go_roundg (gk - 1)
          case measure => omega
          case rel => exact ⟨j + 1, (by simp), by omega, by omega, by rw [hT.out, e1.out], HD⟩
        · have hmb' : ((m : Int) < (b.length : Int)) = False := eq_false (by omega)
          have e1 : Aside0 (max m b.length = m) := ⟨by omega⟩
          clear hmb
          go_wp2
          go_roundg (gk - 1)
          case measure => omega
          case rel => exact ⟨j + 1, (by simp), by omega, by omega, by rw [hT.out, e1.out], HD⟩
      · have hlt' : decide ((j : Int) < l0.length) = false := decide_eq_false (by omega)
        obtain rfl : j = l0.length := by omega
        rw [List.take_length]
        go_wp2_with fail
        go_ret
        exact ⟨rfl, HD.out⟩
  · rw [if_neg hok] at h
    cases h

/-! ### vec_fold: function 25 -/
/-- What comes of the numbers of one process. -/
def foldv (op : Int → Int → Int) (l : List (List Int)) (i : Int) : Int := (l.drop 1).foldl (fun n a => op n (rd a i)) (rd (l.headD []) i)
def foldAll (op : Int → Int → Int) (l : List (List Int)) : List Int := (List.range (longest l)).map fun (i : Nat) => foldv op l (i : Int)
theorem w64v {x : Int} (h0 : -9223372036854775808 ≤ x) (h1 : x ≤ 9223372036854775807) : wrap64 x = x := by unfold wrap64; omega

end Go.Proofs.Ytfdopedpplhhaaa.F
