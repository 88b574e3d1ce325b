/- What is proved: the Go functions that the law reaches come to what the Lean functions beside them tell, and (in the text of the law) the given statement follows. Conditions: none beyond each theorem's own. Written by a program (a turned copy of the kit's print.py), some walks by hand. -/
import Derived.Test.YtfdopedpplhhaaaF0
import Derived.Test.YtfdopedpplhhaaaF4
namespace Go.Proofs.Ytfdopedpplhhaaa.F
open Go.RowKit Go.Proofs.YtfdopedpplhhaaaW.PrintWords Go.Proofs.YtfdopedpplhhaaaW.PrintLast Go.Proofs.YtfdopedpplhhaaaW.PrintMore
attribute [local go_sem] max2_int min2_int max_two min_two max_three min_three max_four min_four   -- for this text's walks alone
set_option linter.unusedVariables false
set_option linter.unusedSimpArgs false

/-! ### unisonref04_Lack: function 24 -/
/-- By how much a falls short of b, from number i on. By hand. -/
def shortOf (x n : Int) : Int := if x < n then n - x else 0
def lackFrom (a : List Int) : Nat → Int → List Int → Int
  | _, s, [] => s
  | i, s, n :: b => if 18446744073709551615 < s + shortOf (rd a (i : Int)) n then 18446744073709551615 else lackFrom a (i + 1) (s + shortOf (rd a (i : Int)) n) b
theorem u64_add_no {s m : Int} (h1 : 0 ≤ s) (h2 : 0 ≤ m) (h : s + m < 18446744073709551616) : IntKind.u64.wrap (s + m) = s + m := by
  simp [IntKind.wrap, IntKind.signed, IntKind.bits]
  omega
theorem u64_add_yes {s m : Int} (h1 : s < 18446744073709551616) (h2 : m < 18446744073709551616) (h : 18446744073709551616 ≤ s + m) : IntKind.u64.wrap (s + m) < s := by
  simp [IntKind.wrap, IntKind.signed, IntKind.bits]
  omega
def unisonref04_Lack.f (l0 l1 : List Int) : Option Int := if l1.length ≤ 1000 ∧ u64s l0 ∧ u64s l1 then some (lackFrom l0 0 0 l1) else none
set_option maxHeartbeats 1000000 in
theorem unisonref04_Lack.calls (A0 : Option Addr) (c0 : Nat) (l0 : List Int) (A1 : Option Addr) (c1 : Nat) (l1 : List Int) (r : Int) (w : World) (hr0 : Kd.C (Kd.int .u64) w A0 l0.length l0) (hc0 : l0.length ≤ c0) (hr1 : Kd.C (Kd.int .u64) w A1 l1.length l1) (hc1 : l1.length ≤ c1) (h : unisonref04_Lack.f l0 l1 = some r) :
    Calls Try.prog 24 #[.slice A0 l0.length c0, .slice A1 l1.length c1] w fun e w' => e = .returned (.int .u64 r) ∧ Drawn0 w w' := by
  unfold unisonref04_Lack.f at h
  by_cases hok : l1.length ≤ 1000 ∧ u64s l0 ∧ u64s l1
  · rw [if_pos hok] at h
    obtain rfl := Option.some.inj h
    obtain ⟨h1, h2, h3⟩ := hok
    have HR0 := Aside0.mk hr0
    have HC0 := Aside0.mk hc0
    have HR1 := Aside0.mk hr1
    have U0 := Aside0.mk h2
    have U1 := Aside0.mk h3
    clear h hr0 hc0 hr1 hc1 h2 h3
    go_enter Try.func24, Try.ntmps24
    go_wp2_with fail
    go_loopg [5, 10] l1.length (fun kq v5 v10 w' => ∃ (j : Nat) (s : Int), v10 = .int .i64 j ∧ j ≤ l1.length ∧ l1.length ≤ kq + j ∧ v5 = .int .u64 s ∧ Aside0 (0 ≤ s ∧ s < 18446744073709551616) ∧ Aside0 (lackFrom l0 0 0 l1 = lackFrom l0 j s (l1.drop j)) ∧ Drawn0 w w')
    case atStart => exact ⟨0, 0, rfl, by omega, by omega, rfl, ⟨by decide, by decide⟩, ⟨rfl⟩, by repeat (first | exact Drawn0.refl _ | apply Drawn0.step)⟩
    case round =>
      obtain ⟨j, s, rfl, hj, hkj, rfl, HS, HL, ⟨m1, rfl⟩⟩ := hrel
      by_cases hlt : j < l1.length
      · have hlt' : decide ((j : Int) < l1.length) = true := decide_eq_true (by omega)
        obtain ⟨ad, ead, hx⟩ := Kd.at_int HR1.out (j : Int) (by omega) (by omega)
        cases ead
        have hx' : w.cell? (ad.add j) = some (.int .u64 (rd l1 j)) := by simpa using hx
        clear hx
        have hn := u64s_rd U1.out (j : Int)
        have hd : l1.drop j = rd l1 j :: l1.drop (j + 1) := by
          rw [List.drop_eq_getElem_cons hlt]
          simp [rd, List.getD, hlt]
        have hm := u64s_rd U0.out (j : Int)
        have HA := Aside0.mk (show unisonref04_At.f l0 (j : Int) = some (rd l0 j) by
          unfold unisonref04_At.f
          rw [if_pos (by omega)]
          by_cases hq : (j : Int) < (l0.length : Int)
          · rw [if_pos hq, if_pos (by omega)]
          · rw [if_neg hq, rd_over (by omega)])
        rw [hd] at HL
        clear hd
        have HL2 := Aside0.mk (show lackFrom l0 0 0 l1 = if 18446744073709551615 < s + shortOf (rd l0 (j : Int)) (rd l1 j) then 18446744073709551615 else lackFrom l0 (j + 1) (s + shortOf (rd l0 (j : Int)) (rd l1 j)) (l1.drop (j + 1)) from HL.out)
        clear HL
        generalize rd l1 j = n at *
        generalize rd l0 (j : Int) = x at *
        have pm : (0 ≤ (j : Int)) = True := eq_true (by omega)
        have qm : ((j : Int) < (l1.length : Int)) = True := eq_true (by omega)
        by_cases hxn : x < n
        · have e1 : shortOf x n = n - x := if_pos hxn
          rw [e1] at HL2
          have hxn' : decide (x < n) = true := decide_eq_true hxn
          have hw : IntKind.u64.wrap (n - x) = n - x := by simpa using u64_add_no (s := n - x) (m := 0) (by omega) (by omega) (by omega)
          by_cases hov : 18446744073709551615 < s + (n - x)
          · have e2 := Aside0.mk (show lackFrom l0 0 0 l1 = 18446744073709551615 from HL2.out.trans (if_pos hov))
            have hov' : decide (IntKind.u64.wrap (s + (n - x)) < s) = true := decide_eq_true (u64_add_yes HS.out.2 (by omega) (by omega))
            clear e1 hxn hov HL2 hn hm
            go_wp2_with fail
            go_region_held3 (fun w' => w'.cell? (ad.add j) = some (.int .u64 n)) (go_keep) ((go_at_call 23; refine (unisonref04_At.calls A0 c0 l0 (j : Int) x _ (Kd.C_below HR0.out (by repeat (first | exact Below.refl _ _ | apply pw_below_drewN | apply below_drew1))) HC0.out HA.out).mono ?_; rintro e w2 ⟨rfl, ⟨m2, rfl⟩⟩))
            go_wp2_with fail
            go_region_held3 (fun w' => w'.cell? (ad.add j) = some (.int .u64 n)) (go_keep) ((go_at_call 23; refine (unisonref04_At.calls A0 c0 l0 (j : Int) x _ (Kd.C_below HR0.out (by repeat (first | exact Below.refl _ _ | apply pw_below_drewN | apply below_drew1))) HC0.out HA.out).mono ?_; rintro e w2 ⟨rfl, ⟨m2, rfl⟩⟩))
            go_wp2_with fail
            go_ret
            rw [e2.out]
            exact ⟨rfl, by repeat (first | exact Drawn0.refl _ | apply Drawn0.step)⟩
          · have e2 := Aside0.mk (HL2.out.trans (if_neg hov))
            have e3 : IntKind.u64.wrap (s + (n - x)) = s + (n - x) := u64_add_no HS.out.1 (by omega) (by omega)
            have hov' : decide (s + (n - x) < s) = false := decide_eq_false (by omega)
            have hb : Aside0 (0 ≤ s + (n - x) ∧ s + (n - x) < 18446744073709551616) := ⟨by have := HS.out.1; omega, by omega⟩
            clear e1 hxn hov HL2 hn hm
            go_wp2_with fail
            go_region_held3 (fun w' => w'.cell? (ad.add j) = some (.int .u64 n)) (go_keep) ((go_at_call 23; refine (unisonref04_At.calls A0 c0 l0 (j : Int) x _ (Kd.C_below HR0.out (by repeat (first | exact Below.refl _ _ | apply pw_below_drewN | apply below_drew1))) HC0.out HA.out).mono ?_; rintro e w2 ⟨rfl, ⟨m2, rfl⟩⟩))
            go_wp2_with fail
            go_region_held3 (fun w' => w'.cell? (ad.add j) = some (.int .u64 n)) (go_keep) ((go_at_call 23; refine (unisonref04_At.calls A0 c0 l0 (j : Int) x _ (Kd.C_below HR0.out (by repeat (first | exact Below.refl _ _ | apply pw_below_drewN | apply below_drew1))) HC0.out HA.out).mono ?_; rintro e w2 ⟨rfl, ⟨m2, rfl⟩⟩))
            go_wp2_with fail
            go_roundg (gk - 1)
            case measure => omega
            case rel => exact ⟨j + 1, _, (by simp), by omega, by omega, rfl, hb, e2, by repeat (first | exact Drawn0.refl _ | apply Drawn0.step)⟩
        · have e1 : shortOf x n = 0 := if_neg hxn
          rw [e1, Int.add_zero] at HL2
          have hxn' : decide (x < n) = false := decide_eq_false hxn
          have e2 := Aside0.mk (HL2.out.trans (if_neg (by have := HS.out.2; omega)))
          clear e1 hxn HL2 hn hm
          go_wp2_with fail
          go_region_held3 (fun w' => w'.cell? (ad.add j) = some (.int .u64 n)) (go_keep) ((go_at_call 23; refine (unisonref04_At.calls A0 c0 l0 (j : Int) x _ (Kd.C_below HR0.out (by repeat (first | exact Below.refl _ _ | apply pw_below_drewN | apply below_drew1))) HC0.out HA.out).mono ?_; rintro e w2 ⟨rfl, ⟨m2, rfl⟩⟩))
          go_wp2_with fail
          go_roundg (gk - 1)
          case measure => omega
          case rel => exact ⟨j + 1, _, (by simp), by omega, by omega, rfl, HS, e2, by repeat (first | exact Drawn0.refl _ | apply Drawn0.step)⟩
      · have hlt' : decide ((j : Int) < l1.length) = false := decide_eq_false (by omega)
        have e : Aside0 (lackFrom l0 0 0 l1 = s) := ⟨by rw [HL.out, List.drop_eq_nil_iff.2 (by omega)]; rfl⟩
        go_wp2_with fail
        go_ret
        rw [e.out]
        exact ⟨rfl, by repeat (first | exact Drawn0.refl _ | apply Drawn0.step)⟩
  · rw [if_neg hok] at h
    cases h

end Go.Proofs.Ytfdopedpplhhaaa.F
