/- What is proved: the Go functions that the law reaches come to what the Lean functions beside them tell, and (in the text of the law) the given statement follows. Conditions: none beyond each theorem's own. Written by a program (a turned copy of the kit's print.py), some walks by hand. -/
import Derived.Test.YtfdopedpplhhaaaF0
import Derived.Test.YtfdopedpplhhaaaF1
import Derived.Test.YtfdopedpplhhaaaF2
namespace Go.Proofs.Ytfdopedpplhhaaa.F
open Go.RowKit Go.Proofs.YtfdopedpplhhaaaW.PrintWords Go.Proofs.YtfdopedpplhhaaaW.PrintLast Go.Proofs.YtfdopedpplhhaaaW.PrintMore
attribute [local go_sem] max2_int min2_int max_two min_two max_three min_three max_four min_four   -- for this text's walks alone
set_option linter.unusedVariables false
set_option linter.unusedSimpArgs false

/-! ### vec_Same: function 18 -/
set_option maxHeartbeats 1000000 in
theorem vec_each.calls_Same (hold : Int → Int → Bool) (hop : ∀ (a b : Int) (w : World), Calls Try.prog 30 #[.int .u64 a, .int .u64 b] w fun e w' => e = .returned (.bool (hold a b)) ∧ w' = w)
    (Aa : Option Addr) (ca : Nat) (a : List Int) (A0 : Option Addr) (c0 : Nat) (l0 : List (List Int)) (w : World) (hra : Kd.C (Kd.int .u64) w Aa a.length a) (hca : a.length ≤ ca) (hr0 : Kd.C (Kd.slice 32 (Kd.int .u64)) w A0 l0.length l0) (hc0 : l0.length ≤ c0) (hoka : a.length ≤ 1000) (hok : okV l0) :
    Calls Try.prog 28 #[.func (.func 30) #[] #[], .slice Aa a.length ca, .slice A0 l0.length c0] w fun e w' => e = .returned (.bool (eachAll hold a l0)) ∧ Below w.heap.size w w' := by
  have HR := Aside0.mk hr0
  have HC := Aside0.mk hc0
  have HA := Aside0.mk hra
  have HCA := Aside0.mk hca
  have OP := Aside0.mk hop
  obtain ⟨h1, h2⟩ := hok
  have HM := Aside0.mk (fun x (hx : x ∈ l0) => longest_mem hx)
  clear hr0 hc0 hop hra hca
  go_enter Try.func28, Try.ntmps28
  go_wp2_with fail
  go_loopg [12] l0.length (fun kq v12 w' => ∃ j : Nat, v12 = .int .i64 j ∧ j ≤ l0.length ∧ l0.length ≤ kq + j ∧ Aside0 (eachAll hold a (l0.take j) = true) ∧ Aside0 (Below w.heap.size w w'))
  case atStart => exact ⟨0, rfl, by omega, by omega, ⟨rfl⟩, ⟨Below.refl _ _⟩⟩
  case round =>
    obtain ⟨j, rfl, hj, hkj, HE, HB⟩ := hrel
    by_cases hlt : j < l0.length
    · have hlt' : decide ((j : Int) < l0.length) = true := decide_eq_true (by omega)
      obtain ⟨ad, Ab, cb, ead, hx, hbc, hbr⟩ := at_row HR.out j hlt
      cases ead
      have X0 : wr.cell? (ad.add j) = some (.slice Ab (l0.getD j []).length cb) := (HB.out.cell (World.block_lt_of_cell? w _ hx)).trans hx
      have hT : Aside0 (l0.take (j + 1) = l0.take j ++ [l0.getD j []]) := ⟨by rw [List.take_add_one, List.getElem?_eq_getElem hlt]; simp [List.getD, hlt]⟩
      have hmem : l0.getD j [] ∈ l0 := by simp [List.getD, hlt]
      have HBR := Aside0.mk hbr
      have HBC := Aside0.mk hbc
      have hbl : (l0.getD j []).length ≤ 1000 := Nat.le_trans (HM.out _ hmem) h2
      have hD : Aside0 (eachAll hold a l0 = eachAll hold a (l0.take j ++ [l0.getD j []] ++ l0.drop (j + 1))) := ⟨by rw [← hT.out, List.take_append_drop]⟩
      clear hx hbc hbr
      generalize l0.getD j [] = b at *
      have pm : (0 ≤ (j : Int)) = True := eq_true (by omega)
      have qm : ((j : Int) < (l0.length : Int)) = True := eq_true (by omega)
      have HL := Aside0.mk (longest_eq [a, b] ⟨by simp, by simp [longest]; omega⟩)
      have hlg : longest [a, b] ≤ 1000 := by simp [longest]; omega
      generalize hn : longest [a, b] = n at *
      have HN := Aside0.mk hn
      clear hn
      go_wp2_with fail
      refine (vec_longest.calls (some ⟨wr.heap.size, 0, none⟩) 2 [a, b] _ _ (C_heads [(Aa, ca, a), (Ab, cb, b)] (t := 22) (blk_new wr _) (by simp) ?hh) (by simp) HL.out).mono ?_
      case hh =>
        intro r hr
        simp only [List.mem_cons, List.not_mem_nil, or_false] at hr
        rcases hr with rfl | rfl
        · exact ⟨HCA.out, Kd.C_alloc (Kd.C_below HA.out HB.out) _⟩
        · exact ⟨HBC.out, Kd.C_alloc (Kd.C_below HBR.out HB.out) _⟩
      rintro e w1 ⟨rfl, hb⟩
      have B1 := Aside0.mk (below_step HB.out (below_step (below_alloc (Below.refl _ _) _) hb.below))
      clear hb
      obtain ⟨wo, rfl⟩ : ∃ x, x = wr := ⟨_, rfl⟩
      obtain ⟨go, rfl⟩ : ∃ x, x = gk := ⟨_, rfl⟩
      go_wp2_with fail
      go_loopg [20] n (fun kq v20 w' => ∃ m : Nat, v20 = .int .i64 m ∧ m ≤ n ∧ n ≤ kq + m ∧ Aside0 (each1 hold a b m = true) ∧ Aside0 (Below w.heap.size w w'))
      case atStart => exact ⟨0, rfl, by omega, by omega, ⟨rfl⟩, B1⟩
      case round =>
        clear B1
        obtain ⟨m, rfl, hm, hkm, H1, HB2⟩ := hrel
        by_cases hlm : m < n
        · have hlm' : decide ((m : Int) < n) = true := decide_eq_true (by omega)
          go_wp2_with fail
          refine (vec_At.calls Aa ca a (m : Int) _ _ (Kd.C_below HA.out HB2.out) HCA.out (At_eq a m (by omega))).mono ?_
          rintro e w2 ⟨rfl, hd⟩
          have D2 := Aside0.mk (below_step HB2.out hd.below)
          clear hd
          go_wp2_with fail
          refine (vec_At.calls Ab cb b (m : Int) _ _ (Kd.C_below HBR.out D2.out) HBC.out (At_eq b m (by omega))).mono ?_
          rintro e w3 ⟨rfl, hd⟩
          have D3 := Aside0.mk (below_step D2.out hd.below)
          clear hd
          go_wp2_with fail
          refine (OP.out _ _ _).mono ?_
          rintro e w4 ⟨rfl, rfl⟩
          have hS : Aside0 (each1 hold a b (m + 1) = (each1 hold a b m && hold (rd a m) (rd b m))) := ⟨by simp [each1, List.range_succ]⟩
          have hF : Aside0 (hold (rd a m) (rd b m) = false → each1 hold a b n = false) := ⟨fun h => by
            simp only [each1, List.all_eq_false, List.mem_range]
            exact ⟨m, hlm, by simp [h]⟩⟩
          generalize hold (rd a m) (rd b m) = q at *
          cases q
          · go_wp2_with fail
            go_ret
            rw [hD.out, eachAll_append, eachAll_append]
            have : eachAll hold a [b] = false := by simp only [eachAll, List.all_cons, List.all_nil, Bool.and_true]; rw [HN.out]; exact hF.out (by trivial)
            rw [this]
            exact ⟨by simp, D3.out⟩
          · go_wp2_with fail
            go_roundg (gk - 1)
            case measure => omega
            case rel => exact ⟨m + 1, (by simp), by omega, by omega, ⟨by rw [hS.out, H1.out]; rfl⟩, D3⟩
        · have hlm' : decide ((m : Int) < n) = false := decide_eq_false (by omega)
          obtain rfl : m = n := by omega
          go_wp2_with fail
          go_roundg (go - 1)
          case measure => omega
          case rel => exact ⟨j + 1, (by simp), by omega, by omega, ⟨by rw [hT.out, eachAll_append, HE.out]; simp only [eachAll, List.all_cons, List.all_nil, Bool.and_true, Bool.true_and]; rw [HN.out]; exact H1.out⟩, HB2⟩
    · have hlt' : decide ((j : Int) < l0.length) = false := decide_eq_false (by omega)
      obtain rfl : j = l0.length := by omega
      rw [List.take_length] at HE
      go_wp2_with fail
      go_ret
      rw [HE.out]
      exact ⟨rfl, HB.out⟩
def samH (a b : Int) : Bool := a == b
theorem vec_Same.inner (a b : Int) (w : World) : Calls Try.prog 30 #[.int .u64 a, .int .u64 b] w fun e w' => e = .returned (.bool (samH a b)) ∧ w' = w := by
  go_enter Try.func30, Try.ntmps30
  go_wp2
  go_ret
  exact ⟨rfl, rfl⟩
def vec_Same.f (l0 : List Int) (l1 : List (List Int)) : Option Bool := if l0.length ≤ 1000 ∧ okV l1 then some (eachAll samH l0 l1) else none
theorem vec_Same.calls (A0 : Option Addr) (c0 : Nat) (l0 : List Int) (A1 : Option Addr) (c1 : Nat) (l1 : List (List Int)) (r : Bool) (w : World) (hr0 : Kd.C (Kd.int .u64) w A0 l0.length l0) (hc0 : l0.length ≤ c0) (hr1 : Kd.C (Kd.slice 32 (Kd.int .u64)) w A1 l1.length l1) (hc1 : l1.length ≤ c1) (h : vec_Same.f l0 l1 = some r) :
    Calls Try.prog 18 #[.slice A0 l0.length c0, .slice A1 l1.length c1] w fun e w' => e = .returned (.bool r) ∧ Below w.heap.size w w' := by
  unfold vec_Same.f at h
  by_cases hok : l0.length ≤ 1000 ∧ okV l1
  · rw [if_pos hok] at h
    obtain rfl := Option.some.inj h
    have HR := Aside0.mk hr0
    have HC := Aside0.mk hc0
    have HR1 := Aside0.mk hr1
    have HC1 := Aside0.mk hc1
    have HK := Aside0.mk hok
    clear h hr0 hc0 hr1 hc1 hok
    go_enter Try.func18, Try.ntmps18
    go_wp2_with fail
    refine (vec_each.calls_Same samH vec_Same.inner A0 c0 l0 A1 c1 l1 w HR.out HC.out HR1.out HC1.out HK.out.1 HK.out.2).mono ?_
    rintro e w1 ⟨rfl, hb⟩
    have HB := Aside0.mk hb
    clear hb
    go_wp2_with fail
    go_ret
    exact ⟨rfl, HB.out⟩
  · rw [if_neg hok] at h
    cases h

end Go.Proofs.Ytfdopedpplhhaaa.F
