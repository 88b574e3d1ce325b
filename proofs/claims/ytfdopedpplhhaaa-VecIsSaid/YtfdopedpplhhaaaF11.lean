/- What is proved: the Go functions that the law reaches come to what the Lean functions beside them tell, and (in the text of the law) the given statement follows. Conditions: none beyond each theorem's own. Written by a program (a turned copy of the kit's print.py), some walks by hand. -/
import Derived.Test.YtfdopedpplhhaaaF0
namespace Go.Proofs.Ytfdopedpplhhaaa.F
open Go.RowKit Go.Proofs.YtfdopedpplhhaaaW.PrintWords Go.Proofs.YtfdopedpplhhaaaW.PrintLast Go.Proofs.YtfdopedpplhhaaaW.PrintMore
attribute [local go_sem] max2_int min2_int max_two min_two max_three min_three max_four min_four   -- for this text's walks alone
set_option linter.unusedVariables false
set_option linter.unusedSimpArgs false

/-! ### unisonref04_Set: function 22 -/
mutual
def unisonref04_Set.j0 : Nat → Int → Int → List Int → Bool → Option (List Int)
  | 0, _, _, _, _ => none
  | k + 1, x1, x2, x7, x16 => if x16 = true then (some x7) else (unisonref04_Set.l0 k x1 x2 x7)
def unisonref04_Set.l0 : Nat → Int → Int → List Int → Option (List Int)
  | 0, _, _, _ => none
  | k + 1, x1, x2, x7 => if (x7.length : Int) < (wrap64 (x1 + 1)) then (if x7.length < 17592186044416 then (unisonref04_Set.l0 k x1 x2 (x7 ++ [0])) else (none)) else (if 0 ≤ x1 then (if x1 < (x7.length : Int) then (some (x7.set (x1 : Int).toNat x2)) else (none)) else (none))
end
def unisonref04_Set.f (k : Nat) (l0 : List Int) (a1 : Int) (a2 : Int) : Option (List Int) := (some (([] : List Int) : List Int)).bind fun y206 => (if y206.length + l0.length < 17592186044416 then ((some (y206 ++ l0 : List Int)).bind fun y209 => (if a1 < 0 then (unisonref04_Set.j0 k a1 a2 y209 true) else (unisonref04_Set.j0 k a1 a2 y209 (decide (a1 > 63))))) else (none))
theorem unisonref04_Set.mono_l : ∀ k, (∀ y0 y1 y2 y3, LeO (unisonref04_Set.j0 k y0 y1 y2 y3) (unisonref04_Set.j0 (k + 1) y0 y1 y2 y3)) ∧ (∀ y0 y1 y2, LeO (unisonref04_Set.l0 k y0 y1 y2) (unisonref04_Set.l0 (k + 1) y0 y1 y2))
  | 0 => ⟨fun _ _ _ _ r h => by simp [unisonref04_Set.j0] at h, fun _ _ _ r h => by simp [unisonref04_Set.l0] at h⟩
  | k + 1 => by
    obtain ⟨ih0, ih1⟩ := unisonref04_Set.mono_l k
    refine ⟨?_, ?_⟩
    · intro y0 y1 y2 y3
      unfold unisonref04_Set.j0
      repeat' first
      | (with_reducible exact ih0 _ _ _ _)
      | (with_reducible exact ih1 _ _ _)
      | (with_reducible exact LeO.refl _)
      | (with_reducible exact LeO.none _)
      | (with_reducible refine LeO.ite ?_ ?_)
      | (with_reducible refine LeO.bind ?_ (fun _ => ?_))
      | exact ih0 _ _ _ _
      | exact ih1 _ _ _
      | exact LeO.none _
      | refine LeO.ite ?_ ?_
      | refine LeO.bind ?_ (fun _ => ?_)
    · intro y0 y1 y2
      unfold unisonref04_Set.l0
      repeat' first
      | (with_reducible exact ih0 _ _ _ _)
      | (with_reducible exact ih1 _ _ _)
      | (with_reducible exact LeO.refl _)
      | (with_reducible exact LeO.none _)
      | (with_reducible refine LeO.ite ?_ ?_)
      | (with_reducible refine LeO.bind ?_ (fun _ => ?_))
      | exact ih0 _ _ _ _
      | exact ih1 _ _ _
      | exact LeO.none _
      | refine LeO.ite ?_ ?_
      | refine LeO.bind ?_ (fun _ => ?_)
theorem unisonref04_Set.mono : ∀ a0 a1 a2 k, LeO (unisonref04_Set.f k a0 a1 a2) (unisonref04_Set.f (k + 1) a0 a1 a2) := by
  intro a0 a1 a2 k
  obtain ⟨ih0, ih1⟩ := unisonref04_Set.mono_l k
  unfold unisonref04_Set.f
  repeat' first
      | (with_reducible exact ih0 _ _ _ _)
      | (with_reducible exact ih1 _ _ _)
      | (with_reducible exact LeO.refl _)
      | (with_reducible exact LeO.none _)
      | (with_reducible refine LeO.ite ?_ ?_)
      | (with_reducible refine LeO.bind ?_ (fun _ => ?_))
      | exact ih0 _ _ _ _
      | exact ih1 _ _ _
      | exact LeO.none _
      | refine LeO.ite ?_ ?_
      | refine LeO.bind ?_ (fun _ => ?_)
set_option maxHeartbeats 8000000 in
set_option maxRecDepth 100000 in
theorem unisonref04_Set.calls (k : Nat) (A0 : Option Addr) (c0 : Nat) (l0 : List Int) (a1 : Int) (a2 : Int) (r : List Int) (w : World) (hr0 : Kd.C (Kd.int .u64) w A0 l0.length l0) (hc0 : l0.length ≤ c0) (h : unisonref04_Set.f k l0 a1 a2 = some r) :
    Calls Try.prog 22 #[.slice A0 l0.length c0, .int .i64 a1, .int .u64 a2] w fun e w' => ∃ v0_ : Value, e = .returned (v0_) ∧ Kd.R (Kd.int .u64) 32 w' w.heap.size (fun _ => True) v0_ r ∧ Below w.heap.size w w' := by
  have HR0 := Aside0.mk hr0
  have HC0 := Aside0.mk hc0
  clear hr0 hc0
  have HB := Aside0.mk (Below.refl w.heap.size w)
  have H : ((some (([] : List Int) : List Int)).bind fun y206 => (if y206.length + l0.length < 17592186044416 then ((some (y206 ++ l0 : List Int)).bind fun y209 => (if a1 < 0 then (unisonref04_Set.j0 k a1 a2 y209 true) else (unisonref04_Set.j0 k a1 a2 y209 (decide (a1 > 63))))) else (none))) = some r := h
  clear h
  obtain ⟨y206, hy206⟩ : ∃ y_ : List Int, y_ = (([] : List Int)) := ⟨_, rfl⟩
  replace H : (if y206.length + l0.length < 17592186044416 then ((some (y206 ++ l0 : List Int)).bind fun y209 => (if a1 < 0 then (unisonref04_Set.j0 k a1 a2 y209 true) else (unisonref04_Set.j0 k a1 a2 y209 (decide (a1 > 63))))) else (none)) = some r := by first | (rw [hy206]; with_reducible exact H) | (have H2_ := (Option.bind_some _ _).symm.trans H; rw [hy206]; with_reducible exact H2_) | (have H2_ := (Option.bind_some _ _).symm.trans H; with_reducible exact H2_) | with_reducible exact H | (rw [hy206]; exact H) | exact H
  have Ny206 := Aside0.mk hy206
  clear hy206
  by_cases c4 : y206.length + l0.length < 17592186044416
  · rw [if_pos c4] at H
    have LMc4 := Aside0.mk c4
    clear c4
    obtain ⟨y209, hy209⟩ : ∃ y_ : List Int, y_ = (y206 ++ l0) := ⟨_, rfl⟩
    replace H : (if a1 < 0 then (unisonref04_Set.j0 k a1 a2 y209 true) else (unisonref04_Set.j0 k a1 a2 y209 (decide (a1 > 63)))) = some r := by first | (rw [hy209]; with_reducible exact H) | (have H2_ := (Option.bind_some _ _).symm.trans H; rw [hy209]; with_reducible exact H2_) | (have H2_ := (Option.bind_some _ _).symm.trans H; with_reducible exact H2_) | with_reducible exact H | (rw [hy209]; exact H) | exact H
    have Ny209 := Aside0.mk hy209
    clear hy209
    have HC5 := Aside0.mk H
    clear H
    go_enter Try.func22, Try.ntmps22
    go_upto_region 2 with (first | ((with_reducible refine gate_dst (N := 8) rfl ?_); refine Kd.R_lit (Kd.int .u64) _ 32 ?hg (N := 8) ?hd (xs := ([] : List Int)) (inner := []) (ok := fun _ => True) (okp := fun _ => True) ?hr ?hp (fun _ hk => hk) trivial (Below.refl _ _) (Nat.le_refl _) (by simp) ?_; (case hd => rfl); (case hg => rfl); (case hr => first | (go_simp; done) | (go_simp; rfl)); (case hp => exact (Reps.none _ _)); intro v207 w6 ho7 hb hg_ hnew_; clear hg_ hnew_; (first | rw [← Ny206.out] at ho7 | (simp only [Int.reduceToNat] at ho7; rw [← Ny206.out] at ho7)); have n0_ := Aside0.mk (Kd.R_lower ho7 (below_size (by repeat (first | (with_reducible first | exact HB.out | apply below_alloc | apply pw_below_drewN | apply below_drew1) | exact HB.out)))); have n1_ := Aside0.mk (below_step (by repeat (first | (with_reducible first | exact HB.out | apply below_alloc | apply pw_below_drewN | apply below_drew1) | exact HB.out)) hb); clear HB; have HO208 := n0_; have HB := n1_; clear n0_ n1_; clear hb ho7) | ((with_reducible refine gate_builtin (b := .append) (xs := #[.tmp 8, .tmp 9]) rfl ?_); at_builtin; refine Kd.R_append_rows (Kd.int .u64) (w0 := w) w.heap.size rfl (.tmp 8) (.tmp 9) 22 32 (.int .u64 0) 8 rfl Try.underlying22 info32 rfl (by decide) (by omega) v207 y206 l0 _ _ _ (fun _ => True) (fun _ => False) rfl rfl ?aO ?aR (fun _ _ h => h) (fun _ h => h.elim) ?aF ?aB ?aS ?aL ?_; (case aR => repeat (first | exact (Kd.C_below HR0.out HB.out) | (with_reducible refine Kd.C_alloc ?_ _) | (with_reducible refine Kd.C_drewN ?_ _) | (with_reducible refine Kd.C_drew ?_))); (case aB => exact (by repeat (first | (with_reducible first | exact HB.out | apply below_alloc | apply pw_below_drewN | apply below_drew1) | exact HB.out))); (case aF => exact (fun _ _ => trivial)); (case aO => exact (by (with_reducible repeat (first | apply Kd.R_alloc | apply Kd.R_drewN | apply Kd.R_drew)); exact HO208.out)); (case aS => exact (below_size (by repeat (first | (with_reducible first | exact HB.out | apply below_alloc | apply pw_below_drewN | apply below_drew1) | exact HB.out)))); (case aL => have := LMc4.out; omega); intro v210 w8 ho hb hg hat; rw [← Ny209.out] at ho; have n0_ := Aside0.mk (hb); have n1_ := Aside0.mk (ho); clear HB; clear HO208; have HB := n0_; have HO211 := n1_; clear n0_ n1_; clear ho hb hg hat))
    (try simp only [Act.put, List.setIfInBounds_toArray, List.set_cons_zero, List.set_cons_succ])
    go_cut [16] (fun v16 wc => ∃ (kq : Nat) (x16_4 : Bool), v16 = .bool x16_4 ∧ Aside0 (unisonref04_Set.j0 kq a1 a2 y209 x16_4 = some r) ∧ Aside0 (kq ≤ k) ∧ Aside0 (Kd.R (Kd.int .u64) 32 wc w.heap.size (fun _ => True) v210 y209) ∧ Aside0 (Below w.heap.size w wc))
    case first =>
      have H := HC5.out
      clear HC5
      by_cases c9 : a1 < 0
      · rw [if_pos c9] at H
        have c9b0 : decide (a1 < 0) = true := decide_eq_true c9
        clear c9
        (first | rw [c9b0] | (simp only [i64_w, i32_w]; rw [c9b0]) | skip)
        have H' := Aside0.mk H
        clear H
        go_wp2
        go_meet
        case rel => exact ⟨_, (true), (by first | rfl | (simp; done) | (simp [*]; done)), H', ⟨by first | omega | exact Nat.le_refl _⟩, ⟨by (with_reducible repeat (first | apply Kd.R_alloc | apply Kd.R_drewN | apply Kd.R_drew)); exact HO211.out⟩, ⟨by repeat (first | (with_reducible first | exact HB.out | apply below_alloc | apply pw_below_drewN | apply below_drew1) | exact HB.out)⟩⟩
      · rw [if_neg c9] at H
        have c9b0 : decide (a1 < 0) = false := decide_eq_false c9
        clear c9
        (first | rw [c9b0] | (simp only [i64_w, i32_w]; rw [c9b0]) | skip)
        have H' := Aside0.mk H
        clear H
        go_wp2
        go_meet
        case rel => exact ⟨_, (decide (a1 > 63)), (by first | rfl | (simp; done) | (simp [*]; done)), H', ⟨by first | omega | exact Nat.le_refl _⟩, ⟨by (with_reducible repeat (first | apply Kd.R_alloc | apply Kd.R_drewN | apply Kd.R_drew)); exact HO211.out⟩, ⟨by repeat (first | (with_reducible first | exact HB.out | apply below_alloc | apply pw_below_drewN | apply below_drew1) | exact HB.out)⟩⟩
    case rest =>
      clear HC5
      try clear c2
      try clear p2
      try clear c4
      try clear c9
      try clear c9b0
      obtain ⟨kq, x16_4, rfl, HA, HJ4, HO_7, HB⟩ := hcut
      cases kq with
      | zero => exact absurd HA.out (by simp [unisonref04_Set.j0])
      | succ kj4 =>
        have H := HA.out
        clear HA
        simp only [unisonref04_Set.j0] at H
        by_cases c10 : x16_4 = true
        · subst c10
          have H1 : (some y209) = some r := by rw [if_pos rfl] at H; exact H
          clear H
          have H := H1
          clear H1
          obtain rfl := Option.some.inj H
          go_wp2
          go_ret
          exact ⟨_, by first | rfl | (simp [errW_none, errW_some] <;> rfl) | (simp [*, errW_none, errW_some] <;> rfl), by (with_reducible repeat (first | apply Kd.R_alloc | apply Kd.R_drewN | apply Kd.R_drew)); exact HO_7.out, by repeat (first | (with_reducible first | exact HB.out | apply below_alloc | apply pw_below_drewN | apply below_drew1) | exact HB.out)⟩
        · replace c10 := Bool.eq_false_iff.mpr c10
          subst c10
          have H1 : (unisonref04_Set.l0 kj4 a1 a2 y209) = some r := by rw [if_neg (show ¬ (false = true) by decide)] at H; exact H
          clear H
          have H := H1
          clear H1
          have H' := Aside0.mk H
          clear H
          go_wp2
          go_loopg [7] kj4 (fun kq v7 w' => ∃ (x7_2 : List Int), Aside0 (unisonref04_Set.l0 kq a1 a2 x7_2 = some r) ∧ Aside0 (kq ≤ kj4) ∧ Aside0 (Kd.R (Kd.int .u64) 32 w' w.heap.size (fun _ => True) v7 x7_2) ∧ Aside0 (Below w.heap.size w w'))
          case atStart => exact ⟨(y209), H', ⟨Nat.le_refl _⟩, ⟨by (with_reducible repeat (first | apply Kd.R_alloc | apply Kd.R_drewN | apply Kd.R_drew)); exact HO_7.out⟩, ⟨by repeat (first | (with_reducible first | exact HB.out | apply below_alloc | apply pw_below_drewN | apply below_drew1) | exact HB.out)⟩⟩
          case round =>
            clear H'
            try clear c1
            try clear c2
            try clear p2
            try clear c4
            try clear c9
            try clear c9b0
            try clear c10
            try clear p2
            obtain ⟨x7_2, HA, HK2, HO_7, HB⟩ := hrel
            cases gk with
            | zero => exact absurd HA.out (by simp [unisonref04_Set.l0])
            | succ k2 =>
              have H := HA.out
              clear HA
              simp only [unisonref04_Set.l0] at H
              by_cases c11 : (x7_2.length : Int) < (wrap64 (a1 + 1))
              · rw [if_pos c11] at H
                have c11b0 : decide ((x7_2.length : Int) < (wrap64 (a1 + 1))) = true := decide_eq_true c11
                clear c11
                by_cases c12 : x7_2.length < 17592186044416
                · rw [if_pos c12] at H
                  have LMc12 := Aside0.mk c12
                  clear c12
                  obtain ⟨y212, hy212⟩ : ∃ y_ : List Int, y_ = (x7_2 ++ [0]) := ⟨_, rfl⟩
                  replace H : (unisonref04_Set.l0 k2 a1 a2 y212) = some r := by first | (rw [hy212]; with_reducible exact H) | (have H2_ := (Option.bind_some _ _).symm.trans H; rw [hy212]; with_reducible exact H2_) | (have H2_ := (Option.bind_some _ _).symm.trans H; with_reducible exact H2_) | with_reducible exact H | (rw [hy212]; exact H) | exact H
                  have Ny212 := Aside0.mk hy212
                  clear hy212
                  have H' := Aside0.mk H
                  clear H
                  obtain ⟨Ao13, co13, eo13⟩ := Kd.R_slice HO_7.out
                  subst eo13
                  go_wp2_with (first | ((with_reducible refine gate_builtin (b := .append) (xs := #[.tmp 23, .tmp 24]) rfl ?_); at_builtin; refine Kd.R_append (Kd.int .u64) (w0 := w) w.heap.size rfl (.tmp 23) (.tmp 24) 22 32 (.int .u64 0) 8 rfl Try.underlying22 info32 rfl (by decide) (by omega) (.slice Ao13 x7_2.length co13) x7_2 0 [.int .u64 0] (fun _ => True) (fun _ => False) rfl rfl ?aP (fun _ hk => hk.elim) ?aF ?aO ?aB ?aS ?aL ?_; (case aP => exact rfl); (case aB => exact (by repeat (first | (with_reducible first | exact HB.out | apply below_alloc | apply pw_below_drewN | apply below_drew1) | exact HB.out))); (case aF => exact (fun _ _ => trivial)); (case aO => exact (by (with_reducible repeat (first | apply Kd.R_alloc | apply Kd.R_drewN | apply Kd.R_drew)); exact HO_7.out)); (case aS => exact (below_size (by repeat (first | (with_reducible first | exact HB.out | apply below_alloc | apply pw_below_drewN | apply below_drew1) | exact HB.out)))); (case aL => have := LMc12.out; omega); intro v213 w14 ho hb hg hat; rw [← Ny212.out] at ho; have n0_ := Aside0.mk (hb); have n1_ := Aside0.mk (ho); clear HB; clear HO_7; have HB := n0_; have HO214 := n1_; clear n0_ n1_; clear ho hb hg hat))
                  go_roundg k2
                  case measure => have := HJ4.out; have := HK2.out; omega
                  case rel => exact ⟨(y212), H', ⟨by have := HJ4.out; have := HK2.out; omega⟩, ⟨by (with_reducible repeat (first | apply Kd.R_alloc | apply Kd.R_drewN | apply Kd.R_drew)); exact HO214.out⟩, ⟨by repeat (first | (with_reducible first | exact HB.out | apply below_alloc | apply pw_below_drewN | apply below_drew1) | exact HB.out)⟩⟩
                · rw [if_neg c12] at H
                  exact absurd H (by simp)
              · rw [if_neg c11] at H
                have c11b0 : decide ((x7_2.length : Int) < (wrap64 (a1 + 1))) = false := decide_eq_false c11
                clear c11
                by_cases c15 : 0 ≤ a1
                · rw [if_pos c15] at H
                  have c15b0 : decide (0 ≤ a1) = true := decide_eq_true c15
                  clear c15
                  by_cases c16 : a1 < (x7_2.length : Int)
                  · rw [if_pos c16] at H
                    have c16b0 : decide (a1 < (x7_2.length : Int)) = true := decide_eq_true c16
                    clear c16
                    obtain ⟨y215, hy215⟩ : ∃ y_ : List Int, y_ = (x7_2.set (a1 : Int).toNat a2) := ⟨_, rfl⟩
                    replace H : (some y215) = some r := by first | (rw [hy215]; with_reducible exact H) | (have H2_ := (Option.bind_some _ _).symm.trans H; rw [hy215]; with_reducible exact H2_) | (have H2_ := (Option.bind_some _ _).symm.trans H; with_reducible exact H2_) | with_reducible exact H | (rw [hy215]; exact H) | exact H
                    have Ny215 := Aside0.mk hy215
                    clear hy215
                    obtain rfl := Option.some.inj H
                    obtain ⟨Ao18, co18, eo18⟩ := Kd.R_slice HO_7.out
                    subst eo18
                    have p17 : 0 ≤ (a1 : Int) := of_decide_eq_true (by first | (with_reducible assumption) | assumption)
                    have q17 : (a1 : Int) < ((x7_2.length : Int) : Int) := of_decide_eq_true (by first | (with_reducible assumption) | assumption)
                    obtain ⟨go17, co17, eo17, gb17, gl17, cl17, HG17⟩ := Kd.R_form HO_7.out (by omega)
                    (first | cases eo17 | (injection eo17 with ea_ en_ ec_; (first | subst ea_ | (injection ea_ with ea_; subst ea_)); subst ec_; clear en_))
                    have GB17 := Aside0.mk gb17
                    have GG17 := Aside0.mk HG17
                    clear gb17 gl17 HG17
                    obtain ⟨hx17_0, hf17_0⟩ := Kd.R_celln 0 HO_7.out (a1 : Int) p17 q17
                    replace p17 := eq_true p17
                    replace q17 := eq_true q17
                    have HP19 := Kd.R_putg HO_7.out (a1 : Int) a2
                    go_wp2_with (first | ((with_reducible refine gate_store (t := 32) (p := 29) rfl ?_); refine store_event (t := 32) (p := 29) (v := ?vo_w20) (w1 := (wr.setCell ⟨go17, (a1 : Int).toNat, none⟩ (.int .u64 a2))) ?hg ?ho ?hn ?hr ?_; (case ho => rfl); (case hg => rfl); (case hn => rfl); (case hr => first | (go_simp; done) | (go_simp; rfl)); intro w20 hw; have hg : wr.grownBy w20 (some go17) := (by rw [hw]; exact HP19.2); have hp_ : Kd.R (Kd.int .u64) 32 w20 w.heap.size (fun _ => True) (.slice (some ⟨go17, 0, none⟩) x7_2.length co18) y215 := (by rw [hw, Ny215.out]; exact HP19.1); clear HP19; have n0_ := Aside0.mk (hp_); have n1_ := Aside0.mk ((by rw [hw]; exact below_set (HB.out) GB17.out : Below w.heap.size w w20)); clear HO_7; clear HB; have HO_7 := n0_; have HB := n1_; clear n0_ n1_; clear hg hw hp_))
                    go_ret
                    exact ⟨_, by first | rfl | (simp [errW_none, errW_some] <;> rfl) | (simp [*, errW_none, errW_some] <;> rfl), by (with_reducible repeat (first | apply Kd.R_alloc | apply Kd.R_drewN | apply Kd.R_drew)); exact HO_7.out, by repeat (first | (with_reducible first | exact HB.out | apply below_alloc | apply pw_below_drewN | apply below_drew1) | exact HB.out)⟩
                  · rw [if_neg c16] at H
                    exact absurd H (by simp)
                · rw [if_neg c15] at H
                  exact absurd H (by simp)
  · rw [if_neg c4] at H
    exact absurd H (by simp)

end Go.Proofs.Ytfdopedpplhhaaa.F
