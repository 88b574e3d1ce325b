/- What is proved: the Go functions that the law reaches come to what the Lean functions beside them tell, and (in the text of the law) the given statement follows. Conditions: none beyond each theorem's own. Written by a program (a turned copy of the kit's print.py), some walks by hand. -/
import Derived.Test.YtahdbiddpphepaaF0
import Derived.Test.YtahdbiddpphepaaF1
namespace Go.Proofs.Ytahdbiddpphepaa.F
open Go.RowKit Go.Proofs.YtahdbiddpphepaaW.PrintWords Go.Proofs.YtahdbiddpphepaaW.PrintLast Go.Proofs.YtahdbiddpphepaaW.PrintMore
attribute [local go_sem] max2_int min2_int max_two min_two max_three min_three max_four min_four   -- for this text's walks alone
set_option linter.unusedVariables false
set_option linter.unusedSimpArgs false

/-! ### matrix_rise: function 34 -/
def matrix_rise.f (l0 : List Int) (l1 : List Int) : Option (List Int) := (vec_Max.f (([l0, l1] : List (List Int)))).bind fun t115 => (if 0 ≤ (l0.length : Int) then (if (l0.length : Int) ≤ (t115.length : Int) then (some (t115.take ((l0.length : Int) : Int).toNat)) else (none)) else (none))
set_option maxHeartbeats 8000000 in
set_option maxRecDepth 100000 in
theorem matrix_rise.calls (P0_ : Nat → Prop) (A0 : Option Addr) (c0 : Nat) (l0 : List Int) (P1_ : Nat → Prop) (A1 : Option Addr) (c1 : Nat) (l1 : List Int) (r : List Int) (w : World) (hs0 : Kd.V (Kd.int .u64) 26 w w.heap.size (fun k_ => P0_ k_) (.slice A0 l0.length c0) l0) (hs1 : Kd.V (Kd.int .u64) 26 w w.heap.size (fun k_ => P1_ k_) (.slice A1 l1.length c1) l1) (h : matrix_rise.f l0 l1 = some r) :
    Calls Try.prog 34 #[.slice A0 l0.length c0, .slice A1 l1.length c1] w fun e w' => ∃ v0_ : Value, e = .returned (v0_) ∧ Kd.R (Kd.int .u64) 26 w' w.heap.size (fun k_ => (w.heap.size ≤ k_)) v0_ r ∧ Below w.heap.size w w' := by
  have HO0 := Aside0.mk (show Kd.V (Kd.int .u64) 26 w w.heap.size (fun k_ => ((P0_ k_ ∨ P1_ k_) ∨ w.heap.size ≤ k_)) (.slice A0 l0.length c0) l0 from Kd.V_mono hs0 (fun k_ hk => .inl (.inl hk)))
  have HO1 := Aside0.mk (show Kd.V (Kd.int .u64) 26 w w.heap.size (fun k_ => ((P0_ k_ ∨ P1_ k_) ∨ w.heap.size ≤ k_)) (.slice A1 l1.length c1) l1 from Kd.V_mono hs1 (fun k_ hk => .inl (.inr hk)))
  have HB := Aside0.mk (Below.refl w.heap.size w)
  have H : ((vec_Max.f (([l0, l1] : List (List Int)))).bind fun t115 => (if 0 ≤ (l0.length : Int) then (if (l0.length : Int) ≤ (t115.length : Int) then (some (t115.take ((l0.length : Int) : Int).toNat)) else (none)) else (none))) = some r := h
  clear h
  obtain ⟨y112, hy112⟩ : ∃ y_ : List (List Int), y_ = (([l0, l1] : List (List Int))) := ⟨_, rfl⟩
  replace H : ((vec_Max.f y112).bind fun t115 => (if 0 ≤ (l0.length : Int) then (if (l0.length : Int) ≤ (t115.length : Int) then (some (t115.take ((l0.length : Int) : Int).toNat)) else (none)) else (none))) = some r := by first | (rw [hy112]; with_reducible exact H) | (have H2_ := (Option.bind_some _ _).symm.trans H; rw [hy112]; with_reducible exact H2_) | (have H2_ := (Option.bind_some _ _).symm.trans H; with_reducible exact H2_) | with_reducible exact H | (rw [hy112]; exact H) | exact H
  have Ny112 := Aside0.mk hy112
  clear hy112
  replace H := Option.bind_eq_some_iff.mp H
  obtain ⟨t115, A30, H⟩ := H
  replace H : (if 0 ≤ (l0.length : Int) then (if (l0.length : Int) ≤ (t115.length : Int) then (some (t115.take ((l0.length : Int) : Int).toNat)) else (none)) else (none)) = some r := H
  have A3 := Aside0.mk A30
  clear A30
  by_cases c4 : 0 ≤ (l0.length : Int)
  · rw [if_pos c4] at H
    have c4b0 := eq_true c4
    have c4b1 : decide (0 ≤ (l0.length : Int)) = true := decide_eq_true c4
    clear c4
    by_cases c5 : (l0.length : Int) ≤ (t115.length : Int)
    · rw [if_pos c5] at H
      have c5b0 := eq_true c5
      have c5b1 : decide ((l0.length : Int) ≤ (t115.length : Int)) = true := decide_eq_true c5
      clear c5
      obtain ⟨y118, hy118⟩ : ∃ y_ : List Int, y_ = (t115.take ((l0.length : Int) : Int).toNat) := ⟨_, rfl⟩
      replace H : (some y118) = some r := by first | (rw [hy118]; with_reducible exact H) | (have H2_ := (Option.bind_some _ _).symm.trans H; rw [hy118]; with_reducible exact H2_) | (have H2_ := (Option.bind_some _ _).symm.trans H; with_reducible exact H2_) | with_reducible exact H | (rw [hy118]; exact H) | exact H
      have Ny118 := Aside0.mk hy118
      clear hy118
      obtain rfl := Option.some.inj H
      go_enter Try.func34, Try.ntmps34
      go_wp2_with (first | ((with_reducible refine gate_dst (N := 7) rfl ?_); refine Kd.N_lit (Kd.slice 26 (Kd.int .u64)) _ 27 ?hg (N' := 7) ?hd (xs := ([l0, l1] : List (List Int))) (inner := [.slice A0 l0.length c0, .slice A1 l1.length c1]) (ok := (fun k_ => ((P0_ k_ ∨ P1_ k_) ∨ w.heap.size ≤ k_))) (okp := (fun k_ => ((P0_ k_ ∨ P1_ k_) ∨ w.heap.size ≤ k_))) ?hr ?hp (fun _ hk => hk) ((show ∀ k_, w.heap.size ≤ k_ → (fun k_ => ((P0_ k_ ∨ P1_ k_) ∨ w.heap.size ≤ k_)) k_ from fun k_ hk => (.inr (Nat.le_trans (below_size (by repeat (first | (with_reducible first | exact HB.out | apply below_alloc | apply pw_below_drewN | apply below_drew1) | exact HB.out))) hk))) _ (Nat.le_refl _)) (Below.refl _ _) (Nat.le_refl _) (by simp) ?_; (case hd => rfl); (case hg => rfl); (case hr => first | (go_simp; done) | (go_simp; rfl)); (case hp => exact (Reps.one (show Kd.FK (Kd.slice 26 (Kd.int .u64)) _ _ l0 [.slice A0 l0.length c0] from (Kd.FK_slice_mk (Kd.V_reads' (Kd.V_mono (ok' := (fun k_ => ((P0_ k_ ∨ P1_ k_) ∨ w.heap.size ≤ k_))) (HO0.out) (fun k_ hk => hk))).2.1 (Kd.V_F (Kd.V_mono (ok' := (fun k_ => ((P0_ k_ ∨ P1_ k_) ∨ w.heap.size ≤ k_))) (HO0.out) (fun k_ hk => hk))))) (Reps.one (show Kd.FK (Kd.slice 26 (Kd.int .u64)) _ _ l1 [.slice A1 l1.length c1] from (Kd.FK_slice_mk (Kd.V_reads' (Kd.V_mono (ok' := (fun k_ => ((P0_ k_ ∨ P1_ k_) ∨ w.heap.size ≤ k_))) (HO1.out) (fun k_ hk => hk))).2.1 (Kd.V_F (Kd.V_mono (ok' := (fun k_ => ((P0_ k_ ∨ P1_ k_) ∨ w.heap.size ≤ k_))) (HO1.out) (fun k_ hk => hk))))) (Reps.none _ _)))); intro v113 w6 ho7 hb hg_ hnew_; clear hg_ hnew_; (first | rw [← Ny112.out] at ho7 | (simp only [Int.reduceToNat] at ho7; rw [← Ny112.out] at ho7)); have n0_ := Aside0.mk (Kd.V_elder' (by (with_reducible repeat (first | apply Kd.V_alloc | apply Kd.V_drewN | apply Kd.V_drew)); exact HO0.out) (Kd.N_base ho7) hb); have n1_ := Aside0.mk (Kd.V_elder' (by (with_reducible repeat (first | apply Kd.V_alloc | apply Kd.V_drewN | apply Kd.V_drew)); exact HO1.out) (Kd.N_base ho7) hb); have n2_ := Aside0.mk (Kd.N_lower ho7 (below_size (by repeat (first | (with_reducible first | exact HB.out | apply below_alloc | apply pw_below_drewN | apply below_drew1) | exact HB.out)))); have n3_ := Aside0.mk (below_step (by repeat (first | (with_reducible first | exact HB.out | apply below_alloc | apply pw_below_drewN | apply below_drew1) | exact HB.out)) hb); clear HO0; clear HO1; clear HB; have HO0 := n0_; have HO1 := n1_; have HO114 := n2_; have HB := n3_; clear n0_ n1_ n2_ n3_; clear hb ho7; obtain ⟨Ao8, co8, eo8⟩ := Kd.N_slice HO114.out; subst eo8) | ((with_reducible refine gate_callee (f := 37) rfl ?_); refine goesL_ (some 8) rfl rfl Try.func37 (by kernel_rfl) rfl #[.slice Ao8 y112.length co8] rfl (by (try simp only [List.map_toArray, List.map_cons, List.map_nil]); first | done | rfl | (simp only [List.length_drop, List.length_take]; rfl)) ?_; (with_reducible refine (vec_Max.calls _ _ y112 t115 _ ?side1 ?side2 A3.out).mono ?_); (case side1 => repeat (first | exact (Kd.N_reads' HO114.out).2.2 | (with_reducible refine Kd.C_alloc ?_ _) | (with_reducible refine Kd.C_drewN ?_ _) | (with_reducible refine Kd.C_drew ?_))); (case side2 => exact (Kd.N_reads' HO114.out).2.1); rintro e w9 ⟨v116, rfl, ho0, hb⟩; refine ⟨_, rfl, ?_⟩; have n0_ := Aside0.mk (Kd.V_elder' (by (with_reducible repeat (first | apply Kd.V_alloc | apply Kd.V_drewN | apply Kd.V_drew)); exact HO0.out) (Kd.R_base ho0) hb); have n1_ := Aside0.mk (Kd.V_elder' (by (with_reducible repeat (first | apply Kd.V_alloc | apply Kd.V_drewN | apply Kd.V_drew)); exact HO1.out) (Kd.R_base ho0) hb); have n2_ := Aside0.mk (Kd.N_elder' (by (with_reducible repeat (first | apply Kd.N_alloc | apply Kd.N_drewN | apply Kd.N_drew)); exact HO114.out) (Kd.R_base ho0) hb); have n3_ := Aside0.mk (Kd.R_lower (Kd.R_newM (M := fun k_ => (w.heap.size ≤ k_)) ho0 (below_size (by repeat (first | (with_reducible first | exact HB.out | apply below_alloc | apply pw_below_drewN | apply below_drew1) | exact HB.out))) (fun k_ h_ => h_)) (below_size (by repeat (first | (with_reducible first | exact HB.out | apply below_alloc | apply pw_below_drewN | apply below_drew1) | exact HB.out)))); have n4_ := Aside0.mk (below_step (by repeat (first | (with_reducible first | exact HB.out | apply below_alloc | apply pw_below_drewN | apply below_drew1) | exact HB.out)) hb); clear HO0; clear HO1; clear HO114; clear HB; have HO0 := n0_; have HO1 := n1_; have HO114 := n2_; have HO117 := n3_; have HB := n4_; clear n0_ n1_ n2_ n3_ n4_; (try clear hb); (try clear hb2); (try clear hk); (try clear hi); (try clear ho0); obtain ⟨Ao10, co10, eo10⟩ := Kd.R_slice HO117.out; subst eo10; have q11 : ((l0.length : Int) : Int) ≤ ((t115.length : Int) : Int) := of_decide_eq_true (by first | (with_reducible assumption) | assumption); obtain ⟨i011, hi011, _, hsz11, _⟩ := info_parts info26; have hcut11 := cut_to (P := Try.prog) 27 26 .i64 Try.underlying27 hi011 Ao10 t115.length co10 (l0.length : Int) (of_decide_eq_true (by first | (with_reducible assumption) | assumption)) q11 (Kd.R_reads' HO117.out).2.1; have hr11 := Kd.R_take (m := ((l0.length : Int) : Int).toNat) HO117.out (by omega); have hy11 : y118.length = ((l0.length : Int) : Int).toNat := (by rw [Ny118.out, List.length_take]; omega); rw [← Ny118.out] at hr11; rw [← hy11] at hr11 hcut11; clear hy11 hi011 hsz11 HO117; have HO120 := Aside0.mk hr11; clear hr11; replace q11 := eq_true q11))
      go_ret
      exact ⟨_, by first | rfl | (simp [errW_none, errW_some] <;> rfl) | (simp [*, errW_none, errW_some] <;> rfl), by (with_reducible repeat (first | apply Kd.R_alloc | apply Kd.R_drewN | apply Kd.R_drew)); exact Kd.R_mono HO120.out (fun _ hk => hk.1), by repeat (first | (with_reducible first | exact HB.out | apply below_alloc | apply pw_below_drewN | apply below_drew1) | exact HB.out)⟩
    · rw [if_neg c5] at H
      exact absurd H (by simp)
  · rw [if_neg c4] at H
    exact absurd H (by simp)

-- NOT PRINTED: function 12 (matrix_Matrix_Tell)

-- NOT PRINTED: function 50 (matrix_row_50)

-- NOT PRINTED: function 44 (matrix_row_44)

-- NOT PRINTED: function 45 (matrix_row_45)

-- NOT PRINTED: function 35 (matrix_Matrix_left)

/-! ### vec_Min: function 36 -/
set_option maxHeartbeats 1000000 in
theorem vec_fold.calls_Min (op : Int → Int → Int) (hop : ∀ (a b : Int) (w : World), Calls Try.prog 48 #[.int .u64 a, .int .u64 b] w fun e w' => e = .returned (.int .u64 (op a b)) ∧ w' = w)
    (A0 : Option Addr) (c0 : Nat) (l0 : List (List Int)) (w : World) (hr0 : Kd.C (Kd.slice 26 (Kd.int .u64)) w A0 l0.length l0) (hc0 : l0.length ≤ c0) (hok : okV l0) :
    Calls Try.prog 47 #[.func (.func 48) #[] #[], .slice A0 l0.length c0] w fun e w' => ∃ v0_ : Value, e = .returned v0_ ∧ Kd.R (Kd.int .u64) 26 w' w.heap.size (fun _ => True) v0_ (foldAll op l0) ∧ Below w.heap.size w w' := by
  have HR := Aside0.mk hr0
  have HC := Aside0.mk hc0
  have OP := Aside0.mk hop
  have HL := Aside0.mk (longest_eq l0 hok)
  obtain ⟨h1, h2⟩ := hok
  clear hr0 hc0 hop
  go_enter Try.func47, Try.ntmps47
  go_wp2_with fail
  refine (vec_longest.calls A0 c0 l0 _ w HR.out HC.out HL.out).mono ?_
  rintro e w1 ⟨rfl, hb⟩
  have B1 := Aside0.mk hb.below
  clear hb
  go_wp2_with fail
  go_loopg [5, 12] (longest l0) (fun kq v5 v12 w' => ∃ j : Nat, v12 = .int .i64 j ∧ j ≤ longest l0 ∧ longest l0 ≤ kq + j ∧ Aside0 (Kd.R (Kd.int .u64) 26 w' w.heap.size (fun _ => True) v5 ((List.range j).map fun (i : Nat) => foldv op l0 (i : Int))) ∧ Aside0 (Below w.heap.size w w'))
  case atStart => exact ⟨0, rfl, by omega, by omega, ⟨Kd.R_nil _ _ _ _ _⟩, B1⟩
  case round =>
    clear B1
    obtain ⟨j, rfl, hj, hkj, RO, HB⟩ := hrel
    obtain ⟨Ao, co, rfl⟩ := Kd.R_slice RO.out
    have hlen : ((List.range j).map fun (i : Nat) => foldv op l0 (i : Int)).length = j := by simp
    rw [hlen] at RO ⊢
    clear hlen
    by_cases hlt : j < longest l0
    · have hlt' : decide ((j : Int) < longest l0) = true := decide_eq_true (by omega)
      have hne : 0 < l0.length := by
        cases l0 with
        | nil => simp [longest] at hlt
        | cons a l => simp
      obtain ⟨ad, Ah, ch, ead, hx, hhc, hhr⟩ := at_row HR.out 0 hne
      cases ead
      have HA0 : Aside0 (l0.headD [] = l0.getD 0 []) := ⟨by cases l0 <;> rfl⟩
      have XH := Aside0.mk hx
      have HHR := Aside0.mk hhr
      have HHC := Aside0.mk hhc
      clear hx hhr hhc
      have x0 : wr.cell? ad = some (.slice Ah (l0.getD 0 []).length ch) := by
        have := (HB.out.cell (World.block_lt_of_cell? w _ XH.out)).trans XH.out
        simpa [Addr.add] using this
      generalize l0.getD 0 [] = a at *
      obtain ⟨A', hcut, hC', hc'⟩ := kcut_from (P := Try.prog) (Kd.slice 26 (Kd.int .u64)) 66 27 .i64 Try.underlying66 (by kernel_rfl) (some ad) c0 l0 1 hne HC.out
      have HT := Aside0.mk (hC' w HR.out)
      have HTC := Aside0.mk hc'
      clear hC' hc'
      have e1 : ((1 : Nat) : Int) = 1 := rfl
      rw [e1] at hcut
      clear e1
      have HD1 : Aside0 (l0.drop 1 = l0.drop 1) := ⟨rfl⟩
      generalize hT : l0.drop 1 = T at hcut HT HTC HD1
      clear HD1
      have HTT := Aside0.mk hT
      have hTl : T.length ≤ 1000 := by rw [← hT, List.length_drop]; omega
      clear hT
      have p_ : ((0 : Int) < (l0.length : Int)) = True := eq_true (by omega)
      go_wp2_with fail
      refine (vec_At.calls Ah ch a (j : Int) _ wr (Kd.C_below HHR.out HB.out) HHC.out (At_eq a j (by omega))).mono ?_
      rintro e w1 ⟨rfl, hd⟩
      have D1 := Aside0.mk (hd.below)
      clear hd
      go_wp2_with fail
      obtain ⟨wo, rfl⟩ : ∃ x, x = wr := ⟨_, rfl⟩
      obtain ⟨go, rfl⟩ : ∃ x, x = gk := ⟨_, rfl⟩
      go_loopg [7, 23] T.length (fun kq v7 v23 w' => ∃ m : Nat, v23 = .int .i64 m ∧ m ≤ T.length ∧ T.length ≤ kq + m ∧ v7 = .int .u64 ((T.take m).foldl (fun n x => op n (rd x j)) (rd a j)) ∧ Aside0 (Below wo.heap.size wo w'))
      case atStart => exact ⟨0, rfl, by omega, by omega, rfl, D1⟩
      case round =>
        clear D1
        obtain ⟨m, rfl, hm, hkm, rfl, HB2⟩ := hrel
        by_cases hlm : m < T.length
        · have hlm' : decide ((m : Int) < T.length) = true := decide_eq_true (by omega)
          obtain ⟨ad2, Ab, cb, ead, hy, hyc, hyr⟩ := at_row HT.out m hlm
          cases ead
          have Y0 : wr.cell? (ad2.add m) = some (.slice Ab (T.getD m []).length cb) := (HB2.out.cell (by have := World.block_lt_of_cell? w _ hy; have := HB.out.size; omega)).trans ((HB.out.cell (World.block_lt_of_cell? w _ hy)).trans hy)
          have YR := Aside0.mk (Kd.C_below (Kd.C_below hyr HB.out) HB2.out)
          have YC := Aside0.mk hyc
          have hTm : Aside0 (T.take (m + 1) = T.take m ++ [T.getD m []]) := ⟨by rw [List.take_add_one, List.getElem?_eq_getElem hlm]; simp [List.getD, hlm]⟩
          clear hy hyr hyc
          generalize T.getD m [] = b at *
          have pm : (0 ≤ (m : Int)) = True := eq_true (by omega)
          have qm : ((m : Int) < (T.length : Int)) = True := eq_true (by omega)
          go_wp2_with fail
          refine (vec_At.calls Ab cb b (j : Int) _ _ YR.out YC.out (At_eq b j (by omega))).mono ?_
          rintro e w2 ⟨rfl, hd⟩
          have D2 := Aside0.mk (below_step HB2.out hd.below)
          clear hd
          go_wp2_with fail
          refine (OP.out _ _ _).mono ?_
          rintro e w3 ⟨rfl, rfl⟩
          go_wp2_with fail
          go_roundg (gk - 1)
          case measure => omega
          case rel => exact ⟨m + 1, (by simp), by omega, by omega, by rw [hTm.out, List.foldl_append]; rfl, D2⟩
        · have hlm' : decide ((m : Int) < T.length) = false := decide_eq_false (by omega)
          obtain rfl : m = T.length := by omega
          rw [List.take_length]
          have hP : Aside0 (T.foldl (fun n x => op n (rd x j)) (rd a j) = foldv op l0 j) := ⟨by unfold foldv; rw [HTT.out, HA0.out]⟩
          generalize T.foldl (fun n x => op n (rd x j)) (rd a j) = p at *
          have RO2 := Aside0.mk (Kd.R_below RO.out HB2.out)
          have BB := Aside0.mk (below_step HB.out HB2.out)
          clear RO HB
          go_wp2_with ((with_reducible refine gate_builtin (b := .append) (xs := #[.tmp 34, .tmp 36]) rfl ?_); at_builtin; refine Kd.R_append (Kd.int .u64) (w0 := w) w.heap.size rfl (.tmp 34) (.tmp 36) 27 26 (.int .u64 0) 8 rfl Try.underlying27 info26 rfl (by decide) (by omega) _ _ p [.int .u64 p] (fun _ => True) (fun _ => False) rfl rfl rfl (fun _ hk => hk.elim) (fun _ _ => trivial) RO2.out BB.out BB.out.size ?_ ?_; (rw [List.length_map, List.length_range]; omega); intro v1 w4 ho hb hg hat)
          have RO3 := Aside0.mk ho
          have B3 := Aside0.mk hb
          clear ho hb hg hat
          go_roundg (go - 1)
          case measure => omega
          case rel => exact ⟨j + 1, (by simp), by omega, by omega, ⟨by rw [List.range_succ, List.map_append]; have := RO3.out; rw [hP.out] at this; exact this⟩, B3⟩
    · have hlt' : decide ((j : Int) < longest l0) = false := decide_eq_false (by omega)
      obtain rfl : j = longest l0 := by omega
      go_wp2_with fail
      go_ret
      exact ⟨_, rfl, RO.out, HB.out⟩
theorem vec_Min.inner (a b : Int) (w : World) : Calls Try.prog 48 #[.int .u64 a, .int .u64 b] w fun e w' => e = .returned (.int .u64 (mn a b)) ∧ w' = w := by
  by_cases h : b < a
  · rw [show mn a b = b from if_pos h]
    have h' := eq_true h
    clear h
    go_enter Try.func48, Try.ntmps48
    go_wp2
    go_ret
    exact ⟨rfl, rfl⟩
  · rw [show mn a b = a from if_neg h]
    have h' := eq_false h
    clear h
    go_enter Try.func48, Try.ntmps48
    go_wp2
    go_ret
    exact ⟨rfl, rfl⟩
def vec_Min.f (l0 : List (List Int)) : Option (List Int) := if okV l0 then some (foldAll mn l0) else none
theorem vec_Min.calls (A0 : Option Addr) (c0 : Nat) (l0 : List (List Int)) (r : List Int) (w : World) (hr0 : Kd.C (Kd.slice 26 (Kd.int .u64)) w A0 l0.length l0) (hc0 : l0.length ≤ c0) (h : vec_Min.f l0 = some r) :
    Calls Try.prog 36 #[.slice A0 l0.length c0] w fun e w' => ∃ v0_ : Value, e = .returned v0_ ∧ Kd.R (Kd.int .u64) 26 w' w.heap.size (fun _ => True) v0_ r ∧ Below w.heap.size w w' := by
  unfold vec_Min.f at h
  by_cases hok : okV l0
  · rw [if_pos hok] at h
    obtain rfl := Option.some.inj h
    have HR := Aside0.mk hr0
    have HC := Aside0.mk hc0
    have HK := Aside0.mk hok
    clear h hr0 hc0 hok
    go_enter Try.func36, Try.ntmps36
    go_wp2_with fail
    refine (vec_fold.calls_Min mn vec_Min.inner A0 c0 l0 w HR.out HC.out HK.out).mono ?_
    rintro e w1 ⟨v, rfl, ho, hb⟩
    have HO := Aside0.mk ho
    have HB := Aside0.mk hb
    clear ho hb
    obtain ⟨Ao, co, rfl⟩ := Kd.R_slice HO.out
    go_wp2_with fail
    go_ret
    exact ⟨_, rfl, HO.out, HB.out⟩
  · rw [if_neg hok] at h
    cases h

-- NOT PRINTED: function 14 (matrix_Matrix_Stable)

-- NOT PRINTED: function 15 (matrix_Matrix_Least)

-- NOT PRINTED: function 8 (unisonlaw18_awake)

/-! ### unisonlaw18_great: function 10 -/
def unisonlaw18_great.f (a0_0 : Bool) (a0_1 : Int) (a0_2 : Int) (l0_3 : List Int) (l0_4 : List Int) : Option (Bool) := if (l0_3.length : Int) > 100 then (some true) else (some (decide ((l0_4.length : Int) > 100)))
set_option maxHeartbeats 8000000 in
set_option maxRecDepth 100000 in
theorem unisonlaw18_great.calls (a0_0 : Bool) (a0_1 : Int) (a0_2 : Int) (A0_3 : Option Addr) (c0_3 : Nat) (l0_3 : List Int) (A0_4 : Option Addr) (c0_4 : Nat) (l0_4 : List Int) (r : Bool) (w : World) (hr0_3 : Kd.C (Kd.int .u64) w A0_3 l0_3.length l0_3) (hc0_3 : l0_3.length ≤ c0_3) (hr0_4 : Kd.C (Kd.int .u64) w A0_4 l0_4.length l0_4) (hc0_4 : l0_4.length ≤ c0_4) (h : unisonlaw18_great.f a0_0 a0_1 a0_2 l0_3 l0_4 = some r) :
    Calls Try.prog 10 #[.agg #[.bool a0_0, .int .i64 a0_1, .int .u64 a0_2, .slice A0_3 l0_3.length c0_3, .slice A0_4 l0_4.length c0_4]] w fun e w' => e = .returned (.bool r) ∧ Below w.heap.size w w' := by
  have hu29 := Try.underlying29
  have HR0_3 := Aside0.mk hr0_3
  have HC0_3 := Aside0.mk hc0_3
  clear hr0_3 hc0_3
  have HR0_4 := Aside0.mk hr0_4
  have HC0_4 := Aside0.mk hc0_4
  clear hr0_4 hc0_4
  have HB := Aside0.mk (Below.refl w.heap.size w)
  have H : (if (l0_3.length : Int) > 100 then (some true) else (some (decide ((l0_4.length : Int) > 100)))) = some r := h
  clear h
  by_cases c2 : (l0_3.length : Int) > 100
  · rw [if_pos c2] at H
    have c2b0 : decide (100 < (l0_3.length : Int)) = true := decide_eq_true c2
    have c2b1 : decide (100 < l0_3.length) = true := decide_eq_true (by omega)
    clear c2
    obtain rfl := Option.some.inj H
    go_enter Try.func10, Try.ntmps10
    go_wp2_with (first | ((with_reducible refine gate_dst (N := 1) rfl ?_); (try (refine gate_guard (by rfl) ?_; dsimp only)); refine box_event ?hg (N := 1) ?hd (cs := #[.bool a0_0, .int .i64 a0_1, .int .u64 a0_2, .slice A0_3 l0_3.length c0_3, .slice A0_4 l0_4.length c0_4]) (t := 29) ?hr ?_; (case hd => rfl); (case hg => rfl); (case hr => first | (go_simp; done) | (go_simp; rfl)); intro gb121 hg w3 hbox hb; have n0_ := Aside0.mk (below_step (by repeat (first | (with_reducible first | exact HB.out | apply below_alloc | apply pw_below_drewN | apply below_drew1) | exact HB.out)) hb); have n1_ := Aside0.mk (hbox); have n2_ := Aside0.mk ((by rw [hg]; exact (below_size (by repeat (first | (with_reducible first | exact HB.out | apply below_alloc | apply pw_below_drewN | apply below_drew1) | exact HB.out))) : w.heap.size ≤ gb121)); have n3_ := Aside0.mk ((by rw [hg]; exact (below_size (by repeat (first | (with_reducible first | exact HB.out | apply below_alloc | apply pw_below_drewN | apply below_drew1) | exact HB.out))) : w.heap.size ≤ gb121)); clear HB; have HB := n0_; have BK121 := n1_; have GW121 := n2_; have GE121 := n3_; clear n0_ n1_ n2_ n3_; clear hb hbox hg; have hcz4_0 : w3.cell? ⟨gb121, 0, none⟩ = some (.bool a0_0) := (blk_cell BK121.out 0).trans rfl; have hcz4_1 : w3.cell? ⟨gb121, 1, none⟩ = some (.int .i64 a0_1) := (blk_cell BK121.out 1).trans rfl; have hcz4_2 : w3.cell? ⟨gb121, 2, none⟩ = some (.int .u64 a0_2) := (blk_cell BK121.out 2).trans rfl; have hcz4_3 : w3.cell? ⟨gb121, 3, none⟩ = some (.slice A0_3 l0_3.length c0_3) := (blk_cell BK121.out 3).trans rfl; have hcz4_4 : w3.cell? ⟨gb121, 4, none⟩ = some (.slice A0_4 l0_4.length c0_4) := (blk_cell BK121.out 4).trans rfl; have hfz4_0 := blk_frozen BK121.out 0; have hfz4_1 := blk_frozen BK121.out 1; have hfz4_2 := blk_frozen BK121.out 2; have hfz4_3 := blk_frozen BK121.out 3; have hfz4_4 := blk_frozen BK121.out 4))
    go_ret
    exact ⟨by first | rfl | (simp [errW_none, errW_some] <;> rfl) | (simp [*, errW_none, errW_some] <;> rfl), by repeat (first | (with_reducible first | exact HB.out | apply below_alloc | apply pw_below_drewN | apply below_drew1 | refine below_set ?_ GE121.out) | exact HB.out)⟩
  · rw [if_neg c2] at H
    have c2b0 : decide (100 < (l0_3.length : Int)) = false := decide_eq_false c2
    have c2b1 : decide (100 < l0_3.length) = false := decide_eq_false (by omega)
    clear c2
    obtain rfl := Option.some.inj H
    go_enter Try.func10, Try.ntmps10
    go_wp2_with (first | ((with_reducible refine gate_dst (N := 1) rfl ?_); (try (refine gate_guard (by rfl) ?_; dsimp only)); refine box_event ?hg (N := 1) ?hd (cs := #[.bool a0_0, .int .i64 a0_1, .int .u64 a0_2, .slice A0_3 l0_3.length c0_3, .slice A0_4 l0_4.length c0_4]) (t := 29) ?hr ?_; (case hd => rfl); (case hg => rfl); (case hr => first | (go_simp; done) | (go_simp; rfl)); intro gb121 hg w5 hbox hb; have n0_ := Aside0.mk (below_step (by repeat (first | (with_reducible first | exact HB.out | apply below_alloc | apply pw_below_drewN | apply below_drew1) | exact HB.out)) hb); have n1_ := Aside0.mk (hbox); have n2_ := Aside0.mk ((by rw [hg]; exact (below_size (by repeat (first | (with_reducible first | exact HB.out | apply below_alloc | apply pw_below_drewN | apply below_drew1) | exact HB.out))) : w.heap.size ≤ gb121)); have n3_ := Aside0.mk ((by rw [hg]; exact (below_size (by repeat (first | (with_reducible first | exact HB.out | apply below_alloc | apply pw_below_drewN | apply below_drew1) | exact HB.out))) : w.heap.size ≤ gb121)); clear HB; have HB := n0_; have BK121 := n1_; have GW121 := n2_; have GE121 := n3_; clear n0_ n1_ n2_ n3_; clear hb hbox hg; have hcz6_0 : w5.cell? ⟨gb121, 0, none⟩ = some (.bool a0_0) := (blk_cell BK121.out 0).trans rfl; have hcz6_1 : w5.cell? ⟨gb121, 1, none⟩ = some (.int .i64 a0_1) := (blk_cell BK121.out 1).trans rfl; have hcz6_2 : w5.cell? ⟨gb121, 2, none⟩ = some (.int .u64 a0_2) := (blk_cell BK121.out 2).trans rfl; have hcz6_3 : w5.cell? ⟨gb121, 3, none⟩ = some (.slice A0_3 l0_3.length c0_3) := (blk_cell BK121.out 3).trans rfl; have hcz6_4 : w5.cell? ⟨gb121, 4, none⟩ = some (.slice A0_4 l0_4.length c0_4) := (blk_cell BK121.out 4).trans rfl; have hfz6_0 := blk_frozen BK121.out 0; have hfz6_1 := blk_frozen BK121.out 1; have hfz6_2 := blk_frozen BK121.out 2; have hfz6_3 := blk_frozen BK121.out 3; have hfz6_4 := blk_frozen BK121.out 4))
    go_ret
    exact ⟨by first | rfl | (simp [errW_none, errW_some] <;> rfl) | (simp [*, errW_none, errW_some] <;> rfl), by repeat (first | (with_reducible first | exact HB.out | apply below_alloc | apply pw_below_drewN | apply below_drew1 | refine below_set ?_ GE121.out) | exact HB.out)⟩

-- NOT PRINTED: function 11 (matrix_Matrix_Gone)

/-! ### unisonref04_At: function 23 -/
def unisonref04_At.f (l0 : List Int) (a1 : Int) : Option (Int) := if a1 ≥ 0 then (if a1 < (l0.length : Int) then (if 0 ≤ a1 then (some (rd l0 a1)) else (none)) else (some 0)) else (some 0)
set_option maxHeartbeats 8000000 in
set_option maxRecDepth 100000 in
theorem unisonref04_At.calls (A0 : Option Addr) (c0 : Nat) (l0 : List Int) (a1 : Int) (r : Int) (w : World) (hr0 : Kd.C (Kd.int .u64) w A0 l0.length l0) (hc0 : l0.length ≤ c0) (h : unisonref04_At.f l0 a1 = some r) :
    Calls Try.prog 23 #[.slice A0 l0.length c0, .int .i64 a1] w fun e w' => e = .returned (.int .u64 r) ∧ Drawn0 w w' := by
  have HR0 := Aside0.mk hr0
  have HC0 := Aside0.mk hc0
  clear hr0 hc0
  have H : (if a1 ≥ 0 then (if a1 < (l0.length : Int) then (if 0 ≤ a1 then (some (rd l0 a1)) else (none)) else (some 0)) else (some 0)) = some r := h
  clear h
  by_cases c3 : a1 ≥ 0
  · rw [if_pos c3] at H
    have c3b0 : decide (0 ≤ a1) = true := decide_eq_true c3
    clear c3
    by_cases c4 : a1 < (l0.length : Int)
    · rw [if_pos c4] at H
      have c4b0 : decide (a1 < (l0.length : Int)) = true := decide_eq_true c4
      clear c4
      by_cases c5 : 0 ≤ a1
      · rw [if_pos c5] at H
        have c5b0 : decide (0 ≤ a1) = true := decide_eq_true c5
        clear c5
        obtain rfl := Option.some.inj H
        have p123 : 0 ≤ (a1 : Int) := of_decide_eq_true (by first | (with_reducible assumption) | assumption)
        have q123 : a1 < (l0.length : Int) := of_decide_eq_true (by first | (with_reducible assumption) | assumption)
        obtain ⟨ad123, e123, hx123_0⟩ := Kd.at_int HR0.out a1 p123 q123
        cases e123
        replace p123 := eq_true p123
        replace q123 := eq_true q123
        go_enter Try.func23, Try.ntmps23
        go_wp2
        go_ret
        exact ⟨by first | rfl | (simp; done) | (simp [*]; done), by repeat (first | exact Drawn0.refl _ | apply Drawn0.step)⟩
      · rw [if_neg c5] at H
        exact absurd H (by simp)
    · rw [if_neg c4] at H
      have c4b0 : decide (a1 < (l0.length : Int)) = false := decide_eq_false c4
      clear c4
      obtain rfl := Option.some.inj H
      go_enter Try.func23, Try.ntmps23
      go_wp2
      go_ret
      exact ⟨by first | rfl | (simp; done) | (simp [*]; done), by repeat (first | exact Drawn0.refl _ | apply Drawn0.step)⟩
  · rw [if_neg c3] at H
    have c3b0 : decide (0 ≤ a1) = false := decide_eq_false c3
    clear c3
    obtain rfl := Option.some.inj H
    go_enter Try.func23, Try.ntmps23
    go_wp2
    go_ret
    exact ⟨by first | rfl | (simp; done) | (simp [*]; done), by repeat (first | exact Drawn0.refl _ | apply Drawn0.step)⟩

end Go.Proofs.Ytahdbiddpphepaa.F
