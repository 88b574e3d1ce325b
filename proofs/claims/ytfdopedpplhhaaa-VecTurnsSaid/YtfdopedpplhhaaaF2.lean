/- What is proved: the Go functions that the law reaches come to what the Lean functions beside them tell, and (in the text of the law) the given statement follows. Conditions: none beyond each theorem's own. Written by a program (a turned copy of the kit's print.py), some walks by hand. -/
import Derived.Test.YtfdopedpplhhaaaF0
import Derived.Test.YtfdopedpplhhaaaF1
namespace Go.Proofs.Ytfdopedpplhhaaa.F
open Go.RowKit Go.Proofs.YtfdopedpplhhaaaW.PrintWords Go.Proofs.YtfdopedpplhhaaaW.PrintLast Go.Proofs.YtfdopedpplhhaaaW.PrintMore
attribute [local go_sem] max2_int min2_int max_two min_two max_three min_three max_four min_four   -- for this text's walks alone
set_option linter.unusedVariables false
set_option linter.unusedSimpArgs false

/-! ### vec_Min: function 12 -/
set_option maxHeartbeats 1000000 in
theorem vec_fold.calls_Min (op : Int → Int → Int) (hop : ∀ (a b : Int) (w : World), Calls Try.prog 27 #[.int .u64 a, .int .u64 b] w fun e w' => e = .returned (.int .u64 (op a b)) ∧ w' = w)
    (A0 : Option Addr) (c0 : Nat) (l0 : List (List Int)) (w : World) (hr0 : Kd.C (Kd.slice 32 (Kd.int .u64)) w A0 l0.length l0) (hc0 : l0.length ≤ c0) (hok : okV l0) :
    Calls Try.prog 25 #[.func (.func 27) #[] #[], .slice A0 l0.length c0] w fun e w' => ∃ v0_ : Value, e = .returned v0_ ∧ Kd.R (Kd.int .u64) 32 w' w.heap.size (fun _ => True) v0_ (foldAll op l0) ∧ Below w.heap.size w w' := by
  have HR := Aside0.mk hr0
  have HC := Aside0.mk hc0
  have OP := Aside0.mk hop
  have HL := Aside0.mk (longest_eq l0 hok)
  obtain ⟨h1, h2⟩ := hok
  clear hr0 hc0 hop
  go_enter Try.func25, Try.ntmps25
  go_wp2_with fail
  refine (vec_longest.calls A0 c0 l0 _ w HR.out HC.out HL.out).mono ?_
  rintro e w1 ⟨rfl, hb⟩
  have B1 := Aside0.mk hb.below
  clear hb
  go_wp2_with fail
  go_loopg [5, 12] (longest l0) (fun kq v5 v12 w' => ∃ j : Nat, v12 = .int .i64 j ∧ j ≤ longest l0 ∧ longest l0 ≤ kq + j ∧ Aside0 (Kd.R (Kd.int .u64) 32 w' w.heap.size (fun _ => True) v5 ((List.range j).map fun (i : Nat) => foldv op l0 (i : Int))) ∧ Aside0 (Below w.heap.size w w'))
  case atStart => exact ⟨0, rfl, by omega, by omega, ⟨Kd.R_nil _ _ _ _ _⟩, B1⟩
  case round =>
    clear B1
    obtain ⟨j, rfl, hj, hkj, RO, HB⟩ := hrel
    obtain ⟨Ao, co, rfl⟩ := Kd.R_slice RO.out
    have hlen : ((List.range j).map fun (i : Nat) => foldv op l0 (i : Int)).length = j := by simp
    rw [hlen] at RO ⊢
    clear hlen
    by_cases hlt : j < longest l0
    · have hlt' : decide ((j : Int) < longest l0) = true := decide_eq_true (by omega)
      have hne : 0 < l0.length := by
        cases l0 with
        | nil => simp [longest] at hlt
        | cons a l => simp
      obtain ⟨ad, Ah, ch, ead, hx, hhc, hhr⟩ := at_row HR.out 0 hne
      cases ead
      have HA0 : Aside0 (l0.headD [] = l0.getD 0 []) := ⟨by cases l0 <;> rfl⟩
      have XH := Aside0.mk hx
      have HHR := Aside0.mk hhr
      have HHC := Aside0.mk hhc
      clear hx hhr hhc
      have x0 : wr.cell? ad = some (.slice Ah (l0.getD 0 []).length ch) := by
        have := (HB.out.cell (World.block_lt_of_cell? w _ XH.out)).trans XH.out
        simpa [Addr.add] using this
      generalize l0.getD 0 [] = a at *
      obtain ⟨A', hcut, hC', hc'⟩ := kcut_from (P := Try.prog) (Kd.slice 32 (Kd.int .u64)) 23 22 .i64 Try.underlying23 (by kernel_rfl) (some ad) c0 l0 1 hne HC.out
      have HT := Aside0.mk (hC' w HR.out)
      have HTC := Aside0.mk hc'
      clear hC' hc'
      have e1 : ((1 : Nat) : Int) = 1 := rfl
      rw [e1] at hcut
      clear e1
      have HD1 : Aside0 (l0.drop 1 = l0.drop 1) := ⟨rfl⟩
      generalize hT : l0.drop 1 = T at hcut HT HTC HD1
      clear HD1
      have HTT := Aside0.mk hT
      have hTl : T.length ≤ 1000 := by rw [← hT, List.length_drop]; omega
      clear hT
      have p_ : ((0 : Int) < (l0.length : Int)) = True := eq_true (by omega)
      go_wp2_with fail
      refine (vec_At.calls Ah ch a (j : Int) _ wr (Kd.C_below HHR.out HB.out) HHC.out (At_eq a j (by omega))).mono ?_
      rintro e w1 ⟨rfl, hd⟩
      have D1 := Aside0.mk (hd.below)
      clear hd
      go_wp2_with fail
      obtain ⟨wo, rfl⟩ : ∃ x, x = wr := ⟨_, rfl⟩
      obtain ⟨go, rfl⟩ : ∃ x, x = gk := ⟨_, rfl⟩
      go_loopg [7, 23] T.length (fun kq v7 v23 w' => ∃ m : Nat, v23 = .int .i64 m ∧ m ≤ T.length ∧ T.length ≤ kq + m ∧ v7 = .int .u64 ((T.take m).foldl (fun n x => op n (rd x j)) (rd a j)) ∧ Aside0 (Below wo.heap.size wo w'))
      case atStart => exact ⟨0, rfl, by omega, by omega, rfl, D1⟩
      case round =>
        clear D1
        obtain ⟨m, rfl, hm, hkm, rfl, HB2⟩ := hrel
        by_cases hlm : m < T.length
        · have hlm' : decide ((m : Int) < T.length) = true := decide_eq_true (by omega)
          obtain ⟨ad2, Ab, cb, ead, hy, hyc, hyr⟩ := at_row HT.out m hlm
          cases ead
          have Y0 : wr.cell? (ad2.add m) = some (.slice Ab (T.getD m []).length cb) := (HB2.out.cell (by have := World.block_lt_of_cell? w _ hy; have := HB.out.size; omega)).trans ((HB.out.cell (World.block_lt_of_cell? w _ hy)).trans hy)
          have YR := Aside0.mk (Kd.C_below (Kd.C_below hyr HB.out) HB2.out)
          have YC := Aside0.mk hyc
          have hTm : Aside0 (T.take (m + 1) = T.take m ++ [T.getD m []]) := ⟨by rw [List.take_add_one, List.getElem?_eq_getElem hlm]; simp [List.getD, hlm]⟩
          clear hy hyr hyc
          generalize T.getD m [] = b at *
          have pm : (0 ≤ (m : Int)) = True := eq_true (by omega)
          have qm : ((m : Int) < (T.length : Int)) = True := eq_true (by omega)
          go_wp2_with fail
          refine (vec_At.calls Ab cb b (j : Int) _ _ YR.out YC.out (At_eq b j (by omega))).mono ?_
          rintro e w2 ⟨rfl, hd⟩
          have D2 := Aside0.mk (below_step HB2.out hd.below)
          clear hd
          go_wp2_with fail
          refine (OP.out _ _ _).mono ?_
          rintro e w3 ⟨rfl, rfl⟩
          go_wp2_with fail
          go_roundg (gk - 1)
          case measure => omega
          case rel => exact ⟨m + 1, (by simp), by omega, by omega, by rw [hTm.out, List.foldl_append]; rfl, D2⟩
        · have hlm' : decide ((m : Int) < T.length) = false := decide_eq_false (by omega)
          obtain rfl : m = T.length := by omega
          rw [List.take_length]
          have hP : Aside0 (T.foldl (fun n x => op n (rd x j)) (rd a j) = foldv op l0 j) := ⟨by unfold foldv; rw [HTT.out, HA0.out]⟩
          generalize T.foldl (fun n x => op n (rd x j)) (rd a j) = p at *
          have RO2 := Aside0.mk (Kd.R_below RO.out HB2.out)
          have BB := Aside0.mk (below_step HB.out HB2.out)
          clear RO HB
          go_wp2_with ((with_reducible refine gate_builtin (b := .append) (xs := #[.tmp 34, .tmp 36]) rfl ?_); at_builtin; refine Kd.R_append (Kd.int .u64) (w0 := w) w.heap.size rfl (.tmp 34) (.tmp 36) 22 32 (.int .u64 0) 8 rfl Try.underlying22 info32 rfl (by decide) (by omega) _ _ p [.int .u64 p] (fun _ => True) (fun _ => False) rfl rfl rfl (fun _ hk => hk.elim) (fun _ _ => trivial) RO2.out BB.out BB.out.size ?_ ?_; (rw [List.length_map, List.length_range]; omega); intro v1 w4 ho hb hg hat)
          have RO3 := Aside0.mk ho
          have B3 := Aside0.mk hb
          clear ho hb hg hat
          go_roundg (go - 1)
          case measure => omega
          case rel => exact ⟨j + 1, (by simp), by omega, by omega, ⟨by rw [List.range_succ, List.map_append]; have := RO3.out; rw [hP.out] at this; exact this⟩, B3⟩
    · have hlt' : decide ((j : Int) < longest l0) = false := decide_eq_false (by omega)
      obtain rfl : j = longest l0 := by omega
      go_wp2_with fail
      go_ret
      exact ⟨_, rfl, RO.out, HB.out⟩
theorem vec_Min.inner (a b : Int) (w : World) : Calls Try.prog 27 #[.int .u64 a, .int .u64 b] w fun e w' => e = .returned (.int .u64 (mn a b)) ∧ w' = w := by
  by_cases h : b < a
  · rw [show mn a b = b from if_pos h]
    have h' := eq_true h
    clear h
    go_enter Try.func27, Try.ntmps27
    go_wp2
    go_ret
    exact ⟨rfl, rfl⟩
  · rw [show mn a b = a from if_neg h]
    have h' := eq_false h
    clear h
    go_enter Try.func27, Try.ntmps27
    go_wp2
    go_ret
    exact ⟨rfl, rfl⟩
def vec_Min.f (l0 : List (List Int)) : Option (List Int) := if okV l0 then some (foldAll mn l0) else none
theorem vec_Min.calls (A0 : Option Addr) (c0 : Nat) (l0 : List (List Int)) (r : List Int) (w : World) (hr0 : Kd.C (Kd.slice 32 (Kd.int .u64)) w A0 l0.length l0) (hc0 : l0.length ≤ c0) (h : vec_Min.f l0 = some r) :
    Calls Try.prog 12 #[.slice A0 l0.length c0] w fun e w' => ∃ v0_ : Value, e = .returned v0_ ∧ Kd.R (Kd.int .u64) 32 w' w.heap.size (fun _ => True) v0_ r ∧ Below w.heap.size w w' := by
  unfold vec_Min.f at h
  by_cases hok : okV l0
  · rw [if_pos hok] at h
    obtain rfl := Option.some.inj h
    have HR := Aside0.mk hr0
    have HC := Aside0.mk hc0
    have HK := Aside0.mk hok
    clear h hr0 hc0 hok
    go_enter Try.func12, Try.ntmps12
    go_wp2_with fail
    refine (vec_fold.calls_Min mn vec_Min.inner A0 c0 l0 w HR.out HC.out HK.out).mono ?_
    rintro e w1 ⟨v, rfl, ho, hb⟩
    have HO := Aside0.mk ho
    have HB := Aside0.mk hb
    clear ho hb
    obtain ⟨Ao, co, rfl⟩ := Kd.R_slice HO.out
    go_wp2_with fail
    go_ret
    exact ⟨_, rfl, HO.out, HB.out⟩
  · rw [if_neg hok] at h
    cases h

/-! ### vec_each: function 28 -/
/-- Does it hold of the numbers of each process? -/
def each1 (hold : Int → Int → Bool) (a b : List Int) (n : Nat) : Bool := (List.range n).all fun i => hold (rd a (i : Int)) (rd b (i : Int))
def eachAll (hold : Int → Int → Bool) (a : List Int) (l : List (List Int)) : Bool := l.all fun b => each1 hold a b (longest [a, b])
theorem eachAll_append (hold : Int → Int → Bool) (a : List Int) (l m : List (List Int)) : eachAll hold a (l ++ m) = (eachAll hold a l && eachAll hold a m) := by simp [eachAll]

/-! ### vec_Covers: function 13 -/
set_option maxHeartbeats 1000000 in
theorem vec_each.calls_Covers (hold : Int → Int → Bool) (hop : ∀ (a b : Int) (w : World), Calls Try.prog 29 #[.int .u64 a, .int .u64 b] w fun e w' => e = .returned (.bool (hold a b)) ∧ w' = w)
    (Aa : Option Addr) (ca : Nat) (a : List Int) (A0 : Option Addr) (c0 : Nat) (l0 : List (List Int)) (w : World) (hra : Kd.C (Kd.int .u64) w Aa a.length a) (hca : a.length ≤ ca) (hr0 : Kd.C (Kd.slice 32 (Kd.int .u64)) w A0 l0.length l0) (hc0 : l0.length ≤ c0) (hoka : a.length ≤ 1000) (hok : okV l0) :
    Calls Try.prog 28 #[.func (.func 29) #[] #[], .slice Aa a.length ca, .slice A0 l0.length c0] w fun e w' => e = .returned (.bool (eachAll hold a l0)) ∧ Below w.heap.size w w' := by
  have HR := Aside0.mk hr0
  have HC := Aside0.mk hc0
  have HA := Aside0.mk hra
  have HCA := Aside0.mk hca
  have OP := Aside0.mk hop
  obtain ⟨h1, h2⟩ := hok
  have HM := Aside0.mk (fun x (hx : x ∈ l0) => longest_mem hx)
  clear hr0 hc0 hop hra hca
  go_enter Try.func28, Try.ntmps28
  go_wp2_with fail
  go_loopg [12] l0.length (fun kq v12 w' => ∃ j : Nat, v12 = .int .i64 j ∧ j ≤ l0.length ∧ l0.length ≤ kq + j ∧ Aside0 (eachAll hold a (l0.take j) = true) ∧ Aside0 (Below w.heap.size w w'))
  case atStart => exact ⟨0, rfl, by omega, by omega, ⟨rfl⟩, ⟨Below.refl _ _⟩⟩
  case round =>
    obtain ⟨j, rfl, hj, hkj, HE, HB⟩ := hrel
    by_cases hlt : j < l0.length
    · have hlt' : decide ((j : Int) < l0.length) = true := decide_eq_true (by omega)
      obtain ⟨ad, Ab, cb, ead, hx, hbc, hbr⟩ := at_row HR.out j hlt
      cases ead
      have X0 : wr.cell? (ad.add j) = some (.slice Ab (l0.getD j []).length cb) := (HB.out.cell (World.block_lt_of_cell? w _ hx)).trans hx
      have hT : Aside0 (l0.take (j + 1) = l0.take j ++ [l0.getD j []]) := ⟨by rw [List.take_add_one, List.getElem?_eq_getElem hlt]; simp [List.getD, hlt]⟩
      have hmem : l0.getD j [] ∈ l0 := by simp [List.getD, hlt]
      have HBR := Aside0.mk hbr
      have HBC := Aside0.mk hbc
      have hbl : (l0.getD j []).length ≤ 1000 := Nat.le_trans (HM.out _ hmem) h2
      have hD : Aside0 (eachAll hold a l0 = eachAll hold a (l0.take j ++ [l0.getD j []] ++ l0.drop (j + 1))) := ⟨by rw [← hT.out, List.take_append_drop]⟩
      clear hx hbc hbr
      generalize l0.getD j [] = b at *
      have pm : (0 ≤ (j : Int)) = True := eq_true (by omega)
      have qm : ((j : Int) < (l0.length : Int)) = True := eq_true (by omega)
      have HL := Aside0.mk (longest_eq [a, b] ⟨by simp, by simp [longest]; omega⟩)
      have hlg : longest [a, b] ≤ 1000 := by simp [longest]; omega
      generalize hn : longest [a, b] = n at *
      have HN := Aside0.mk hn
      clear hn
      go_wp2_with fail
      refine (vec_longest.calls (some ⟨wr.heap.size, 0, none⟩) 2 [a, b] _ _ (C_heads [(Aa, ca, a), (Ab, cb, b)] (t := 22) (blk_new wr _) (by simp) ?hh) (by simp) HL.out).mono ?_
      case hh =>
        intro r hr
        simp only [List.mem_cons, List.not_mem_nil, or_false] at hr
        rcases hr with rfl | rfl
        · exact ⟨HCA.out, Kd.C_alloc (Kd.C_below HA.out HB.out) _⟩
        · exact ⟨HBC.out, Kd.C_alloc (Kd.C_below HBR.out HB.out) _⟩
      rintro e w1 ⟨rfl, hb⟩
      have B1 := Aside0.mk (below_step HB.out (below_step (below_alloc (Below.refl _ _) _) hb.below))
      clear hb
      obtain ⟨wo, rfl⟩ : ∃ x, x = wr := ⟨_, rfl⟩
      obtain ⟨go, rfl⟩ : ∃ x, x = gk := ⟨_, rfl⟩
      go_wp2_with fail
      go_loopg [20] n (fun kq v20 w' => ∃ m : Nat, v20 = .int .i64 m ∧ m ≤ n ∧ n ≤ kq + m ∧ Aside0 (each1 hold a b m = true) ∧ Aside0 (Below w.heap.size w w'))
      case atStart => exact ⟨0, rfl, by omega, by omega, ⟨rfl⟩, B1⟩
      case round =>
        clear B1
        obtain ⟨m, rfl, hm, hkm, H1, HB2⟩ := hrel
        by_cases hlm : m < n
        · have hlm' : decide ((m : Int) < n) = true := decide_eq_true (by omega)
          go_wp2_with fail
          refine (vec_At.calls Aa ca a (m : Int) _ _ (Kd.C_below HA.out HB2.out) HCA.out (At_eq a m (by omega))).mono ?_
          rintro e w2 ⟨rfl, hd⟩
          have D2 := Aside0.mk (below_step HB2.out hd.below)
          clear hd
          go_wp2_with fail
          refine (vec_At.calls Ab cb b (m : Int) _ _ (Kd.C_below HBR.out D2.out) HBC.out (At_eq b m (by omega))).mono ?_
          rintro e w3 ⟨rfl, hd⟩
          have D3 := Aside0.mk (below_step D2.out hd.below)
          clear hd
          go_wp2_with fail
          refine (OP.out _ _ _).mono ?_
          rintro e w4 ⟨rfl, rfl⟩
          have hS : Aside0 (each1 hold a b (m + 1) = (each1 hold a b m && hold (rd a m) (rd b m))) := ⟨by simp [each1, List.range_succ]⟩
          have hF : Aside0 (hold (rd a m) (rd b m) = false → each1 hold a b n = false) := ⟨fun h => by
            simp only [each1, List.all_eq_false, List.mem_range]
            exact ⟨m, hlm, by simp [h]⟩⟩
          generalize hold (rd a m) (rd b m) = q at *
          cases q
          · go_wp2_with fail
            go_ret
            rw [hD.out, eachAll_append, eachAll_append]
            have : eachAll hold a [b] = false := by simp only [eachAll, List.all_cons, List.all_nil, Bool.and_true]; rw [HN.out]; exact hF.out (by trivial)
            rw [this]
            exact ⟨by simp, D3.out⟩
          · go_wp2_with fail
            go_roundg (gk - 1)
            case measure => omega
            case rel => exact ⟨m + 1, (by simp), by omega, by omega, ⟨by rw [hS.out, H1.out]; rfl⟩, D3⟩
        · have hlm' : decide ((m : Int) < n) = false := decide_eq_false (by omega)
          obtain rfl : m = n := by omega
          go_wp2_with fail
          go_roundg (go - 1)
          case measure => omega
          case rel => exact ⟨j + 1, (by simp), by omega, by omega, ⟨by rw [hT.out, eachAll_append, HE.out]; simp only [eachAll, List.all_cons, List.all_nil, Bool.and_true, Bool.true_and]; rw [HN.out]; exact H1.out⟩, HB2⟩
    · have hlt' : decide ((j : Int) < l0.length) = false := decide_eq_false (by omega)
      obtain rfl : j = l0.length := by omega
      rw [List.take_length] at HE
      go_wp2_with fail
      go_ret
      rw [HE.out]
      exact ⟨rfl, HB.out⟩
def covH (a b : Int) : Bool := decide (b ≤ a)
theorem vec_Covers.inner (a b : Int) (w : World) : Calls Try.prog 29 #[.int .u64 a, .int .u64 b] w fun e w' => e = .returned (.bool (covH a b)) ∧ w' = w := by
  go_enter Try.func29, Try.ntmps29
  go_wp2
  go_ret
  exact ⟨rfl, rfl⟩
def vec_Covers.f (l0 : List Int) (l1 : List (List Int)) : Option Bool := if l0.length ≤ 1000 ∧ okV l1 then some (eachAll covH l0 l1) else none
theorem vec_Covers.calls (A0 : Option Addr) (c0 : Nat) (l0 : List Int) (A1 : Option Addr) (c1 : Nat) (l1 : List (List Int)) (r : Bool) (w : World) (hr0 : Kd.C (Kd.int .u64) w A0 l0.length l0) (hc0 : l0.length ≤ c0) (hr1 : Kd.C (Kd.slice 32 (Kd.int .u64)) w A1 l1.length l1) (hc1 : l1.length ≤ c1) (h : vec_Covers.f l0 l1 = some r) :
    Calls Try.prog 13 #[.slice A0 l0.length c0, .slice A1 l1.length c1] w fun e w' => e = .returned (.bool r) ∧ Below w.heap.size w w' := by
  unfold vec_Covers.f at h
  by_cases hok : l0.length ≤ 1000 ∧ okV l1
  · rw [if_pos hok] at h
    obtain rfl := Option.some.inj h
    have HR := Aside0.mk hr0
    have HC := Aside0.mk hc0
    have HR1 := Aside0.mk hr1
    have HC1 := Aside0.mk hc1
    have HK := Aside0.mk hok
    clear h hr0 hc0 hr1 hc1 hok
    go_enter Try.func13, Try.ntmps13
    go_wp2_with fail
    refine (vec_each.calls_Covers covH vec_Covers.inner A0 c0 l0 A1 c1 l1 w HR.out HC.out HR1.out HC1.out HK.out.1 HK.out.2).mono ?_
    rintro e w1 ⟨rfl, hb⟩
    have HB := Aside0.mk hb
    clear hb
    go_wp2_with fail
    go_ret
    exact ⟨rfl, HB.out⟩
  · rw [if_neg hok] at h
    cases h

end Go.Proofs.Ytfdopedpplhhaaa.F
