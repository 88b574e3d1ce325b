/- What is proved: the Go functions that the law reaches come to what the Lean functions beside them tell, and (in the text of the law) the given statement follows. Conditions: none beyond each theorem's own. Written by a program (a turned copy of the kit's print.py), some walks by hand. -/
import Derived.Test.YtncofecfljocgaaF0
namespace Go.Proofs.Ytncofecfljocgaa.F
open Go.RowKit Go.Proofs.YtncofecfljocgaaW.PrintWords Go.Proofs.YtncofecfljocgaaW.PrintLast Go.Proofs.YtncofecfljocgaaW.PrintMore
attribute [local go_sem] max2_int min2_int max_two min_two max_three min_three max_four min_four   -- for this text's walks alone
set_option linter.unusedVariables false
set_option linter.unusedSimpArgs false

-- NOT PRINTED: function 8 (matrix_New)

-- NOT PRINTED: function 23 (matrix_Matrix_of)

/-! ### vec_At: function 40 -/
/-- vec.At: the number of a process (0 beyond). By hand. -/
def vec_At.f (l0 : List Int) (a1 : Int) : Option Int := some (if a1 < 0 then 0 else rd l0 a1)
theorem vec_At.calls (A0 : Option Addr) (c0 : Nat) (l0 : List Int) (a1 : Int) (r : Int) (w : World) (hr0 : Kd.C (Kd.int .u64) w A0 l0.length l0) (hc0 : l0.length ≤ c0) (h : vec_At.f l0 a1 = some r) :
    Calls Try.prog 40 #[.slice A0 l0.length c0, .int .i64 a1] w fun e w' => e = .returned (.int .u64 r) ∧ Drawn0 w w' := by
  obtain rfl := Option.some.inj h
  have HR := Aside0.mk hr0
  clear h hr0 hc0
  by_cases h1 : a1 < 0
  · have h1' : decide (a1 < 0) = true := decide_eq_true h1
    rw [if_pos h1]
    clear h1
    go_enter Try.func40, Try.ntmps40
    go_wp2
    go_ret
    exact ⟨rfl, Drawn0.refl _⟩
  · have h1' : decide (a1 < 0) = false := decide_eq_false h1
    rw [if_neg h1]
    by_cases h2 : (l0.length : Int) ≤ a1
    · have h2' : decide ((l0.length : Int) ≤ a1) = true := decide_eq_true h2
      rw [rd_over h2]
      clear h1 h2
      go_enter Try.func40, Try.ntmps40
      go_wp2
      go_ret
      exact ⟨rfl, Drawn0.refl _⟩
    · have h2' : decide ((l0.length : Int) ≤ a1) = false := decide_eq_false h2
      obtain ⟨ad, ead, hx⟩ := Kd.at_int HR.out a1 (by omega) (by omega)
      cases ead
      have p_ : (0 ≤ a1) = True := eq_true (by omega)
      have q_ : (a1 < (l0.length : Int)) = True := eq_true (by omega)
      clear h1 h2
      go_enter Try.func40, Try.ntmps40
      go_wp2
      go_ret
      exact ⟨rfl, Drawn0.refl _⟩
theorem At_eq (l : List Int) (i : Int) (h : 0 ≤ i) : vec_At.f l i = some (rd l i) := by
  unfold vec_At.f
  rw [if_neg (by omega)]

/-! ### vec_longest: function 53 -/
/-- vec.longest: the greatest length. By hand. -/
def longest : List (List Int) → Nat
  | [] => 0
  | a :: l => max a.length (longest l)
theorem longest_mem : ∀ {l : List (List Int)} {a : List Int}, a ∈ l → a.length ≤ longest l
  | b :: l, a, h => by
    rcases List.mem_cons.1 h with rfl | h
    · exact Nat.le_max_left _ _
    · exact Nat.le_trans (longest_mem h) (Nat.le_max_right _ _)
theorem longest_append : ∀ (l m : List (List Int)), longest (l ++ m) = max (longest l) (longest m)
  | [], m => by simp [longest]
  | a :: l, m => by simp [longest, longest_append l m, Nat.max_assoc]
def okV (l : List (List Int)) : Prop := l.length ≤ 1000 ∧ longest l ≤ 1000
instance (l : List (List Int)) : Decidable (okV l) := inferInstanceAs (Decidable (_ ∧ _))
def vec_longest.f (l0 : List (List Int)) : Option Int := if okV l0 then some (longest l0 : Int) else none
theorem longest_eq (l : List (List Int)) (h : okV l) : vec_longest.f l = some (longest l : Int) := if_pos h
theorem vec_longest.calls (A0 : Option Addr) (c0 : Nat) (l0 : List (List Int)) (r : Int) (w : World) (hr0 : Kd.C (Kd.slice 27 (Kd.int .u64)) w A0 l0.length l0) (hc0 : l0.length ≤ c0) (h : vec_longest.f l0 = some r) :
    Calls Try.prog 53 #[.slice A0 l0.length c0] w fun e w' => e = .returned (.int .i64 r) ∧ Drawn0 w w' := by
  unfold vec_longest.f at h
  by_cases hok : okV l0
  · rw [if_pos hok] at h
    obtain rfl := Option.some.inj h
    obtain ⟨h1, h2⟩ := hok
    have HR := Aside0.mk hr0
    clear h hr0 hc0
    go_enter Try.func53, Try.ntmps53
    go_wp2_with fail
    go_loopg [3, 8] l0.length (fun kq v3 v8 w' => ∃ j : Nat, v8 = .int .i64 j ∧ j ≤ l0.length ∧ l0.length ≤ kq + j ∧ v3 = .int .i64 (longest (l0.take j) : Int) ∧ Aside0 (Drawn0 w w'))
    case atStart => exact ⟨0, rfl, by omega, by omega, rfl, ⟨Drawn0.refl _⟩⟩
    case round =>
      obtain ⟨j, rfl, hj, hkj, rfl, HD⟩ := hrel
      by_cases hlt : j < l0.length
      · have hlt' : decide ((j : Int) < l0.length) = true := decide_eq_true (by omega)
        obtain ⟨ad, Ab, cb, ead, hx, _, _⟩ := at_row HR.out j hlt
        cases ead
        have X0 : wr.cell? (ad.add j) = some (.slice Ab (l0.getD j []).length cb) := (HD.out.below.cell (World.block_lt_of_cell? w _ hx)).trans hx
        have hT : Aside0 (longest (l0.take (j + 1)) = max (longest (l0.take j)) (l0.getD j []).length) := ⟨by
          have e : l0.take (j + 1) = l0.take j ++ [l0.getD j []] := by rw [List.take_add_one, List.getElem?_eq_getElem hlt]; simp [List.getD, hlt]
          rw [e, longest_append]
          congr 1
          exact Nat.max_zero _⟩
        clear hx
        generalize l0.getD j [] = b at *
        generalize longest (l0.take j) = m at *
        have pm : (0 ≤ (j : Int)) = True := eq_true (by omega)
        have qm : ((j : Int) < (l0.length : Int)) = True := eq_true (by omega)
        by_cases hmb : m < b.length
        · have hmb' : ((m : Int) < (b.length : Int)) = True := eq_true (by omega)
          have e1 : Aside0 (max m b.length = b.length) := ⟨by omega⟩
          clear hmb
          go_wp2
          go_roundg (gk - 1)
          case measure => omega
          case rel => exact ⟨j + 1, (by simp), by omega, by omega, by rw [hT.out, e1.out], HD⟩
        · have hmb' : ((m : Int) < (b.length : Int)) = False := eq_false (by omega)
          have e1 : Aside0 (max m b.length = m) := ⟨by omega⟩
          clear hmb
          go_wp2
          go_roundg (gk - 1)
          case measure => omega
          case rel => exact ⟨j + 1, (by simp), by omega, by omega, by rw [hT.out, e1.out], HD⟩
      · have hlt' : decide ((j : Int) < l0.length) = false := decide_eq_false (by omega)
        obtain rfl : j = l0.length := by omega
        rw [List.take_length]
        go_wp2_with fail
        go_ret
        exact ⟨rfl, HD.out⟩
  · rw [if_neg hok] at h
    cases h

/-! ### vec_fold: function 49 -/
/-- What comes of the numbers of one process. -/
def foldv (op : Int → Int → Int) (l : List (List Int)) (i : Int) : Int := (l.drop 1).foldl (fun n a => op n (rd a i)) (rd (l.headD []) i)
def foldAll (op : Int → Int → Int) (l : List (List Int)) : List Int := (List.range (longest l)).map fun (i : Nat) => foldv op l (i : Int)
theorem w64v {x : Int} (h0 : -9223372036854775808 ≤ x) (h1 : x ≤ 9223372036854775807) : wrap64 x = x := by unfold wrap64; omega

/-! ### vec_Max: function 39 -/
set_option maxHeartbeats 1000000 in
theorem vec_fold.calls_Max (op : Int → Int → Int) (hop : ∀ (a b : Int) (w : World), Calls Try.prog 50 #[.int .u64 a, .int .u64 b] w fun e w' => e = .returned (.int .u64 (op a b)) ∧ w' = w)
    (A0 : Option Addr) (c0 : Nat) (l0 : List (List Int)) (w : World) (hr0 : Kd.C (Kd.slice 27 (Kd.int .u64)) w A0 l0.length l0) (hc0 : l0.length ≤ c0) (hok : okV l0) :
    Calls Try.prog 49 #[.func (.func 50) #[] #[], .slice A0 l0.length c0] w fun e w' => ∃ v0_ : Value, e = .returned v0_ ∧ Kd.R (Kd.int .u64) 27 w' w.heap.size (fun _ => True) v0_ (foldAll op l0) ∧ Below w.heap.size w w' := by
  have HR := Aside0.mk hr0
  have HC := Aside0.mk hc0
  have OP := Aside0.mk hop
  have HL := Aside0.mk (longest_eq l0 hok)
  obtain ⟨h1, h2⟩ := hok
  clear hr0 hc0 hop
  go_enter Try.func49, Try.ntmps49
  go_wp2_with fail
  refine (vec_longest.calls A0 c0 l0 _ w HR.out HC.out HL.out).mono ?_
  rintro e w1 ⟨rfl, hb⟩
  have B1 := Aside0.mk hb.below
  clear hb
  go_wp2_with fail
  go_loopg [5, 12] (longest l0) (fun kq v5 v12 w' => ∃ j : Nat, v12 = .int .i64 j ∧ j ≤ longest l0 ∧ longest l0 ≤ kq + j ∧ Aside0 (Kd.R (Kd.int .u64) 27 w' w.heap.size (fun _ => True) v5 ((List.range j).map fun (i : Nat) => foldv op l0 (i : Int))) ∧ Aside0 (Below w.heap.size w w'))
  case atStart => exact ⟨0, rfl, by omega, by omega, ⟨Kd.R_nil _ _ _ _ _⟩, B1⟩
  case round =>
    clear B1
    obtain ⟨j, rfl, hj, hkj, RO, HB⟩ := hrel
    obtain ⟨Ao, co, rfl⟩ := Kd.R_slice RO.out
    have hlen : ((List.range j).map fun (i : Nat) => foldv op l0 (i : Int)).length = j := by simp
    rw [hlen] at RO ⊢
    clear hlen
    by_cases hlt : j < longest l0
    · have hlt' : decide ((j : Int) < longest l0) = true := decide_eq_true (by omega)
      have hne : 0 < l0.length := by
        cases l0 with
        | nil => simp [longest] at hlt
        | cons a l => simp
      obtain ⟨ad, Ah, ch, ead, hx, hhc, hhr⟩ := at_row HR.out 0 hne
      cases ead
      have HA0 : Aside0 (l0.headD [] = l0.getD 0 []) := ⟨by cases l0 <;> rfl⟩
      have XH := Aside0.mk hx
      have HHR := Aside0.mk hhr
      have HHC := Aside0.mk hhc
      clear hx hhr hhc
      have x0 : wr.cell? ad = some (.slice Ah (l0.getD 0 []).length ch) := by
        have := (HB.out.cell (World.block_lt_of_cell? w _ XH.out)).trans XH.out
        simpa [Addr.add] using this
      generalize l0.getD 0 [] = a at *
      obtain ⟨A', hcut, hC', hc'⟩ := kcut_from (P := Try.prog) (Kd.slice 27 (Kd.int .u64)) 94 28 .i64 Try.underlying94 (by kernel_rfl) (some ad) c0 l0 1 hne HC.out
      have HT := Aside0.mk (hC' w HR.out)
      have HTC := Aside0.mk hc'
      clear hC' hc'
      have e1 : ((1 : Nat) : Int) = 1 := rfl
      rw [e1] at hcut
      clear e1
      have HD1 : Aside0 (l0.drop 1 = l0.drop 1) := ⟨rfl⟩
      generalize hT : l0.drop 1 = T at hcut HT HTC HD1
      clear HD1
      have HTT := Aside0.mk hT
      have hTl : T.length ≤ 1000 := by rw [← hT, List.length_drop]; omega
      clear hT
      have p_ : ((0 : Int) < (l0.length : Int)) = True := eq_true (by omega)
      go_wp2_with fail
      refine (vec_At.calls Ah ch a (j : Int) _ wr (Kd.C_below HHR.out HB.out) HHC.out (At_eq a j (by omega))).mono ?_
      rintro e w1 ⟨rfl, hd⟩
      have D1 := Aside0.mk (hd.below)
      clear hd
      go_wp2_with fail
      obtain ⟨wo, rfl⟩ : ∃ x, x = wr := ⟨_, rfl⟩
      obtain ⟨go, rfl⟩ : ∃ x, x = gk := ⟨_, rfl⟩
      go_loopg [7, 23] T.length (fun kq v7 v23 w' => ∃ m : Nat, v23 = .int .i64 m ∧ m ≤ T.length ∧ T.length ≤ kq + m ∧ v7 = .int .u64 ((T.take m).foldl (fun n x => op n (rd x j)) (rd a j)) ∧ Aside0 (Below wo.heap.size wo w'))
      case atStart => exact ⟨0, rfl, by omega, by omega, rfl, D1⟩
      case round =>
        clear D1
        obtain ⟨m, rfl, hm, hkm, rfl, HB2⟩ := hrel
        by_cases hlm : m < T.length
        · have hlm' : decide ((m : Int) < T.length) = true := decide_eq_true (by omega)
          obtain ⟨ad2, Ab, cb, ead, hy, hyc, hyr⟩ := at_row HT.out m hlm
          cases ead
          have Y0 : wr.cell? (ad2.add m) = some (.slice Ab (T.getD m []).length cb) := (HB2.out.cell (by have := World.block_lt_of_cell? w _ hy; have := HB.out.size; omega)).trans ((HB.out.cell (World.block_lt_of_cell? w _ hy)).trans hy)
          have YR := Aside0.mk (Kd.C_below (Kd.C_below hyr HB.out) HB2.out)
          have YC := Aside0.mk hyc
          have hTm : Aside0 (T.take (m + 1) = T.take m ++ [T.getD m []]) := ⟨by rw [List.take_add_one, List.getElem?_eq_getElem hlm]; simp [List.getD, hlm]⟩
          clear hy hyr hyc
          generalize T.getD m [] = b at *
          have pm : (0 ≤ (m : Int)) = True := eq_true (by omega)
          have qm : ((m : Int) < (T.length : Int)) = True := eq_true (by omega)
          go_wp2_with fail
          refine (vec_At.calls Ab cb b (j : Int) _ _ YR.out YC.out (At_eq b j (by omega))).mono ?_
          rintro e w2 ⟨rfl, hd⟩
          have D2 := Aside0.mk (below_step HB2.out hd.below)
          clear hd
          go_wp2_with fail
          refine (OP.out _ _ _).mono ?_
          rintro e w3 ⟨rfl, rfl⟩
          go_wp2_with fail
          go_roundg (gk - 1)
          case measure => omega
          case rel => exact ⟨m + 1, (by simp), by omega, by omega, by rw [hTm.out, List.foldl_append]; rfl, D2⟩
        · have hlm' : decide ((m : Int) < T.length) = false := decide_eq_false (by omega)
          obtain rfl : m = T.length := by omega
          rw [List.take_length]
          have hP : Aside0 (T.foldl (fun n x => op n (rd x j)) (rd a j) = foldv op l0 j) := ⟨by unfold foldv; rw [HTT.out, HA0.out]⟩
          generalize T.foldl (fun n x => op n (rd x j)) (rd a j) = p at *
          have RO2 := Aside0.mk (Kd.R_below RO.out HB2.out)
          have BB := Aside0.mk (below_step HB.out HB2.out)
          clear RO HB
          go_wp2_with ((with_reducible refine gate_builtin (b := .append) (xs := #[.tmp 34, .tmp 36]) rfl ?_); at_builtin; refine Kd.R_append (Kd.int .u64) (w0 := w) w.heap.size rfl (.tmp 34) (.tmp 36) 28 27 (.int .u64 0) 8 rfl Try.underlying28 info27 rfl (by decide) (by omega) _ _ p [.int .u64 p] (fun _ => True) (fun _ => False) rfl rfl rfl (fun _ hk => hk.elim) (fun _ _ => trivial) RO2.out BB.out BB.out.size ?_ ?_; (rw [List.length_map, List.length_range]; omega); intro v1 w4 ho hb hg hat)
          have RO3 := Aside0.mk ho
          have B3 := Aside0.mk hb
          clear ho hb hg hat
          go_roundg (go - 1)
          case measure => omega
          case rel => exact ⟨j + 1, (by simp), by omega, by omega, ⟨by rw [List.range_succ, List.map_append]; have := RO3.out; rw [hP.out] at this; exact this⟩, B3⟩
    · have hlt' : decide ((j : Int) < longest l0) = false := decide_eq_false (by omega)
      obtain rfl : j = longest l0 := by omega
      go_wp2_with fail
      go_ret
      exact ⟨_, rfl, RO.out, HB.out⟩
theorem vec_Max.inner (a b : Int) (w : World) : Calls Try.prog 50 #[.int .u64 a, .int .u64 b] w fun e w' => e = .returned (.int .u64 (mx a b)) ∧ w' = w := by
  by_cases h : a < b
  · rw [show mx a b = b from if_pos h]
    have h' := eq_true h
    clear h
    go_enter Try.func50, Try.ntmps50
    go_wp2
    go_ret
    exact ⟨rfl, rfl⟩
  · rw [show mx a b = a from if_neg h]
    have h' := eq_false h
    clear h
    go_enter Try.func50, Try.ntmps50
    go_wp2
    go_ret
    exact ⟨rfl, rfl⟩
def vec_Max.f (l0 : List (List Int)) : Option (List Int) := if okV l0 then some (foldAll mx l0) else none
theorem vec_Max.calls (A0 : Option Addr) (c0 : Nat) (l0 : List (List Int)) (r : List Int) (w : World) (hr0 : Kd.C (Kd.slice 27 (Kd.int .u64)) w A0 l0.length l0) (hc0 : l0.length ≤ c0) (h : vec_Max.f l0 = some r) :
    Calls Try.prog 39 #[.slice A0 l0.length c0] w fun e w' => ∃ v0_ : Value, e = .returned v0_ ∧ Kd.R (Kd.int .u64) 27 w' w.heap.size (fun _ => True) v0_ r ∧ Below w.heap.size w w' := by
  unfold vec_Max.f at h
  by_cases hok : okV l0
  · rw [if_pos hok] at h
    obtain rfl := Option.some.inj h
    have HR := Aside0.mk hr0
    have HC := Aside0.mk hc0
    have HK := Aside0.mk hok
    clear h hr0 hc0 hok
    go_enter Try.func39, Try.ntmps39
    go_wp2_with fail
    refine (vec_fold.calls_Max mx vec_Max.inner A0 c0 l0 w HR.out HC.out HK.out).mono ?_
    rintro e w1 ⟨v, rfl, ho, hb⟩
    have HO := Aside0.mk ho
    have HB := Aside0.mk hb
    clear ho hb
    obtain ⟨Ao, co, rfl⟩ := Kd.R_slice HO.out
    go_wp2_with fail
    go_ret
    exact ⟨_, rfl, HO.out, HB.out⟩
  · rw [if_neg hok] at h
    cases h

end Go.Proofs.Ytncofecfljocgaa.F
