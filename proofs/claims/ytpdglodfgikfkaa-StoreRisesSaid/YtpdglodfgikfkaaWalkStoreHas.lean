/- All of some ids are there just if each one is. Conditions: none beyond the statement's own. -/
import Derived.Test.YtpdglodfgikfkaaWalkAwake
import Derived.Test.YtpdglodfgikfkaaF2
import Derived.Test.YtpdglodfgikfkaaF7
import Derived.Test.YtpdglodfgikfkaaArgs
import Derived.Deep.QuietTactic
import Derived.BigQuiet
import Derived.Lib.QuietBelow
import Derived.Outline
import Derived.Deep.RegionHeld3
import Derived.Deep.CutRange
namespace Go.Proofs.Ytpdglodfgikfkaa.Walk
open Go.RowKit Go.Proofs.Ytpdglodfgikfkaa.F Go.Proofs.YtpdglodfgikfkaaW.PrintWords Go.Proofs.YtpdglodfgikfkaaW.PrintLast Go.Proofs.YtpdglodfgikfkaaW.PrintMore Go.Proofs.Ytpdglodfgikfkaa.Open
open Go.Sort (grow)
attribute [local go_sem] max2_int min2_int max_two min_two max_three min_three max_four min_four
set_option linter.unusedVariables false
set_option linter.unusedSimpArgs false

/-! ### What stands in a store into which single bytes were put -/
theorem fits_one {n : Nat} {room : Int} {E : Es} {F : List Int} {x : Ix} {p : List Int} (hF : ∀ y ∈ F, y = 0) (hu : (usedE E : Int) + p.length ≤ room) : fits n room E F x p = (mayD n x && !hasE E x) := by
  have h0 : F.getD x.1.toNat 0 = 0 := by
    rw [List.getD_eq_getElem?_getD]
    cases hg : F[x.1.toNat]? with
    | none => rfl
    | some y => exact hF y (List.mem_of_getElem? hg)
  unfold fits
  rw [h0, show decide ((p.length : Int) ≤ room - usedE E) = true from decide_eq_true (by omega), Bool.and_true]
  cases hm : mayD n x with
  | false => rfl
  | true =>
    have : 1 ≤ x.2 := by
      unfold mayD at hm
      simp only [Bool.and_eq_true, decide_eq_true_eq] at hm
      exact hm.2.1
    rw [show decide (0 < x.2) = true from decide_eq_true (by omega)]
    rfl
theorem has_put {z : Bool} {E : Es} {x y : Ix} {v : Value} {p : List Int} : hasE (putE (z && !hasE E x) E x v p) y = (hasE E y || (z && decide (x = y))) := by
  unfold putE
  by_cases h : (z && !hasE E x) = true
  · rw [if_pos h, hasE_snoc]
    have hz : z = true := by cases z <;> simp_all
    rw [hz]
    rfl
  · rw [if_neg h]
    cases z with
    | false => simp
    | true =>
      by_cases e : x = y
      · subst e
        have : hasE E x = true := by cases hh : hasE E x <;> simp_all
        rw [this]
        rfl
      · simp [e]
theorem used_put {z : Bool} {E : Es} {x : Ix} {v : Value} {p : List Int} : usedE (putE z E x v p) ≤ usedE E + p.length := by
  unfold putE
  split
  · rw [usedE_snoc]
    exact Nat.le_refl _
  · omega
def metL (n : Nat) (l : List S29) (y : Ix) : Bool := l.any fun z => mayD n (ix z) && decide (ix z = y)
theorem metL_snoc (n : Nat) {l : List S29} {i : Nat} {z : S29} (h : l[i]? = some z) (y : Ix) : metL n (l.take (i + 1)) y = (metL n (l.take i) y || (mayD n (ix z) && decide (ix z = y))) := by
  unfold metL
  rw [List.take_add_one, h, Option.toList_some, List.any_append]
  simp
theorem mayR_f {z : S29} (h : idr (ix z)) : unisonref03_May.f z.f0 z.f1 64 = some (mayD 64 (ix z)) := by
  have h1 := h.a
  have h2 := h.b
  unfold ix at h1 h2
  dsimp only at h1 h2
  have e1 : wrap64 z.f0 = z.f0 := by unfold wrap64; omega
  unfold unisonref03_May.f mayD ix
  rw [e1]
  dsimp only
  by_cases c : z.f0 < 64
  · rw [if_pos c, if_pos c]
    have c' : decide (z.f0 < ((64 : Nat) : Int)) = true := decide_eq_true (by omega)
    rw [c']
    by_cases c1 : z.f1 > 0
    · rw [if_pos c1, Bool.true_and]
      congr 1
      exact decide_eq_decide.2 ⟨fun h => ⟨by omega, h⟩, fun h => h.2⟩
    · rw [if_neg c1, Bool.true_and]
      congr 1
      exact (decide_eq_false (by omega)).symm
  · rw [if_neg c]
    have c' : decide (z.f0 < ((64 : Nat) : Int)) = false := decide_eq_false (by omega)
    rw [c']
    rfl
theorem id_wf {z : S29} (h : wf29 z) : idr (ix z) := by
  obtain ⟨h0, h1⟩ := h
  simp only [Lit.wf, Bool.and_eq_true, decide_eq_true_eq, show IntKind.u8.min = 0 from rfl, show IntKind.u8.max = 255 from rfl] at h0
  simp only [Lit.wf, Bool.and_eq_true, decide_eq_true_eq, show IntKind.u64.min = 0 from rfl, show IntKind.u64.max = 18446744073709551615 from rfl] at h1
  exact ⟨h0, h1⟩
/-- The state of the law: what was put in so far. -/
structure HS (w wr : World) (g mb fb hb n : Nat) (room : Int) (l : List S29) (i : Nat) : Prop where
  ex : ∃ (S : Nat → Prop) (E : Es) (H : List Int), St wr S g mb fb hb n room E (List.replicate n 0) H ∧ Tops E (List.replicate n 0) H ∧ (∀ k, S k → w.heap.size ≤ k) ∧ usedE E ≤ i ∧ ∀ y, hasE E y = metL n (l.take i) y
  below : Below w.heap.size w wr
theorem HS.step {w wr w1 : World} {g mb fb hb n : Nat} {room : Int} {l : List S29} {i : Nat} (h : HS w wr g mb fb hb n room l i) (hbw : Below wr.heap.size wr w1) : HS w w1 g mb fb hb n room l i := by
  obtain ⟨⟨S, E, H, h1, h2, h3, h4, h5⟩, h6⟩ := h
  exact ⟨⟨S, E, H, h1.below hbw, h2, h3, h4, h5⟩, below_step h6 hbw⟩
theorem HS.put {w wr : World} {g mb fb hb n : Nat} {room : Int} {l : List S29} {i : Nat} {z : S29} (h : HS w wr g mb fb hb n room l i) (hz : l[i]? = some z) (hi : idr (ix z)) (hr : (i : Int) + 1 ≤ room) {b t : Nat} (hx : wr.heap[b]? = some (.cells #[.int .u8 1] t (0, 0))) :
    Calls Try.prog 10 #[.pointer (some ⟨g, 0, none⟩), .agg #[.int .u8 z.f0, .int .u64 z.f1], .slice (some ⟨b, 0, none⟩) 1 1] wr fun e w' => (∃ r, e = .returned (.bool r)) ∧ HS w w' g mb fb hb n room l (i + 1) := by
  obtain ⟨⟨S, E, H, h1, h2, h3, h4, h5⟩, h6⟩ := h
  obtain ⟨ha, hb'⟩ := hi
  obtain ⟨q, hq⟩ : ∃ q : Nat, z.f0 = q := ⟨z.f0.toNat, by have : 0 ≤ z.f0 := ha.1; omega⟩
  have hq2 : q ≤ 255 := by have h7 : z.f0 ≤ 255 := ha.2; omega
  have hF : ∀ y ∈ List.replicate n (0 : Int), y = 0 := fun y hy => List.eq_of_mem_replicate hy
  have hfit := fits_one (n := n) (E := E) (x := ((q : Int), z.f1)) (p := [1]) hF (show (usedE E : Int) + ([1] : List Int).length ≤ room by simp; omega)
  have PC := Put_calls (c := 1) h1 h2 q z.f1 hq2 hb' [1] (byte_F hx) (Nat.le_refl _) (by simp)
  rw [hfit] at PC
  rw [hq]
  refine PC.mono ?_
  rintro e w' ⟨rfl, v, H', hS, hT, hB⟩
  refine ⟨⟨_, rfl⟩, ⟨_, _, _, hS, hT, fun k hk => hk.elim (h3 k) (fun h => Nat.le_trans h6.size h), ?_, fun y => ?_⟩, Beside.step h6 hB h3⟩
  · have := used_put (z := mayD n ((q : Int), z.f1) && !hasE E ((q : Int), z.f1)) (E := E) (x := ((q : Int), z.f1)) (v := v) (p := [1])
    simp at this
    omega
  · rw [has_put, h5, metL_snoc n hz]
    unfold ix
    rw [hq]
def allM (L l : List S29) : Bool := l.all fun x => metL 64 L (ix x)
theorem allM_snoc (L : List S29) {l : List S29} {i : Nat} {x : S29} (h : l[i]? = some x) : allM L (l.take (i + 1)) = (allM L (l.take i) && metL 64 L (ix x)) := by
  unfold allM
  rw [List.take_add_one, h, Option.toList_some, List.all_append]
  simp
theorem allE_M {E : Es} {L : List S29} (h : ∀ y, hasE E y = metL 64 L y) (l : List S29) : allE E l = allM L l := by
  unfold allE allM
  exact congrArg (fun f => l.all f) (funext fun x => h (ix x))
set_option maxHeartbeats 8000000 in
set_option maxRecDepth 100000 in
theorem StoreHas (A0 : Option Addr) (c0 : Nat) (l0 : List S29) (A1 : Option Addr) (c1 : Nat) (l1 : List S29) (w : World) (hr0 : Kd.C kD w A0 l0.length l0) (_ : l0.length ≤ c0) (hr1 : Kd.C kD w A1 l1.length l1) (_ : l1.length ≤ c1)
    (hw0 : l0.length ≤ maxLen ∧ ∀ x ∈ l0, wf29 x) (hw1 : l1.length ≤ maxLen ∧ ∀ x ∈ l1, wf29 x) :
    Calls Try.prog 3 #[.slice A0 l0.length c0, .slice A1 l1.length c1] w fun e w' => e = .returned (.bool true) ∧ Below w.heap.size w w' := by
  have HL := Aside0.mk hr0
  have HA := Aside0.mk hr1
  have WL := Aside0.mk hw0.2
  have WA := Aside0.mk hw1.2
  have AW : Aside0 (∀ W, Calls Try.prog 8 #[] W fun e w' => e = .returned (.bool true) ∧ Below W.heap.size W w') := ⟨awake_calls⟩
  clear hr0 hr1 hw0 hw1
  by_cases h0 : (l0.length : Int) > 50
  · have d0 : decide ((l0.length : Int) > 50) = true := decide_eq_true h0
    go_enter Try.func3, Try.ntmps3
    go_wp2_with fail
    refine (AW.out _).mono ?_
    rintro e w1 ⟨rfl, hb⟩
    have B1 := Aside0.mk hb
    clear hb
    go_wp2_with fail
    go_ret
    exact ⟨rfl, B1.out⟩
  have d0 : decide ((l0.length : Int) > 50) = false := decide_eq_false h0
  by_cases h1 : (l1.length : Int) > 50
  · have d1 : decide ((l1.length : Int) > 50) = true := decide_eq_true h1
    go_enter Try.func3, Try.ntmps3
    go_wp2_with fail
    refine (AW.out _).mono ?_
    rintro e w1 ⟨rfl, hb⟩
    have B1 := Aside0.mk hb
    clear hb
    go_wp2_with fail
    go_ret
    exact ⟨rfl, B1.out⟩
  have d1 : decide ((l1.length : Int) > 50) = false := decide_eq_false h1
  have hl50 : l0.length ≤ 50 := by omega
  have hk50 : l1.length ≤ 50 := by omega
  go_enter Try.func3, Try.ntmps3
  go_wp2_with fail
  refine (New_calls 64 50 (by omega) w).mono ?_
  rintro e w1 ⟨g, mb, fb, hb, rfl, hS, hbw⟩
  rw [show nn 64 = 64 from rfl, show rm 50 = 50 from rfl] at hS
  have H1 : Aside0 (HS w w1 g mb fb hb 64 50 l0 0) := ⟨⟨⟨_, _, _, hS, Tops_new 64, fun _ h => h, Nat.zero_le _, fun y => by simp [hasE, metL, mlk_nil]⟩, hbw⟩⟩
  clear hS hbw d0 d1 h0 h1
  go_wp2_with fail
  go_loopg [6] l0.length (fun gg s6 wr => ∃ i : Nat, s6 = .int .i64 i ∧ i ≤ l0.length ∧ l0.length - i ≤ gg ∧ Aside0 (HS w wr g mb fb hb 64 50 l0 i))
  case atStart => exact ⟨0, rfl, Nat.zero_le _, by omega, H1⟩
  case round =>
    clear H1
    obtain ⟨i, rfl, hi, hgg, HI⟩ := hrel
    by_cases hlt : i < l0.length
    · have hltz : (i : Int) < (l0.length : Int) := by omega
      have HX : Aside0 (l0[i]? = some l0[i]) := ⟨List.getElem?_eq_getElem hlt⟩
      have WX := Aside0.mk (id_wf (WL.out _ (List.mem_of_getElem? HX.out)))
      obtain ⟨ad, e, k0, k1⟩ := id_at HL.out HX.out
      cases e
      have k0 := pw_cell_below HI.out.below k0
      have k1 := pw_cell_below HI.out.below k1
      generalize l0[i] = z at HX WX k0 k1
      have hwi : IntKind.i64.wrap ((i : Int) + 1) = ((i + 1 : Nat) : Int) := by rw [IntKind.wrap_i64]; omega
      go_wp2_with fail
      refine ((HI.out.step (below_alloc (Below.refl _ _) _)).put HX.out WX.out (by omega) (blk_new wr _)).mono ?_
      rintro e w2 ⟨⟨r, rfl⟩, h2⟩
      have H2 := Aside0.mk h2
      clear h2 k0 k1
      go_wp2_with fail
      go_roundg (l0.length - (i + 1))
      case measure => omega
      case rel => exact ⟨i + 1, by go_num, by omega, by omega, H2⟩
    · obtain rfl : i = l0.length := by omega
      have hltz : ¬ (l0.length : Int) < (l0.length : Int) := by omega
      go_wp2_with fail
      clear hltz hlt hi hgg
      go_loopg [7, 8] l1.length (fun gg s7 s8 wj => ∃ i : Nat, s8 = .int .i64 i ∧ i ≤ l1.length ∧ l1.length - i ≤ gg ∧ s7 = .bool (allM l0 (l1.take i)) ∧ Aside0 (HS w wj g mb fb hb 64 50 l0 l0.length))
      case atStart => exact ⟨0, rfl, Nat.zero_le _, by omega, rfl, HI⟩
      case round =>
        clear HI
        obtain ⟨i, rfl, hi, hgg, rfl, HJ⟩ := hrel
        by_cases hlt : i < l1.length
        · have hltz : (i : Int) < (l1.length : Int) := by omega
          have HX : Aside0 (l1[i]? = some l1[i]) := ⟨List.getElem?_eq_getElem hlt⟩
          have WX := Aside0.mk (id_wf (WA.out _ (List.mem_of_getElem? HX.out)))
          have AS := Aside0.mk (allM_snoc l0 HX.out)
          have JX := Aside0.mk (id_at HA.out HX.out)
          generalize l1[i] = x at HX WX AS JX
          have hwi : IntKind.i64.wrap ((i : Int) + 1) = ((i + 1 : Nat) : Int) := by rw [IntKind.wrap_i64]; omega
          go_wp2_with fail
          go_loopg [9, 10] l0.length (fun gg s9 s10 wk => ∃ k : Nat, s10 = .int .i64 k ∧ k ≤ l0.length ∧ l0.length - k ≤ gg ∧ s9 = .bool (metL 64 (l0.take k) (ix x)) ∧ Aside0 (HS w wk g mb fb hb 64 50 l0 l0.length))
          case atStart => exact ⟨0, rfl, Nat.zero_le _, by omega, by simp [metL], HJ⟩
          case round =>
            clear HJ
            obtain ⟨k, rfl, hk, hgk, rfl, HK⟩ := hrel
            by_cases hlk : k < l0.length
            · have hlkz : (k : Int) < (l0.length : Int) := by omega
              have HZ : Aside0 (l0[k]? = some l0[k]) := ⟨List.getElem?_eq_getElem hlk⟩
              have WZ := Aside0.mk (id_wf (WL.out _ (List.mem_of_getElem? HZ.out)))
              have MS := Aside0.mk (metL_snoc 64 HZ.out (ix x))
              obtain ⟨ad, e, k0, k1⟩ := id_at HL.out HZ.out
              cases e
              obtain ⟨ad2, e, j0, j1⟩ := JX.out
              cases e
              have k0 := pw_cell_below HK.out.below k0
              have k1 := pw_cell_below HK.out.below k1
              have j0 := pw_cell_below HK.out.below j0
              have j1 := pw_cell_below HK.out.below j1
              generalize l0[k] = z at HZ WZ MS k0 k1
              have hwk : IntKind.i64.wrap ((k : Int) + 1) = ((k + 1 : Nat) : Int) := by rw [IntKind.wrap_i64]; omega
              have H7 : Aside0 (HS w wr.drew g mb fb hb 64 50 l0 l0.length) := ⟨HK.out.step (below_drew (Below.refl _ _))⟩
              cases hm : metL 64 (l0.take k) (ix x) with
              | true =>
                rw [hm, Bool.true_or] at MS
                clear hm
                go_upto_region 16 with (fail)
                refine wp_region_held_drew (S := fun w' => True) (by kernel_rfl) (by trivial) (fun hHeld => ?_)
                refine wpAnyH_take (i := 0) (oi := { dst := some 46, op := Op.move (Operand.tmp 9), type := 4, pos := "law.go:121", after := #[], guard := none }) (v := ?_) rfl (by kernel_rfl) (by kernel_rfl) (by kernel_rfl) (fun _ _ _ h => h) (Or.inl ⟨by rfl, ?_⟩) (by assumption) ?_
                rotate_left
                · (intro w hSw; (try dsimp only at hSw); go_simp; try with_reducible rfl)
                simp only [Act.put, List.setIfInBounds_toArray, List.set_cons_zero, List.set_cons_succ]
                refine wpAnyH_take (i := 1) (oi := { dst := some 47, op := Op.move (Operand.tmp 46), type := 4, pos := "law.go:121", after := #[{ on := 0, ground := Ground.data }], guard := none }) (v := ?_) rfl (by kernel_rfl) (by kernel_rfl) (by kernel_rfl) (fun _ _ _ h => h) (Or.inl ⟨by rfl, ?_⟩) (by assumption) ?_
                rotate_left
                · (intro w hSw; (try dsimp only at hSw); go_simp; try with_reducible rfl)
                simp only [Act.put, List.setIfInBounds_toArray, List.set_cons_zero, List.set_cons_succ]
                refine wpAnyH_take (i := 2) (oi := { dst := some 48, op := Op.move (Operand.tmp 0), type := 22, pos := "law.go:121", after := #[{ on := 1, ground := Ground.guard }], guard := some (1, false) }) (v := undef) rfl (by kernel_rfl) (by kernel_rfl) (by kernel_rfl) (fun _ _ _ h => h) (Or.inr ⟨by rfl, rfl⟩) (by assumption) ?_
                simp only [Act.put, List.setIfInBounds_toArray, List.set_cons_zero, List.set_cons_succ]
                refine wpAnyH_take (i := 3) (oi := { dst := some 49, op := Op.move (Operand.tmp 10), type := 3, pos := "law.go:121", after := #[{ on := 1, ground := Ground.guard }], guard := some (1, false) }) (v := undef) rfl (by kernel_rfl) (by kernel_rfl) (by kernel_rfl) (fun _ _ _ h => h) (Or.inr ⟨by rfl, rfl⟩) (by assumption) ?_
                simp only [Act.put, List.setIfInBounds_toArray, List.set_cons_zero, List.set_cons_succ]
                refine wpAnyH_take (i := 4) (oi := { dst := some 50, op := Op.indexAddr 22 (Operand.tmp 48) (Operand.tmp 49), type := 0, pos := "law.go:121", after := #[{ on := 2, ground := Ground.data }, { on := 3, ground := Ground.data }, { on := 1, ground := Ground.guard }], guard := some (1, false) }) (v := undef) rfl (by kernel_rfl) (by kernel_rfl) (by kernel_rfl) (fun _ _ _ h => h) (Or.inr ⟨by rfl, rfl⟩) (by assumption) ?_
                simp only [Act.put, List.setIfInBounds_toArray, List.set_cons_zero, List.set_cons_succ]
                refine wpAnyH_take (i := 5) (oi := { dst := some 51, op := Op.load 29 (Operand.tmp 50), type := 29, pos := "law.go:121", after := #[{ on := 4, ground := Ground.data }, { on := 1, ground := Ground.guard }], guard := some (1, false) }) (v := undef) rfl (by kernel_rfl) (by kernel_rfl) (by kernel_rfl) (fun _ _ _ h => h) (Or.inr ⟨by rfl, rfl⟩) (by assumption) ?_
                simp only [Act.put, List.setIfInBounds_toArray, List.set_cons_zero, List.set_cons_succ]
                refine wpAnyH_take (i := 6) (oi := { dst := some 52, op := Op.move (Operand.tmp 1), type := 22, pos := "law.go:121", after := #[{ on := 1, ground := Ground.guard }], guard := some (1, false) }) (v := undef) rfl (by kernel_rfl) (by kernel_rfl) (by kernel_rfl) (fun _ _ _ h => h) (Or.inr ⟨by rfl, rfl⟩) (by assumption) ?_
                simp only [Act.put, List.setIfInBounds_toArray, List.set_cons_zero, List.set_cons_succ]
                refine wpAnyH_take (i := 7) (oi := { dst := some 53, op := Op.move (Operand.tmp 8), type := 3, pos := "law.go:121", after := #[{ on := 1, ground := Ground.guard }], guard := some (1, false) }) (v := undef) rfl (by kernel_rfl) (by kernel_rfl) (by kernel_rfl) (fun _ _ _ h => h) (Or.inr ⟨by rfl, rfl⟩) (by assumption) ?_
                simp only [Act.put, List.setIfInBounds_toArray, List.set_cons_zero, List.set_cons_succ]
                refine wpAnyH_take (i := 8) (oi := { dst := some 54, op := Op.indexAddr 22 (Operand.tmp 52) (Operand.tmp 53), type := 0, pos := "law.go:121", after := #[{ on := 6, ground := Ground.data }, { on := 7, ground := Ground.data }, { on := 1, ground := Ground.guard }], guard := some (1, false) }) (v := undef) rfl (by kernel_rfl) (by kernel_rfl) (by kernel_rfl) (fun _ _ _ h => h) (Or.inr ⟨by rfl, rfl⟩) (by assumption) ?_
                simp only [Act.put, List.setIfInBounds_toArray, List.set_cons_zero, List.set_cons_succ]
                refine wpAnyH_take (i := 9) (oi := { dst := some 55, op := Op.load 29 (Operand.tmp 54), type := 29, pos := "law.go:121", after := #[{ on := 8, ground := Ground.data }, { on := 1, ground := Ground.guard }], guard := some (1, false) }) (v := undef) rfl (by kernel_rfl) (by kernel_rfl) (by kernel_rfl) (fun _ _ _ h => h) (Or.inr ⟨by rfl, rfl⟩) (by assumption) ?_
                simp only [Act.put, List.setIfInBounds_toArray, List.set_cons_zero, List.set_cons_succ]
                refine wpAnyH_take (i := 10) (oi := { dst := some 56, op := Op.binOp BinOp.eql 29 (Operand.tmp 51) (Operand.tmp 55) 29, type := 4, pos := "law.go:121", after := #[{ on := 5, ground := Ground.data }, { on := 9, ground := Ground.data }, { on := 1, ground := Ground.guard }], guard := some (1, false) }) (v := undef) rfl (by kernel_rfl) (by kernel_rfl) (by kernel_rfl) (fun _ _ _ h => h) (Or.inr ⟨by rfl, rfl⟩) (by assumption) ?_
                simp only [Act.put, List.setIfInBounds_toArray, List.set_cons_zero, List.set_cons_succ]
                refine wpAnyH_take (i := 11) (oi := { dst := some 57, op := Op.move (Operand.tmp 56), type := 4, pos := "law.go:121", after := #[{ on := 10, ground := Ground.data }, { on := 1, ground := Ground.chain }, { on := 1, ground := Ground.guard }], guard := some (1, false) }) (v := undef) rfl (by kernel_rfl) (by kernel_rfl) (by kernel_rfl) (fun _ _ _ h => h) (Or.inr ⟨by rfl, rfl⟩) (by assumption) ?_
                simp only [Act.put, List.setIfInBounds_toArray, List.set_cons_zero, List.set_cons_succ]
                refine wpAnyH_take (i := 12) (oi := { dst := some 58, op := Op.move (Operand.tmp 0), type := 22, pos := "law.go:121", after := #[{ on := 11, ground := Ground.guard }], guard := some (11, true) }) (v := undef) rfl (by kernel_rfl) (by kernel_rfl) (by kernel_rfl) (fun _ _ _ h => h) (Or.inr ⟨by rfl, rfl⟩) (by assumption) ?_
                simp only [Act.put, List.setIfInBounds_toArray, List.set_cons_zero, List.set_cons_succ]
                refine wpAnyH_take (i := 13) (oi := { dst := some 59, op := Op.move (Operand.tmp 10), type := 3, pos := "law.go:121", after := #[{ on := 11, ground := Ground.guard }], guard := some (11, true) }) (v := undef) rfl (by kernel_rfl) (by kernel_rfl) (by kernel_rfl) (fun _ _ _ h => h) (Or.inr ⟨by rfl, rfl⟩) (by assumption) ?_
                simp only [Act.put, List.setIfInBounds_toArray, List.set_cons_zero, List.set_cons_succ]
                refine wpAnyH_take (i := 14) (oi := { dst := some 60, op := Op.indexAddr 22 (Operand.tmp 58) (Operand.tmp 59), type := 0, pos := "law.go:121", after := #[{ on := 12, ground := Ground.data }, { on := 13, ground := Ground.data }, { on := 11, ground := Ground.guard }], guard := some (11, true) }) (v := undef) rfl (by kernel_rfl) (by kernel_rfl) (by kernel_rfl) (fun _ _ _ h => h) (Or.inr ⟨by rfl, rfl⟩) (by assumption) ?_
                simp only [Act.put, List.setIfInBounds_toArray, List.set_cons_zero, List.set_cons_succ]
                refine wpAnyH_take (i := 15) (oi := { dst := some 61, op := Op.load 29 (Operand.tmp 60), type := 29, pos := "law.go:121", after := #[{ on := 14, ground := Ground.data }, { on := 11, ground := Ground.guard }], guard := some (11, true) }) (v := undef) rfl (by kernel_rfl) (by kernel_rfl) (by kernel_rfl) (fun _ _ _ h => h) (Or.inr ⟨by rfl, rfl⟩) (by assumption) ?_
                simp only [Act.put, List.setIfInBounds_toArray, List.set_cons_zero, List.set_cons_succ]
                refine wpAnyH_take (i := 16) (oi := { dst := some 62, op := Op.call { callee := Callee.value (Operand.func 11), args := #[Operand.tmp 61, Operand.const (Value.int IntKind.i64 64)], argTypes := #[29, 3] }, type := 4, pos := "law.go:121", after := #[{ on := 15, ground := Ground.data }, { on := 11, ground := Ground.chain }, { on := 11, ground := Ground.guard }], guard := some (11, true) }) (v := undef) rfl (by kernel_rfl) (by kernel_rfl) (by kernel_rfl) (fun _ _ _ h => h) (Or.inr ⟨by rfl, rfl⟩) (by assumption) ?_
                simp only [Act.put, List.setIfInBounds_toArray, List.set_cons_zero, List.set_cons_succ]
                refine wpAnyH_take (i := 17) (oi := { dst := some 63, op := Op.pick (Operand.tmp 57) (Operand.tmp 62) (Operand.const (Value.bool false)), type := 4, pos := "law.go:121", after := #[{ on := 11, ground := Ground.data }, { on := 16, ground := Ground.data }, { on := 1, ground := Ground.guard }], guard := some (1, false) }) (v := undef) rfl (by kernel_rfl) (by kernel_rfl) (by kernel_rfl) (fun _ _ _ h => h) (Or.inr ⟨by rfl, rfl⟩) (by assumption) ?_
                simp only [Act.put, List.setIfInBounds_toArray, List.set_cons_zero, List.set_cons_succ]
                refine wpAnyH_take (i := 18) (oi := { dst := some 64, op := Op.pick (Operand.tmp 47) (Operand.const (Value.bool true)) (Operand.tmp 63), type := 4, pos := "law.go:121", after := #[{ on := 1, ground := Ground.data }, { on := 17, ground := Ground.data }], guard := none }) (v := ?_) rfl (by kernel_rfl) (by kernel_rfl) (by kernel_rfl) (fun _ _ _ h => h) (Or.inl ⟨by rfl, ?_⟩) (by assumption) ?_
                rotate_left
                · (intro w hSw; (try dsimp only at hSw); go_simp; try with_reducible rfl)
                simp only [Act.put, List.setIfInBounds_toArray, List.set_cons_zero, List.set_cons_succ]
                refine wpAnyH_take (i := 19) (oi := { dst := some 9, op := Op.assign (Operand.tmp 64), type := 4, pos := "law.go:121", after := #[{ on := 18, ground := Ground.data }, { on := 16, ground := Ground.chain }, { on := 0, ground := Ground.phase }, { on := 1, ground := Ground.phase }, { on := 2, ground := Ground.phase }, { on := 3, ground := Ground.phase }, { on := 4, ground := Ground.phase }, { on := 5, ground := Ground.phase }, { on := 6, ground := Ground.phase }, { on := 7, ground := Ground.phase }, { on := 8, ground := Ground.phase }, { on := 9, ground := Ground.phase }, { on := 10, ground := Ground.phase }, { on := 11, ground := Ground.phase }, { on := 12, ground := Ground.phase }, { on := 13, ground := Ground.phase }, { on := 14, ground := Ground.phase }, { on := 15, ground := Ground.phase }, { on := 16, ground := Ground.phase }, { on := 17, ground := Ground.phase }, { on := 18, ground := Ground.phase }], guard := none }) (v := ?_) rfl (by kernel_rfl) (by kernel_rfl) (by kernel_rfl) (fun _ _ _ h => h) (Or.inl ⟨by rfl, ?_⟩) (by assumption) ?_
                rotate_left
                · (intro w hSw; (try dsimp only at hSw); go_simp; try with_reducible rfl)
                simp only [Act.put, List.setIfInBounds_toArray, List.set_cons_zero, List.set_cons_succ]
                refine wpAnyH_done (by kernel_rfl) ?_ _
                go_wp2_with fail
                go_roundg (l0.length - (k + 1))
                case measure => omega
                case rel => exact ⟨k + 1, by go_num, by omega, by omega, by rw [MS.out], H7⟩
              | false =>
                rw [hm, Bool.false_or] at MS
                clear hm
                by_cases he : ix z = ix x
                · obtain rfl : z = x := by
                    obtain ⟨z0, z1⟩ := z
                    obtain ⟨x0, x1⟩ := x
                    simpa [ix] using he
                  have EQ : ∀ d W, (Op.equalIn (d + 2) 29 (.agg #[.int .u8 z.f0, .int .u64 z.f1]) (.agg #[.int .u8 z.f0, .int .u64 z.f1])).run Try.prog W = .ok true W := fun d W => (eqA29 d W z.f0 z.f0 z.f1 z.f1).trans (by simp)
                  rw [show decide (ix z = ix z) = true from decide_eq_true rfl, Bool.and_true] at MS
                  have MAY := Aside0.mk (mayR_f WZ.out)
                  obtain ⟨rz, hrz⟩ : ∃ rz, rz = mayD 64 (ix z) := ⟨_, rfl⟩
                  rw [← hrz] at MS MAY
                  clear hrz he
                  go_upto_region 16 with (fail)
                  refine wp_region_held_drew (S := fun w' => w'.cell? (ad.add (k * 2)) = some (.int .u8 z.f0) ∧ w'.cell? ⟨(ad.add (k * 2)).block, (ad.add (k * 2)).off + 1, none⟩ = some (.int .u64 z.f1) ∧ w'.cell? (ad2.add (i * 2)) = some (.int .u8 z.f0) ∧ w'.cell? ⟨(ad2.add (i * 2)).block, (ad2.add (i * 2)).off + 1, none⟩ = some (.int .u64 z.f1)) (by kernel_rfl) (by go_keep) (fun hHeld => ?_)
                  refine wpAnyH_take (i := 0) (oi := { dst := some 46, op := Op.move (Operand.tmp 9), type := 4, pos := "law.go:121", after := #[], guard := none }) (v := ?_) rfl (by kernel_rfl) (by kernel_rfl) (by kernel_rfl) (fun _ _ _ h => h) (Or.inl ⟨by rfl, ?_⟩) (by assumption) ?_
                  rotate_left
                  · (intro w hSw; (try dsimp only at hSw); go_simp; try with_reducible rfl)
                  simp only [Act.put, List.setIfInBounds_toArray, List.set_cons_zero, List.set_cons_succ]
                  refine wpAnyH_take (i := 1) (oi := { dst := some 47, op := Op.move (Operand.tmp 46), type := 4, pos := "law.go:121", after := #[{ on := 0, ground := Ground.data }], guard := none }) (v := ?_) rfl (by kernel_rfl) (by kernel_rfl) (by kernel_rfl) (fun _ _ _ h => h) (Or.inl ⟨by rfl, ?_⟩) (by assumption) ?_
                  rotate_left
                  · (intro w hSw; (try dsimp only at hSw); go_simp; try with_reducible rfl)
                  simp only [Act.put, List.setIfInBounds_toArray, List.set_cons_zero, List.set_cons_succ]
                  refine wpAnyH_take (i := 2) (oi := { dst := some 48, op := Op.move (Operand.tmp 0), type := 22, pos := "law.go:121", after := #[{ on := 1, ground := Ground.guard }], guard := some (1, false) }) (v := ?_) rfl (by kernel_rfl) (by kernel_rfl) (by kernel_rfl) (fun _ _ _ h => h) (Or.inl ⟨by rfl, ?_⟩) (by assumption) ?_
                  rotate_left
                  · (intro w hSw; (try dsimp only at hSw); go_simp; try with_reducible rfl)
                  simp only [Act.put, List.setIfInBounds_toArray, List.set_cons_zero, List.set_cons_succ]
                  refine wpAnyH_take (i := 3) (oi := { dst := some 49, op := Op.move (Operand.tmp 10), type := 3, pos := "law.go:121", after := #[{ on := 1, ground := Ground.guard }], guard := some (1, false) }) (v := ?_) rfl (by kernel_rfl) (by kernel_rfl) (by kernel_rfl) (fun _ _ _ h => h) (Or.inl ⟨by rfl, ?_⟩) (by assumption) ?_
                  rotate_left
                  · (intro w hSw; (try dsimp only at hSw); go_simp; try with_reducible rfl)
                  simp only [Act.put, List.setIfInBounds_toArray, List.set_cons_zero, List.set_cons_succ]
                  refine wpAnyH_take (i := 4) (oi := { dst := some 50, op := Op.indexAddr 22 (Operand.tmp 48) (Operand.tmp 49), type := 0, pos := "law.go:121", after := #[{ on := 2, ground := Ground.data }, { on := 3, ground := Ground.data }, { on := 1, ground := Ground.guard }], guard := some (1, false) }) (v := ?_) rfl (by kernel_rfl) (by kernel_rfl) (by kernel_rfl) (fun _ _ _ h => h) (Or.inl ⟨by rfl, ?_⟩) (by assumption) ?_
                  rotate_left
                  · (intro w hSw; (try dsimp only at hSw); go_simp; try with_reducible rfl)
                  simp only [Act.put, List.setIfInBounds_toArray, List.set_cons_zero, List.set_cons_succ]
                  refine wpAnyH_take (i := 5) (oi := { dst := some 51, op := Op.load 29 (Operand.tmp 50), type := 29, pos := "law.go:121", after := #[{ on := 4, ground := Ground.data }, { on := 1, ground := Ground.guard }], guard := some (1, false) }) (v := ?_) rfl (by kernel_rfl) (by kernel_rfl) (by kernel_rfl) (fun _ _ _ h => h) (Or.inl ⟨by rfl, ?_⟩) (by assumption) ?_
                  rotate_left
                  · (intro w hSw; (try dsimp only at hSw); go_simp; try with_reducible rfl)
                  simp only [Act.put, List.setIfInBounds_toArray, List.set_cons_zero, List.set_cons_succ]
                  refine wpAnyH_take (i := 6) (oi := { dst := some 52, op := Op.move (Operand.tmp 1), type := 22, pos := "law.go:121", after := #[{ on := 1, ground := Ground.guard }], guard := some (1, false) }) (v := ?_) rfl (by kernel_rfl) (by kernel_rfl) (by kernel_rfl) (fun _ _ _ h => h) (Or.inl ⟨by rfl, ?_⟩) (by assumption) ?_
                  rotate_left
                  · (intro w hSw; (try dsimp only at hSw); go_simp; try with_reducible rfl)
                  simp only [Act.put, List.setIfInBounds_toArray, List.set_cons_zero, List.set_cons_succ]
                  refine wpAnyH_take (i := 7) (oi := { dst := some 53, op := Op.move (Operand.tmp 8), type := 3, pos := "law.go:121", after := #[{ on := 1, ground := Ground.guard }], guard := some (1, false) }) (v := ?_) rfl (by kernel_rfl) (by kernel_rfl) (by kernel_rfl) (fun _ _ _ h => h) (Or.inl ⟨by rfl, ?_⟩) (by assumption) ?_
                  rotate_left
                  · (intro w hSw; (try dsimp only at hSw); go_simp; try with_reducible rfl)
                  simp only [Act.put, List.setIfInBounds_toArray, List.set_cons_zero, List.set_cons_succ]
                  refine wpAnyH_take (i := 8) (oi := { dst := some 54, op := Op.indexAddr 22 (Operand.tmp 52) (Operand.tmp 53), type := 0, pos := "law.go:121", after := #[{ on := 6, ground := Ground.data }, { on := 7, ground := Ground.data }, { on := 1, ground := Ground.guard }], guard := some (1, false) }) (v := ?_) rfl (by kernel_rfl) (by kernel_rfl) (by kernel_rfl) (fun _ _ _ h => h) (Or.inl ⟨by rfl, ?_⟩) (by assumption) ?_
                  rotate_left
                  · (intro w hSw; (try dsimp only at hSw); go_simp; try with_reducible rfl)
                  simp only [Act.put, List.setIfInBounds_toArray, List.set_cons_zero, List.set_cons_succ]
                  refine wpAnyH_take (i := 9) (oi := { dst := some 55, op := Op.load 29 (Operand.tmp 54), type := 29, pos := "law.go:121", after := #[{ on := 8, ground := Ground.data }, { on := 1, ground := Ground.guard }], guard := some (1, false) }) (v := ?_) rfl (by kernel_rfl) (by kernel_rfl) (by kernel_rfl) (fun _ _ _ h => h) (Or.inl ⟨by rfl, ?_⟩) (by assumption) ?_
                  rotate_left
                  · (intro w hSw; (try dsimp only at hSw); go_simp; try with_reducible rfl)
                  simp only [Act.put, List.setIfInBounds_toArray, List.set_cons_zero, List.set_cons_succ]
                  refine wpAnyH_take (i := 10) (oi := { dst := some 56, op := Op.binOp BinOp.eql 29 (Operand.tmp 51) (Operand.tmp 55) 29, type := 4, pos := "law.go:121", after := #[{ on := 5, ground := Ground.data }, { on := 9, ground := Ground.data }, { on := 1, ground := Ground.guard }], guard := some (1, false) }) (v := ?_) rfl (by kernel_rfl) (by kernel_rfl) (by kernel_rfl) (fun _ _ _ h => h) (Or.inl ⟨by rfl, ?_⟩) (by assumption) ?_
                  rotate_left
                  · (intro w hSw; (try dsimp only at hSw); go_simp; try with_reducible rfl)
                  simp only [Act.put, List.setIfInBounds_toArray, List.set_cons_zero, List.set_cons_succ]
                  refine wpAnyH_take (i := 11) (oi := { dst := some 57, op := Op.move (Operand.tmp 56), type := 4, pos := "law.go:121", after := #[{ on := 10, ground := Ground.data }, { on := 1, ground := Ground.chain }, { on := 1, ground := Ground.guard }], guard := some (1, false) }) (v := ?_) rfl (by kernel_rfl) (by kernel_rfl) (by kernel_rfl) (fun _ _ _ h => h) (Or.inl ⟨by rfl, ?_⟩) (by assumption) ?_
                  rotate_left
                  · (intro w hSw; (try dsimp only at hSw); go_simp; try with_reducible rfl)
                  simp only [Act.put, List.setIfInBounds_toArray, List.set_cons_zero, List.set_cons_succ]
                  refine wpAnyH_take (i := 12) (oi := { dst := some 58, op := Op.move (Operand.tmp 0), type := 22, pos := "law.go:121", after := #[{ on := 11, ground := Ground.guard }], guard := some (11, true) }) (v := ?_) rfl (by kernel_rfl) (by kernel_rfl) (by kernel_rfl) (fun _ _ _ h => h) (Or.inl ⟨by rfl, ?_⟩) (by assumption) ?_
                  rotate_left
                  · (intro w hSw; (try dsimp only at hSw); go_simp; try with_reducible rfl)
                  simp only [Act.put, List.setIfInBounds_toArray, List.set_cons_zero, List.set_cons_succ]
                  refine wpAnyH_take (i := 13) (oi := { dst := some 59, op := Op.move (Operand.tmp 10), type := 3, pos := "law.go:121", after := #[{ on := 11, ground := Ground.guard }], guard := some (11, true) }) (v := ?_) rfl (by kernel_rfl) (by kernel_rfl) (by kernel_rfl) (fun _ _ _ h => h) (Or.inl ⟨by rfl, ?_⟩) (by assumption) ?_
                  rotate_left
                  · (intro w hSw; (try dsimp only at hSw); go_simp; try with_reducible rfl)
                  simp only [Act.put, List.setIfInBounds_toArray, List.set_cons_zero, List.set_cons_succ]
                  refine wpAnyH_take (i := 14) (oi := { dst := some 60, op := Op.indexAddr 22 (Operand.tmp 58) (Operand.tmp 59), type := 0, pos := "law.go:121", after := #[{ on := 12, ground := Ground.data }, { on := 13, ground := Ground.data }, { on := 11, ground := Ground.guard }], guard := some (11, true) }) (v := ?_) rfl (by kernel_rfl) (by kernel_rfl) (by kernel_rfl) (fun _ _ _ h => h) (Or.inl ⟨by rfl, ?_⟩) (by assumption) ?_
                  rotate_left
                  · (intro w hSw; (try dsimp only at hSw); go_simp; try with_reducible rfl)
                  simp only [Act.put, List.setIfInBounds_toArray, List.set_cons_zero, List.set_cons_succ]
                  refine wpAnyH_take (i := 15) (oi := { dst := some 61, op := Op.load 29 (Operand.tmp 60), type := 29, pos := "law.go:121", after := #[{ on := 14, ground := Ground.data }, { on := 11, ground := Ground.guard }], guard := some (11, true) }) (v := ?_) rfl (by kernel_rfl) (by kernel_rfl) (by kernel_rfl) (fun _ _ _ h => h) (Or.inl ⟨by rfl, ?_⟩) (by assumption) ?_
                  rotate_left
                  · (intro w hSw; (try dsimp only at hSw); go_simp; try with_reducible rfl)
                  simp only [Act.put, List.setIfInBounds_toArray, List.set_cons_zero, List.set_cons_succ]
                  refine wpAnyH_ready (rs := [16]) (by kernel_rfl) (by simp) ?_
                  refine AllReadyH.cons (o := { dst := some 62, op := Op.call { callee := Callee.value (Operand.func 11), args := #[Operand.tmp 61, Operand.const (Value.int IntKind.i64 64)], argTypes := #[29, 3] }, type := 4, pos := "law.go:121", after := #[{ on := 15, ground := Ground.data }, { on := 11, ground := Ground.chain }, { on := 11, ground := Ground.guard }], guard := some (11, true) }) rfl (fun K hK => ?_) AllReadyH.nil
                  go_simp
                  go_at_call 11
                  refine (unisonref03_May.calls z.f0 z.f1 64 rz _ MAY.out).mono ?_
                  rintro e wa ⟨rfl, hb0⟩
                  have BA := Aside0.mk (below_step (below_drew (Below.refl wr.heap.size wr)) hb0)
                  clear hb0
                  have ak0 := pw_cell_below BA.out k0
                  have ak1 := pw_cell_below BA.out k1
                  have aj0 := pw_cell_below BA.out j0
                  have aj1 := pw_cell_below BA.out j1
                  try go_wp2_with fail
                  refine hK.out _ _ ⟨ak0, ak1, aj0, aj1⟩ (fun hHeld => ?_)
                  clear hK K
                  try simp only [Act.put, List.setIfInBounds_toArray, List.set_cons_zero, List.set_cons_succ]
                  refine wpAnyH_take (i := 17) (oi := { dst := some 63, op := Op.pick (Operand.tmp 57) (Operand.tmp 62) (Operand.const (Value.bool false)), type := 4, pos := "law.go:121", after := #[{ on := 11, ground := Ground.data }, { on := 16, ground := Ground.data }, { on := 1, ground := Ground.guard }], guard := some (1, false) }) (v := ?_) rfl (by kernel_rfl) (by kernel_rfl) (by kernel_rfl) (fun _ _ _ h => h) (Or.inl ⟨by rfl, ?_⟩) (by assumption) ?_
                  rotate_left
                  · (intro w hSw; (try dsimp only at hSw); go_simp; try with_reducible rfl)
                  simp only [Act.put, List.setIfInBounds_toArray, List.set_cons_zero, List.set_cons_succ]
                  refine wpAnyH_take (i := 18) (oi := { dst := some 64, op := Op.pick (Operand.tmp 47) (Operand.const (Value.bool true)) (Operand.tmp 63), type := 4, pos := "law.go:121", after := #[{ on := 1, ground := Ground.data }, { on := 17, ground := Ground.data }], guard := none }) (v := ?_) rfl (by kernel_rfl) (by kernel_rfl) (by kernel_rfl) (fun _ _ _ h => h) (Or.inl ⟨by rfl, ?_⟩) (by assumption) ?_
                  rotate_left
                  · (intro w hSw; (try dsimp only at hSw); go_simp; try with_reducible rfl)
                  simp only [Act.put, List.setIfInBounds_toArray, List.set_cons_zero, List.set_cons_succ]
                  refine wpAnyH_take (i := 19) (oi := { dst := some 9, op := Op.assign (Operand.tmp 64), type := 4, pos := "law.go:121", after := #[{ on := 18, ground := Ground.data }, { on := 16, ground := Ground.chain }, { on := 0, ground := Ground.phase }, { on := 1, ground := Ground.phase }, { on := 2, ground := Ground.phase }, { on := 3, ground := Ground.phase }, { on := 4, ground := Ground.phase }, { on := 5, ground := Ground.phase }, { on := 6, ground := Ground.phase }, { on := 7, ground := Ground.phase }, { on := 8, ground := Ground.phase }, { on := 9, ground := Ground.phase }, { on := 10, ground := Ground.phase }, { on := 11, ground := Ground.phase }, { on := 12, ground := Ground.phase }, { on := 13, ground := Ground.phase }, { on := 14, ground := Ground.phase }, { on := 15, ground := Ground.phase }, { on := 16, ground := Ground.phase }, { on := 17, ground := Ground.phase }, { on := 18, ground := Ground.phase }], guard := none }) (v := ?_) rfl (by kernel_rfl) (by kernel_rfl) (by kernel_rfl) (fun _ _ _ h => h) (Or.inl ⟨by rfl, ?_⟩) (by assumption) ?_
                  rotate_left
                  · (intro w hSw; (try dsimp only at hSw); go_simp; try with_reducible rfl)
                  simp only [Act.put, List.setIfInBounds_toArray, List.set_cons_zero, List.set_cons_succ]
                  refine wpAnyH_done (by kernel_rfl) ?_ _
                  have H8 : Aside0 (HS w wa g mb fb hb 64 50 l0 l0.length) := ⟨HK.out.step BA.out⟩
                  go_wp2_with fail
                  go_roundg (l0.length - (k + 1))
                  case measure => omega
                  case rel => exact ⟨k + 1, by go_num, by omega, by omega, by rw [MS.out], H8⟩
                · have EQ : ∀ d W, (Op.equalIn (d + 2) 29 (.agg #[.int .u8 z.f0, .int .u64 z.f1]) (.agg #[.int .u8 x.f0, .int .u64 x.f1])).run Try.prog W = .ok false W := fun d W => (eqA29 d W z.f0 x.f0 z.f1 x.f1).trans (by
                    have : (z.f0 == x.f0 && (z.f1 == x.f1)) = false := by
                      rw [Bool.and_eq_false_iff]
                      by_cases h : z.f0 = x.f0
                      · exact .inr (by simpa using fun h2 => he (by unfold ix; rw [h, h2]))
                      · exact .inl (by simpa using h)
                    rw [this])
                  rw [decide_eq_false he, Bool.and_false] at MS
                  clear he
                  go_upto_region 16 with (fail)
                  refine wp_region_held_drew (S := fun w' => w'.cell? (ad.add (k * 2)) = some (.int .u8 z.f0) ∧ w'.cell? ⟨(ad.add (k * 2)).block, (ad.add (k * 2)).off + 1, none⟩ = some (.int .u64 z.f1) ∧ w'.cell? (ad2.add (i * 2)) = some (.int .u8 x.f0) ∧ w'.cell? ⟨(ad2.add (i * 2)).block, (ad2.add (i * 2)).off + 1, none⟩ = some (.int .u64 x.f1)) (by kernel_rfl) (by go_keep) (fun hHeld => ?_)
                  refine wpAnyH_take (i := 0) (oi := { dst := some 46, op := Op.move (Operand.tmp 9), type := 4, pos := "law.go:121", after := #[], guard := none }) (v := ?_) rfl (by kernel_rfl) (by kernel_rfl) (by kernel_rfl) (fun _ _ _ h => h) (Or.inl ⟨by rfl, ?_⟩) (by assumption) ?_
                  rotate_left
                  · (intro w hSw; (try dsimp only at hSw); go_simp; try with_reducible rfl)
                  simp only [Act.put, List.setIfInBounds_toArray, List.set_cons_zero, List.set_cons_succ]
                  refine wpAnyH_take (i := 1) (oi := { dst := some 47, op := Op.move (Operand.tmp 46), type := 4, pos := "law.go:121", after := #[{ on := 0, ground := Ground.data }], guard := none }) (v := ?_) rfl (by kernel_rfl) (by kernel_rfl) (by kernel_rfl) (fun _ _ _ h => h) (Or.inl ⟨by rfl, ?_⟩) (by assumption) ?_
                  rotate_left
                  · (intro w hSw; (try dsimp only at hSw); go_simp; try with_reducible rfl)
                  simp only [Act.put, List.setIfInBounds_toArray, List.set_cons_zero, List.set_cons_succ]
                  refine wpAnyH_take (i := 2) (oi := { dst := some 48, op := Op.move (Operand.tmp 0), type := 22, pos := "law.go:121", after := #[{ on := 1, ground := Ground.guard }], guard := some (1, false) }) (v := ?_) rfl (by kernel_rfl) (by kernel_rfl) (by kernel_rfl) (fun _ _ _ h => h) (Or.inl ⟨by rfl, ?_⟩) (by assumption) ?_
                  rotate_left
                  · (intro w hSw; (try dsimp only at hSw); go_simp; try with_reducible rfl)
                  simp only [Act.put, List.setIfInBounds_toArray, List.set_cons_zero, List.set_cons_succ]
                  refine wpAnyH_take (i := 3) (oi := { dst := some 49, op := Op.move (Operand.tmp 10), type := 3, pos := "law.go:121", after := #[{ on := 1, ground := Ground.guard }], guard := some (1, false) }) (v := ?_) rfl (by kernel_rfl) (by kernel_rfl) (by kernel_rfl) (fun _ _ _ h => h) (Or.inl ⟨by rfl, ?_⟩) (by assumption) ?_
                  rotate_left
                  · (intro w hSw; (try dsimp only at hSw); go_simp; try with_reducible rfl)
                  simp only [Act.put, List.setIfInBounds_toArray, List.set_cons_zero, List.set_cons_succ]
                  refine wpAnyH_take (i := 4) (oi := { dst := some 50, op := Op.indexAddr 22 (Operand.tmp 48) (Operand.tmp 49), type := 0, pos := "law.go:121", after := #[{ on := 2, ground := Ground.data }, { on := 3, ground := Ground.data }, { on := 1, ground := Ground.guard }], guard := some (1, false) }) (v := ?_) rfl (by kernel_rfl) (by kernel_rfl) (by kernel_rfl) (fun _ _ _ h => h) (Or.inl ⟨by rfl, ?_⟩) (by assumption) ?_
                  rotate_left
                  · (intro w hSw; (try dsimp only at hSw); go_simp; try with_reducible rfl)
                  simp only [Act.put, List.setIfInBounds_toArray, List.set_cons_zero, List.set_cons_succ]
                  refine wpAnyH_take (i := 5) (oi := { dst := some 51, op := Op.load 29 (Operand.tmp 50), type := 29, pos := "law.go:121", after := #[{ on := 4, ground := Ground.data }, { on := 1, ground := Ground.guard }], guard := some (1, false) }) (v := ?_) rfl (by kernel_rfl) (by kernel_rfl) (by kernel_rfl) (fun _ _ _ h => h) (Or.inl ⟨by rfl, ?_⟩) (by assumption) ?_
                  rotate_left
                  · (intro w hSw; (try dsimp only at hSw); go_simp; try with_reducible rfl)
                  simp only [Act.put, List.setIfInBounds_toArray, List.set_cons_zero, List.set_cons_succ]
                  refine wpAnyH_take (i := 6) (oi := { dst := some 52, op := Op.move (Operand.tmp 1), type := 22, pos := "law.go:121", after := #[{ on := 1, ground := Ground.guard }], guard := some (1, false) }) (v := ?_) rfl (by kernel_rfl) (by kernel_rfl) (by kernel_rfl) (fun _ _ _ h => h) (Or.inl ⟨by rfl, ?_⟩) (by assumption) ?_
                  rotate_left
                  · (intro w hSw; (try dsimp only at hSw); go_simp; try with_reducible rfl)
                  simp only [Act.put, List.setIfInBounds_toArray, List.set_cons_zero, List.set_cons_succ]
                  refine wpAnyH_take (i := 7) (oi := { dst := some 53, op := Op.move (Operand.tmp 8), type := 3, pos := "law.go:121", after := #[{ on := 1, ground := Ground.guard }], guard := some (1, false) }) (v := ?_) rfl (by kernel_rfl) (by kernel_rfl) (by kernel_rfl) (fun _ _ _ h => h) (Or.inl ⟨by rfl, ?_⟩) (by assumption) ?_
                  rotate_left
                  · (intro w hSw; (try dsimp only at hSw); go_simp; try with_reducible rfl)
                  simp only [Act.put, List.setIfInBounds_toArray, List.set_cons_zero, List.set_cons_succ]
                  refine wpAnyH_take (i := 8) (oi := { dst := some 54, op := Op.indexAddr 22 (Operand.tmp 52) (Operand.tmp 53), type := 0, pos := "law.go:121", after := #[{ on := 6, ground := Ground.data }, { on := 7, ground := Ground.data }, { on := 1, ground := Ground.guard }], guard := some (1, false) }) (v := ?_) rfl (by kernel_rfl) (by kernel_rfl) (by kernel_rfl) (fun _ _ _ h => h) (Or.inl ⟨by rfl, ?_⟩) (by assumption) ?_
                  rotate_left
                  · (intro w hSw; (try dsimp only at hSw); go_simp; try with_reducible rfl)
                  simp only [Act.put, List.setIfInBounds_toArray, List.set_cons_zero, List.set_cons_succ]
                  refine wpAnyH_take (i := 9) (oi := { dst := some 55, op := Op.load 29 (Operand.tmp 54), type := 29, pos := "law.go:121", after := #[{ on := 8, ground := Ground.data }, { on := 1, ground := Ground.guard }], guard := some (1, false) }) (v := ?_) rfl (by kernel_rfl) (by kernel_rfl) (by kernel_rfl) (fun _ _ _ h => h) (Or.inl ⟨by rfl, ?_⟩) (by assumption) ?_
                  rotate_left
                  · (intro w hSw; (try dsimp only at hSw); go_simp; try with_reducible rfl)
                  simp only [Act.put, List.setIfInBounds_toArray, List.set_cons_zero, List.set_cons_succ]
                  refine wpAnyH_take (i := 10) (oi := { dst := some 56, op := Op.binOp BinOp.eql 29 (Operand.tmp 51) (Operand.tmp 55) 29, type := 4, pos := "law.go:121", after := #[{ on := 5, ground := Ground.data }, { on := 9, ground := Ground.data }, { on := 1, ground := Ground.guard }], guard := some (1, false) }) (v := ?_) rfl (by kernel_rfl) (by kernel_rfl) (by kernel_rfl) (fun _ _ _ h => h) (Or.inl ⟨by rfl, ?_⟩) (by assumption) ?_
                  rotate_left
                  · (intro w hSw; (try dsimp only at hSw); go_simp; try with_reducible rfl)
                  simp only [Act.put, List.setIfInBounds_toArray, List.set_cons_zero, List.set_cons_succ]
                  refine wpAnyH_take (i := 11) (oi := { dst := some 57, op := Op.move (Operand.tmp 56), type := 4, pos := "law.go:121", after := #[{ on := 10, ground := Ground.data }, { on := 1, ground := Ground.chain }, { on := 1, ground := Ground.guard }], guard := some (1, false) }) (v := ?_) rfl (by kernel_rfl) (by kernel_rfl) (by kernel_rfl) (fun _ _ _ h => h) (Or.inl ⟨by rfl, ?_⟩) (by assumption) ?_
                  rotate_left
                  · (intro w hSw; (try dsimp only at hSw); go_simp; try with_reducible rfl)
                  simp only [Act.put, List.setIfInBounds_toArray, List.set_cons_zero, List.set_cons_succ]
                  refine wpAnyH_take (i := 12) (oi := { dst := some 58, op := Op.move (Operand.tmp 0), type := 22, pos := "law.go:121", after := #[{ on := 11, ground := Ground.guard }], guard := some (11, true) }) (v := undef) rfl (by kernel_rfl) (by kernel_rfl) (by kernel_rfl) (fun _ _ _ h => h) (Or.inr ⟨by rfl, rfl⟩) (by assumption) ?_
                  simp only [Act.put, List.setIfInBounds_toArray, List.set_cons_zero, List.set_cons_succ]
                  refine wpAnyH_take (i := 13) (oi := { dst := some 59, op := Op.move (Operand.tmp 10), type := 3, pos := "law.go:121", after := #[{ on := 11, ground := Ground.guard }], guard := some (11, true) }) (v := undef) rfl (by kernel_rfl) (by kernel_rfl) (by kernel_rfl) (fun _ _ _ h => h) (Or.inr ⟨by rfl, rfl⟩) (by assumption) ?_
                  simp only [Act.put, List.setIfInBounds_toArray, List.set_cons_zero, List.set_cons_succ]
                  refine wpAnyH_take (i := 14) (oi := { dst := some 60, op := Op.indexAddr 22 (Operand.tmp 58) (Operand.tmp 59), type := 0, pos := "law.go:121", after := #[{ on := 12, ground := Ground.data }, { on := 13, ground := Ground.data }, { on := 11, ground := Ground.guard }], guard := some (11, true) }) (v := undef) rfl (by kernel_rfl) (by kernel_rfl) (by kernel_rfl) (fun _ _ _ h => h) (Or.inr ⟨by rfl, rfl⟩) (by assumption) ?_
                  simp only [Act.put, List.setIfInBounds_toArray, List.set_cons_zero, List.set_cons_succ]
                  refine wpAnyH_take (i := 15) (oi := { dst := some 61, op := Op.load 29 (Operand.tmp 60), type := 29, pos := "law.go:121", after := #[{ on := 14, ground := Ground.data }, { on := 11, ground := Ground.guard }], guard := some (11, true) }) (v := undef) rfl (by kernel_rfl) (by kernel_rfl) (by kernel_rfl) (fun _ _ _ h => h) (Or.inr ⟨by rfl, rfl⟩) (by assumption) ?_
                  simp only [Act.put, List.setIfInBounds_toArray, List.set_cons_zero, List.set_cons_succ]
                  refine wpAnyH_take (i := 16) (oi := { dst := some 62, op := Op.call { callee := Callee.value (Operand.func 11), args := #[Operand.tmp 61, Operand.const (Value.int IntKind.i64 64)], argTypes := #[29, 3] }, type := 4, pos := "law.go:121", after := #[{ on := 15, ground := Ground.data }, { on := 11, ground := Ground.chain }, { on := 11, ground := Ground.guard }], guard := some (11, true) }) (v := undef) rfl (by kernel_rfl) (by kernel_rfl) (by kernel_rfl) (fun _ _ _ h => h) (Or.inr ⟨by rfl, rfl⟩) (by assumption) ?_
                  simp only [Act.put, List.setIfInBounds_toArray, List.set_cons_zero, List.set_cons_succ]
                  refine wpAnyH_take (i := 17) (oi := { dst := some 63, op := Op.pick (Operand.tmp 57) (Operand.tmp 62) (Operand.const (Value.bool false)), type := 4, pos := "law.go:121", after := #[{ on := 11, ground := Ground.data }, { on := 16, ground := Ground.data }, { on := 1, ground := Ground.guard }], guard := some (1, false) }) (v := ?_) rfl (by kernel_rfl) (by kernel_rfl) (by kernel_rfl) (fun _ _ _ h => h) (Or.inl ⟨by rfl, ?_⟩) (by assumption) ?_
                  rotate_left
                  · (intro w hSw; (try dsimp only at hSw); go_simp; try with_reducible rfl)
                  simp only [Act.put, List.setIfInBounds_toArray, List.set_cons_zero, List.set_cons_succ]
                  refine wpAnyH_take (i := 18) (oi := { dst := some 64, op := Op.pick (Operand.tmp 47) (Operand.const (Value.bool true)) (Operand.tmp 63), type := 4, pos := "law.go:121", after := #[{ on := 1, ground := Ground.data }, { on := 17, ground := Ground.data }], guard := none }) (v := ?_) rfl (by kernel_rfl) (by kernel_rfl) (by kernel_rfl) (fun _ _ _ h => h) (Or.inl ⟨by rfl, ?_⟩) (by assumption) ?_
                  rotate_left
                  · (intro w hSw; (try dsimp only at hSw); go_simp; try with_reducible rfl)
                  simp only [Act.put, List.setIfInBounds_toArray, List.set_cons_zero, List.set_cons_succ]
                  refine wpAnyH_take (i := 19) (oi := { dst := some 9, op := Op.assign (Operand.tmp 64), type := 4, pos := "law.go:121", after := #[{ on := 18, ground := Ground.data }, { on := 16, ground := Ground.chain }, { on := 0, ground := Ground.phase }, { on := 1, ground := Ground.phase }, { on := 2, ground := Ground.phase }, { on := 3, ground := Ground.phase }, { on := 4, ground := Ground.phase }, { on := 5, ground := Ground.phase }, { on := 6, ground := Ground.phase }, { on := 7, ground := Ground.phase }, { on := 8, ground := Ground.phase }, { on := 9, ground := Ground.phase }, { on := 10, ground := Ground.phase }, { on := 11, ground := Ground.phase }, { on := 12, ground := Ground.phase }, { on := 13, ground := Ground.phase }, { on := 14, ground := Ground.phase }, { on := 15, ground := Ground.phase }, { on := 16, ground := Ground.phase }, { on := 17, ground := Ground.phase }, { on := 18, ground := Ground.phase }], guard := none }) (v := ?_) rfl (by kernel_rfl) (by kernel_rfl) (by kernel_rfl) (fun _ _ _ h => h) (Or.inl ⟨by rfl, ?_⟩) (by assumption) ?_
                  rotate_left
                  · (intro w hSw; (try dsimp only at hSw); go_simp; try with_reducible rfl)
                  simp only [Act.put, List.setIfInBounds_toArray, List.set_cons_zero, List.set_cons_succ]
                  refine wpAnyH_done (by kernel_rfl) ?_ _
                  go_wp2_with fail
                  go_roundg (l0.length - (k + 1))
                  case measure => omega
                  case rel => exact ⟨k + 1, by go_num, by omega, by omega, by rw [MS.out], H7⟩
            · obtain rfl : k = l0.length := by omega
              have hlkz : ¬ (l0.length : Int) < (l0.length : Int) := by omega
              rw [List.take_length]
              cases ha : allM l0 (l1.take i) with
              | true =>
                rw [ha, Bool.true_and] at AS
                clear ha
                go_wp2_with fail
                go_roundg (l1.length - (i + 1))
                case measure => omega
                case rel => exact ⟨i + 1, by go_num, by omega, by omega, by rw [AS.out], HK⟩
              | false =>
                rw [ha, Bool.false_and] at AS
                clear ha
                go_wp2_with fail
                go_roundg (l1.length - (i + 1))
                case measure => omega
                case rel => exact ⟨i + 1, by go_num, by omega, by omega, by rw [AS.out], HK⟩
        · obtain rfl : i = l1.length := by omega
          have hltz : ¬ (l1.length : Int) < (l1.length : Int) := by omega
          rw [List.take_length]
          obtain ⟨S, E, H, h1, -, -, -, h5⟩ := HJ.out.ex
          rw [List.take_length] at h5
          have S1 := Aside0.mk h1
          have EM := Aside0.mk (allE_M h5 l1)
          have WE : Aside0 (∀ x ∈ l1, idr (ix x)) := ⟨fun x hx => id_wf (WA.out x hx)⟩
          have HB := Aside0.mk (Kd.C_below HA.out HJ.out.below)
          have BJ := Aside0.mk HJ.out.below
          clear h1 h5 HJ
          generalize allM l0 l1 = r at EM
          go_wp2_with fail
          refine (Has_calls S1.out l1 HB.out WE.out).mono ?_
          rintro e w2 ⟨rfl, hb2⟩
          rw [EM.out]
          have S2 := Aside0.mk (S1.out.below hb2)
          have B2 := Aside0.mk (below_step BJ.out hb2)
          clear hb2
          go_wp2_with fail
          refine (Has_calls (c := 0) (A := none) S2.out [] (Kd.C_nil _ _) (by simp)).mono ?_
          rintro e w3 ⟨rfl, hb3⟩
          have B3 := Aside0.mk (below_step B2.out hb3)
          clear hb3
          rw [show allE E [] = true from rfl]
          go_wp2_with fail
          refine (AW.out _).mono ?_
          rintro e w4 ⟨rfl, hb4⟩
          have B4 := Aside0.mk (below_step B3.out hb4)
          clear hb4
          go_wp2_with fail
          go_ret
          exact ⟨rfl, B4.out⟩

end Go.Proofs.Ytpdglodfgikfkaa.Walk
