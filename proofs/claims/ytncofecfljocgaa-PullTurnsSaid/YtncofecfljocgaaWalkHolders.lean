/- Holders. Conditions: none beyond the statement's own. -/
import Derived.Test.YtncofecfljocgaaWalkLeft
import Derived.Test.YtncofecfljocgaaF2
import Derived.Test.YtncofecfljocgaaArgs
import Derived.Deep.QuietTactic
import Derived.BigQuiet
import Derived.Lib.QuietBelow
import Derived.Outline
import Derived.Deep.RegionHeld3
import Derived.Deep.CutRange
namespace Go.Proofs.Ytncofecfljocgaa.Walk
open Go.RowKit Go.Proofs.Ytncofecfljocgaa.F Go.Proofs.YtncofecfljocgaaW.PrintWords Go.Proofs.YtncofecfljocgaaW.PrintLast Go.Proofs.YtncofecfljocgaaW.PrintMore Go.Proofs.Ytncofecfljocgaa.Open
open Go.Sort (grow)
attribute [local go_sem] max2_int min2_int max_two min_two max_three min_three max_four min_four
set_option linter.unusedVariables false
set_option linter.unusedSimpArgs false

/-! ### Holders -/
def mayN (a0 a1 : Int) (n : Int) : Bool := (ident_May.f a0 a1 n).getD false
theorem mayN_f (a0 a1 n : Int) : ident_May.f a0 a1 n = some (mayN a0 a1 n) := by
  have : ∃ r, ident_May.f a0 a1 n = some r := by
    unfold ident_May.f
    repeat (first | exact ⟨_, rfl⟩ | split)
  obtain ⟨r, hr⟩ := this
  unfold mayN
  rw [hr]
  rfl
theorem mayN_lt {a0 a1 n : Int} (h0 : 0 ≤ a0) (h1 : a0 ≤ 255) (h : mayN a0 a1 n = true) : a0 < n := by
  unfold mayN ident_May.f at h
  by_cases hc : wrap64 a0 < mn n 64
  · have e : wrap64 a0 = a0 := by unfold wrap64; omega
    rw [e] at hc
    unfold mn at hc
    split at hc <;> omega
  · rw [if_neg hc] at h
    cases h
def holdX (a0 a1 : Int) (x : X) : Bool := !x.f3 && decide (x.f2.getD a0.toNat 0 ≥ a1)
def holdN (a0 a1 : Int) : Nat → List X → List Int
  | _, [] => []
  | p, x :: l => (if holdX a0 a1 x = true then [(p : Int)] else []) ++ holdN a0 a1 (p + 1) l
def holders (L : List X) (a0 a1 : Int) : List Int := if mayN a0 a1 L.length = true then holdN a0 a1 0 L else []
theorem holdN_append (a0 a1 : Int) : ∀ (l m : List X) (p : Nat), holdN a0 a1 p (l ++ m) = holdN a0 a1 p l ++ holdN a0 a1 (p + l.length) m
  | [], m, p => by simp [holdN]
  | x :: l, m, p => by
    rw [List.cons_append, holdN, holdN, holdN_append a0 a1 l m (p + 1), List.append_assoc, List.length_cons, show p + 1 + l.length = p + (l.length + 1) by omega]
theorem holdN_len (a0 a1 : Int) : ∀ (l : List X) (p : Nat), (holdN a0 a1 p l).length ≤ l.length
  | [], p => by simp [holdN]
  | x :: l, p => by
    rw [holdN, List.length_append, List.length_cons]
    have := holdN_len a0 a1 l (p + 1)
    split <;> simp <;> omega
theorem holdN_snoc {a0 a1 : Int} {L : List X} {j : Nat} {x : X} (h : L[j]? = some x) : holdN a0 a1 0 (L.take (j + 1)) = holdN a0 a1 0 (L.take j) ++ if holdX a0 a1 x = true then [(j : Int)] else [] := by
  have hj : j < L.length := (List.getElem?_eq_some_iff.1 h).1
  rw [List.take_add_one, h, Option.toList_some, holdN_append, List.length_take, Nat.min_eq_left (by omega), Nat.zero_add]
  simp [holdN]
abbrev tI64 : Nat := 3
theorem infoI64 : (Try.prog.info? tI64).map (fun i => (i.zero, i.size, i.bytes)) = some (some (.int .i64 0), 1, 8) := by kernel_rfl
section
variable {w : World} {S : Nat → Prop} {g rb cp : Nat} {L : List X}
set_option maxHeartbeats 4000000 in
theorem Holders_calls (h : Mat w S g rb cp L) (a0 a1 : Int) (ha0 : 0 ≤ a0) (ha1 : a0 ≤ 255) : Calls Try.prog 15 #[.pointer (some ⟨g, 0, none⟩), .agg #[.int .u8 a0, .int .u64 a1]] w fun e w' => ∃ v, e = .returned v ∧ Kd.R (Kd.int .i64) tI64 w' w.heap.size (fun _ => True) v (holders L a0 a1) ∧ Below w.heap.size w w' := by
  obtain ⟨hcp, K, hK0, hC, hv⟩ := h.views
  have A1 := Aside0.mk (All2.of_get hK0 hv)
  have C1 := Aside0.mk hC
  have HK := Aside0.mk hK0
  have OK := Aside0.mk h.ok
  have hn2 := h.ok.n2
  have hu := Try.underlying33
  obtain ⟨r, hr⟩ : ∃ r, mayN a0 a1 L.length = r := ⟨_, rfl⟩
  have MC : Aside0 (∀ W, Calls Try.prog 30 #[.agg #[.int .u8 a0, .int .u64 a1], .int .i64 (L.length : Int)] W fun e w' => e = .returned (.bool r) ∧ Below W.heap.size W w') := ⟨fun W => ident_May.calls a0 a1 L.length r W (by rw [mayN_f, hr])⟩
  have BX := Aside0.mk (blk_new w (.cells #[.int .u8 a0, .int .u64 a1] 33))
  have B1 : Aside0 (Below w.heap.size w (w.alloc (.cells #[.int .u8 a0, .int .u64 a1] 33))) := ⟨below_alloc (Below.refl _ _) _⟩
  have M1 := Aside0.mk (h.below B1.out)
  have hgb : g < w.heap.size := blk_lt h.blk
  clear h hv hC hK0
  cases r with
  | false =>
    have EH : Aside0 (holders L a0 a1 = []) := ⟨if_neg (by rw [hr]; decide)⟩
    go_enter Try.func15, Try.ntmps15
    go_upto_region 2 with (fail)
    generalize w.alloc (.cells #[.int .u8 a0, .int .u64 a1] 33) = w1 at BX B1 M1 ⊢
    have c0 := fun d os => cell_regrown M1.out.cell d os
    have x0' : w1.cell? ⟨w.heap.size, 0, none⟩ = some (.int .u8 a0) := (blk_cell BX.out 0).trans rfl
    have x1' : w1.cell? ⟨w.heap.size, 1, none⟩ = some (.int .u64 a1) := (blk_cell BX.out 1).trans rfl
    have X0 := fun d os => cell_regrown x0' d os
    have X1 := fun d os => cell_regrown x1' d os
    clear x0' x1'
    refine wp_region_quiet_below (by kernel_rfl) (by kernel_rfl) ?_
    repeat (go_big_quiet_step ((go_at_call 30; exact Calls.regrown_of (MC.out _))))
    refine wpQuiet_nil ?_
    intro _ hw'
    obtain ⟨⟨dq, osq⟩, hw''⟩ := hw'
    subst hw''
    have B2 := Aside0.mk (below_step B1.out (below_regrown w1 dq osq))
    go_wp2_with fail
    go_ret
    rw [EH.out]
    exact ⟨_, rfl, Kd.R_nil _ _ _ _ _, B2.out⟩
  | true =>
    have EH : Aside0 (holders L a0 a1 = holdN a0 a1 0 L) := ⟨if_pos hr⟩
    have hlt0 := mayN_lt ha0 ha1 hr
    go_enter Try.func15, Try.ntmps15
    go_upto_region 2 with (fail)
    generalize w.alloc (.cells #[.int .u8 a0, .int .u64 a1] 33) = w1 at BX B1 M1 ⊢
    have c0 := fun d os => cell_regrown M1.out.cell d os
    have x0' : w1.cell? ⟨w.heap.size, 0, none⟩ = some (.int .u8 a0) := (blk_cell BX.out 0).trans rfl
    have x1' : w1.cell? ⟨w.heap.size, 1, none⟩ = some (.int .u64 a1) := (blk_cell BX.out 1).trans rfl
    have X0 := fun d os => cell_regrown x0' d os
    have X1 := fun d os => cell_regrown x1' d os
    clear x0' x1'
    refine wp_region_quiet_below (by kernel_rfl) (by kernel_rfl) ?_
    repeat (go_big_quiet_step ((go_at_call 30; exact Calls.regrown_of (MC.out _))))
    refine wpQuiet_nil ?_
    intro _ hw'
    obtain ⟨⟨dq, osq⟩, hw''⟩ := hw'
    subst hw''
    have B2 := Aside0.mk (below_step B1.out (below_regrown w1 dq osq))
    have BX2 := Aside0.mk (blk_below BX.out (below_regrown w1 dq osq))
    have M2 := Aside0.mk (M1.out.below (below_regrown w1 dq osq))
    generalize grow (redrawn w1 dq) osq = w2 at B2 BX2 M2 ⊢
    have c1 := M2.out.cell
    clear c0 X0 X1
    go_wp2_with fail
    go_loopg [5, 26] L.length (fun gg s5 s26 wr => ∃ j : Nat, s26 = .int .i64 j ∧ j ≤ L.length ∧ L.length - j ≤ gg ∧ Aside0 (Below w2.heap.size w2 wr) ∧ Aside0 (Kd.R (Kd.int .i64) tI64 wr w2.heap.size (fun _ => True) s5 (holdN a0 a1 0 (L.take j))))
    case atStart => exact ⟨0, rfl, Nat.zero_le _, by omega, ⟨Below.refl _ _⟩, ⟨by rw [List.take_zero]; exact Kd.R_nil _ _ _ _ _⟩⟩
    case round =>
      obtain ⟨j, rfl, hj, hgg, HB, RO⟩ := hrel
      by_cases hlt : j < L.length
      · have hltz : (j : Int) < (L.length : Int) := by omega
        have HXL : Aside0 (L[j]? = some L[j]) := ⟨List.getElem?_eq_getElem hlt⟩
        have xo := OK.out.row L[j] (List.getElem_mem hlt)
        obtain ⟨A1', d1, A2', d2, ⟨q0, q1, q2, q3⟩, _, _, r2⟩ := (M2.out.below HB.out).elem HXL.out
        have ES := Aside0.mk (holdN_snoc (a0 := a0) (a1 := a1) HXL.out)
        generalize L[j] = x at HXL xo q0 q1 q2 q3 r2 ES
        have hx2 := xo.l2
        obtain ⟨_, hd2, hC2⟩ := Kd.R_reads' r2
        rw [hx2] at q2 hC2 hd2
        obtain ⟨ad, cc, e, hcl, hKK, hcc⟩ := Kd.C_get hC2 0 a0 ha0 hlt0
        cases e
        obtain ⟨y, hy⟩ : ∃ y, x.f2.getD a0.toNat 0 = y := ⟨_, rfl⟩
        rw [hy] at hKK
        obtain rfl := hKK
        have p0 := hcc 0 _ rfl
        have hwj : IntKind.i64.wrap ((j : Int) + 1) = ((j + 1 : Nat) : Int) := by rw [IntKind.wrap_i64]; omega
        have p1 : wr.cell? (ad.add a0.toNat) = some (.int .u64 y) := by
          have := p0
          rwa [show a0.toNat * (Kd.int .u64).sz + 0 = a0.toNat from Nat.mul_one _] at this
        have HH : Aside0 (holdX a0 a1 x = (!x.f3 && decide (y ≥ a1))) := ⟨by unfold holdX; rw [hy]⟩
        obtain ⟨Ao, co, rfl⟩ := Kd.R_slice RO.out
        have HLN : Aside0 ((holdN a0 a1 0 (L.take j)).length ≤ 64) := ⟨by have := holdN_len a0 a1 (L.take j) 0; rw [List.length_take] at this; omega⟩
        obtain ⟨No, hNo⟩ : ∃ No, No = (holdN a0 a1 0 (L.take j)).length := ⟨_, rfl⟩
        rw [← hNo] at RO ⊢
        clear hcc hcl hC2 hd2 r2 p0 hy xo hx2 hNo
        go_upto_region 7 with (fail)
        have BXq : Aside0 ((wr.alloc (.cells #[.int .u64 x.f0, .slice A1' x.f1.length d1, .slice (some ad) L.length d2, .bool x.f3] tX)).heap[wr.heap.size]? = some (.cells #[.int .u64 x.f0, .slice A1' x.f1.length d1, .slice (some ad) L.length d2, .bool x.f3] tX (0, 0))) := ⟨blk_new wr _⟩
        have BQ : Aside0 (Below w2.heap.size w2 (wr.alloc (.cells #[.int .u64 x.f0, .slice A1' x.f1.length d1, .slice (some ad) L.length d2, .bool x.f3] tX))) := ⟨below_alloc HB.out _⟩
        have RQ := Aside0.mk (Kd.R_alloc RO.out (.cells #[.int .u64 x.f0, .slice A1' x.f1.length d1, .slice (some ad) L.length d2, .bool x.f3] tX))
        have p2 := pw_cell_below (below_alloc (Below.refl wr.heap.size wr) (.cells #[.int .u64 x.f0, .slice A1' x.f1.length d1, .slice (some ad) L.length d2, .bool x.f3] tX)) p1
        generalize wr.alloc (.cells #[.int .u64 x.f0, .slice A1' x.f1.length d1, .slice (some ad) L.length d2, .bool x.f3] tX) = wq at BXq BQ RQ p2 ⊢
        have e2 : wq.cell? ⟨wr.heap.size, 2, none⟩ = some (.slice (some ad) L.length d2) := (blk_cell BXq.out 2).trans rfl
        have e3 : wq.cell? ⟨wr.heap.size, 3, none⟩ = some (.bool x.f3) := (blk_cell BXq.out 3).trans rfl
        have BXI := Aside0.mk (blk_below BX2.out BQ.out)
        have i0 : wq.cell? ⟨w.heap.size, 0, none⟩ = some (.int .u8 a0) := (blk_cell BXI.out 0).trans rfl
        have i1 : wq.cell? ⟨w.heap.size, 1, none⟩ = some (.int .u64 a1) := (blk_cell BXI.out 1).trans rfl
        clear q0 q1 q2 q3 p1 RO
        cases hgx : x.f3 with
        | true =>
          have ES2 : Aside0 (holdN a0 a1 0 (L.take (j + 1)) = holdN a0 a1 0 (L.take j)) := ⟨by rw [ES.out, HH.out, hgx]; simp⟩
          rw [hgx] at e3
          go_quiet (fail)
          have B7 := Aside0.mk (pw_below_drewN BQ.out nq)
          have R7 := Aside0.mk (Kd.R_drewN RQ.out nq)
          go_wp2_with fail
          go_roundg (L.length - (j + 1))
          case measure => omega
          case rel => exact ⟨j + 1, by go_num, by omega, Nat.le_refl _, B7, ⟨by rw [ES2.out]; exact R7.out⟩⟩
        | false =>
          rw [hgx] at e3
          by_cases hya : y ≥ a1
          · have ES2 : Aside0 (holdN a0 a1 0 (L.take (j + 1)) = holdN a0 a1 0 (L.take j) ++ [(j : Int)]) := ⟨by rw [ES.out, HH.out, hgx]; simp [hya]⟩
            go_quiet (fail)
            have BQ := Aside0.mk (pw_below_drewN BQ.out nq)
            have RQ := Aside0.mk (Kd.R_drewN RQ.out nq)
            generalize wq.drewN nq = wz at BQ RQ ⊢
            go_upto_region 8 with (fail)
            go_wp2_with ((with_reducible refine gate_dst (N := 48) rfl ?_); refine Kd.R_append (Kd.int .i64) (w0 := w2) w2.heap.size rfl (.tmp 45) (.tmp 47) 31 tI64 (.int .i64 0) 8 rfl Try.underlying31 infoI64 rfl (by decide) (by decide) (.slice Ao No co) (holdN a0 a1 0 (L.take j)) (j : Int) [.int .i64 j] (fun _ => True) (fun _ => False) rfl rfl rfl (fun _ hk => hk.elim) (fun _ _ => trivial) RQ.out BQ.out BQ.out.size (by have := HLN.out; omega) ?_; intro v1 w6 ho hb hg hat; have RO6 := Aside0.mk ho; have B6 := Aside0.mk hb; clear ho hb hg hat)
            go_roundg (L.length - (j + 1))
            case measure => omega
            case rel => exact ⟨j + 1, by go_num, by omega, Nat.le_refl _, B6, ⟨by rw [ES2.out]; exact RO6.out⟩⟩
          · have ES2 : Aside0 (holdN a0 a1 0 (L.take (j + 1)) = holdN a0 a1 0 (L.take j)) := ⟨by rw [ES.out, HH.out, hgx]; simp [hya]⟩
            go_quiet (fail)
            have B7 := Aside0.mk (pw_below_drewN BQ.out nq)
            have R7 := Aside0.mk (Kd.R_drewN RQ.out nq)
            go_wp2_with fail
            go_roundg (L.length - (j + 1))
            case measure => omega
            case rel => exact ⟨j + 1, by go_num, by omega, Nat.le_refl _, B7, ⟨by rw [ES2.out]; exact R7.out⟩⟩
      · obtain rfl : j = L.length := by omega
        have hltz : ¬ (L.length : Int) < (L.length : Int) := by omega
        have RO2 : Aside0 (Kd.R (Kd.int .i64) tI64 wr w.heap.size (fun _ => True) _ (holdN a0 a1 0 L)) := ⟨Kd.R_lower (by have := RO.out; rwa [List.take_length] at this) B2.out.size⟩
        have BW := Aside0.mk (below_step B2.out HB.out)
        go_wp2_with fail
        go_ret
        rw [EH.out]
        exact ⟨_, rfl, RO2.out, BW.out⟩
end

end Go.Proofs.Ytncofecfljocgaa.Walk
