/- Of unlike chunks as many are put in as there is room for. Conditions: none beyond the statement's own. -/
import Derived.Test.YtiiajenhjamjdaaWalkNil
import Derived.Test.YtiiajenhjamjdaaArgs
import Derived.Deep.QuietTactic
import Derived.BigQuiet
import Derived.Lib.QuietBelow
import Derived.Outline
import Derived.Deep.RegionHeld3
import Derived.Deep.CutRange
namespace Go.Proofs.Ytiiajenhjamjdaa.Walk
open Go.RowKit Go.Proofs.Ytiiajenhjamjdaa.F Go.Proofs.YtiiajenhjamjdaaW.PrintWords Go.Proofs.YtiiajenhjamjdaaW.PrintLast Go.Proofs.YtiiajenhjamjdaaW.PrintMore Go.Proofs.Ytiiajenhjamjdaa.Open
open Go.Sort (grow)
attribute [local go_sem] max2_int min2_int max_two min_two max_three min_three max_four min_four
set_option linter.unusedVariables false
set_option linter.unusedSimpArgs false

/-! ### Chunks that are unlike -/
def fr (k : Nat) : List Fr := (List.range k).map fun i : Nat => pa (i : Int)
theorem fr_len (k : Nat) : (fr k).length = k := by simp [fr]
theorem fr_succ (k : Nat) : fr (k + 1) = fr k ++ [pa (k : Int)] := by simp [fr, List.range_succ]
theorem fr_get {k i : Nat} (h : i < k) : (fr k)[i]? = some (pa (i : Int)) := by simp [fr, h]
theorem fr_new {j m : Nat} (h : j ≤ m) : hasP (fr j) (pl (pa (m : Int))) = false := by
  cases hc : hasP (fr j) (pl (pa (m : Int))) with
  | false => rfl
  | true =>
    obtain ⟨f, hf, e⟩ := hasP_mem.1 hc
    simp only [fr, List.mem_map, List.mem_range] at hf
    obtain ⟨i, hi, rfl⟩ := hf
    simp only [pl, pa, pf, Prod.mk.injEq] at e
    omega
theorem putQ_fr {n : Nat} : ∀ m : Nat, putQ n [] 0 (fr m) = (fr (min m n), ((m - min m n : Nat) : Int), min m n)
  | 0 => by simp [putQ, fr]
  | m + 1 => by
    have ih := putQ_fr (n := n) m
    unfold putQ at ih ⊢
    rw [fr_succ, List.foldl_append, ih]
    simp only [List.foldl_cons, List.foldl_nil, put1]
    rw [if_neg (by rw [fr_new (by omega)]; decide), fr_len]
    by_cases h : n ≤ min m n
    · rw [if_pos h, show min (m + 1) n = min m n by omega]
      refine Prod.ext rfl (Prod.ext ?_ rfl)
      dsimp only
      omega
    · rw [if_neg h, show min (m + 1) n = m + 1 by omega, show min m n = m by omega, ← fr_succ]
      refine Prod.ext rfl (Prod.ext ?_ rfl)
      dsimp only
      omega
theorem pa_M (W : World) (base : Nat) (ok : Nat → Prop) (a : Int) : kF.M W base ok (pa a) (pac a) :=
  k37_mkM W base ok (pa a) (Kd.R_nil _ _ _ _ _) (Kd.R_nil _ _ _ _ _) (Kd.R_nil _ _ _ _ _) (Kd.R_nil _ _ _ _ _) (Kd.R_nil _ _ _ _ _)
theorem R_empty {α : Type} (d : Kd α) {e : TypeId} {W : World} {base : Nat} {ok : Nat → Prop} {b : Nat} (hb : W.heap[b]? = some (.cells #[] e (0, 0))) (hbb : base ≤ b) (hok : ok b) : d.R e W base ok (.slice (some ⟨b, 0, none⟩) 0 0) [] := by
  refine ⟨fun k hk => ?_, [], ⟨by simp, .inr ⟨b, 0, #[], rfl, hbb, hb, Nat.le_refl _, by decide, by simp, by simp⟩⟩, Reps.none _ _⟩
  have : b = k := by simpa [Value.ownBlock] using hk
  exact this ▸ hok
set_option maxHeartbeats 4000000 in
theorem RelayRoom (a0 a1 : Int) (w : World) (w0 : (Lit.int .i64 a0).wf = true) (w1 : (Lit.int .u8 a1).wf = true) :
    Calls Try.prog 4 #[.int .i64 a0, .int .u8 a1] w fun e w' => e = .returned (.bool true) ∧ Below w.heap.size w w' := by
  have h1 : 0 ≤ a1 ∧ a1 ≤ 255 := by
    simp only [Lit.wf, Bool.and_eq_true, decide_eq_true_eq, show IntKind.u8.min = 0 from rfl, show IntKind.u8.max = 255 from rfl] at w1
    exact w1
  obtain ⟨m, rfl⟩ : ∃ m : Nat, a1 = m := ⟨a1.toNat, by omega⟩
  clear w0 w1
  have hmi : IntKind.i64.wrap (m : Int) = m := by rw [IntKind.wrap_i64]; omega
  by_cases hm : (m : Int) > 200
  · have _hm := hm
    go_enter Try.func4, Try.ntmps4
    go_wp2_with fail
    refine (awake_calls _).mono ?_
    rintro e w1 ⟨rfl, hb⟩
    have B1 := Aside0.mk hb
    clear hb
    go_wp2_with fail
    go_ret
    exact ⟨rfl, B1.out⟩
  · have _hm := hm
    go_enter Try.func4, Try.ntmps4
    go_wp2_with fail
    have N0 : Aside0 (Kd.R kF eF (w.alloc (.cells #[] eF)) w.heap.size (fun k => w.heap.size ≤ k) (.slice (some ⟨w.heap.size, 0, none⟩) 0 0) (fr 0)) := ⟨R_empty kF (blk_new w _) (Nat.le_refl _) (Nat.le_refl _)⟩
    have C0 : Aside0 (Below w.heap.size w (w.alloc (.cells #[] eF))) := ⟨below_alloc (Below.refl _ _) _⟩
    generalize w.alloc (.cells #[] eF) = w1 at N0 C0 ⊢
    go_loopg [5, 6] m (fun gg s5 s6 wr => ∃ i : Nat, s6 = .int .i64 i ∧ i ≤ m ∧ m - i ≤ gg ∧ Aside0 (Kd.R kF eF wr w.heap.size (fun k => w.heap.size ≤ k) s5 (fr i)) ∧ Aside0 (Below w.heap.size w wr))
    case atStart => exact ⟨0, rfl, Nat.zero_le _, by omega, N0, C0⟩
    case round =>
      obtain ⟨i, rfl, hi, hgg, RO, BO⟩ := hrel
      by_cases hlt : i < m
      · have hltz : (i : Int) < (m : Int) := by omega
        have hwi : IntKind.i64.wrap ((i : Int) + 1) = ((i + 1 : Nat) : Int) := by rw [IntKind.wrap_i64]; omega
        have hu : IntKind.u32.wrap (i : Int) = (i : Int) := by rw [IntKind.wrap_u32]; omega
        obtain ⟨Ao, co, rfl⟩ := Kd.R_slice RO.out
        rw [fr_len] at RO ⊢
        go_wp2_with ((with_reducible refine gate_dst (N := 26) rfl ?_); refine Kd.R_append kF (w0 := w) w.heap.size rfl (.tmp 21) (.tmp 25) 39 eF _ 184 rfl Try.underlying39 info37 rfl (by decide) (by decide) (.slice Ao i co) (fr i) (pa (i : Int)) (pac (i : Int)) (fun k => w.heap.size ≤ k) (fun _ => False) rfl rfl (pa_M _ _ _ _) (fun _ hk => hk.elim) (fun k hk => Nat.le_trans BO.out.size hk) RO.out BO.out BO.out.size (by rw [fr_len]; omega) ?_; intro v1 w5 ho5 hb5 hg5 hat5; have R5 := Aside0.mk ho5; have B5 := Aside0.mk hb5; clear ho5 hb5 hg5 hat5)
        rw [← fr_succ] at R5
        go_roundg (m - (i + 1))
        case measure => omega
        case rel => exact ⟨i + 1, by go_num, by omega, Nat.le_refl _, R5, B5⟩
      · obtain rfl : i = m := by omega
        obtain ⟨Ao, co, rfl⟩ := Kd.R_slice RO.out
        rw [fr_len] at RO ⊢
        have hltz : ¬ (i : Int) < (i : Int) := by omega
        have RF := Aside0.mk (Kd.R_F RO.out)
        have BW := Aside0.mk BO.out
        clear RO BO N0 C0
        go_wp2_with fail
        refine (New_calls a0 _).mono ?_
        rintro e w2 ⟨g, mb, rfl, hQ, hb⟩
        have Q2 := Aside0.mk hQ.bound
        have B2 := Aside0.mk hb
        have RF2 := Aside0.mk (Kd.F_below (Kd.F_bound RF.out) hb)
        have BW2 := Aside0.mk (below_step BW.out hb)
        have BO' : Aside0 (w.heap.size ≤ wr.heap.size) := ⟨BW.out.size⟩
        have QS : Aside0 (w.heap.size ≤ g ∧ w.heap.size ≤ mb) := ⟨Nat.le_trans BW.out.size hQ.S_g, Nat.le_trans BW.out.size hQ.S_m⟩
        clear hQ hb RF BW
        obtain ⟨mm, hmm⟩ : ∃ mm : Int, mm = if 4096 < a0 then 4096 else a0 := ⟨_, rfl⟩
        have hmin : Builtin.min2 (.int .i64 a0) (.int .i64 4096) = pure (.int .i64 mm) := by
          rw [min2_int]
          congr 2
          rw [hmm]
        have hmax : Builtin.max2 (.int .i64 1) (.int .i64 mm) = pure (.int .i64 (rn a0 : Nat)) := by
          rw [max2_int]
          congr 2
          rw [hmm]
          unfold rn
          repeat (first | rfl | omega | split)
        clear hmm
        obtain ⟨k, hk⟩ : ∃ k, k = min i (rn a0) := ⟨_, rfl⟩
        have hmin2 : Builtin.min2 (.int .i64 (i : Int)) (.int .i64 (rn a0 : Nat)) = pure (.int .i64 (k : Int)) := by
          rw [min2_int]
          congr 2
          rw [hk]
          split <;> omega
        have hki : k ≤ i := by omega
        have hwik : IntKind.i64.wrap ((i : Int) - (k : Int)) = ((i - k : Nat) : Int) := by rw [IntKind.wrap_i64]; omega
        have PQ := Put_calls (A := Ao) (c := co) Q2.out (fr i) (fun w' hw' => by
          rw [fr_len]
          exact Kd.F_now (Kd.F_step RF2.out (fun k hk hlt => hw'.block k hlt (fun hS => by have h1 := hk.2; have h2 := hS.1; omega)))) (fun x hx => by
            simp only [fr, List.mem_map, List.mem_range] at hx
            obtain ⟨j, hj, rfl⟩ := hx
            exact pa_fin (by omega)) (by rw [fr_len]; omega)
        rw [fr_len, putQ_fr, ← hk] at PQ
        dsimp only at PQ
        have PQ := Aside0.mk PQ
        clear Q2 RF2 hk
        go_wp2_with fail
        refine PQ.out.mono ?_
        rintro e w3 ⟨rfl, ⟨v3, hq⟩, hb⟩
        obtain ⟨A3, c3, rfl, hqt⟩ := hq.bound.qt
        have LEN := Aside0.mk (Len_calls hq)
        have LST := Aside0.mk (Lost_calls hq)
        have QT3 := Aside0.mk hqt
        have B3 := Aside0.mk (Beside.step BW2.out hb (fun k hk => Nat.le_trans BO'.out hk.1))
        rw [fr_len] at LEN
        clear hq hb hqt PQ BW2
        go_wp2_with fail
        refine LEN.out.mono ?_
        rintro e w4 ⟨rfl, rfl⟩
        go_wp2_with fail
        refine LST.out.mono ?_
        rintro e w5 ⟨rfl, rfl⟩
        clear LEN LST
        have TK := Take_calls QT3.out (fun k hk => hk.2) 200 (by rw [fr_len]; omega)
        rw [List.take_of_length_le (by rw [fr_len]; show k ≤ 200; omega), List.drop_of_length_le (by rw [fr_len]; show k ≤ 200; omega)] at TK
        have TK := Aside0.mk TK
        go_wp2_with fail
        refine TK.out.mono ?_
        rintro e w6 ⟨v6, rfl, hN, ⟨A6, c6, hq6⟩, hb⟩
        obtain ⟨Av, cv, rfl⟩ := Kd.N_slice hN
        rw [fr_len] at hN ⊢
        have FR := Aside0.mk (Kd.N_F hN)
        have LEN := Aside0.mk (QLen_calls hq6)
        have B6 := Aside0.mk (Beside.step B3.out hb (fun b hb => by
          rcases hb with hb | hb
          · rw [hb]; exact QS.out.1
          · rw [hb]; exact QS.out.2))
        clear hN hq6 hb TK QT3 B3
        have hk200 : k ≤ 200 := by omega
        go_wp2_with fail
        go_loopg [10] k (fun gg s10 wz => wz = w6 ∧ ∃ j : Nat, s10 = .int .i64 j ∧ j ≤ k ∧ k - j ≤ gg)
        case atStart => exact ⟨rfl, 0, rfl, Nat.zero_le _, by omega⟩
        case round =>
          obtain ⟨rfl, j, rfl, hj, hgg⟩ := hrel
          by_cases hlt : j < k
          · have hltz : (j : Int) < (k : Int) := by omega
            have hwj : IntKind.i64.wrap ((j : Int) + 1) = ((j + 1 : Nat) : Int) := by rw [IntKind.wrap_i64]; omega
            have hu : IntKind.u32.wrap (j : Int) = (j : Int) := by rw [IntKind.wrap_u32]; omega
            obtain ⟨x, ad, A11, c11, A12, c12, A13, c13, A14, c14, A15, c15, hx, rfl, hK, k0, k1, k2, k3, k4, k5, k6, k7, k8, k9, k10, k11, k12, k13, k14, k15⟩ := at_F FR.out (j : Int) (by omega) hltz
            have hx3 : x.f3 = (j : Int) := by
              rw [hx]
              unfold rd_T37
              rw [Int.toNat_natCast, List.getD_eq_getElem?_getD, fr_get hlt]
              rfl
            rw [hx3, Int.toNat_natCast] at k6
            clear k0 k1 k2 k3 k4 k5 k7 k8 k9 k10 k11 k12 k13 k14 k15 hK hx
            go_wp2_with fail
            go_roundg (k - (j + 1))
            case measure => omega
            case rel => exact ⟨rfl, j + 1, by go_num, by omega, Nat.le_refl _⟩
          · obtain rfl : j = k := by omega
            have hltz : ¬ (j : Int) < (j : Int) := by omega
            go_wp2_with fail
            refine LEN.out.mono ?_
            rintro e w7 ⟨rfl, rfl⟩
            go_wp2_with fail
            refine (awake_calls _).mono ?_
            rintro e w8 ⟨rfl, hb⟩
            have B8 := Aside0.mk (below_step B6.out hb)
            clear hb
            go_wp2_with fail
            go_ret
            exact ⟨rfl, B8.out⟩

end Go.Proofs.Ytiiajenhjamjdaa.Walk
