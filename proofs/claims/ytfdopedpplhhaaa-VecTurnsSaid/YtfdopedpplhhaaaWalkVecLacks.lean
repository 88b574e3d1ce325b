/- A vector falls short of another one just if it doesn't cover it; of the greatest numbers of both by as much as of the other one. Conditions: none beyond the statement's own. -/
import Derived.Test.YtfdopedpplhhaaaWalkPure
import Derived.Test.YtfdopedpplhhaaaArgs
import Derived.Deep.QuietTactic
import Derived.BigQuiet
import Derived.Lib.QuietBelow
import Derived.Outline
import Derived.Deep.RegionHeld3
import Derived.Deep.CutRange
namespace Go.Proofs.Ytfdopedpplhhaaa.Walk
open Go.RowKit Go.Proofs.Ytfdopedpplhhaaa.F Go.Proofs.YtfdopedpplhhaaaW.PrintWords Go.Proofs.YtfdopedpplhhaaaW.PrintLast Go.Proofs.YtfdopedpplhhaaaW.PrintMore Go.Proofs.Ytfdopedpplhhaaa.Open
open Go.Sort (grow)
attribute [local go_sem] max2_int min2_int max_two min_two max_three min_three max_four min_four
set_option linter.unusedVariables false
set_option linter.unusedSimpArgs false

theorem heads1 {α : Type} {e t : Nat} {d : Kd α} {w : World} (A : Option Addr) (c : Nat) (l : List α) (hc : l.length ≤ c) (h : d.C w A l.length l) : (Kd.slice e d).C (w.alloc (.cells #[.slice A l.length c] t)) (some ⟨w.heap.size, 0, none⟩) 1 [l] :=
  C_heads [(A, c, l)] (t := t) (blk_new w _) (by simp) (by
    intro r hr
    simp only [List.mem_cons, List.not_mem_nil, or_false] at hr
    subst hr
    exact ⟨hc, Kd.C_alloc h _⟩)
theorem heads2 {α : Type} {e t : Nat} {d : Kd α} {w : World} (A : Option Addr) (c : Nat) (l : List α) (B : Option Addr) (c' : Nat) (m : List α) (hc : l.length ≤ c) (h : d.C w A l.length l) (hc' : m.length ≤ c') (h' : d.C w B m.length m) : (Kd.slice e d).C (w.alloc (.cells #[.slice A l.length c, .slice B m.length c'] t)) (some ⟨w.heap.size, 0, none⟩) 2 [l, m] :=
  C_heads [(A, c, l), (B, c', m)] (t := t) (blk_new w _) (by simp) (by
    intro r hr
    simp only [List.mem_cons, List.not_mem_nil, or_false] at hr
    rcases hr with rfl | rfl
    · exact ⟨hc, Kd.C_alloc h _⟩
    · exact ⟨hc', Kd.C_alloc h' _⟩)
theorem cov1 (a b : List Int) (ha : u64s a) (la : a.length ≤ 1000) (lb : b.length ≤ 1000) : vec_Covers.f a [b] = some (decide (covv a b)) := by
  have ok : okV [b] := ⟨by simp, by simp [longest]; exact lb⟩
  unfold vec_Covers.f
  rw [if_pos ⟨la, ok⟩]
  simp [eachAll, cov_iff a b ha]
theorem max2v (a b : List Int) (la : a.length ≤ 1000) (lb : b.length ≤ 1000) : vec_Max.f [a, b] = some (maxv a b) := if_pos ⟨by simp, by simp [longest]; omega⟩
set_option maxHeartbeats 1000000 in
theorem VecLacks (A0 : Option Addr) (c0 : Nat) (l0 : List Int) (A1 : Option Addr) (c1 : Nat) (l1 : List Int) (w : World) (hr0 : Kd.C (Kd.int .u64) w A0 l0.length l0) (hc0 : l0.length ≤ c0) (hr1 : Kd.C (Kd.int .u64) w A1 l1.length l1) (hc1 : l1.length ≤ c1)
    (w0 : l0.length ≤ maxLen ∧ ∀ x ∈ l0, (Lit.int .u64 x).wf = true) (w1 : l1.length ≤ maxLen ∧ ∀ x ∈ l1, (Lit.int .u64 x).wf = true) :
    Calls Try.prog 6 #[.slice A0 l0.length c0, .slice A1 l1.length c1] w fun e w' => e = .returned (.bool true) ∧ Below w.heap.size w w' := by
  have HR0 := Aside0.mk hr0
  have HC0 := Aside0.mk hc0
  have HR1 := Aside0.mk hr1
  have HC1 := Aside0.mk hc1
  have U0 := Aside0.mk (wf_u64s w0.2)
  have U1 := Aside0.mk (wf_u64s w1.2)
  have AW := Aside0.mk awake_eq
  clear hr0 hc0 hr1 hc1 w0 w1
  have far : ∀ b0 b1, (decide ((100 : Int) < l0.length) = b0) → (b0 = false → decide ((100 : Int) < l1.length) = b1) → (b0 = true ∨ b1 = true) →
      Calls Try.prog 6 #[.slice A0 l0.length c0, .slice A1 l1.length c1] w fun e w' => e = .returned (.bool true) ∧ Below w.heap.size w w' := by
    intro b0 b1 h0 h1 h
    cases b0
    · obtain rfl : b1 = true := by rcases h with h | h; cases h; exact h
      have h1 := h1 rfl
      clear h
      go_enter Try.func6, Try.ntmps6
      go_wp2_with fail
      refine (unisonlaw04_awake.calls true _ AW.out).mono ?_
      rintro e w1 ⟨rfl, hb⟩
      have B1 := Aside0.mk hb
      clear hb
      go_wp2_with fail
      go_ret
      exact ⟨rfl, B1.out⟩
    · clear h h1
      go_enter Try.func6, Try.ntmps6
      go_wp2_with fail
      refine (unisonlaw04_awake.calls true _ AW.out).mono ?_
      rintro e w1 ⟨rfl, hb⟩
      have B1 := Aside0.mk hb
      clear hb
      go_wp2_with fail
      go_ret
      exact ⟨rfl, B1.out⟩
  by_cases h0 : (100 : Int) < l0.length
  · exact far true true (decide_eq_true h0) (fun h => by cases h) (Or.inl rfl)
  · by_cases h1 : (100 : Int) < l1.length
    · exact far false true (decide_eq_false h0) (fun _ => decide_eq_true h1) (Or.inr rfl)
    · clear far
      have h0' := decide_eq_false h0
      have h1' := decide_eq_false h1
      have L0 : l0.length ≤ 1000 := by omega
      have L1 : l1.length ≤ 1000 := by omega
      have LM : (maxv l0 l1).length ≤ 1000 := by rw [maxv_len]; omega
      have F1 := Aside0.mk (Lack_eq l0 l1 L1 U0.out U1.out 2000 (by omega))
      have F2 := Aside0.mk (cov1 l0 l1 U0.out L0 L1)
      have F3 := Aside0.mk (max2v l0 l1 L0 L1)
      have F4 := Aside0.mk (Lack_eq l0 (maxv l0 l1) LM U0.out (maxv_u64 U0.out U1.out) 2000 (by omega))
      have F5 := Aside0.mk (Lack_eq (maxv l0 l1) l1 L1 (maxv_u64 U0.out U1.out) U1.out 2000 (by omega))
      rw [lack_max l0 l1 U0.out U1.out] at F4
      rw [lack_of_max l0 l1 U0.out U1.out] at F5
      have F6 : Aside0 ((lackFrom l0 0 0 l1 == 0) = decide (covv l0 l1)) := ⟨by
        rw [Bool.eq_iff_iff, beq_iff_eq, decide_eq_true_iff]
        exact lack_zero l0 l1⟩
      rw [← F6.out] at F2
      clear F6 h0 h1
      generalize lackFrom l0 0 0 l1 = n at *
      generalize maxv l0 l1 = m at *
      go_enter Try.func6, Try.ntmps6
      go_wp2_with fail
      refine (vec_Lack.calls 2000 A0 c0 l0 A1 c1 l1 n _ HR0.out HC0.out HR1.out HC1.out F1.out).mono ?_
      rintro e w1 ⟨rfl, hb⟩
      have B1 := Aside0.mk hb
      clear hb
      go_wp2_with fail
      refine (vec_Covers.calls A0 c0 l0 (some ⟨w1.heap.size, 0, none⟩) 1 [l1] _ _ (Kd.C_alloc (Kd.C_below HR0.out B1.out) _) HC0.out (heads1 A1 c1 l1 HC1.out (Kd.C_below HR1.out B1.out)) (by simp) F2.out).mono ?_
      rintro e w2 ⟨rfl, hb⟩
      have B2 := Aside0.mk (below_step (below_alloc B1.out _) hb)
      clear hb
      go_wp2_with fail
      refine (vec_Max.calls (some ⟨w2.heap.size, 0, none⟩) 2 [l0, l1] _ _ (heads2 A0 c0 l0 A1 c1 l1 HC0.out (Kd.C_below HR0.out B2.out) HC1.out (Kd.C_below HR1.out B2.out)) (by simp) F3.out).mono ?_
      rintro e w3 ⟨v, rfl, ho, hb⟩
      obtain ⟨Am, cm, rfl⟩ := Kd.R_slice ho
      have B3 := Aside0.mk (below_step (below_alloc B2.out _) hb)
      have RM := Aside0.mk (Kd.R_reads' ho).2.2
      have CM := Aside0.mk (Kd.R_reads' ho).2.1
      clear hb ho
      go_wp2_with fail
      refine (vec_Lack.calls 2000 A0 c0 l0 Am cm m n _ (Kd.C_below HR0.out B3.out) HC0.out RM.out CM.out F4.out).mono ?_
      rintro e w4 ⟨rfl, hb⟩
      have B4 := Aside0.mk (below_step B3.out hb)
      clear hb RM CM
      go_wp2_with fail
      refine (vec_Max.calls (some ⟨w4.heap.size, 0, none⟩) 2 [l0, l1] _ _ (heads2 A0 c0 l0 A1 c1 l1 HC0.out (Kd.C_below HR0.out B4.out) HC1.out (Kd.C_below HR1.out B4.out)) (by simp) F3.out).mono ?_
      rintro e w5 ⟨v, rfl, ho, hb⟩
      obtain ⟨Am, cm, rfl⟩ := Kd.R_slice ho
      have B5 := Aside0.mk (below_step (below_alloc B4.out _) hb)
      have RM := Aside0.mk (Kd.R_reads' ho).2.2
      have CM := Aside0.mk (Kd.R_reads' ho).2.1
      clear hb ho
      go_wp2_with fail
      refine (vec_Lack.calls 2000 Am cm m A1 c1 l1 0 _ RM.out CM.out (Kd.C_below HR1.out B5.out) HC1.out F5.out).mono ?_
      rintro e w6 ⟨rfl, hb⟩
      have B6 := Aside0.mk (below_step B5.out hb)
      clear hb
      go_wp2_with fail
      refine (unisonlaw04_awake.calls true _ AW.out).mono ?_
      rintro e w7 ⟨rfl, hb⟩
      have B7 := Aside0.mk (below_step B6.out hb)
      clear hb
      go_wp2_with fail
      go_ret
      exact ⟨rfl, B7.out⟩

end Go.Proofs.Ytfdopedpplhhaaa.Walk
