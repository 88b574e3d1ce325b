/- Least. Conditions: none beyond the statement's own. -/
import Derived.Test.YtahdbiddpphepaaWalkQs
import Derived.Test.YtahdbiddpphepaaArgs
import Derived.Deep.QuietTactic
import Derived.BigQuiet
import Derived.Lib.QuietBelow
import Derived.Outline
import Derived.Deep.RegionHeld3
import Derived.Deep.CutRange
namespace Go.Proofs.Ytahdbiddpphepaa.Walk
open Go.RowKit Go.Proofs.Ytahdbiddpphepaa.F Go.Proofs.YtahdbiddpphepaaW.PrintWords Go.Proofs.YtahdbiddpphepaaW.PrintLast Go.Proofs.YtahdbiddpphepaaW.PrintMore Go.Proofs.Ytahdbiddpphepaa.Open
open Go.Sort (grow)
attribute [local go_sem] max2_int min2_int max_two min_two max_three min_three max_four min_four
set_option linter.unusedVariables false
set_option linter.unusedSimpArgs false

/-! ### Least -/
def least (L : List X) : Int := match left L with | [] => 0 | x :: l => (x :: l).foldl (fun a y => mn a y.f0) x.f0
theorem addA (A : Addr) : A.add 0 = A := by
  unfold Addr.add
  cases A
  split <;> simp_all
section
variable {w : World} {S : Nat → Prop} {g rb cp : Nat} {L : List X}
theorem VX.fold {w : World} {ok : Nat → Prop} : ∀ {K : List V} {l : List X} (a : Int), All2 (VX w ok) K l → K.foldl (fun a y => mn a y.i) a = l.foldl (fun a y => mn a y.f0) a
  | [], [], a, _ => rfl
  | v :: K, x :: l, a, h => by
    cases h with
    | cons hx hl =>
      rw [List.foldl_cons, List.foldl_cons, hx.i]
      exact VX.fold _ hl
  | [], _ :: _, _, h => by cases h
  | _ :: _, [], _, h => by cases h
set_option maxHeartbeats 4000000 in
theorem Least_calls (h : Mat w S g rb cp L) : Calls Try.prog 15 #[.pointer (some ⟨g, 0, none⟩)] w fun e w' => e = .returned (.int .u64 (least L)) ∧ Below w.heap.size w w' := by
  have LF := Aside0.mk (left_calls h)
  clear h
  go_enter Try.func15, Try.ntmps15
  go_wp2_with fail
  refine LF.out.mono ?_
  rintro e w1 ⟨A, c, K, rfl, hC, hK64, hA, hb⟩
  have C1 := Aside0.mk hC
  have A1 := Aside0.mk hA
  have B1 := Aside0.mk hb
  clear hC hA hb LF
  by_cases hz : K.length = 0
  · have hzz : ((K.length : Int) == 0) = true := by rw [hz]; rfl
    have ST : Aside0 (least L = 0) := ⟨by
      have : left L = [] := List.eq_nil_of_length_eq_zero (by rw [← A1.out.len]; exact hz)
      unfold least
      rw [this]⟩
    clear hz
    go_wp2_with fail
    go_ret
    rw [ST.out]
    exact ⟨rfl, B1.out⟩
  · have hzz : ((K.length : Int) == 0) = false := beq_eq_false_iff_ne.2 (by omega)
    have h0 : (0 : Int) < (K.length : Int) := by omega
    obtain ⟨v0, K', hKc⟩ : ∃ v0 K', K = v0 :: K' := by
      cases K with
      | nil => exact absurd rfl hz
      | cons a b => exact ⟨a, b, rfl⟩
    have ST : Aside0 (least L = K.foldl (fun a y => mn a y.i) v0.i) := ⟨by
      have hA := A1.out
      rw [hKc] at hA ⊢
      unfold least
      generalize left L = l at hA ⊢
      cases hA with
      | @cons a b l m hx hl =>
        show (b :: m).foldl (fun a y => mn a y.f0) b.f0 = _
        rw [← hx.i]
        exact (VX.fold _ (.cons hx hl)).symm⟩
    have HK := Aside0.mk hKc
    obtain ⟨ad, cc, e, hcl, hKK, hcc⟩ := Kd.C_get C1.out zV 0 (by omega) h0
    cases e
    have hx : K.getD ((0 : Int)).toNat zV = v0 := by rw [hKc]; rfl
    rw [hx] at hKK
    obtain rfl := kV_open hKK
    have q0 : w1.cell? A = some (.int .u64 v0.i) := by
      have := hcc 0 _ rfl
      rwa [show A.add ((0 : Int).toNat * kV.sz + 0) = A from addA A] at this
    clear hz hKc hx hKK hcl hcc
    go_wp2_with fail
    go_loopg [4, 18] K.length (fun gg s4 s18 wr => ∃ j : Nat, s18 = .int .i64 j ∧ j ≤ K.length ∧ K.length - j ≤ gg ∧ Aside0 (Below w1.heap.size w1 wr) ∧ ∃ m : Int, s4 = .int .u64 m ∧ Aside0 (m = (K.take j).foldl (fun a y => mn a y.i) v0.i))
    case atStart => exact ⟨0, rfl, Nat.zero_le _, by omega, ⟨Below.refl _ _⟩, _, rfl, ⟨rfl⟩⟩
    case round =>
      obtain ⟨j, rfl, hj, hgg, HB, m, rfl, EM⟩ := hrel
      by_cases hlt : j < K.length
      · have hltz : (j : Int) < (K.length : Int) := by omega
        obtain ⟨ad, cc, e, hcl, hKK, hcc⟩ := Kd.C_get C1.out zV (j : Int) (by omega) hltz
        cases e
        have HX : Aside0 (K[j]? = some (K.getD ((j : Int)).toNat zV)) := ⟨by rw [Int.toNat_natCast, List.getD, List.getElem?_eq_getElem hlt]; rfl⟩
        generalize K.getD ((j : Int)).toNat zV = x at hKK HX
        obtain rfl := kV_open hKK
        rw [Int.toNat_natCast] at hcc
        have q0 : wr.cell? (A.add (j * 4)) = some (.int .u64 x.i) := pw_cell_below HB.out (hcc 0 _ rfl)
        have q1 : wr.cell? ⟨(A.add (j * 4)).block, (A.add (j * 4)).off + 1, none⟩ = some (.slice x.h1.A x.h1.n x.h1.c) := by
          rw [← add_field _ _ 1 (by omega)]
          exact pw_cell_below HB.out (hcc 1 _ rfl)
        have q2 : wr.cell? ⟨(A.add (j * 4)).block, (A.add (j * 4)).off + 2, none⟩ = some (.slice x.h2.A x.h2.n x.h2.c) := by
          rw [← add_field _ _ 2 (by omega)]
          exact pw_cell_below HB.out (hcc 2 _ rfl)
        have q3 : wr.cell? ⟨(A.add (j * 4)).block, (A.add (j * 4)).off + 3, none⟩ = some (.bool x.g) := by
          rw [← add_field _ _ 3 (by omega)]
          exact pw_cell_below HB.out (hcc 3 _ rfl)
        have hwj : IntKind.i64.wrap ((j : Int) + 1) = ((j + 1 : Nat) : Int) := by rw [IntKind.wrap_i64]; omega
        have EJ : Aside0 ((K.take (j + 1)).foldl (fun a y => mn a y.i) v0.i = if x.i < m then x.i else m) := ⟨by rw [List.take_add_one, HX.out, Option.toList_some, List.foldl_append, ← EM.out]; rfl⟩
        clear hcc hcl hKK
        by_cases hmx : x.i < m
        · rw [if_pos hmx] at EJ
          go_wp2_with fail
          go_roundg (K.length - (j + 1))
          case measure => omega
          case rel => exact ⟨j + 1, by go_num, by omega, Nat.le_refl _, ⟨below_alloc HB.out _⟩, _, rfl, ⟨EJ.out.symm⟩⟩
        · rw [if_neg hmx] at EJ
          go_wp2_with fail
          go_roundg (K.length - (j + 1))
          case measure => omega
          case rel => exact ⟨j + 1, by go_num, by omega, Nat.le_refl _, ⟨below_alloc HB.out _⟩, _, rfl, ⟨EJ.out.symm⟩⟩
      · obtain rfl : j = K.length := by omega
        have hltz : ¬ (K.length : Int) < (K.length : Int) := by omega
        have EL : Aside0 (least L = m) := ⟨by rw [ST.out, EM.out, List.take_length]⟩
        have BW := Aside0.mk (below_step B1.out HB.out)
        go_wp2_with fail
        go_ret
        rw [EL.out]
        exact ⟨rfl, BW.out⟩
end

end Go.Proofs.Ytahdbiddpphepaa.Walk
