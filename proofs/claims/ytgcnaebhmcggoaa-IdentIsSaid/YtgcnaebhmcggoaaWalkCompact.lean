/- Ids that are as the one ahead of them are struck. Conditions: none beyond the statement's own. -/
import Derived.Test.YtgcnaebhmcggoaaWalkSort
import Derived.Test.YtgcnaebhmcggoaaF1
import Derived.Test.YtgcnaebhmcggoaaArgs
import Derived.Deep.QuietTactic
import Derived.BigQuiet
import Derived.Lib.QuietBelow
import Derived.Outline
import Derived.Deep.RegionHeld3
import Derived.Deep.CutRange
namespace Go.Proofs.Ytgcnaebhmcggoaa.Walk
open Go.RowKit Go.Proofs.Ytgcnaebhmcggoaa.F Go.Proofs.YtgcnaebhmcggoaaW.PrintWords Go.Proofs.YtgcnaebhmcggoaaW.PrintLast Go.Proofs.YtgcnaebhmcggoaaW.PrintMore Go.Proofs.Ytgcnaebhmcggoaa.Open
open Go.Sort (grow)
attribute [local go_sem] max2_int min2_int max_two min_two max_three min_three max_four min_four
set_option linter.unusedVariables false
set_option linter.unusedSimpArgs false

/-! ### slices.Compact at ids -/
instance : DecidableEq I := fun x y => if h : x.f0 = y.f0 ∧ x.f1 = y.f1 then isTrue (I_ext h.1 h.2) else isFalse (fun e => h (by rw [e]; exact ⟨rfl, rfl⟩))
/-- The front of L of k ids, without those that are as the one ahead of them. -/
def cp (L : List I) : Nat → List I
  | 0 => []
  | k + 1 => cp L k ++ (match L[k]? with | none => [] | some x => if 0 < k ∧ L[k - 1]? = some x then [] else [x])
def cpL (L : List I) : List I := cp L L.length
theorem cp_keep {L : List I} {k : Nat} {x : I} (h : L[k]? = some x) (hn : k = 0 ∨ L[k - 1]? ≠ some x) : cp L (k + 1) = cp L k ++ [x] := by
  rw [cp, h]
  have : ¬ (0 < k ∧ L[k - 1]? = some x) := fun hc => hn.elim (fun h => by omega) (fun h => h hc.2)
  simp only [if_neg this]
theorem cp_drop {L : List I} {k : Nat} {x : I} (h : L[k]? = some x) (hk : 0 < k) (hn : L[k - 1]? = some x) : cp L (k + 1) = cp L k := by
  rw [cp, h]
  simp only [if_pos (show 0 < k ∧ L[k - 1]? = some x from ⟨hk, hn⟩), List.append_nil]
theorem cp_short {L : List I} (h : L.length < 2) : cpL L = L := by
  match L, h with
  | [], _ => rfl
  | [x], _ => simp [cpL, cp]
attribute [local go_sem high] eqA33
theorem I_eqb (x y : I) : (x.f0 == y.f0 && (x.f1 == y.f1)) = decide (x = y) := by
  by_cases h : x = y
  · subst h
    simp
  · rw [decide_eq_false h]
    by_cases h0 : x.f0 = y.f0
    · by_cases h1 : x.f1 = y.f1
      · exact absurd (I_ext h0 h1) h
      · simp [h1]
    · simp [h0]
theorem I_neb (x y : I) : (!(x.f0 == y.f0) || !(x.f1 == y.f1)) = !decide (x = y) := by
  rw [← I_eqb]
  simp
theorem drop_get {M L : List I} {i j : Nat} (h : M.drop i = L.drop i) (hj : i ≤ j) : L[j]? = M[j]? := by
  have := congrArg (fun l : List I => l[j - i]?) h
  simp only [List.getElem?_drop, show i + (j - i) = j by omega] at this
  exact this.symm
set_option maxHeartbeats 4000000 in
theorem Compact_calls {w : World} {b : Nat} {L : List I} (h : Row2 w b L) (c : Nat) (hl : L.length ≤ 1000000) (hc : L.length ≤ c) :
    Calls Try.prog 32 #[.slice (some ⟨b, 0, none⟩) L.length c] w fun e w' => e = .returned (.slice (some ⟨b, 0, none⟩) (cpL L).length c) ∧ Row2 w' b (cpL L) ∧ Beside (fun k => k = b) w w' := by
  have HR := Aside0.mk h
  clear h
  by_cases h2 : L.length < 2
  · have h2z : (L.length : Int) < 2 := by omega
    have E := Aside0.mk (cp_short h2)
    go_enter Try.func32, Try.ntmps32
    go_wp2_with fail
    go_ret
    rw [E.out]
    exact ⟨rfl, HR.out, Beside.refl _ _⟩
  · have h2z : ¬ (L.length : Int) < 2 := by omega
    go_enter Try.func32, Try.ntmps32
    go_wp2_with fail
    go_loopg [3] L.length (fun gg s3 wr => ∃ k : Nat, s3 = .int .i64 k ∧ 1 ≤ k ∧ k ≤ L.length ∧ L.length - k ≤ gg ∧ Aside0 (Below w.heap.size w wr) ∧ Aside0 (cp L k = L.take k))
    case atStart =>
      refine ⟨1, rfl, by omega, by omega, by omega, ⟨Below.refl _ _⟩, ⟨?_⟩⟩
      rw [cp_keep (List.getElem?_eq_getElem (by omega)) (Or.inl rfl)]
      cases L with
      | nil => simp at h2
      | cons x l => simp [cp]
    case round =>
      obtain ⟨k, rfl, hk1, hk, hg, HB, HF⟩ := hrel
      by_cases hlt : k < L.length
      · have hltz : (k : Int) < (L.length : Int) := by omega
        have RM := Aside0.mk (HR.out.below HB.out)
        have hk1n : k - 1 < L.length := by omega
        obtain ⟨k0, k1, _, _⟩ := RM.out.get k hlt
        obtain ⟨q0, q1, _, _⟩ := RM.out.get (k - 1) hk1n
        have HX := Aside0.mk (List.getElem?_eq_getElem hlt)
        have HY := Aside0.mk (List.getElem?_eq_getElem hk1n)
        generalize L[k] = x at k0 k1 HX
        generalize L[k - 1] = y at q0 q1 HY
        have hw1 : IntKind.i64.wrap ((k : Int) - 1) = ((k - 1 : Nat) : Int) := by rw [IntKind.wrap_i64]; omega
        obtain ⟨r, hr⟩ : ∃ r, decide (x = y) = r := ⟨_, rfl⟩
        have E1 := (I_eqb x y).trans hr
        cases r with
        | true =>
          obtain rfl : x = y := of_decide_eq_true hr
          have hkz1 : (k : Int) ≤ (L.length : Int) := by omega
          have hkz2 : (k : Int) ≤ (c : Int) := by omega
          have hkN : k ≤ L.length := by omega
          have hkC : k ≤ c := by omega
          have D1 := Aside0.mk (cp_drop HX.out (by omega) HY.out)
          go_wp2_with fail
          go_region
          go_wp2_with fail
          go_loopg [3, 5] L.length (fun gg s3 s5 wi => ∃ (i m : Nat) (M : List I), s3 = .int .i64 i ∧ s5 = .int .i64 m ∧ 1 ≤ m ∧ m ≤ L.length - k ∧ L.length - k - m ≤ gg ∧ k ≤ i ∧ i < k + m ∧ Aside0 (Row2 wi b M) ∧ Aside0 (Beside (fun k => k = b) w wi) ∧ Aside0 (M.length = L.length ∧ M.take i = cp L (k + m) ∧ M.drop i = L.drop i))
          case atStart =>
            refine ⟨k, 1, L, rfl, rfl, by omega, by omega, by omega, by omega, by omega, ⟨RM.out.drew⟩, ⟨(Beside.of_below _ HB.out).drew⟩, ⟨rfl, ?_, rfl⟩⟩
            rw [D1.out, HF.out]
          case round =>
            clear k0 k1 q0 q1
            obtain ⟨i, m, M, rfl, rfl, hm1, hm, hgi, hki, hij, RI, BI, IN⟩ := hrel
            by_cases hlt2 : m < L.length - k
            · have hmz : (m : Int) < ((L.length - k : Nat) : Int) := by omega
              have hjL : k + m < L.length := by omega
              have hjM : k + m < M.length := by rw [IN.out.1]; exact hjL
              have hjM1 : k + m - 1 < M.length := by omega
              have hiM : i < M.length := by omega
              obtain ⟨k0, k1, _, _⟩ := RI.out.get (k + m) hjM
              obtain ⟨q0, q1, _, _⟩ := RI.out.get (k + m - 1) hjM1
              obtain ⟨z0, z1, z2, z3⟩ := RI.out.get i hiM
              have HX2 := Aside0.mk (List.getElem?_eq_getElem hjM)
              have HY2 := Aside0.mk (List.getElem?_eq_getElem hjM1)
              have HL1 : Aside0 (L[k + m]? = M[k + m]?) := ⟨drop_get IN.out.2.2 (by omega)⟩
              have HL2 : Aside0 (L[k + m - 1]? = M[k + m - 1]?) := ⟨drop_get IN.out.2.2 (by omega)⟩
              generalize M[k + m] = p at k0 k1 HX2
              generalize M[k + m - 1] = q at q0 q1 HY2
              generalize M[i] = y at z0 z1
              rw [show (k + m) * 2 = k * 2 + m * 2 by omega] at k0 k1
              rw [show (k + m - 1) * 2 = k * 2 + (m - 1) * 2 by omega] at q0 q1
              have hw1 : IntKind.i64.wrap ((m : Int) - 1) = ((m - 1 : Nat) : Int) := by rw [IntKind.wrap_i64]; omega
              have hmz1 : ((m - 1 : Nat) : Int) < ((L.length - k : Nat) : Int) := by omega
              have hwm : IntKind.i64.wrap ((m : Int) + 1) = ((m + 1 : Nat) : Int) := by rw [IntKind.wrap_i64]; omega
              obtain ⟨r, hr⟩ : ∃ r, decide (p = q) = r := ⟨_, rfl⟩
              have E2 := (I_neb p q).trans (congrArg not hr)
              cases r with
              | true =>
                obtain rfl : p = q := of_decide_eq_true hr
                have D2 := Aside0.mk (cp_drop (HL1.out.trans HX2.out) (by omega) (HL2.out.trans HY2.out))
                clear z0 z1 z2 z3
                go_wp2_with fail
                go_region
                go_wp2_with fail
                go_roundg (L.length - k - (m + 1))
                case measure => omega
                case rel =>
                  refine ⟨i, m + 1, M, rfl, by go_num, by omega, by omega, Nat.le_refl _, by omega, by omega, ⟨RI.out.drew⟩, ⟨BI.out.drew⟩, ⟨IN.out.1, ?_, IN.out.2.2⟩⟩
                  rw [show k + (m + 1) = k + m + 1 by omega, D2.out]
                  exact IN.out.2.1
              | false =>
                have hne : p ≠ q := of_decide_eq_false hr
                have K2 := Aside0.mk (cp_keep (HL1.out.trans HX2.out) (Or.inr (fun h => hne (by rw [HL2.out, HY2.out] at h; exact (Option.some.inj h).symm))))
                have hwi : IntKind.i64.wrap ((i : Int) + 1) = ((i + 1 : Nat) : Int) := by rw [IntKind.wrap_i64]; omega
                have hiz : (i : Int) < (L.length : Int) := by omega
                go_wp2_with fail
                go_region
                go_wp2_with fail
                go_roundg (L.length - k - (m + 1))
                case measure => omega
                case rel =>
                  refine ⟨i + 1, m + 1, M.set i p, by go_num, by go_num, by omega, by omega, Nat.le_refl _, by omega, by omega, ⟨(RI.out.set i hiM p).drew⟩, ⟨((BI.out.setCell (p := ⟨b, i * 2, none⟩) rfl _).setCell (p := ⟨b, i * 2 + 1, none⟩) rfl _).drew⟩, ⟨by simp [IN.out.1], ?_, ?_⟩⟩
                  · rw [show k + (m + 1) = k + m + 1 by omega, K2.out, set_take hiM, IN.out.2.1]
                  · rw [set_drop (by omega), ← List.drop_drop, IN.out.2.2, List.drop_drop]
            · obtain rfl : m = L.length - k := by omega
              have hmz : ¬ ((L.length - k : Nat) : Int) < ((L.length - k : Nat) : Int) := by omega
              have hcl : ∀ ty, ∃ vs, (Builtin.clear_ #[22] ty #[.slice (some ⟨b, i * 2, none⟩) (L.length - i) (c - i)]).run Try.prog wr = .ok (.tuple #[]) (wr.setCells b (i * 2) vs) := fun ty => clear_ids ty wr b (i * 2) (L.length - i) (c - i)
                (fun q hq => by
                  obtain ⟨a1, a2, _, _⟩ := RI.out.get (i + q / 2) (by rw [IN.out.1]; omega)
                  rcases Nat.mod_two_eq_zero_or_one q with hm | hm
                  · rw [show i * 2 + q = (i + q / 2) * 2 by omega, a1]; rfl
                  · rw [show i * 2 + q = (i + q / 2) * 2 + 1 by omega, a2]; rfl)
                (fun q hq => by
                  obtain ⟨_, _, a1, a2⟩ := RI.out.get (i + q / 2) (by rw [IN.out.1]; omega)
                  rcases Nat.mod_two_eq_zero_or_one q with hm | hm
                  · rw [show i * 2 + q = (i + q / 2) * 2 by omega]; exact a1
                  · rw [show i * 2 + q = (i + q / 2) * 2 + 1 by omega]; exact a2)
              obtain ⟨vs, hvs⟩ := hcl 0
              have hiz : (i : Int) ≤ (L.length : Int) := by omega
              have hiz2 : (i : Int) ≤ (c : Int) := by omega
              have hiN : i ≤ L.length := by omega
              have hiC : i ≤ c := by omega
              clear hcl
              go_wp2_with fail
              go_ret
              have e1 : cpL L = M.take i := by rw [IN.out.2.1, show k + (L.length - k) = L.length by omega]; rfl
              have e2 : (M.take i).length = i := by rw [List.length_take]; have := IN.out.1; omega
              rw [e1, e2]
              refine ⟨rfl, (RI.out.take i).tail i (by rw [e2]; exact Nat.le_refl _) vs, ?_⟩
              obtain ⟨s1, s2, s3, s4⟩ := setCells_same b vs (i * 2) wr
              exact BI.out.trans ⟨s1, s2, s3, by rw [s4]; exact Nat.le_refl _, fun k _ hk => setCells_far vs _ k (fun he => hk he)⟩
        | false =>
          have hne : x ≠ y := of_decide_eq_false hr
          have K1 := Aside0.mk (cp_keep HX.out (Or.inr (fun h => hne (by rw [HY.out] at h; exact (Option.some.inj h).symm))))
          have hw2 : IntKind.i64.wrap ((k : Int) + 1) = ((k + 1 : Nat) : Int) := by rw [IntKind.wrap_i64]; omega
          go_wp2_with fail
          go_region
          go_wp2_with fail
          go_roundg (L.length - (k + 1))
          case measure => omega
          case rel => exact ⟨k + 1, by go_num, by omega, by omega, Nat.le_refl _, ⟨below_drew HB.out⟩, ⟨by rw [K1.out, HF.out, List.take_add_one, HX.out]; rfl⟩⟩
      · obtain rfl : k = L.length := by omega
        have hltz : ¬ (L.length : Int) < (L.length : Int) := by omega
        have E := Aside0.mk (HF.out.trans (List.take_length ..))
        go_wp2_with fail
        go_ret
        rw [show cpL L = L from E.out]
        exact ⟨rfl, HR.out.below HB.out, Beside.of_below _ HB.out⟩

end Go.Proofs.Ytgcnaebhmcggoaa.Walk
