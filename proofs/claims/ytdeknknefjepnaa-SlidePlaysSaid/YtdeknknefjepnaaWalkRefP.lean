/- The window of the document, in plain Lean. Conditions: none beyond the statement's own. -/
import Derived.Test.YtdeknknefjepnaaWalkSame
import Derived.Test.YtdeknknefjepnaaF12
import Derived.Test.YtdeknknefjepnaaF5
import Derived.Test.YtdeknknefjepnaaF7
import Derived.Test.YtdeknknefjepnaaF8
import Derived.Test.YtdeknknefjepnaaF4
import Derived.Test.YtdeknknefjepnaaArgs
import Derived.Deep.QuietTactic
import Derived.BigQuiet
import Derived.Lib.QuietBelow
import Derived.Outline
import Derived.Deep.RegionHeld3
import Derived.Deep.CutRange
namespace Go.Proofs.Ytdeknknefjepnaa.Walk
open Go.RowKit Go.Proofs.Ytdeknknefjepnaa.F Go.Proofs.YtdeknknefjepnaaW.PrintWords Go.Proofs.YtdeknknefjepnaaW.PrintLast Go.Proofs.YtdeknknefjepnaaW.PrintMore Go.Proofs.Ytdeknknefjepnaa.Open
open Go.Sort (grow)
attribute [local go_sem] max2_int min2_int max_two min_two max_three min_three max_four min_four
set_option linter.unusedVariables false
set_option linter.unusedSimpArgs false

/-! ### The document's window, in plain Lean -/
def sq (L : List Fr) (a : Int) : Prop := ∀ (k : Nat) (x : Fr), L[k]? = some x → x.f2 = a + k
theorem sq_tail {x : Fr} {L : List Fr} {a : Int} (h : sq (x :: L) a) : sq L (a + 1) := by
  intro k y hy
  have := h (k + 1) y (by simpa using hy)
  rw [this]
  push_cast
  omega
theorem sq_drop {L : List Fr} {a : Int} (h : sq L a) (d : Nat) : sq (L.drop d) (a + d) := by
  intro k x hx
  rw [List.getElem?_drop] at hx
  have := h (d + k) x hx
  rw [this]
  push_cast
  omega
theorem sq_nil (a : Int) : sq [] a := by intro k x hx; simp at hx
theorem sq_snoc {L : List Fr} {a : Int} {f : Fr} (h : sq L a) (hf : f.f2 = a + L.length) : sq (L ++ [f]) a := by
  intro k x hx
  by_cases hk : k < L.length
  · rw [List.getElem?_append_left hk] at hx
    exact h k x hx
  · have hk2 : k < (L ++ [f]).length := (List.getElem?_eq_some_iff.1 hx).1
    have hk3 : k = L.length := by simp at hk2; omega
    subst hk3
    simp at hx
    subst hx
    exact hf
theorem filter_sq : ∀ (L : List Fr) (a u : Int), sq L a → L.filter (fun x => decide (u ≤ x.f2)) = L.drop (u - a).toNat
  | [], a, u, _ => by simp
  | x :: L, a, u, h => by
    have hx : x.f2 = a := by simpa using h 0 x rfl
    have ih := filter_sq L (a + 1) u (sq_tail h)
    by_cases hu : u ≤ a
    · rw [List.filter_cons_of_pos (by simp; omega), ih, show (u - a).toNat = 0 by omega, show (u - (a + 1)).toNat = 0 by omega]
      rfl
    · rw [List.filter_cons_of_neg (by simp; omega), ih, show (u - a).toNat = (u - (a + 1)).toNat + 1 by omega]
      rfl
theorem rdF {L : List Fr} {i : Nat} (h : i < L.length) : rd_T36 L (i : Int) = L[i] := by
  simp [rd_T36, List.getD, h]
theorem acked_l0 (n last u : Int) (L : List Fr) (hl : L.length ≤ 1000000) : ∀ (d i k : Nat) (acc : List Fr), i + d = L.length → d + 1 ≤ k → acc.length + d ≤ 1000000 →
    unisonref08_W_Acked.l0 k u acc (L.length : Int) (i : Int) n L last = some (n, acc ++ (L.drop i).filter (fun x => decide (u + 1 ≤ x.f2)), last, wrap64 ((L.length : Int) - ((acc ++ (L.drop i).filter (fun x => decide (u + 1 ≤ x.f2))).length : Int)))
  | 0, i, k + 1, acc, hi, hk, ha => by
    unfold unisonref08_W_Acked.l0
    rw [if_neg (by omega), List.drop_eq_nil_of_le (by omega)]
    simp
  | d + 1, i, k + 1, acc, hi, hk, ha => by
    have hil : i < L.length := by omega
    unfold unisonref08_W_Acked.l0
    rw [if_pos (by omega), if_pos (by omega), if_pos (by omega), rdF hil, List.drop_eq_getElem_cons hil]
    by_cases hu : L[i].f2 > u
    · rw [if_pos hu, if_pos (by omega), w64 (by omega) (by omega), List.filter_cons_of_pos (by simp; omega)]
      have := acked_l0 n last u L hl d (i + 1) k (acc ++ [L[i]]) (by omega) (by omega) (by simp; omega)
      rw [show acc ++ L[i] :: (L.drop (i + 1)).filter (fun x => decide (u + 1 ≤ x.f2)) = (acc ++ [L[i]]) ++ (L.drop (i + 1)).filter (fun x => decide (u + 1 ≤ x.f2)) by simp]
      exact_mod_cast this
    · rw [if_neg hu, w64 (by omega) (by omega), List.filter_cons_of_neg (by simp; omega)]
      exact_mod_cast acked_l0 n last u L hl d (i + 1) k acc (by omega) (by omega) (by omega)
theorem acked_f (n last u : Int) (L : List Fr) (hl : L.length ≤ 1000000) (hs : sq L (last + 1 - L.length)) :
    unisonref08_W_Acked.f (L.length + 1) n L last u = some (if u > last then (n, L, last, 0) else (n, L.drop (u - (last - L.length)).toNat, last, (L.length : Int) - ((L.drop (u - (last - L.length)).toNat).length : Int))) := by
  unfold unisonref08_W_Acked.f
  by_cases hu : u > last
  · rw [if_pos hu, if_pos hu]
  · rw [if_neg hu, if_neg hu]
    have := acked_l0 n last u L hl L.length 0 (L.length + 1) [] (by omega) (by omega) (by simpa using hl)
    rw [List.drop_zero, filter_sq L _ (u + 1) hs, show u + 1 - (last + 1 - (L.length : Int)) = u - (last - L.length) by omega, List.nil_append] at this
    have hd : (L.drop (u - (last - L.length)).toNat).length ≤ L.length := by simp
    rw [w64 (by omega) (by omega)] at this
    exact this
theorem from_l0 (n last fr_ most : Int) (L : List Fr) (hl : L.length ≤ 1000000) : ∀ (d i k : Nat) (acc : List Fr), i + d = L.length → d + 1 ≤ k → acc.length + d ≤ 1000000 →
    unisonref08_W_From.l0 k fr_ most acc (L.length : Int) (i : Int) n L last = some (acc ++ ((L.drop i).filter (fun x => decide (fr_ ≤ x.f2))).take (most - acc.length).toNat)
  | 0, i, k + 1, acc, hi, hk, ha => by
    unfold unisonref08_W_From.l0
    rw [if_neg (by omega), List.drop_eq_nil_of_le (by omega)]
    simp
  | d + 1, i, k + 1, acc, hi, hk, ha => by
    have hil : i < L.length := by omega
    unfold unisonref08_W_From.l0
    rw [if_pos (by omega), if_pos (by omega), if_pos (by omega), rdF hil, List.drop_eq_getElem_cons hil]
    by_cases hu : L[i].f2 ≥ fr_
    · rw [if_pos hu, List.filter_cons_of_pos (by simp; omega)]
      by_cases hm : (acc.length : Int) < most
      · rw [if_pos hm, if_pos (by omega), w64 (by omega) (by omega)]
        have := from_l0 n last fr_ most L hl d (i + 1) k (acc ++ [L[i]]) (by omega) (by omega) (by simp; omega)
        rw [show (most - (acc.length : Int)).toNat = (most - ((acc ++ [L[i]]).length : Int)).toNat + 1 by simp; omega, List.take_succ_cons]
        rw [show acc ++ L[i] :: ((L.drop (i + 1)).filter (fun x => decide (fr_ ≤ x.f2))).take (most - ((acc ++ [L[i]]).length : Int)).toNat = (acc ++ [L[i]]) ++ ((L.drop (i + 1)).filter (fun x => decide (fr_ ≤ x.f2))).take (most - ((acc ++ [L[i]]).length : Int)).toNat by simp]
        exact_mod_cast this
      · rw [if_neg hm, w64 (by omega) (by omega), show (most - (acc.length : Int)).toNat = 0 by omega]
        have := from_l0 n last fr_ most L hl d (i + 1) k acc (by omega) (by omega) (by omega)
        rw [show (most - (acc.length : Int)).toNat = 0 by omega] at this
        rw [List.take_zero] at this ⊢
        exact_mod_cast this
    · rw [if_neg hu, w64 (by omega) (by omega), List.filter_cons_of_neg (by simp; omega)]
      exact_mod_cast from_l0 n last fr_ most L hl d (i + 1) k acc (by omega) (by omega) (by omega)
theorem from_f (n last fr_ most : Int) (L : List Fr) (hl : L.length ≤ 1000000) (hs : sq L (last + 1 - L.length)) :
    unisonref08_W_From.f (L.length + 1) n L last fr_ most = some ((L.drop (fr_ - (last + 1 - L.length)).toNat).take most.toNat) := by
  have := from_l0 n last fr_ most L hl L.length 0 (L.length + 1) [] (by omega) (by omega) (by simpa using hl)
  rw [List.drop_zero, filter_sq L _ fr_ hs, List.nil_append] at this
  unfold unisonref08_W_From.f
  simpa using this
theorem first_f (n last : Int) (L : List Fr) (h1 : (L.length : Int) ≤ last) (h2 : last ≤ 4611686018427387904) (hs : sq L (last + 1 - L.length)) : unisonref08_W_First.f n L last = some (last + 1 - L.length) := by
  unfold unisonref08_W_First.f
  by_cases h0 : (L.length : Int) = 0
  · rw [if_pos h0, wu64 (by omega) (by omega), h0]
    simp
  · rw [if_neg h0, if_pos (by omega)]
    have hl : 0 < L.length := by omega
    have e : rd_T36 L 0 = L[0] := rdF hl
    rw [e, hs 0 L[0] (List.getElem?_eq_getElem hl)]
    simp
theorem put_f (n last : Int) (L : List Fr) (x : Fr) (h0 : 0 ≤ last) (h1 : last ≤ 4611686018427387904) (hl : L.length ≤ 1000000) :
    unisonref08_W_Put.f n L last x.f0.f0 x.f0.f1 x.f0.f2 x.f1.f0 x.f1.f1 x.f2 x.f3 x.f4 x.f5 x.f6 x.f7 x.f8 x.f9 x.f10 x.f11 x.f12 = some (if (L.length : Int) ≥ n then (n, L, last, 0) else (n, L ++ [{ x with f2 := last + 1 }], last + 1, 1)) := by
  unfold unisonref08_W_Put.f
  by_cases hn : (L.length : Int) ≥ n
  · rw [if_pos hn, if_pos hn]
  · rw [if_neg hn, if_neg hn, wu64 (by omega) (by omega)]
    show (if ([] : List Fr).length + L.length < 764877654105 then _ else none) = _
    rw [if_pos (by simp; omega)]
    show (if ([] ++ L : List Fr).length + 1 < 764877654105 then _ else none) = _
    rw [if_pos (by simp; omega)]
    rfl
theorem new_f (a : Int) : unisonref08_New.f a = some (((wid a : Nat) : Int), [], 0) := by
  unfold unisonref08_New.f wid
  by_cases h1 : a < 1
  · rw [if_pos h1, if_neg (by decide), if_neg (by omega), if_neg (by omega)]
    rfl
  · rw [if_neg h1]
    by_cases h2 : a > 64
    · rw [if_pos h2, if_pos (by omega)]
      rfl
    · rw [if_neg h2, if_neg (by omega)]
      by_cases h3 : 1 < a
      · rw [if_pos h3, Int.toNat_of_nonneg (by omega)]
      · rw [if_neg h3, show a = 1 by omega]
        rfl

end Go.Proofs.Ytdeknknefjepnaa.Walk
