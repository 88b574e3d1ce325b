/- One thing is put in. Conditions: none beyond the statement's own. -/
import Derived.Test.YtmkacejnnjppjaaWalkPut
import Derived.Test.YtmkacejnnjppjaaArgs
import Derived.Deep.QuietTactic
import Derived.BigQuiet
import Derived.Lib.QuietBelow
import Derived.Outline
import Derived.Deep.RegionHeld3
import Derived.Deep.CutRange
namespace Go.Proofs.Ytmkacejnnjppjaa.Walk
open Go.RowKit Go.Proofs.Ytmkacejnnjppjaa.F Go.Proofs.YtmkacejnnjppjaaW.PrintWords Go.Proofs.YtmkacejnnjppjaaW.PrintLast Go.Proofs.YtmkacejnnjppjaaW.PrintMore Go.Proofs.Ytmkacejnnjppjaa.Open
open Go.Sort (grow)
attribute [local go_sem] max2_int min2_int max_two min_two max_three min_three max_four min_four
set_option linter.unusedVariables false
set_option linter.unusedSimpArgs false

/-! ### One thing is put in -/
def putL (n : Nat) (L : List Th) (x : List Int) : List Th := if L.length < n then L ++ [th x] else L
def putLost (n : Nat) (L : List Th) (lost : Int) : Int := if L.length < n then lost else lost + 1
def putN (n : Nat) (L : List Th) : Nat := if L.length < n then 1 else 0
theorem one_C {w : World} {q : Nat} {t : TypeId} {A : Option Addr} {c : Nat} {x : List Int} (hb : w.heap[q]? = some (.cells #[.slice A x.length c] t (0, 0))) (hc : x.length ≤ c) (h : (Kd.int .u8).C w A x.length x) : kL.C w (some ⟨q, 0, none⟩) 1 [x] := by
  refine ⟨rfl, by omega, fun _ => ⟨_, rfl, fun j p hj => ⟨[.slice A p.length c], rfl, ?_, fun i u hu => ?_⟩⟩⟩
  · obtain ⟨hl, rfl⟩ := List.getElem?_eq_some_iff.1 hj
    obtain rfl : j = 0 := by simpa using hl
    exact ⟨A, c, rfl, hc, h⟩
  · obtain ⟨hl, rfl⟩ := List.getElem?_eq_some_iff.1 hj
    obtain rfl : j = 0 := by simpa using hl
    obtain ⟨hi, rfl⟩ := List.getElem?_eq_some_iff.1 hu
    obtain rfl : i = 0 := by simpa using hi
    rw [add_plain]
    exact (blk_cell hb 0).trans rfl
theorem Put1_calls {w : World} {S : Nat → Prop} {g n : Nat} {L : List Th} {lost : Int} {A : Option Addr} {c q : Nat} {t : TypeId} {x : List Int} (hW : Bag w S g n L lost) (hb : w.heap[q]? = some (.cells #[.slice A x.length c] t (0, 0))) (hq : ¬ S q)
    (hx : ∀ w', Beside S w w' → (Kd.int .u8).C w' A x.length x) (hc : x.length ≤ c) (hl : x.length ≤ 1000000) (hlost : lost + 1 ≤ 4611686018427387904) :
    Calls Try.prog 22 #[.pointer (some ⟨g, 0, none⟩), .slice (some ⟨q, 0, none⟩) 1 1] w fun e w' => e = .returned (.int .i64 (putN n L)) ∧ Bag w' (fun b => S b ∨ w.heap.size ≤ b) g n (putL n L x) (putLost n L lost) ∧ Beside S w w' := by
  have hC : ∀ w', Beside S w w' → kL.C w' (some ⟨q, 0, none⟩) 1 [x] := fun w' hB => one_C ((hB.block q (blk_lt hb) hq).trans hb) hc (hx w' hB)
  have hX : ∀ y ∈ [x], y.length ≤ 1000000 := fun y hy => by rw [List.mem_singleton.1 hy]; exact hl
  by_cases h : L.length < n
  · have e1 : putL n L x = L ++ ([x].take 1).map th := if_pos h
    have e2 : putLost n L lost = lost + (([x].length - 1 : Nat) : Int) := (if_pos h).trans (by simp)
    have e3 : putN n L = 1 := if_pos h
    rw [e1, e2, e3]
    exact Put_calls [x] 1 hW hC (Nat.le_refl _) hX (by simpa using hlost) (by simp; omega)
  · have e1 : putL n L x = L ++ ([x].take 0).map th := (if_neg h).trans (by simp)
    have e2 : putLost n L lost = lost + (([x].length - 0 : Nat) : Int) := (if_neg h).trans (by simp)
    have e3 : putN n L = 0 := if_neg h
    rw [e1, e2, e3]
    exact Put_calls [x] 0 hW hC (Nat.le_refl _) hX (by simpa using hlost) (by have := hW.ok.fit; simp; omega)

end Go.Proofs.Ytmkacejnnjppjaa.Walk
