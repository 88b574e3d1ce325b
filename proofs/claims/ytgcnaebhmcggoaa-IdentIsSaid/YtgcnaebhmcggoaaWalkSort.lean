/- Ids are sorted. Conditions: none beyond the statement's own. -/
import Derived.Test.YtgcnaebhmcggoaaWalkDel
import Derived.Test.YtgcnaebhmcggoaaArgs
import Derived.Deep.QuietTactic
import Derived.BigQuiet
import Derived.Lib.QuietBelow
import Derived.Outline
import Derived.Deep.RegionHeld3
import Derived.Deep.CutRange
namespace Go.Proofs.Ytgcnaebhmcggoaa.Walk
open Go.RowKit Go.Proofs.Ytgcnaebhmcggoaa.F Go.Proofs.YtgcnaebhmcggoaaW.PrintWords Go.Proofs.YtgcnaebhmcggoaaW.PrintLast Go.Proofs.YtgcnaebhmcggoaaW.PrintMore Go.Proofs.Ytgcnaebhmcggoaa.Open
open Go.Sort (grow)
attribute [local go_sem] max2_int min2_int max_two min_two max_three min_three max_four min_four
set_option linter.unusedVariables false
set_option linter.unusedSimpArgs false

/-! ### slices.SortFunc at ids -/
shelf_lay_g SlLaysF0.n6 Slsf 6 at Try 30 as sortID
def ordI (x y : I) : Int := if x.f0 < y.f0 then -1 else if x.f0 > y.f0 then 1 else if x.f1 < y.f1 then -1 else if x.f1 > y.f1 then 1 else 0
theorem cmp8 (a b : Int) : cmp_Compare_uint8.f a b = some (if a < b then -1 else if a > b then 1 else 0) := by
  unfold cmp_Compare_uint8.f cmp_isNaN_uint8.f
  have e1 : (a != a) = false := by simp
  have e2 : (b != b) = false := by simp
  simp only [e1, e2, Option.bind_some]
  repeat (first | rfl | split | simp_all)
theorem cmp64 (a b : Int) : cmp_Compare_uint64.f a b = some (if a < b then -1 else if a > b then 1 else 0) := by
  unfold cmp_Compare_uint64.f cmp_isNaN_uint64.f
  have e1 : (a != a) = false := by simp
  have e2 : (b != b) = false := by simp
  simp only [e1, e2, Option.bind_some]
  repeat (first | rfl | split | simp_all)
theorem or2 (a b : Int) : cmp_Or_int.f 5 [a, b] = some (if a ≠ 0 then a else b) := by
  unfold cmp_Or_int.f
  have w1 : wrap64 1 = 1 := by unfold wrap64; omega
  have w2 : wrap64 2 = 2 := by unfold wrap64; omega
  have r0 : ∀ a b : Int, rd [a, b] 0 = a := fun _ _ => rfl
  have r1 : ∀ a b : Int, rd [a, b] 1 = b := fun _ _ => rfl
  have hl : (([a, b] : List Int).length : Int) = 2 := rfl
  by_cases ha : a = 0
  · by_cases hb : b = 0
    · simp [cmp_Or_int.l0, w1, w2, r0, r1, hl, ha, hb]
    · simp [cmp_Or_int.l0, w1, w2, r0, r1, hl, ha, hb]
  · simp [cmp_Or_int.l0, w1, w2, r0, r1, hl, ha]
theorem order_f (x y : I) : ident_order.f 5 x.f0 x.f1 y.f0 y.f1 = some (ordI x y) := by
  unfold ident_order.f
  rw [cmp8, cmp64]
  simp only [Option.bind_some]
  rw [or2]
  unfold ordI
  by_cases h1 : x.f0 < y.f0
  · simp [h1]
  · by_cases h2 : x.f0 > y.f0
    · simp [h1, h2]
    · simp [h1, h2]
def ltI (x y : I) : Bool := decide (x.f0 < y.f0 ∨ (x.f0 = y.f0 ∧ x.f1 < y.f1))
theorem lt_ord (x y : I) : ltOf ordI x y = ltI x y := by
  unfold ltOf ordI ltI
  by_cases h1 : x.f0 < y.f0
  · simp [h1]
  · by_cases h2 : x.f0 > y.f0
    · have : ¬ x.f0 = y.f0 := by omega
      simp [h1, h2, this]
    · have : x.f0 = y.f0 := by omega
      by_cases h3 : x.f1 < y.f1
      · simp [this, h3]
      · by_cases h4 : x.f1 > y.f1 <;> simp [this, h3, h4]
theorem I_ext {x y : I} (h0 : x.f0 = y.f0) (h1 : x.f1 = y.f1) : x = y := by
  cases x; cases y; simp_all
theorem swoI : Go.Sort.SWO (ltOf ordI) where
  irrefl x := by rw [lt_ord]; simp [ltI]
  trans x y z h1 h2 := by rw [lt_ord] at *; simp [ltI] at *; omega
  ntrans x y z h1 h2 := by rw [lt_ord] at *; simp [ltI] at *; omega
def sortI (L : List I) : List I := L.mergeSort fun x y => !ltI y x
theorem sortWorld_beside (w : World) (b o n : Nat) (d : Array I) (os : Array Obj) (hb : b < w.heap.size) : Beside (fun k => k = b) w (sortWorldK encI 2 w b o n d os) := by
  have hs : (Go.Sort.putRowK encI 2 (Go.Sort.ahead w n) b o d).heap.size = w.heap.size := by
    unfold Go.Sort.putRowK
    rw [Go.Sort.size_putRow]
    rfl
  refine ⟨rfl, rfl, rfl, size_sortWorldK_c encI 2 w b o n d os, fun k hk hn => ?_⟩
  show ((Go.Sort.putRowK encI 2 (Go.Sort.ahead w n) b o d).heap ++ os)[k]? = _
  rw [Array.getElem?_append_left (by rw [hs]; exact hk)]
  show (w.heap.modify b (Go.Sort.onCells (Go.Sort.putCells id o (Go.Sort.flatK encI 2 d))))[k]? = _
  rw [Array.getElem?_modify, if_neg (fun h => hn h.symm)]
set_option maxHeartbeats 1000000 in
theorem Sort_calls {w : World} {b : Nat} {L : List I} (h : Row2 w b L) (c : Nat) (hl : L.length ≤ 1000000) :
    Calls Try.prog 30 #[.slice (some ⟨b, 0, none⟩) L.length c, .func (.func 31) #[] #[]] w fun e w' => e = .returned (.tuple #[]) ∧ Row2 w' b (sortI L) ∧ Beside (fun k => k = b) w w' := by
  have eg : ∀ args w, (callFunc 31 args).run Try.prog w = .ok (.enter 31 args) w := enters_of Try.func31 (by kernel_rfl) rfl
  have hcmp : CmpLays Try.prog 31 #[] encI 2 ordI b 0 L.toArray.size w := fun _ _ _ _ x y =>
    (ident_order.calls_g 5 x.f0 x.f1 y.f0 y.f1 _ _ (order_f x y)).mono fun _ _ ⟨he, hg⟩ => ⟨he, hg⟩
  have hs : L.toArray.size = L.length := by simp
  have hcon := AnyQ.slices_SortFunc_total sortID 2 Try.isAgg33 Try.sizeOf33 encI (fun _ => rfl) (fun x v hv => by simp [encI] at hv; rcases hv with rfl | rfl <;> rfl) ordI swoI 31 #[] b 0 c L.toArray w eg hcmp h.holds h.lt (by rw [hs]; omega) (fun x y h1 h2 => by
    rw [lt_ord] at h1 h2
    simp [ltI] at h1 h2
    exact I_ext (by omega) (by omega))
  rw [hs] at hcon
  refine Calls.mono hcon ?_
  rintro e w' ⟨rfl, n, os, rfl⟩
  have e1 : (L.toArray.toList.mergeSort fun x y => !(ltOf ordI) y x) = sortI L := by
    unfold sortI
    simp only [lt_ord]
  rw [e1]
  have hsz : (sortI L).toArray.size = L.toArray.size := by simp [sortI]
  have hlt : b < (sortWorldK encI 2 w b 0 n (sortI L).toArray os).heap.size := Nat.lt_of_lt_of_le h.lt (size_sortWorldK_c encI 2 w b 0 n _ os)
  have hH := holdsK_sortWorldK_c encI 2 w b 0 L.toArray (sortI L).toArray n os h.holds h.lt hsz
  refine ⟨rfl, by simpa using Row2.of_holds hlt hH, ?_⟩
  exact sortWorld_beside w b 0 n (sortI L).toArray os h.lt

end Go.Proofs.Ytgcnaebhmcggoaa.Walk
