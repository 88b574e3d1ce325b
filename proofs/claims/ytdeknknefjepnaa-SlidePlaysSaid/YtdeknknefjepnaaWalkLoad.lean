/- Whole structs: out of a row, into a box. Conditions: none beyond the statement's own. -/
import Derived.Test.YtdeknknefjepnaaWalkOwn
import Derived.Test.YtdeknknefjepnaaArgs
import Derived.Deep.QuietTactic
import Derived.BigQuiet
import Derived.Lib.QuietBelow
import Derived.Outline
import Derived.Deep.RegionHeld3
import Derived.Deep.CutRange
import Derived.Deep.MidRow
namespace Go.Proofs.Ytdeknknefjepnaa.Walk
open Go.RowKit Go.Proofs.Ytdeknknefjepnaa.F Go.Proofs.YtdeknknefjepnaaW.PrintWords Go.Proofs.YtdeknknefjepnaaW.PrintLast Go.Proofs.YtdeknknefjepnaaW.PrintMore Go.Proofs.Ytdeknknefjepnaa.Open
open Go.Sort (grow)
attribute [local go_sem] max2_int min2_int max_two min_two max_three min_three max_four min_four
set_option linter.unusedVariables false
set_option linter.unusedSimpArgs false

/-! ### Whole structs: out of a row, into a box -/
section
variable {P : Program} {ops : Array Oper} {rest : List Oper} {o : Oper} {a : Act} {Q : Exit → Act → World → Prop}
theorem run_loadVar_any (w : World) (ad : Addr) (ty : TypeId) (cs : List Value) (d : TypeDesc) (hc : ∀ j v, cs[j]? = some v → w.cell? (ad.add j) = some v)
    (hu : P.underlying ty = some d) (hd : d.isRow = true) (hi : (P.info? ty).map (·.size) = some cs.length) :
    (loadVar ty ad).run P w = .ok (.agg cs.toArray) w := by
  have hl : (loadCells ad cs.length).run P w = .ok cs.toArray w := run_loadCells_list (P := P) w ad cs hc
  cases hq : P.info? ty with
  | none => simp [hq] at hi
  | some i =>
    have hs : i.size = cs.length := by simpa [hq] using hi
    have hagg : (isAgg ty).run P w = .ok true w := by
      unfold isAgg
      rw [Sem.run_bind, run_underlying hu w]
      cases d <;> simp_all
    simp [loadVar, Sem.run_bind, hagg, sizeOf, typeInfo, hq, hs, hl]
/-- A whole struct is loaded: its cells stay a list. -/
theorem load_any {w : World} (hgd : o.guard = none) (ty : TypeId) (x : Operand) (ho : o.op = .load ty x) (ad : Addr) (hx : a.eval x = .pointer (some ad)) (cs : List Value) (d : TypeDesc)
    (hc : ∀ j v, cs[j]? = some v → w.cell? (ad.add j) = some v) (hu : P.underlying ty = some d) (hd : d.isRow = true) (hi : (P.info? ty).map (·.size) = some cs.length)
    (h : wpList P ops Q rest (a.put o.dst (.agg cs.toArray)) w) : wpList P ops Q (o :: rest) a w :=
  wpList_plain hgd fun K hK => by
    unfold Oper.wp execOp
    simp only [ho, hx, Instr.loadAt, Instr.sureAddr, Sem.run_bind, Sem.run_pure, Result.andThen_ok, run_loadVar_any w ad ty cs d hc hu hd hi]
    exact hK _ _ h
def putAll (cur : Array Value) : Nat → List Value → Array Value
  | _, [] => cur
  | off, v :: r => putAll (cur.setIfInBounds off v) (off + 1) r
theorem putAll_size : ∀ (seg : List Value) (cur : Array Value) (off : Nat), (putAll cur off seg).size = cur.size
  | [], _, _ => rfl
  | v :: r, cur, off => by rw [putAll, putAll_size r]; simp
theorem putAll_get : ∀ (seg : List Value) (cur : Array Value) (off i : Nat), off + seg.length ≤ cur.size → (putAll cur off seg)[i]? = if off ≤ i ∧ i < off + seg.length then seg[i - off]? else cur[i]?
  | [], cur, off, i, _ => by rw [if_neg (by simp <;> omega)]; rfl
  | v :: r, cur, off, i, h => by
    have h' : off + 1 + r.length ≤ (cur.setIfInBounds off v).size := by simp at h ⊢; omega
    rw [putAll, putAll_get r _ _ i h']
    simp only [List.length_cons] at h ⊢
    by_cases h1 : off + 1 ≤ i ∧ i < off + 1 + r.length
    · rw [if_pos h1, if_pos (by omega), show i - off = (i - (off + 1)) + 1 by omega]
      rfl
    · rw [if_neg h1]
      by_cases h2 : i = off
      · subst h2
        rw [if_pos (by omega)]
        have hlt : i < cur.size := by omega
        simp [Array.getElem?_setIfInBounds, hlt]
      · rw [if_neg (by omega)]
        simp [Array.getElem?_setIfInBounds, Ne.symm h2]
theorem putAll_whole (cur cells : Array Value) (h : cur.size = cells.size) : putAll cur 0 cells.toList = cells := by
  apply Array.ext_getElem?
  intro i
  rw [putAll_get _ _ _ _ (by simp; omega)]
  by_cases hi : i < cells.size
  · rw [if_pos (by simp; omega)]
    simp
  · rw [if_neg (by simp; omega), Array.getElem?_eq_none (by omega), Array.getElem?_eq_none (by omega)]
theorem setCells_blk {g : Nat} {t : TypeId} : ∀ (seg : List Value) (off : Nat) {w : World} {cur : Array Value}, w.heap[g]? = some (.cells cur t (0, 0)) → (w.setCells g off seg).heap[g]? = some (.cells (putAll cur off seg) t (0, 0))
  | [], _, _, _, h => h
  | v :: r, off, _, _, h => setCells_blk r (off + 1) (blk_put h off v rfl)
theorem setCells_beside (g : Nat) : ∀ (seg : List Value) (off : Nat) (w : World), Beside (fun k => k = g) w (w.setCells g off seg)
  | [], _, w => Beside.refl _ w
  | v :: r, off, w => ((Beside.refl (fun k => k = g) w).setCell (p := ⟨g, off, none⟩) rfl v).trans (setCells_beside g r (off + 1) _)
theorem setCells_size (g : Nat) : ∀ (seg : List Value) (off : Nat) (w : World), (w.setCells g off seg).heap.size = w.heap.size
  | [], _, w => rfl
  | v :: r, off, w => (setCells_size g r (off + 1) _).trans (by simp [World.setCell])
/-- A whole struct is stored into its box: the world behind it is told by the box alone. -/
theorem store_box {w : World} (hgd : o.guard = none) (ty : TypeId) (x y : Operand) (ho : o.op = .store ty x y) (g : Nat) (cur cells : Array Value) (t : TypeId) (hx : a.eval x = .pointer (some ⟨g, 0, none⟩)) (hy : a.eval y = .agg cells)
    (hb : w.heap[g]? = some (.cells cur t (0, 0))) (hs : cur.size = cells.size) (hi : (P.info? ty).map (·.size) = some cells.size) (h1 : ∀ u ∈ cells.toList, u.oneCell' = true)
    (h : ∀ w1, w1.heap[g]? = some (.cells cells t (0, 0)) → Beside (fun k => k = g) w w1 → w1.heap.size = w.heap.size → wpList P ops Q rest (a.put o.dst undef) w1) : wpList P ops Q (o :: rest) a w := by
  refine wpList_store_mid hgd ty x y ho g 0 cells hx hy (fun j hj => ⟨?_, blk_frozen hb _⟩) hi (by rw [← Array.toArray_toList (xs := cells)]; exact all_oneCell_toArray h1) (h _ ?_ (setCells_beside g _ 0 w) (setCells_size g _ 0 w))
  · rw [blk_cell hb, Nat.zero_add, Array.getElem?_eq_getElem (by omega)]
    rfl
  · rw [setCells_blk cells.toList 0 hb, putAll_whole cur cells hs]
/-- A new box is filled. -/
theorem fill_box {w : World} (hgd : o.guard = none) (ty : TypeId) (x y : Operand) (ho : o.op = .store ty x y) (cur cells : Array Value) (t : TypeId) (hx : a.eval x = .pointer (some ⟨w.heap.size, 0, none⟩)) (hy : a.eval y = .agg cells)
    (hs : cur.size = cells.size) (hi : (P.info? ty).map (·.size) = some cells.size) (h1 : ∀ u ∈ cells.toList, u.oneCell' = true)
    (h : ∀ w1, w1.heap[w.heap.size]? = some (.cells cells t (0, 0)) → Below w.heap.size w w1 → w1.heap.size = w.heap.size + 1 → wpList P ops Q rest (a.put o.dst undef) w1) : wpList P ops Q (o :: rest) a (w.alloc (.cells cur t)) := by
  refine store_box hgd ty x y ho w.heap.size cur cells t hx hy (blk_new w _) hs hi h1 (fun w1 hb hB hz => h w1 hb ?_ (by rw [hz]; simp))
  exact Beside.below ((Beside.of_below (fun k => k = w.heap.size) (below_alloc (Below.refl _ _) _)).trans hB) (fun k hk => by omega)
end

end Go.Proofs.Ytdeknknefjepnaa.Walk
