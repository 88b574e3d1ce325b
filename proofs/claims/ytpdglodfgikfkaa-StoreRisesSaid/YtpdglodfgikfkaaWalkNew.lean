/- A new store. Conditions: none beyond the statement's own. -/
import Derived.Test.YtpdglodfgikfkaaWalkRise
import Derived.Test.YtpdglodfgikfkaaArgs
import Derived.Deep.QuietTactic
import Derived.BigQuiet
import Derived.Lib.QuietBelow
import Derived.Outline
import Derived.Deep.RegionHeld3
import Derived.Deep.CutRange
namespace Go.Proofs.Ytpdglodfgikfkaa.Walk
open Go.RowKit Go.Proofs.Ytpdglodfgikfkaa.F Go.Proofs.YtpdglodfgikfkaaW.PrintWords Go.Proofs.YtpdglodfgikfkaaW.PrintLast Go.Proofs.YtpdglodfgikfkaaW.PrintMore Go.Proofs.Ytpdglodfgikfkaa.Open
open Go.Sort (grow)
attribute [local go_sem] max2_int min2_int max_two min_two max_three min_three max_four min_four
set_option linter.unusedVariables false
set_option linter.unusedSimpArgs false

/-! ### A new store -/
def nn (n : Int) : Nat := if 64 < n then 64 else if 1 < n then n.toNat else 1
theorem nn_ok (n : Int) : 1 ≤ nn n ∧ nn n ≤ 64 := by
  unfold nn
  split
  · omega
  · split <;> omega
def rm (r : Int) : Int := if r > 0 then r else 0
theorem infoU : (Try.prog.info? tU).map (fun i => (i.zero, i.size, i.bytes)) = some (some (.int .u64 0), 1, 8) := by kernel_rfl
theorem Tops_new (n : Nat) : Tops [] (List.replicate n 0) (List.replicate n 0) := by
  intro i f h hf hh
  rw [List.getElem?_replicate] at hf hh
  split at hf
  · rename_i hi
    rw [if_pos hi] at hh
    cases hf
    cases hh
    exact ⟨Int.le_refl _, fun s h1 h2 => by omega, rfl⟩
  · cases hf
/-- Four blocks, laid in whatever order. -/
theorem new_St {w w1 : World} {g mb fb hb n : Nat} {r : Int} (h1 : 1 ≤ n) (h2 : n ≤ 64) (hr : r ≤ 9223372036854775807) (hB : Below w.heap.size w w1) (hg : w1.heap[g]? = some (.cells #[.int .i64 (rm r), .int .i64 0, .map (some mb), .slice (some ⟨fb, 0, none⟩) n n, .slice (some ⟨hb, 0, none⟩) n n] tSt (0, 0)))
    (hm : w1.heap[mb]? = some (.map #[] 0)) (hf : w1.heap[fb]? = some (.cells (madeCells #[.int .u64 0] n) tU (0, 0))) (hh : w1.heap[hb]? = some (.cells (madeCells #[.int .u64 0] n) tU (0, 0))) (ne : g ≠ mb ∧ g ≠ fb ∧ g ≠ hb ∧ mb ≠ fb ∧ mb ≠ hb ∧ fb ≠ hb) (up : w.heap.size ≤ g ∧ w.heap.size ≤ mb ∧ w.heap.size ≤ fb ∧ w.heap.size ≤ hb) :
    St w1 (fun k => w.heap.size ≤ k) g mb fb hb n (rm r) [] (List.replicate n 0) (List.replicate n 0) := by
  have hz : ∀ x ∈ List.replicate n (0 : Int), 0 ≤ x ∧ x ≤ 4611686018427387904 := fun x hx => by rw [List.eq_of_mem_replicate hx]; omega
  rw [u64c_zero] at hf hh
  exact ⟨up.1, up.2.1, up.2.2.1, up.2.2.2, ne, h1, h2, by unfold rm; split <;> omega, by show ((0 : Nat) : Int) ≤ _; unfold rm; split <;> omega, by simp, by simp, hz, hz, by simp, hg, hf, hh, ⟨by simp, #[], 0, hm, MapKept.stamped_empty 0, rfl⟩, by simp⟩
theorem four (w : World) (a b c d : Obj) : ((((w.alloc a).alloc b).alloc c).alloc d).heap[w.heap.size]? = some a ∧ ((((w.alloc a).alloc b).alloc c).alloc d).heap[w.heap.size + 1]? = some b ∧ ((((w.alloc a).alloc b).alloc c).alloc d).heap[w.heap.size + 1 + 1]? = some c ∧ ((((w.alloc a).alloc b).alloc c).alloc d).heap[w.heap.size + 1 + 1 + 1]? = some d := by
  have s1 : (w.alloc a).heap.size = w.heap.size + 1 := by simp
  have s2 : ((w.alloc a).alloc b).heap.size = w.heap.size + 1 + 1 := by simp
  have s3 : (((w.alloc a).alloc b).alloc c).heap.size = w.heap.size + 1 + 1 + 1 := by simp
  refine ⟨blk_alloc (blk_alloc (blk_alloc (blk_new w a) b) c) d, blk_alloc (blk_alloc ?_ c) d, blk_alloc ?_ d, ?_⟩
  · rw [← s1]; exact blk_new _ _
  · rw [← s2]; exact blk_new _ _
  · rw [← s3]; exact blk_new _ _
theorem fourB (w : World) (a b c d : Obj) : Below w.heap.size w (((((w.alloc a).alloc b).alloc c).alloc d).drew) := below_drew (below_alloc (below_alloc (below_alloc (below_alloc (Below.refl _ _) _) _) _) _)
set_option maxHeartbeats 2000000 in
theorem New_calls (a r : Int) (hr : r ≤ 9223372036854775807) (w : World) : Calls Try.prog 9 #[.int .i64 a, .int .i64 r] w fun e w' => ∃ (g mb fb hb : Nat), e = .returned (.pointer (some ⟨g, 0, none⟩)) ∧ St w' (fun k => w.heap.size ≤ k) g mb fb hb (nn a) (rm r) [] (List.replicate (nn a) 0) (List.replicate (nn a) 0) ∧ Below w.heap.size w w' := by
  have hn1 := (nn_ok a).1
  have hn2 := (nn_ok a).2
  obtain ⟨mm, hmm⟩ : ∃ mm : Int, mm = if a < 64 then a else 64 := ⟨_, rfl⟩
  have hmin : Builtin.min2 (.int .i64 a) (.int .i64 64) = pure (.int .i64 mm) := by
    rw [min2_int]
    congr 2
    rw [hmm]
    repeat (first | rfl | omega | split)
  have hmax : Builtin.max2 (.int .i64 1) (.int .i64 mm) = pure (.int .i64 (nn a : Nat)) := by
    rw [max2_int]
    congr 2
    rw [hmm]
    unfold nn
    repeat (first | rfl | omega | split)
  have hmax2 : Builtin.max2 (.int .i64 r) (.int .i64 0) = pure (.int .i64 (rm r)) := by
    rw [max2_int]
    congr 2
    unfold rm
    repeat (first | rfl | omega | split)
  have hmk := @run_makeMap Try.prog
  have NS := fun (w1 : World) (g mb fb hb : Nat) => new_St (w := w) (w1 := w1) (g := g) (mb := mb) (fb := fb) (hb := hb) hn1 hn2 hr
  have HNS := Aside0.mk NS
  have hms := print_make (P := Try.prog) 35 tU .u64 8 Try.underlying35 infoU (by decide) (nn a) (by omega)
  clear NS
  generalize rm r = rr at *
  generalize nn a = n at *
  clear hmm
  have hbS := fun (m : Option Nat) (v u : Option Addr) (n1 c1 m1 d1 : Nat) (W : World) => run_build (P := Try.prog) W tSt #[(0, .int .i64 rr), (2, .map m), (3, .slice v n1 c1), (4, .slice u m1 d1)] #[.int .i64 rr, .int .i64 0, .map m, .slice v n1 c1, .slice u m1 d1] (by kernel_rfl)
  go_enter Try.func9, Try.ntmps9
  go_wp2_with fail
  go_region_held3 (fun _ => True) (trivial) (fail)
  all_goals
    go_wp2_with fail
    go_ret
    exact ⟨_, _, _, _, rfl, HNS.out _ _ _ _ _ (fourB w _ _ _ _) (four w _ _ _ _).2.2.2 (by first | exact (four w _ _ _ _).1 | exact (four w _ _ _ _).2.1 | exact (four w _ _ _ _).2.2.1) (by first | exact (four w _ _ _ _).1 | exact (four w _ _ _ _).2.1 | exact (four w _ _ _ _).2.2.1) (by first | exact (four w _ _ _ _).1 | exact (four w _ _ _ _).2.1 | exact (four w _ _ _ _).2.2.1) (by omega) (by omega), fourB w _ _ _ _⟩

end Go.Proofs.Ytpdglodfgikfkaa.Walk
