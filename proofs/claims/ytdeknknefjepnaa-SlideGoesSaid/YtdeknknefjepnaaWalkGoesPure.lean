/- The window that the law plays with. Conditions: none beyond the statement's own. -/
import Derived.Test.YtdeknknefjepnaaWalkSlideNil
import Derived.Test.YtdeknknefjepnaaArgs
import Derived.Deep.QuietTactic
import Derived.BigQuiet
import Derived.Lib.QuietBelow
import Derived.Outline
import Derived.Deep.RegionHeld3
import Derived.Deep.CutRange
namespace Go.Proofs.Ytdeknknefjepnaa.Walk
open Go.RowKit Go.Proofs.Ytdeknknefjepnaa.F Go.Proofs.YtdeknknefjepnaaW.PrintWords Go.Proofs.YtdeknknefjepnaaW.PrintLast Go.Proofs.YtdeknknefjepnaaW.PrintMore Go.Proofs.Ytdeknknefjepnaa.Open
open Go.Sort (grow)
attribute [local go_sem] max2_int min2_int max_two min_two max_three min_three max_four min_four
set_option linter.unusedVariables false
set_option linter.unusedSimpArgs false

/-! ### Frames by their numbers -/
def fr (l : List Int) (i : Nat) : Fr := { pf 0 0 0 0 0 0 (rd l (i : Int)) 0 0 0 0 with f2 := (i : Int) + 1 }
def segs (l : List Int) (nx m : Nat) : List Fr := (List.range m).map (fun q => fr l (nx - m + q))
theorem segs_length (l : List Int) (nx m : Nat) : (segs l nx m).length = m := by simp [segs]
theorem segs_snoc (l : List Int) (nx m : Nat) (h : m ≤ nx) : segs l nx m ++ [fr l nx] = segs l (nx + 1) (m + 1) := by
  unfold segs
  rw [List.range_succ, List.map_append]
  congr 1
  · apply List.map_congr_left
    intro q _
    congr 1
    omega
  · simp
    congr 1
    omega
theorem segs_drop (l : List Int) (nx m k : Nat) (h : m ≤ nx) (hk : k ≤ m) : (segs l nx m).drop k = segs l nx (m - k) := by
  apply List.ext_getElem
  · simp [segs]
  · intro i h1 h2
    simp only [segs, List.getElem_drop, List.getElem_map, List.getElem_range]
    congr 1
    omega
theorem segs_numb (l : List Int) (nx : Nat) (x : Int) (h : x = rd l (nx : Int)) : numb (nx : Int) [pf 0 0 0 0 0 0 x 0 0 0 0] = [fr l nx] := by
  subst h
  rfl
theorem segs_get (l : List Int) (nx m j : Nat) (hj : j < m) : (segs l nx m)[j]? = some (fr l (nx - m + j)) := by
  simp [segs, hj]
/-- The window of the law. -/
structure GW (w w' : World) (g n : Nat) (l : List Int) (nx m : Nat) : Prop where
  win : Win w' (fun b => w.heap.size ≤ b) g n nx (segs l nx m)
  le : m ≤ nx
  below : Below w.heap.size w w'
theorem GW.fit {w w' : World} {g n : Nat} {l : List Int} {nx m : Nat} (h : GW w w' g n l nx m) : m ≤ n := by
  have := h.win.ok.fit
  rwa [segs_length] at this
theorem GW.step {w w1 w2 : World} {g n : Nat} {l : List Int} {nx m : Nat} (h : GW w w1 g n l nx m) (hb : Below w1.heap.size w1 w2) : GW w w2 g n l nx m := ⟨h.win.below hb, h.le, below_step h.below hb⟩
theorem GW.drew {w w1 : World} {g n : Nat} {l : List Int} {nx m : Nat} (h : GW w w1 g n l nx m) (q : Nat) : GW w (w1.drewN q) g n l nx m := h.step (pw_below_drewN (Below.refl _ _) q)
theorem GW_Waits {w w1 : World} {g n : Nat} {l : List Int} {nx m : Nat} (h : GW w w1 g n l nx m) : Calls Try.prog 16 #[.pointer (some ⟨g, 0, none⟩)] w1 fun e w' => e = .returned (.int .i64 m) ∧ ∃ q, w' = w1.drewN q := by
  have := Waits_calls h.win
  rwa [segs_length] at this
theorem GW_First {w w1 : World} {g n : Nat} {l : List Int} {nx m : Nat} (fi : Int) (h : GW w w1 g n l nx m) (hf : fi = (nx : Int) + 1 - m) : Calls Try.prog 18 #[.pointer (some ⟨g, 0, none⟩)] w1 fun e w' => e = .returned (.int .u64 fi) ∧ w' = w1 := by
  have := First_calls h.win
  rw [segs_length] at this
  rwa [hf]
theorem GW_Acked {w w1 : World} {g n : Nat} {l : List Int} {nx m : Nat} (u : Int) (k : Nat) (h : GW w w1 g n l nx m) (hk : k ≤ m) (hu : u = (nx : Int) - m + k) : Calls Try.prog 14 #[.pointer (some ⟨g, 0, none⟩), .int .u64 u] w1 fun e w' => e = .returned (.int .i64 k) ∧ GW w w' g n l nx (m - k) := by
  have hle := h.le
  have hb := h.win.ok.big
  have hl := segs_length l nx m
  refine (Acked_calls u k w1 h.win (by omega) (by omega) (by rw [if_neg (by omega), hl]; omega)).mono ?_
  rintro e w' ⟨rfl, hw, hb⟩
  refine ⟨rfl, ⟨by rw [segs_drop l nx m k hle hk] at hw; exact hw, by omega, Beside.step h.below hb (fun k hk => hk)⟩⟩
theorem GW_Put {w w1 : World} {g n : Nat} {l : List Int} {nx m : Nat} (x : Int) (k : Nat) (h : GW w w1 g n l nx m) (hn : nx ≤ 1000) (hx : x = rd l (nx : Int)) (hk : k = min 1 (n - m)) :
    Calls Try.prog 9 #[.pointer (some ⟨g, 0, none⟩), .slice (some ⟨w1.heap.size, 0, none⟩) 1 1] (w1.alloc (.cells #[.int .u8 0, .int .u8 0, .int .u8 0, .int .u8 0, .int .u64 0, .int .u64 0, .int .u32 x, .int .u32 0, .int .u32 0, .int .u64 0, .int .u64 0, .slice none 0 0, .slice none 0 0, .slice none 0 0, .slice none 0 0, .slice none 0 0] 36)) fun e w' => e = .returned (.int .i64 k) ∧ GW w w' g n l (nx + k) (m + k) := by
  have hF := Kd.F_mono (ok' := fun b => ¬ (w.heap.size ≤ b ∧ b < w1.heap.size)) (F_lit (t := 36) (g := w1.heap.size) (ok := fun _ => False) (d := kF) [(pf 0 0 0 0 0 0 x 0 0 0 0, pcells 0 0 0 0 0 0 x 0 0 0 0)] (w := w1.alloc (.cells #[.int .u8 0, .int .u8 0, .int .u8 0, .int .u8 0, .int .u64 0, .int .u64 0, .int .u32 x, .int .u32 0, .int .u32 0, .int .u64 0, .int .u64 0, .slice none 0 0, .slice none 0 0, .slice none 0 0, .slice none 0 0, .slice none 0 0] 36)) (blk_new w1 _) (by simp) (fun r hr => by rw [List.mem_singleton.1 hr]; exact pf_FK _ _ _ _ _ _ _ _ _ _ _ _)) (fun b hb => by rcases hb with h | h; exact h.elim; omega)
  have hl := segs_length l nx m
  refine (Put_calls [pf 0 0 0 0 0 0 x 0 0 0 0] k _ (h.win.bound.below (below_alloc (Below.refl _ _) _)) hF (Nat.le_refl _) (fun f hf => by rw [List.mem_singleton.1 hf]; exact pf_fok _ _ _ _ _ _ _ _ _ _ _) (by simp; omega) (by rw [hl]; exact hk)).mono ?_
  rintro e w' ⟨rfl, hw, hb⟩
  have h1 := h.below.size
  have h2 : w1.heap.size < (w1.alloc (.cells #[.int .u8 0, .int .u8 0, .int .u8 0, .int .u8 0, .int .u64 0, .int .u64 0, .int .u32 x, .int .u32 0, .int .u32 0, .int .u64 0, .int .u64 0, .slice none 0 0, .slice none 0 0, .slice none 0 0, .slice none 0 0, .slice none 0 0] 36)).heap.size := by simp
  refine ⟨rfl, ⟨?_, by have := h.le; omega, Beside.step (below_alloc h.below _) hb (fun k hk => hk.1)⟩⟩
  have hw2 := hw.mono (S' := fun b => w.heap.size ≤ b) (fun b hb => by rcases hb with h | h; exact h.1; omega)
  by_cases hk1 : k = 0
  · subst hk1
    simpa [numb] using hw2
  · have : k = 1 := by omega
    subst this
    rw [show List.take 1 [pf 0 0 0 0 0 0 x 0 0 0 0] = [pf 0 0 0 0 0 0 x 0 0 0 0] from rfl, segs_numb l nx x hx, segs_snoc l nx m h.le] at hw2
    simpa using hw2

end Go.Proofs.Ytdeknknefjepnaa.Walk
