/- A new window has nothing that waits. Conditions: none beyond the statement's own. -/
import Derived.Test.YtdeknknefjepnaaWalkGet
import Derived.Test.YtdeknknefjepnaaArgs
import Derived.Deep.QuietTactic
import Derived.BigQuiet
import Derived.Lib.QuietBelow
import Derived.Outline
import Derived.Deep.RegionHeld3
import Derived.Deep.CutRange
namespace Go.Proofs.Ytdeknknefjepnaa.Walk
open Go.RowKit Go.Proofs.Ytdeknknefjepnaa.F Go.Proofs.YtdeknknefjepnaaW.PrintWords Go.Proofs.YtdeknknefjepnaaW.PrintLast Go.Proofs.YtdeknknefjepnaaW.PrintMore Go.Proofs.Ytdeknknefjepnaa.Open
open Go.Sort (grow)
attribute [local go_sem] max2_int min2_int max_two min_two max_three min_three max_four min_four
set_option linter.unusedVariables false
set_option linter.unusedSimpArgs false

/-! ### A new window -/
def wid (a : Int) : Nat := if 64 < a then 64 else if 1 < a then a.toNat else 1
theorem zf_M (w : World) (base : Nat) (ok : Nat → Prop) : kF.M w base ok z36 [.int .u8 0, .int .u8 0, .int .u8 0, .int .u8 0, .int .u64 0, .int .u64 0, .int .u32 0, .int .u32 0, .int .u32 0, .int .u64 0, .int .u64 0, .slice none 0 0, .slice none 0 0, .slice none 0 0, .slice none 0 0, .slice none 0 0] :=
  k36_mkM w base ok z36 (Kd.R_nil _ _ _ _ _) (Kd.R_nil _ _ _ _ _) (Kd.R_nil _ _ _ _ _) (Kd.R_nil _ _ _ _ _) (Kd.R_nil _ _ _ _ _)
theorem new_win {w w1 : World} {rb cap n : Nat} (h1 : 1 ≤ n) (h2 : n ≤ 64) (ho : Kd.R kF eF w1 w.heap.size (fun _ => True) (.slice (some ⟨rb, 0, none⟩) n cap) (List.replicate n z36)) (hb : Below w.heap.size w w1) :
    Win (w1.alloc (.cells #[.slice (some ⟨rb, 0, none⟩) n cap, .int .u64 1, .int .u64 0] tW)) (fun k => w.heap.size ≤ k) w1.heap.size n 0 [] := by
  refine ⟨⟨h1, h2, by simp, by simp, by omega, by simp⟩, hb.size, List.replicate n z36, rb, cap, blk_new w1 _, ?_, by simp, fun i hi => by simp at hi⟩
  exact Kd.R_alloc (Kd.R_lower (Kd.R_mono (Kd.R_bound ho) (fun k hk => ⟨hk.2.1, by have := hk.2.2.1; omega⟩)) (Nat.zero_le _)) _
set_option maxHeartbeats 1000000 in
theorem New_calls (a : Int) (w : World) : Calls Try.prog 8 #[.int .i64 a] w fun e w' => ∃ g, e = .returned (.pointer (some ⟨g, 0, none⟩)) ∧ w.heap.size ≤ g ∧ Win w' (fun k => w.heap.size ≤ k) g (wid a) 0 [] ∧ Below w.heap.size w w' := by
  by_cases h : 64 < a
  · rw [show wid a = 64 from if_pos h]
    go_enter Try.func8, Try.ntmps8
    go_wp2_with ((with_reducible refine gate_dst (N := 6) rfl ?_); go_loud (refine Kd.R_make kF (w0 := w) w.heap.size eF rfl (N := 6) rfl 37 (.tmp 5) (.tmp 5) rfl 64 rfl rfl Try.underlying37 _ 184 info36 rfl (by decide) (by decide) z36 (ok := fun _ => True) (okp := fun _ => True) (zf_M _ _ _) (fun _ h => h) trivial (by omega) (by omega) (Below.refl _ _) (Nat.le_refl _) ?_); intro v1 w1 ho hb _ _; simp only [Int.reduceToNat, Int.toNat_natCast] at ho; obtain ⟨rb, cap, rfl, hc, hrb, hlt⟩ := R_head ho (by simp; try omega); rw [List.length_replicate] at ho; have HO := Aside0.mk ho; have HB := Aside0.mk hb; clear ho hb)
    go_ret
    exact ⟨_, rfl, HB.out.size, new_win (by omega) (by omega) HO.out HB.out, below_alloc HB.out _⟩
  · by_cases h1 : 1 < a
    · rw [show wid a = a.toNat from (if_neg h).trans (if_pos h1)]
      obtain ⟨n, rfl⟩ : ∃ n : Nat, a = (n : Int) := ⟨a.toNat, by omega⟩
      rw [Int.toNat_natCast]
      go_enter Try.func8, Try.ntmps8
      go_wp2_with ((with_reducible refine gate_dst (N := 6) rfl ?_); go_loud (refine Kd.R_make kF (w0 := w) w.heap.size eF rfl (N := 6) rfl 37 (.tmp 5) (.tmp 5) rfl n rfl rfl Try.underlying37 _ 184 info36 rfl (by decide) (by decide) z36 (ok := fun _ => True) (okp := fun _ => True) (zf_M _ _ _) (fun _ h => h) trivial (by omega) (by omega) (Below.refl _ _) (Nat.le_refl _) ?_); intro v1 w1 ho hb _ _; simp only [Int.reduceToNat, Int.toNat_natCast] at ho; obtain ⟨rb, cap, rfl, hc, hrb, hlt⟩ := R_head ho (by simp; try omega); rw [List.length_replicate] at ho; have HO := Aside0.mk ho; have HB := Aside0.mk hb; clear ho hb)
      go_ret
      exact ⟨_, rfl, HB.out.size, new_win (by omega) (by omega) HO.out HB.out, below_alloc HB.out _⟩
    · rw [show wid a = 1 from (if_neg h).trans (if_neg h1)]
      go_enter Try.func8, Try.ntmps8
      go_wp2_with ((with_reducible refine gate_dst (N := 6) rfl ?_); go_loud (refine Kd.R_make kF (w0 := w) w.heap.size eF rfl (N := 6) rfl 37 (.tmp 5) (.tmp 5) rfl 1 rfl rfl Try.underlying37 _ 184 info36 rfl (by decide) (by decide) z36 (ok := fun _ => True) (okp := fun _ => True) (zf_M _ _ _) (fun _ h => h) trivial (by omega) (by omega) (Below.refl _ _) (Nat.le_refl _) ?_); intro v1 w1 ho hb _ _; simp only [Int.reduceToNat, Int.toNat_natCast] at ho; obtain ⟨rb, cap, rfl, hc, hrb, hlt⟩ := R_head ho (by simp; try omega); rw [List.length_replicate] at ho; have HO := Aside0.mk ho; have HB := Aside0.mk hb; clear ho hb)
      go_ret
      exact ⟨_, rfl, HB.out.size, new_win (by omega) (by omega) HO.out HB.out, below_alloc HB.out _⟩

end Go.Proofs.Ytdeknknefjepnaa.Walk
