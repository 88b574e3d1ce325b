/- What a nil link answers. Conditions: none beyond the statement's own. -/
import Derived.Test.YtmdomkpdfmoboaaWalkOut
import Derived.Test.YtmdomkpdfmoboaaF8
import Derived.Test.YtmdomkpdfmoboaaArgs
import Derived.Deep.QuietTactic
import Derived.BigQuiet
import Derived.Lib.QuietBelow
import Derived.Outline
import Derived.Deep.RegionHeld3
import Derived.Deep.CutRange
namespace Go.Proofs.Ytmdomkpdfmoboaa.Walk
open Go.RowKit Go.Proofs.Ytmdomkpdfmoboaa.F Go.Proofs.YtmdomkpdfmoboaaW.PrintWords Go.Proofs.YtmdomkpdfmoboaaW.PrintLast Go.Proofs.YtmdomkpdfmoboaaW.PrintMore Go.Proofs.Ytmdomkpdfmoboaa.Open
open Go.Sort (grow)
attribute [local go_sem] max2_int min2_int max_two min_two max_three min_three max_four min_four
set_option linter.unusedVariables false
set_option linter.unusedSimpArgs false

/-! ### The nil link -/
theorem LWaits_nil (w : World) : Calls Try.prog 14 #[.pointer none] w fun e w' => e = .returned (.int .i64 0) ∧ w' = w := by
  go_enter Try.func14, Try.ntmps14
  go_wp2
  go_ret
  exact ⟨rfl, rfl⟩
theorem LRoom_nil (w : World) : Calls Try.prog 16 #[.pointer none] w fun e w' => e = .returned (.int .i64 0) ∧ w' = w := by
  go_enter Try.func16, Try.ntmps16
  go_wp2
  go_ret
  exact ⟨rfl, rfl⟩
theorem LUpto_nil (w : World) : Calls Try.prog 15 #[.pointer none] w fun e w' => e = .returned (.int .u64 0) ∧ w' = w := by
  go_enter Try.func15, Try.ntmps15
  go_wp2
  go_ret
  exact ⟨rfl, rfl⟩
theorem LOut_nil (a : Int) (w : World) : Calls Try.prog 12 #[.pointer none, .int .i64 a] w fun e w' => e = .returned (.slice none 0 0) ∧ w' = w := by
  go_enter Try.func12, Try.ntmps12
  go_wp2
  go_ret
  exact ⟨rfl, rfl⟩
theorem LSend_nil (A : Option Addr) (n c : Nat) (w : World) : Calls Try.prog 11 #[.pointer none, .slice A n c] w fun e w' => e = .returned (.int .i64 0) ∧ w' = w := by
  go_enter Try.func11, Try.ntmps11
  go_wp2
  go_ret
  exact ⟨rfl, rfl⟩
set_option maxHeartbeats 2000000 in
set_option maxRecDepth 100000 in
theorem LCome_nil (k f t idf : Int) (ids seq at_ of_ size inst round : Int) (w : World) : Calls Try.prog 13 #[.pointer none, .agg #[.int .u8 k, .int .u8 f, .int .u8 t, .int .u8 idf, .int .u64 ids, .int .u64 seq, .int .u32 at_, .int .u32 of_, .int .u32 size, .int .u64 inst, .int .u64 round, .slice none 0 0, .slice none 0 0, .slice none 0 0, .slice none 0 0, .slice none 0 0]] w fun e w' => e = .returned (.tuple #[.agg #[.int .u8 0, .int .u8 0, .int .u8 0, .int .u8 0, .int .u64 0, .int .u64 0, .int .u32 0, .int .u32 0, .int .u32 0, .int .u64 0, .int .u64 0, .slice none 0 0, .slice none 0 0, .slice none 0 0, .slice none 0 0, .slice none 0 0], .bool false]) ∧ Below w.heap.size w w' := by
  go_enter Try.func13, Try.ntmps13
  go_wp2
  go_quiet (fail)
  go_wp2
  refine bodyPost_ret (v := .tuple #[.agg #[.int .u8 0, .int .u8 0, .int .u8 0, .int .u8 0, .int .u64 0, .int .u64 0, .int .u32 0, .int .u32 0, .int .u32 0, .int .u64 0, .int .u64 0, .slice none 0 0, .slice none 0 0, .slice none 0 0, .slice none 0 0, .slice none 0 0], .bool false]) (by simp [results, Try.results13, go_sem]) rfl ⟨rfl, ?_⟩
  repeat (first | (with_reducible refine below_set ?_ (by simp)) | (with_reducible apply below_alloc) | (with_reducible apply pw_below_drewN) | (with_reducible apply below_drew) | (with_reducible exact Below.refl _ _))
theorem same_zero : unisonref06_Same.f 3 0 0 0 0 0 0 0 0 0 0 0 [] [] [] [] [] 0 0 0 0 0 0 0 0 0 0 0 [] [] [] [] [] = some true := by decide

end Go.Proofs.Ytmdomkpdfmoboaa.Walk
