/- What is proved: an argument of each kind of struct that the laws take reads as a value of that kind. Conditions: none beyond each theorem's own. -/
import Derived.Test.YtmkacejnnjppjaaOpen
namespace Go.Proofs.Ytmkacejnnjppjaa.Open
open Go.RowKit Go.Proofs.Ytmkacejnnjppjaa.F Go.Proofs.YtmkacejnnjppjaaW.PrintWords
def wf46 (y : S46) : Prop := True ∧ (Lit.int .i64 y.f1).wf = true ∧ (Lit.int .i64 y.f2).wf = true ∧ (Lit.int .i64 y.f3).wf = true ∧ ((y.f4).length ≤ maxLen ∧ ∀ x ∈ y.f4, (Lit.int .u8 x).wf = true)
theorem open_k46 : Opens Try.prog 46 k46 wf46 := opens_iso (g := fun x => (⟨x.1, x.2.1, x.2.2.1, x.2.2.2.1, x.2.2.2.2⟩ : S46)) (fun _ => rfl) (opens_struct Try.underlying46 (by kernel_rfl) (fs_cons rfl (by kernel_rfl) (opens_bool Try.underlying4) (fs_cons rfl (by kernel_rfl) (opens_int Try.underlying3) (fs_cons rfl (by kernel_rfl) (opens_int Try.underlying3) (fs_cons rfl (by kernel_rfl) (opens_int Try.underlying3) (fs_one rfl (by kernel_rfl) (opens_slice Try.underlying24 (by kernel_rfl) (opens_int Try.underlying5))))))))
end Go.Proofs.Ytmkacejnnjppjaa.Open
