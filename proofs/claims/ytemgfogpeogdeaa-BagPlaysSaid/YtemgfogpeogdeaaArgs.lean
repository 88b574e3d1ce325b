/- What is proved: an argument of each kind of struct that the laws take reads as a value of that kind. Conditions: none beyond each theorem's own. -/
import Derived.Test.YtemgfogpeogdeaaOpen
namespace Go.Proofs.Ytemgfogpeogdeaa.Open
open Go.RowKit Go.Proofs.Ytemgfogpeogdeaa.F Go.Proofs.YtemgfogpeogdeaaW.PrintWords
def wf36 (y : S36) : Prop := (Lit.int .i64 y.f0).wf = true ∧ ((y.f1).length ≤ maxLen ∧ ∀ x ∈ y.f1, (Lit.int .u8 x).wf = true) ∧ (Lit.int .i64 y.f2).wf = true ∧ (Lit.int .i64 y.f3).wf = true ∧ (Lit.int .u32 y.f4).wf = true
theorem open_k36 : Opens Try.prog 36 k36 wf36 := opens_iso (g := fun x => (⟨x.1, x.2.1, x.2.2.1, x.2.2.2.1, x.2.2.2.2⟩ : S36)) (fun _ => rfl) (opens_struct Try.underlying36 (by kernel_rfl) (fs_cons rfl (by kernel_rfl) (opens_int Try.underlying3) (fs_cons rfl (by kernel_rfl) (opens_slice Try.underlying24 (by kernel_rfl) (opens_int Try.underlying5)) (fs_cons rfl (by kernel_rfl) (opens_int Try.underlying3) (fs_cons rfl (by kernel_rfl) (opens_int Try.underlying3) (fs_one rfl (by kernel_rfl) (opens_int Try.underlying34)))))))
end Go.Proofs.Ytemgfogpeogdeaa.Open
