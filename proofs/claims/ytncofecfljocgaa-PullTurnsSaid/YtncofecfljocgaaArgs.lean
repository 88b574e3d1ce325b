/- What is proved: an argument of each kind of struct that the laws take reads as a value of that kind. Conditions: none beyond each theorem's own. -/
import Derived.Test.YtncofecfljocgaaOpen
namespace Go.Proofs.Ytncofecfljocgaa.Open
open Go.RowKit Go.Proofs.Ytncofecfljocgaa.F Go.Proofs.YtncofecfljocgaaW.PrintWords
def wf40 (y : S40) : Prop := (Lit.int .i64 y.f0).wf = true ∧ (Lit.int .i64 y.f1).wf = true ∧ (Lit.int .i64 y.f2).wf = true ∧ ((y.f3).length ≤ maxLen ∧ ∀ x ∈ y.f3, (Lit.int .u64 x).wf = true) ∧ ((y.f4).length ≤ maxLen ∧ ∀ x ∈ y.f4, (Lit.int .i64 x).wf = true)
theorem open_k40 : Opens Try.prog 40 k40 wf40 := opens_iso (g := fun x => (⟨x.1, x.2.1, x.2.2.1, x.2.2.2.1, x.2.2.2.2⟩ : S40)) (fun _ => rfl) (opens_struct Try.underlying40 (by kernel_rfl) (fs_cons rfl (by kernel_rfl) (opens_int Try.underlying3) (fs_cons rfl (by kernel_rfl) (opens_int Try.underlying3) (fs_cons rfl (by kernel_rfl) (opens_int Try.underlying2) (fs_cons rfl (by kernel_rfl) (opens_slice Try.underlying28 (by kernel_rfl) (opens_int Try.underlying27)) (fs_one rfl (by kernel_rfl) (opens_slice Try.underlying31 (by kernel_rfl) (opens_int Try.underlying3))))))))
end Go.Proofs.Ytncofecfljocgaa.Open
