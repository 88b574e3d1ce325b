/- What is proved: an argument of each kind of struct that the laws take reads as a value of that kind. Conditions: none beyond each theorem's own. -/
import Derived.Test.YtpdglodfgikfkaaOpen
namespace Go.Proofs.Ytpdglodfgikfkaa.Open
open Go.RowKit Go.Proofs.Ytpdglodfgikfkaa.F Go.Proofs.YtpdglodfgikfkaaW.PrintWords
def wf29 (y : S29) : Prop := (Lit.int .u8 y.f0).wf = true ∧ (Lit.int .u64 y.f1).wf = true
theorem open_k29 : Opens Try.prog 29 k29 wf29 := opens_iso (g := fun x => (⟨x.1, x.2⟩ : S29)) (fun _ => rfl) (opens_struct Try.underlying29 (by kernel_rfl) (fs_cons rfl (by kernel_rfl) (opens_int Try.underlying5) (fs_one rfl (by kernel_rfl) (opens_int Try.underlying27))))
def wf41 (y : S41) : Prop := (Lit.int .i64 y.f0).wf = true ∧ wf29 y.f1 ∧ ((y.f2).length ≤ maxLen ∧ ∀ x ∈ y.f2, (Lit.int .u8 x).wf = true) ∧ ((y.f3).length ≤ maxLen ∧ ∀ x ∈ y.f3, (Lit.int .u64 x).wf = true)
theorem open_k41 : Opens Try.prog 41 k41 wf41 := opens_iso (g := fun x => (⟨x.1, x.2.1, x.2.2.1, x.2.2.2⟩ : S41)) (fun _ => rfl) (opens_struct Try.underlying41 (by kernel_rfl) (fs_cons rfl (by kernel_rfl) (opens_int Try.underlying3) (fs_cons rfl (by kernel_rfl) open_k29 (fs_cons rfl (by kernel_rfl) (opens_slice Try.underlying30 (by kernel_rfl) (opens_int Try.underlying5)) (fs_one rfl (by kernel_rfl) (opens_slice Try.underlying35 (by kernel_rfl) (opens_int Try.underlying27)))))))
end Go.Proofs.Ytpdglodfgikfkaa.Open
