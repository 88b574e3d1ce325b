/- What is proved: an argument of each kind of struct that the laws take reads as a value of that kind. Conditions: none beyond each theorem's own. -/
import Derived.Test.YtahdbiddpphepaaOpen
namespace Go.Proofs.Ytahdbiddpphepaa.Open
open Go.RowKit Go.Proofs.Ytahdbiddpphepaa.F Go.Proofs.YtahdbiddpphepaaW.PrintWords
def wf29 (y : S29) : Prop := True ∧ (Lit.int .i64 y.f1).wf = true ∧ (Lit.int .u64 y.f2).wf = true ∧ ((y.f3).length ≤ maxLen ∧ ∀ x ∈ y.f3, (Lit.int .u64 x).wf = true) ∧ ((y.f4).length ≤ maxLen ∧ ∀ x ∈ y.f4, (Lit.int .u64 x).wf = true)
theorem open_k29 : Opens Try.prog 29 k29 wf29 := opens_iso (g := fun x => (⟨x.1, x.2.1, x.2.2.1, x.2.2.2.1, x.2.2.2.2⟩ : S29)) (fun _ => rfl) (opens_struct Try.underlying29 (by kernel_rfl) (fs_cons rfl (by kernel_rfl) (opens_bool Try.underlying4) (fs_cons rfl (by kernel_rfl) (opens_int Try.underlying3) (fs_cons rfl (by kernel_rfl) (opens_int Try.underlying26) (fs_cons rfl (by kernel_rfl) (opens_slice Try.underlying27 (by kernel_rfl) (opens_int Try.underlying26)) (fs_one rfl (by kernel_rfl) (opens_slice Try.underlying27 (by kernel_rfl) (opens_int Try.underlying26))))))))
def wf40 (y : S40) : Prop := (Lit.int .u8 y.f0).wf = true ∧ (Lit.int .u64 y.f1).wf = true
theorem open_k40 : Opens Try.prog 40 k40 wf40 := opens_iso (g := fun x => (⟨x.1, x.2⟩ : S40)) (fun _ => rfl) (opens_struct Try.underlying40 (by kernel_rfl) (fs_cons rfl (by kernel_rfl) (opens_int Try.underlying5) (fs_one rfl (by kernel_rfl) (opens_int Try.underlying26))))
end Go.Proofs.Ytahdbiddpphepaa.Open
