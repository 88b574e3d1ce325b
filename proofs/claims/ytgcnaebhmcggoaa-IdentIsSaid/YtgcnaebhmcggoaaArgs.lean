/- What is proved: an argument of each kind of struct that the laws take reads as a value of that kind. Conditions: none beyond each theorem's own. -/
import Derived.Test.YtgcnaebhmcggoaaOpen
namespace Go.Proofs.Ytgcnaebhmcggoaa.Open
open Go.RowKit Go.Proofs.Ytgcnaebhmcggoaa.F Go.Proofs.YtgcnaebhmcggoaaW.PrintWords
def wf33 (y : S33) : Prop := (Lit.int .u8 y.f0).wf = true ∧ (Lit.int .u64 y.f1).wf = true
theorem open_k33 : Opens Try.prog 33 k33 wf33 := opens_iso (g := fun x => (⟨x.1, x.2⟩ : S33)) (fun _ => rfl) (opens_struct Try.underlying33 (by kernel_rfl) (fs_cons rfl (by kernel_rfl) (opens_int Try.underlying5) (fs_one rfl (by kernel_rfl) (opens_int Try.underlying31))))
def wf40 (y : S40) : Prop := (Lit.int .u8 y.f0).wf = true ∧ (Lit.int .u64 y.f1).wf = true ∧ (Lit.int .u64 y.f2).wf = true
theorem open_k40 : Opens Try.prog 40 k40 wf40 := opens_iso (g := fun x => (⟨x.1, x.2.1, x.2.2⟩ : S40)) (fun _ => rfl) (opens_struct Try.underlying40 (by kernel_rfl) (fs_cons rfl (by kernel_rfl) (opens_int Try.underlying5) (fs_cons rfl (by kernel_rfl) (opens_int Try.underlying31) (fs_one rfl (by kernel_rfl) (opens_int Try.underlying31)))))
end Go.Proofs.Ytgcnaebhmcggoaa.Open
