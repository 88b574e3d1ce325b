/- IdentChain: the row of the law, out of its Pure and the functions' contracts. Conditions: none beyond the statement's own. -/
import Derived.Test.YtgcnaebhmcggoaaRows
import Derived.Test.YtgcnaebhmcggoaaArgs
import Derived.Test.YtgcnaebhmcggoaaWalkIdentChain
import Derived.WalkKit
import Derived.ProofKit
import Derived.OpenShut
import Derived.ShutString
import Derived.ChangeOld
import Derived.Below
import Derived.SizedLaws
namespace Go.Proofs.Ytgcnaebhmcggoaa.identChain
open Go.ChangeShapes Go.WideShapes Go.ChangeAt Go.RowKit Go.Proofs.Ytgcnaebhmcggoaa.F Go.Proofs.Ytgcnaebhmcggoaa.Open Go.Proofs.YtgcnaebhmcggoaaW.PrintWords
open Go.ChangeMaps (open_string shut_string)
set_option linter.unusedVariables false
theorem own : ownKnob Try.prog.godebug = none := by kernel_rfl
theorem laidOut : laidOutB Try.prog = true := by kernel_rfl
set_option maxRecDepth 100000 in
theorem lifted (os : Os) (started : os.Started) (H : Type) (enc : TypeId × Value → H) :
    ReturnsInHanded {} Try.checked os 4 .any (Rows.identChainSpec.pre6 enc Try.prog Try.f4 Rows.identChainRow.domain false) (Rows.identChainSpec.post enc Try.prog Try.f4 false true false false) := by
  refine returnsInHanded_of_change (C := Try.checked) own started (by kernel_rfl) Try.func4
    (ChangeSpec.witness6 (enc := enc) (C := Try.checked) false ⟨#[], #[.agg #[.int .u8 0, .int .u64 0], .agg #[.int .u8 0, .int .u64 0], .agg #[.int .u8 0, .int .u64 0]], []⟩ 8 (by kernel_rfl) (by kernel_rfl) (by kernel_rfl) (by kernel_rfl)) ?_
  intro W base args ds gs before hval0 hW hcnd _
  have hval : ∀ (j : Nat) t v, Try.f4.params[j]? = some t → args[j]? = some v → Value.okWide Try.prog W .any base t v := hval0
  have hW' := hW
  obtain ⟨p, q, hA0, hV, rfl, hfz, hnd⟩ := hW
  have hA : DataW.TrodAll enc Try.prog W 0 (fun _ => true) true Try.f4.params.toList args.toList ds p := hA0
  rw [Try.params4] at hA hval
  obtain ⟨v0, vs0, d0, ds0, p0, q0, hargs, rfl, rfl, h0, r0⟩ := trodAll_cons hA
  obtain ⟨v1, vs1, d1, ds1, p1, q1, rfl, rfl, rfl, h1, r1⟩ := trodAll_cons r0
  obtain ⟨v2, vs2, d2, ds2, p2, q2, rfl, rfl, rfl, h2, r2⟩ := trodAll_cons r1
  obtain ⟨rfl, rfl, rfl⟩ := trodAll_nil r2
  obtain rfl : args = #[v0, v1, v2] := by cases args; simp_all
  obtain ⟨rfl, rfl⟩ := trodVars_none hV
  have k0_ := h0
  have lt0 : ∀ x ∈ p0, x.block < W.heap.size := by obtain ⟨m, hm⟩ := k0_; exact DataW.trod_lt m _ _ _ hm
  obtain ⟨cs0, rfl, _⟩ := okWide_struct Try.underlying33 (hval 0 33 v0 rfl rfl)
  obtain ⟨x0, hK0, w0⟩ : ∃ x, k33.K W x cs0.toList ∧ wf33 x := by obtain ⟨m, hm⟩ := h0; exact open_k33 _ _ _ _ _ _ _ _ _ hm
  obtain hcs0 := k33_open hK0
  obtain rfl : cs0 = #[.int .u8 x0.f0, .int .u64 x0.f1] := Array.toList_inj.mp hcs0
  have k1_ := h1
  have lt1 : ∀ x ∈ p1, x.block < W.heap.size := by obtain ⟨m, hm⟩ := k1_; exact DataW.trod_lt m _ _ _ hm
  obtain ⟨cs1, rfl, _⟩ := okWide_struct Try.underlying33 (hval 1 33 v1 rfl rfl)
  obtain ⟨x1, hK1, w1⟩ : ∃ x, k33.K W x cs1.toList ∧ wf33 x := by obtain ⟨m, hm⟩ := h1; exact open_k33 _ _ _ _ _ _ _ _ _ hm
  obtain hcs1 := k33_open hK1
  obtain rfl : cs1 = #[.int .u8 x1.f0, .int .u64 x1.f1] := Array.toList_inj.mp hcs1
  have k2_ := h2
  have lt2 : ∀ x ∈ p2, x.block < W.heap.size := by obtain ⟨m, hm⟩ := k2_; exact DataW.trod_lt m _ _ _ hm
  obtain ⟨cs2, rfl, _⟩ := okWide_struct Try.underlying33 (hval 2 33 v2 rfl rfl)
  obtain ⟨x2, hK2, w2⟩ : ∃ x, k33.K W x cs2.toList ∧ wf33 x := by obtain ⟨m, hm⟩ := h2; exact open_k33 _ _ _ _ _ _ _ _ _ hm
  obtain hcs2 := k33_open hK2
  obtain rfl : cs2 = #[.int .u8 x2.f0, .int .u64 x2.f1] := Array.toList_inj.mp hcs2
  clear hA0 hval0
  refine (Walk.IdentChain x0.f0 x0.f1 x1.f0 x1.f1 x2.f0 x2.f1 W  w0 w1 w2).mono fun e W' ⟨he, bel⟩ => ?_
  subst he
  exact ⟨_, rfl, _, _, _, [], _, [], hW', trodAll_mk1 (shut_bool Try.underlying4 _), (trodAll_cons_mk (Below.trod laidOut (by kernel_rfl) (of_decide_eq_true (by kernel_rfl)) k0_ bel lt0) (trodAll_cons_mk (Below.trod laidOut (by kernel_rfl) (of_decide_eq_true (by kernel_rfl)) k1_ bel lt1) (trodAll_cons_mk (Below.trod laidOut (by kernel_rfl) (of_decide_eq_true (by kernel_rfl)) k2_ bel lt2) trodAll_mk0))), rfl, bel.frame _, fun h => by cases h⟩
theorem over : Rows.identChainRow.holds Try.pinned (OpenSpec.ofChange Rows.identChainSpec) :=
  OpenClaim.holds_of_wide 4 Try.f4 rfl rfl rfl rfl rfl rfl rfl ⟨rfl, rfl, rfl, rfl, rfl⟩ rfl rfl rfl rfl rfl (by kernel_rfl) Try.func4 (by kernel_rfl)
    (of_decide_eq_true (by kernel_rfl)) (by unfold Func.isWrapper; first | (rw [if_pos (by decide +kernel)]; kernel_rfl) | (rw [if_neg (by decide +kernel)]; exact ⟨rfl, rfl⟩))
    (fun os started H enc _ => lifted os started H enc)
theorem proved : Rows.IdentChainSaid := over
#print axioms proved
end Go.Proofs.Ytgcnaebhmcggoaa.identChain
namespace Go.Proofs.Ytgcnaebhmcggoaa
/-- The row, under a short name, for the claim. -/
theorem identChain_holds : Rows.IdentChainSaid := identChain.proved
end Go.Proofs.Ytgcnaebhmcggoaa
