/- ChunkRight: the row of the law, out of its Pure and the functions' contracts. Conditions: none beyond the statement's own. -/
import Derived.Test.YthgpocefiaklkaaRows
import Derived.Test.YthgpocefiaklkaaArgs
import Derived.Test.YthgpocefiaklkaaF7
import Derived.Test.YthgpocefiaklkaaPureChunkRight
import Derived.WalkKit
import Derived.ProofKit
import Derived.OpenShut
import Derived.ShutString
import Derived.ChangeOld
import Derived.Below
import Derived.SizedLaws
namespace Go.Proofs.Ythgpocefiaklkaa.chunkRight
open Go.ChangeShapes Go.WideShapes Go.ChangeAt Go.RowKit Go.Proofs.Ythgpocefiaklkaa.F Go.Proofs.Ythgpocefiaklkaa.Open Go.Proofs.YthgpocefiaklkaaW.PrintWords
open Go.ChangeMaps (open_string shut_string)
set_option linter.unusedVariables false
theorem own : ownKnob Try.prog.godebug = none := by kernel_rfl
theorem laidOut : laidOutB Try.prog = true := by kernel_rfl
set_option maxRecDepth 100000 in
theorem lifted (os : Os) (started : os.Started) (H : Type) (enc : TypeId × Value → H) :
    ReturnsInHanded {} Try.checked os 4 .any (Rows.chunkRightSpec.pre6 enc Try.prog Try.f4 Rows.chunkRightRow.domain false) (Rows.chunkRightSpec.post enc Try.prog Try.f4 false true false false) := by
  refine returnsInHanded_of_change (C := Try.checked) own started (by kernel_rfl) Try.func4
    (ChangeSpec.witness6 (enc := enc) (C := Try.checked) false ⟨#[], #[.agg #[.int .u8 0, .int .u8 0, .int .u8 0, .int .u8 0, .int .u64 0, .int .u64 0, .int .u32 0, .int .u32 0, .int .u32 0, .int .u64 0, .int .u64 0, .slice none 0 0, .slice none 0 0, .slice none 0 0, .slice none 0 0, .slice none 0 0], .int .i64 0, .int .i64 0], []⟩ 8 (by kernel_rfl) (by kernel_rfl) (by kernel_rfl) (by kernel_rfl)) ?_
  intro W base args ds gs before hval0 hW hcnd _
  have hval : ∀ (j : Nat) t v, Try.f4.params[j]? = some t → args[j]? = some v → Value.okWide Try.prog W .any base t v := hval0
  have hW' := hW
  obtain ⟨p, q, hA0, hV, rfl, hfz, hnd⟩ := hW
  have hA : DataW.TrodAll enc Try.prog W 0 (fun _ => true) true Try.f4.params.toList args.toList ds p := hA0
  rw [Try.params4] at hA hval
  obtain ⟨v0, vs0, d0, ds0, p0, q0, hargs, rfl, rfl, h0, r0⟩ := trodAll_cons hA
  obtain ⟨v1, vs1, d1, ds1, p1, q1, rfl, rfl, rfl, h1, r1⟩ := trodAll_cons r0
  obtain ⟨v2, vs2, d2, ds2, p2, q2, rfl, rfl, rfl, h2, r2⟩ := trodAll_cons r1
  obtain ⟨rfl, rfl, rfl⟩ := trodAll_nil r2
  obtain rfl : args = #[v0, v1, v2] := by cases args; simp_all
  obtain ⟨rfl, rfl⟩ := trodVars_none hV
  have k0_ := h0
  have lt0 : ∀ x ∈ p0, x.block < W.heap.size := by obtain ⟨m, hm⟩ := k0_; exact DataW.trod_lt m _ _ _ hm
  obtain ⟨cs0, rfl, _⟩ := okWide_struct Try.underlying36 (hval 0 36 v0 rfl rfl)
  obtain ⟨x0, hK0, w0⟩ : ∃ x, k36.K W x cs0.toList ∧ wf36 x := by obtain ⟨m, hm⟩ := h0; exact open_k36 _ _ _ _ _ _ _ _ _ hm
  obtain ⟨A0_11, c0_11, A0_12, c0_12, A0_13, c0_13, A0_14, c0_14, A0_15, c0_15, hcs0, hc0_11, hr0_11, hc0_12, hr0_12, hc0_13, hr0_13, hc0_14, hr0_14, hc0_15, hr0_15⟩ := k36_open hK0
  obtain rfl : cs0 = #[.int .u8 x0.f0.f0, .int .u8 x0.f0.f1, .int .u8 x0.f0.f2, .int .u8 x0.f1.f0, .int .u64 x0.f1.f1, .int .u64 x0.f2, .int .u32 x0.f3, .int .u32 x0.f4, .int .u32 x0.f5, .int .u64 x0.f6, .int .u64 x0.f7, .slice A0_11 x0.f8.length c0_11, .slice A0_12 x0.f9.length c0_12, .slice A0_13 x0.f10.length c0_13, .slice A0_14 x0.f11.length c0_14, .slice A0_15 x0.f12.length c0_15] := Array.toList_inj.mp hcs0
  have k1_ := h1
  have lt1 : ∀ x ∈ p1, x.block < W.heap.size := by obtain ⟨m, hm⟩ := k1_; exact DataW.trod_lt m _ _ _ hm
  obtain ⟨a1, rfl⟩ := okWide_int Try.underlying3 (hval 1 3 v1 rfl rfl)
  have w1 : (Lit.int .i64 a1).wf = true := by obtain ⟨m, hm⟩ := h1; obtain ⟨x, hK, hw⟩ := (opens_int Try.underlying3) _ _ _ _ _ _ _ _ _ hm; cases hK; exact hw
  have k2_ := h2
  have lt2 : ∀ x ∈ p2, x.block < W.heap.size := by obtain ⟨m, hm⟩ := k2_; exact DataW.trod_lt m _ _ _ hm
  obtain ⟨a2, rfl⟩ := okWide_int Try.underlying3 (hval 2 3 v2 rfl rfl)
  have w2 : (Lit.int .i64 a2).wf = true := by obtain ⟨m, hm⟩ := h2; obtain ⟨x, hK, hw⟩ := (opens_int Try.underlying3) _ _ _ _ _ _ _ _ _ hm; cases hK; exact hw
  clear hA0 hval0
  obtain ⟨k, hk⟩ := Pure.ChunkRight x0 a1 a2 w0 w1 w2
  refine (F.unisonlaw12_ChunkRight.calls k x0.f0.f0 x0.f0.f1 x0.f0.f2 x0.f1.f0 x0.f1.f1 x0.f2 x0.f3 x0.f4 x0.f5 x0.f6 x0.f7 A0_11 c0_11 x0.f8 A0_12 c0_12 x0.f9 A0_13 c0_13 x0.f10 A0_14 c0_14 x0.f11 A0_15 c0_15 x0.f12 a1 a2 true W hr0_11 hc0_11 hr0_12 hc0_12 hr0_13 hc0_13 hr0_14 hc0_14 hr0_15 hc0_15 hk).mono fun e W' ⟨he, bel⟩ => ?_
  subst he
  exact ⟨_, rfl, _, _, _, [], _, [], hW', trodAll_mk1 (shut_bool Try.underlying4 _), (trodAll_cons_mk (Below.trod laidOut (by kernel_rfl) (of_decide_eq_true (by kernel_rfl)) k0_ bel lt0) (trodAll_cons_mk (Below.trod laidOut (by kernel_rfl) (of_decide_eq_true (by kernel_rfl)) k1_ bel lt1) (trodAll_cons_mk (Below.trod laidOut (by kernel_rfl) (of_decide_eq_true (by kernel_rfl)) k2_ bel lt2) trodAll_mk0))), rfl, bel.frame _, fun h => by cases h⟩
theorem over : Rows.chunkRightRow.holds Try.pinned (OpenSpec.ofChange Rows.chunkRightSpec) :=
  OpenClaim.holds_of_wide 4 Try.f4 rfl rfl rfl rfl rfl rfl rfl ⟨rfl, rfl, rfl, rfl, rfl⟩ rfl rfl rfl rfl rfl (by kernel_rfl) Try.func4 (by kernel_rfl)
    (of_decide_eq_true (by kernel_rfl)) (by unfold Func.isWrapper; first | (rw [if_pos (by decide +kernel)]; kernel_rfl) | (rw [if_neg (by decide +kernel)]; exact ⟨rfl, rfl⟩))
    (fun os started H enc _ => lifted os started H enc)
theorem proved : Rows.ChunkRightSaid := over
#print axioms proved
end Go.Proofs.Ythgpocefiaklkaa.chunkRight
namespace Go.Proofs.Ythgpocefiaklkaa
/-- The row, under a short name, for the claim. -/
theorem chunkRight_holds : Rows.ChunkRightSaid := chunkRight.proved
end Go.Proofs.Ythgpocefiaklkaa
