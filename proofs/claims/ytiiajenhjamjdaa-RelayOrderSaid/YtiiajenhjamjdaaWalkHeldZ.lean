/- A region whose last operation turns what the others read. Conditions: none beyond the statement's own. -/
import Derived.Test.YtiiajenhjamjdaaWalkQ
import Derived.Test.YtiiajenhjamjdaaArgs
import Derived.Deep.QuietTactic
import Derived.BigQuiet
import Derived.Lib.QuietBelow
import Derived.Outline
import Derived.Deep.RegionHeld3
import Derived.Deep.CutRange
import Derived.StillTailTactics
namespace Go.Proofs.Ytiiajenhjamjdaa.Walk
open Go.RowKit Go.Proofs.Ytiiajenhjamjdaa.F Go.Proofs.YtiiajenhjamjdaaW.PrintWords Go.Proofs.YtiiajenhjamjdaaW.PrintLast Go.Proofs.YtiiajenhjamjdaaW.PrintMore Go.Proofs.Ytiiajenhjamjdaa.Open
open Go.Sort (grow)
attribute [local go_sem] max2_int min2_int max_two min_two max_three min_three max_four min_four
set_option linter.unusedVariables false
set_option linter.unusedSimpArgs false

/-! ### A region whose last operation turns what the others read -/
section
variable {P : Program} {ops : Array Oper} {Q : Exit → Act → World → Prop} {md : Region.Mode} {S : World → Prop} {z : Nat}
/-- In whatever order the rest comes up: S holds behind each operation other than z. -/
def wpAnyZ (P : Program) (md : Region.Mode) (ops : Array Oper) (Q : Exit → Act → World → Prop) (S : World → Prop) (z : Nat) : Nat → Array Bool → Act → World → Prop
  | 0, ls, a, w => Region.ready md ops ls = [] ∧ Q .normal a w
  | m + 1, ls, a, w => (Region.ready md ops ls = [] → Q .normal a w) ∧ ∀ j ∈ Region.ready md ops ls, wpOp P ops Q j (fun a' w' => (j ≠ z → S w') ∧ wpAnyZ P md ops Q S z m (ls.setIfInBounds j true) a' w') a w
theorem wpAny_of_Z : ∀ (m : Nat) (ls : Array Bool) (a : Act) (w : World), wpAnyZ P md ops Q S z m ls a w → wpAny P md ops Q m ls a w
  | 0, _, _, _, h => h
  | m + 1, _, _, _, h => ⟨h.1, fun j hj => wpOp_mono (fun _ _ hk => wpAny_of_Z m _ _ _ hk.2) (h.2 j hj)⟩
/-- What z waits for is not listed: then z can't come up. -/
theorem z_late {i : Nat} {ls : Array Bool} (hz : Region.waitsFor md ops z i = true) (hi : i ∈ Region.ready md ops ls) : z ∉ Region.ready md ops ls := by
  intro hc
  obtain ⟨oz, ho, e, he, hb, hon⟩ := Region.waitsFor_spec hz
  obtain ⟨_, o', ho', hall⟩ := mem_ready.1 hc
  rw [ho] at ho'
  cases ho'
  have h1 := hall e he hb
  rw [hon] at h1
  have h0 := (mem_ready.1 hi).1
  by_cases hl : i < ls.size
  · simp [hl] at h0 h1
    rw [h0] at h1
    cases h1
  · simp [Array.getElem?_eq_none (Nat.le_of_not_lt hl)] at h1
theorem wpAnyZ_first {i : Nat} {oi : Oper} {v : Value} (hi : ops[i]? = some oi) (hsel : ∀ (j : Nat) (o : Oper) cs b, ops[j]? = some o → o.op ≠ .select cs b) (hQ : ∀ c a w, Q (.panic c) (a.put oi.dst v) w → Q (.panic c) a w) (hz : Region.waitsFor md ops z i = true) :
    ∀ (m : Nat) (ls : Array Bool) (a : Act) (w : World), (∀ j oj, ops[j]? = some oj → j ≠ i → ls.getD j true = false → (∀ e ∈ oj.after, Region.binds md e = true → e.on ≠ i) → oi.apart ops oj = true) →
      i ∈ Region.ready md ops ls → YieldsIf P ops S oi v a → S w → wpAnyZ P md ops Q S z m (ls.setIfInBounds i true) (a.put oi.dst v) w → wpAnyZ P md ops Q S z (m + 1) ls a w := by
  intro m
  induction m with
  | zero =>
    intro ls a w _ hr hy hS H
    refine ⟨fun h => (by rw [h] at hr; cases hr), fun j hj => ?_⟩
    by_cases e : j = i
    · rw [e]
      exact hy.wpOp hi hS ⟨fun _ => hS, H⟩
    · have h2 := ready_mono hj e
      rw [H.1] at h2
      cases h2
  | succ m ih =>
    intro ls a w hfree hr hy hS H
    refine ⟨fun h => (by rw [h] at hr; cases hr), fun j hj => ?_⟩
    by_cases e : j = i
    · rw [e]
      exact hy.wpOp hi hS ⟨fun _ => hS, H⟩
    · have hjz : j ≠ z := fun e2 => z_late hz hr (e2 ▸ hj)
      obtain ⟨hjun, oj, hoj, hall⟩ := mem_ready.1 hj
      have hnot : ∀ e ∈ oj.after, Region.binds md e = true → e.on ≠ i := fun d hd hb heq => by
        have h1 := hall d hd hb
        have h0 := (mem_ready.1 hr).1
        rw [heq] at h1
        by_cases hl : i < ls.size
        · simp [hl] at h0 h1
          rw [h0] at h1
          cases h1
        · simp [Array.getElem?_eq_none (Nat.le_of_not_lt hl)] at h1
      have h2 := wpOp_putIf hoj (hfree j oj hoj e hjun hnot) (fun cs b => hsel i oi cs b hi) (fun cs b => hsel j oj cs b hoj) hQ hy (H.2 j (ready_mono hj e))
      refine wpOp_mono (fun a' w' h3 => ⟨h3.2.1, ih (ls.setIfInBounds j true) a' w' (fun q oq hoq hqi hun hno => ?_) (ready_mono hr (Ne.symm e)) h3.1 (h3.2.1 hjz) ?_⟩) h2
      · by_cases e2 : j = q
        · rw [← e2, hoj] at hoq
          cases hoq
          exact hfree j oj hoj e hjun hno
        · rw [getD_set_ne true e2] at hun
          exact hfree q oq hoq hqi hun hno
      · rw [Array.setIfInBounds_comm _ _ e]
        exact h3.2.2
theorem wpAnyZ_take {i : Nat} {oi : Oper} {v : Value} {m : Nat} {ls : Array Bool} {a : Act} {w : World} (hi : ops[i]? = some oi) (hs : Region.noSelect ops = true) (hf : Region.free md ops ls i = true) (hr : (Region.ready md ops ls).contains i = true) (hz : Region.waitsFor md ops z i = true)
    (hQ : ∀ c a w, Q (.panic c) (a.put oi.dst v) w → Q (.panic c) a w) (hy : YieldsIf P ops S oi v a) (hS : S w) (h : wpAnyZ P md ops Q S z m (ls.setIfInBounds i true) (a.put oi.dst v) w) : wpAnyZ P md ops Q S z (m + 1) ls a w :=
  wpAnyZ_first hi (Region.noSelect_spec hs) hQ hz m ls a w (Region.free_spec hi hf) (by simpa using hr) hy hS h
/-- The one that comes up is no other than i. -/
theorem wpAnyZ_one {i : Nat} {o : Oper} {m : Nat} {ls : Array Bool} {a : Act} {w : World} (hr : Region.ready md ops ls = [i]) (ho : ops[i]? = some o)
    (h : ∀ K' : Act → World → Prop, Shut (∀ a w, (i ≠ z → S w) → ((i ≠ z → S w) → wpAnyZ P md ops Q S z m (ls.setIfInBounds i true) a w) → K' a w) → if Region.wanted o (yielded ops a.tmps) = true then Oper.wp P o a w K' Q else K' (a.put o.dst undef) w) : wpAnyZ P md ops Q S z (m + 1) ls a w := by
  refine ⟨fun h0 => (by rw [hr] at h0; cases h0), fun j hj => ?_⟩
  rw [hr] at hj
  obtain rfl := List.mem_singleton.1 hj
  exact wpOp_step ho (fun K' hK => h K' (fun a w hS hW => hK a w ⟨hS, hW hS⟩))
theorem wpAnyZ_done {ls : Array Bool} {a : Act} {w : World} (hr : Region.ready md ops ls = []) (h : Q .normal a w) : ∀ m, wpAnyZ P md ops Q S z m ls a w
  | 0 => ⟨hr, h⟩
  | _ + 1 => ⟨fun _ => h, by rw [hr]; simp⟩
theorem wp_region_Z {id : Nat} {a : Act} {w : World} (z : Nat) (hm : P.follows .mixedOrders = true) (hS : S w.drew) (h : S w.drew → wpAnyZ P .any ops Q S z ops.size (Array.replicate ops.size false) a w.drew) : (Code.region id ops true).wp P Q a w :=
  wp_region_any hm (wpAny_of_Z _ _ _ _ (h hS))
end

end Go.Proofs.Ytiiajenhjamjdaa.Walk
