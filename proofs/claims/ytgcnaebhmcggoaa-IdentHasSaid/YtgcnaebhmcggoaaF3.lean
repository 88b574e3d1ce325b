/- What is proved: the Go functions that the law reaches come to what the Lean functions beside them tell, and (in the text of the law) the given statement follows. Conditions: none beyond each theorem's own. Written by a program (a turned copy of the kit's print.py), some walks by hand. -/
import Derived.Test.YtgcnaebhmcggoaaF0
namespace Go.Proofs.Ytgcnaebhmcggoaa.F
open Go.RowKit Go.Proofs.YtgcnaebhmcggoaaW.PrintWords Go.Proofs.YtgcnaebhmcggoaaW.PrintLast Go.Proofs.YtgcnaebhmcggoaaW.PrintMore
attribute [local go_sem] max2_int min2_int max_two min_two max_three min_three max_four min_four   -- for this text's walks alone
set_option linter.unusedVariables false
set_option linter.unusedSimpArgs false

-- NOT PRINTED: function 38 (api_ID_38)

-- NOT PRINTED: function 27 (api_ID_27)

/-! ### api_ID_28: function 28 -/
/-- slices.Clone: the same elements, in new memory (or nil). By hand. -/
def api_ID_28.f (l0 : List S33) : Option (List S33) := if l0.length < 8796093022208 then some l0 else none
set_option maxHeartbeats 1000000 in
theorem api_ID_28.calls (A0 : Option Addr) (c0 : Nat) (l0 : List S33) (r : List S33) (w : World) (hr0 : Kd.C k33 w A0 l0.length l0) (hc0 : l0.length ≤ c0) (h : api_ID_28.f l0 = some r) :
    Calls Try.prog 28 #[.slice A0 l0.length c0] w fun e w' => ∃ v0_ : Value, e = .returned v0_ ∧ Kd.R k33 33 w' w.heap.size (fun _ => True) v0_ r ∧ Below w.heap.size w w' := by
  unfold api_ID_28.f at h
  by_cases hl : l0.length < 8796093022208
  · rw [if_pos hl] at h
    obtain rfl := Option.some.inj h
    have HR := Aside0.mk hr0
    have HL := Aside0.mk hl
    clear hr0 hl h
    have hq : ∀ (w : World) (a : Option Addr) (n c n' c' : Nat), (binOp .eql 22 (.slice a n c) (.slice none n' c')).run Try.prog w = .ok (.bool a.isNone) w := fun w a n c n' c' => Lib.run_eql_slice_nil w 22 33 a n c n' c' Try.underlying22
    cases A0 with
    | none =>
      have h0 : l0 = [] := by
        obtain ⟨h1, _, h3⟩ := HR.out
        by_cases h : 0 < l0.length
        · exact absurd (h3 h) (by simp)
        · exact List.eq_nil_of_length_eq_zero (by omega)
      subst h0
      go_enter Try.func28, Try.ntmps28
      go_wp2
      go_ret
      exact ⟨_, rfl, Kd.R_nil _ _ _ _ _, Below.refl _ _⟩
    | some ad =>
      have hm : Kd.R k33 33 (w.alloc (.cells #[] 33)) w.heap.size (fun _ => True) (.slice (some ⟨w.heap.size, 0, none⟩) 0 0) [] :=
        ⟨fun _ _ => trivial, [], World.ownsRow_made w #[] 0 (Nat.le_refl _) (by simp) (by simp), Reps.none _ _⟩
      have HM := Aside0.mk hm
      clear hm
      go_enter Try.func28, Try.ntmps28
      go_wp2_with ((with_reducible refine gate_dst (N := 7) rfl ?_); refine Kd.R_append_rows k33 (Rr := fun x cs => Kd.K k33 (w.alloc (.cells #[] 33)) x cs) (w0 := w) w.heap.size rfl (.tmp 5) (.tmp 6) 22 33 (.agg #[.int .u8 0, .int .u64 0]) 16 rfl Try.underlying22 info33 rfl (by decide) (by decide) _ [] l0 (some ad) l0.length c0 (fun _ => True) (fun _ => False) rfl rfl HM.out (Kd.C_alloc HR.out _) (fun x cs hx => by obtain rfl := k33_open hx; exact k33_mkM _ _ _ x) (fun _ hf => hf.elim) (fun _ _ => trivial) (below_alloc (Below.refl _ _) _) (by simp) (by have := HL.out; simp only [List.length_nil, Nat.zero_add]; omega) ?_; intro v1 w1 ho1 hb1 _ _; have HO := Aside0.mk ho1; have HB := Aside0.mk hb1; clear ho1 hb1)
      go_ret
      exact ⟨_, rfl, HO.out, HB.out⟩
  · rw [if_neg hl] at h
    cases h

-- NOT PRINTED: function 45 (api_ID_45)

-- NOT PRINTED: function 57 (api_ID_57)

-- NOT PRINTED: function 46 (api_ID_46)

/-! ### bits_Len32: function 53 -/
/-! not needed: reached by slices.SortFunc's inner functions alone -/

/-! ### bits_Len64: function 54 -/
/-! not needed: reached by slices.SortFunc's inner functions alone -/

/-! ### bits_Len: function 40 -/
/-! not needed: reached by slices.SortFunc's inner functions alone -/

/-! ### slices_nextPowerOfTwo: function 58 -/
/-! not needed: reached by slices.SortFunc's inner functions alone -/

-- NOT PRINTED: function 59 (slices_xorshift_Next)

-- NOT PRINTED: function 47 (api_ID_47)

-- NOT PRINTED: function 62 (api_ID_62)

-- NOT PRINTED: function 61 (api_ID_61)

-- NOT PRINTED: function 60 (api_ID_60)

-- NOT PRINTED: function 48 (api_ID_48)

-- NOT PRINTED: function 49 (api_ID_49)

-- NOT PRINTED: function 50 (api_ID_50)

-- NOT PRINTED: function 51 (api_ID_51)

-- NOT PRINTED: function 52 (api_ID_52)

end Go.Proofs.Ytgcnaebhmcggoaa.F
