/- Ids that may not be are struck. Conditions: none beyond the statement's own. -/
import Derived.Test.YtgcnaebhmcggoaaWalkLib
import Derived.Test.YtgcnaebhmcggoaaArgs
import Derived.Deep.QuietTactic
import Derived.BigQuiet
import Derived.Lib.QuietBelow
import Derived.Outline
import Derived.Deep.RegionHeld3
import Derived.Deep.CutRange
namespace Go.Proofs.Ytgcnaebhmcggoaa.Walk
open Go.RowKit Go.Proofs.Ytgcnaebhmcggoaa.F Go.Proofs.YtgcnaebhmcggoaaW.PrintWords Go.Proofs.YtgcnaebhmcggoaaW.PrintLast Go.Proofs.YtgcnaebhmcggoaaW.PrintMore Go.Proofs.Ytgcnaebhmcggoaa.Open
open Go.Sort (grow)
attribute [local go_sem] max2_int min2_int max_two min_two max_three min_three max_four min_four
set_option linter.unusedVariables false
set_option linter.unusedSimpArgs false

/-! ### slices.IndexFunc, slices.DeleteFunc at ids -/
theorem infoI : (Try.prog.info? 33).map (fun i => (i.zero, i.size, i.bytes)) = some (some (.agg #[.int .u8 0, .int .u64 0]), 2, 16) := by kernel_rfl
theorem zeroI (w : World) : (zeroValue 33).run Try.prog w = .ok (.agg #[.int .u8 0, .int .u64 0]) w := by
  have h := infoI
  cases hi : Try.prog.info? 33 with
  | none => rw [hi] at h; cases h
  | some i =>
    rw [hi] at h
    simp only [Option.map_some, Option.some.injEq, Prod.mk.injEq] at h
    simp [zeroValue, typeInfo, hi, h.1]
theorem clear_ids (ty : TypeId) (W : World) (b o n c : Nat) (hc : ∀ j, j < n * 2 → (W.cell? ⟨b, o + j, none⟩).isSome = true) (hf : ∀ j, j < n * 2 → W.frozen? ⟨b, o + j, none⟩ = false) :
    ∃ vs, (Builtin.clear_ #[22] ty #[.slice (some ⟨b, o, none⟩) n c]).run Try.prog W = .ok (.tuple #[]) (W.setCells b o vs) := by
  by_cases hn : n = 0
  · subst hn
    exact ⟨[], by simp [Builtin.clear_, run_underlying Try.underlying22, World.setCells]⟩
  · refine ⟨(Builtin.zeroCells (Value.agg #[.int .u8 0, .int .u64 0]).cells n).toList, ?_⟩
    have hsz : (Builtin.zeroCells (Value.agg #[.int .u8 0, .int .u64 0]).cells n).toList.length = n * 2 := by simp [Builtin.zeroCells, Value.cells]
    have hone : ∀ v ∈ (Builtin.zeroCells (Value.agg #[.int .u8 0, .int .u64 0]).cells n).toList, v.oneCell' = true := by
      intro v hv
      simp only [Builtin.zeroCells, Value.cells, Array.toList_map, List.mem_map] at hv
      obtain ⟨i, _, rfl⟩ := hv
      rcases Nat.mod_two_eq_zero_or_one i with hm | hm
      · simp [hm]; rfl
      · simp [hm]; rfl
    have hst := run_storeCells_cells (P := Try.prog) b o (Builtin.zeroCells (Value.agg #[.int .u8 0, .int .u64 0]).cells n).toList 0 W (by rw [hsz]; simpa using hc) (by rw [hsz]; simpa using hf) hone
    simp only [Nat.add_zero] at hst
    generalize hz : Builtin.zeroCells (Value.agg #[.int .u8 0, .int .u64 0]).cells n = z at hst ⊢
    have hz2 : ∀ m, m = n → Builtin.zeroCells (Value.agg #[.int .u8 0, .int .u64 0]).cells m = z := fun m hm => by rw [hm]; exact hz
    obtain ⟨m, rfl⟩ : ∃ m, n = m + 1 := ⟨n - 1, by omega⟩
    have hz3 := hz2 _ rfl
    clear hz hz2 hsz hone
    simp [Builtin.clear_, run_underlying Try.underlying22, zeroI, hz3, hst]
theorem take_filter {L : List I} {k : Nat} {x : I} (h : L[k]? = some x) : (L.take (k + 1)).filter mayI = (L.take k).filter mayI ++ if mayI x = true then [x] else [] := by
  rw [List.take_add_one, h, List.filter_append]
  cases hm : mayI x <;> simp [hm]
theorem drop_at {M L : List I} {j : Nat} (h : M.drop j = L.drop j) : M[j]? = L[j]? := by
  have := congrArg (fun l : List I => l[0]?) h
  simpa using this
theorem set_take {M : List I} {i : Nat} (hi : i < M.length) (x : I) : (M.set i x).take (i + 1) = M.take i ++ [x] := by
  rw [List.take_add_one, List.getElem?_set_self hi, List.take_set_of_le (Nat.le_refl _)]
  rfl
theorem set_drop {M : List I} {i j : Nat} (hi : i < j) (x : I) : (M.set i x).drop j = M.drop j := List.drop_set_of_lt hi
theorem wrapi {x : Int} (h0 : 0 ≤ x) (h1 : x < 4611686018427387904) : IntKind.i64.wrap x = x := by rw [IntKind.wrap_i64]; omega
set_option maxHeartbeats 2000000 in
theorem Index_calls {w : World} {b : Nat} {L : List I} (h : Row2 w b L) (c : Nat) (hl : L.length ≤ 1000000) :
    Calls Try.prog 38 #[.slice (some ⟨b, 0, none⟩) L.length c, .func (.func 29) #[] #[]] w fun e w' => ((e = .returned (.int .i64 (-1)) ∧ ∀ x ∈ L, mayI x = true) ∨ (∃ k : Nat, k < L.length ∧ e = .returned (.int .i64 k) ∧ (L.take k).filter mayI = L.take k ∧ ∀ x, L[k]? = some x → mayI x = false)) ∧ Below w.heap.size w w' := by
  have HR := Aside0.mk h
  have hlt := h.lt
  have eg : ∀ args w, (callFunc 29 args).run Try.prog w = .ok (.enter 29 args) w := enters_of Try.func29 (by kernel_rfl) rfl
  clear h
  go_enter Try.func38, Try.ntmps38
  go_wp2
  go_loopg [5, 8] L.length (fun gg _ s8 wr => ∃ k : Nat, k ≤ L.length ∧ L.length - k ≤ gg ∧ s8 = .int .i64 k ∧ Aside0 (Below w.heap.size w wr) ∧ Aside0 ((L.take k).filter mayI = L.take k))
  case atStart => exact ⟨0, Nat.zero_le _, by omega, rfl, ⟨Below.refl _ w⟩, ⟨rfl⟩⟩
  case round =>
    obtain ⟨k, hk, hg, rfl, HB, HF⟩ := hrel
    by_cases hlt2 : k < L.length
    · have hltz : (k : Int) < (L.length : Int) := by omega
      obtain ⟨k0, k1, _, _⟩ := (HR.out.below HB.out).get k hlt2
      have hcall := may_closure L[k]
      have HX := Aside0.mk (List.getElem?_eq_getElem hlt2)
      generalize L[k] = x at k0 k1 hcall HX
      have HC := Aside0.mk hcall
      clear hcall
      cases hm : mayI x with
      | true =>
        go_wp2_with fail
        refine (HC.out _).mono ?_
        rintro e w1 ⟨rfl, hb⟩
        have HB2 := Aside0.mk (HB.out.trans (hb.mono HB.out.size))
        clear hb
        rw [hm]
        go_wp2_with fail
        go_roundg (L.length - (k + 1))
        case measure => omega
        case rel => exact ⟨k + 1, by omega, Nat.le_refl _, by go_num, HB2, ⟨by rw [List.take_add_one, HX.out]; simp [HF.out, hm]⟩⟩
      | false =>
        go_wp2_with fail
        refine (HC.out _).mono ?_
        rintro e w1 ⟨rfl, hb⟩
        have HB2 := Aside0.mk (HB.out.trans (hb.mono HB.out.size))
        clear hb
        rw [hm]
        go_wp2_with fail
        go_ret
        exact ⟨Or.inr ⟨k, hlt2, rfl, HF.out, fun y hy => by rw [HX.out] at hy; cases hy; exact hm⟩, HB2.out⟩
    · obtain rfl : k = L.length := by omega
      have hltz : ¬ (L.length : Int) < (L.length : Int) := by omega
      go_wp2_with fail
      go_ret
      refine ⟨Or.inl ⟨rfl, fun x hx => ?_⟩, HB.out⟩
      have := HF.out
      rw [List.take_length, List.filter_eq_self] at this
      exact this x hx
theorem Index_at {P : Prop} (h : P) : P := h
set_option maxHeartbeats 4000000 in
theorem Delete_calls {w : World} {b : Nat} {L : List I} (h : Row2 w b L) (c : Nat) (hl : L.length ≤ 1000000) (hc : L.length ≤ c) :
    Calls Try.prog 27 #[.slice (some ⟨b, 0, none⟩) L.length c, .func (.func 29) #[] #[]] w fun e w' => e = .returned (.slice (some ⟨b, 0, none⟩) (L.filter mayI).length c) ∧ Row2 w' b (L.filter mayI) ∧ Beside (fun k => k = b) w w' := by
  have HR := Aside0.mk h
  have IX := Aside0.mk (Index_calls h c hl)
  have eg : ∀ args w, (callFunc 29 args).run Try.prog w = .ok (.enter 29 args) w := enters_of Try.func29 (by kernel_rfl) rfl
  clear h
  go_enter Try.func27, Try.ntmps27
  go_wp2_with fail
  refine IX.out.mono ?_
  rintro e w1 ⟨⟨rfl, hall⟩ | ⟨k, hk, rfl, hf, hx⟩, hb⟩
  · have HB := Aside0.mk hb
    have HF := Aside0.mk (List.filter_eq_self.2 hall)
    clear hb hall IX
    go_wp2_with fail
    go_ret
    rw [HF.out]
    exact ⟨rfl, HR.out.below HB.out, Beside.of_below _ HB.out⟩
  · have HB := Aside0.mk hb
    have HF := Aside0.mk hf
    have HX := Aside0.mk hx
    clear hb hf hx IX
    have hne : ((k : Int) == -1) = false := beq_eq_false_iff_ne.2 (by omega)
    have hw := wrapi (x := (k : Int) + 1) (by omega) (by omega)
    go_wp2_with fail
    go_loopg [5, 6, 7] L.length (fun gg s5 s6 _ wr => ∃ (i j : Nat) (M : List I), s5 = .int .i64 i ∧ s6 = .int .i64 j ∧ j ≤ L.length ∧ L.length - j ≤ gg ∧ i < j ∧ Aside0 (Row2 wr b M) ∧ Aside0 (Beside (fun k => k = b) w wr) ∧ Aside0 (M.length = L.length ∧ M.take i = (L.take j).filter mayI ∧ M.drop j = L.drop j))
    case atStart =>
      refine ⟨k, k + 1, L, rfl, by go_num, by omega, by omega, by omega, ⟨HR.out.below HB.out⟩, ⟨Beside.of_below _ HB.out⟩, ⟨rfl, ?_, rfl⟩⟩
      have := HX.out L[k] (List.getElem?_eq_getElem hk)
      rw [take_filter (List.getElem?_eq_getElem hk), HF.out, this]
      simp
    case round =>
      obtain ⟨i, j, M, rfl, rfl, hj, hgg, hij, RM, BS, IN⟩ := hrel
      by_cases hlt2 : j < L.length
      · have hltz : (j : Int) < (L.length : Int) := by omega
        have hjM : j < M.length := by rw [IN.out.1]; exact hlt2
        have hiM : i < M.length := by omega
        obtain ⟨k0, k1, _, _⟩ := RM.out.get j hjM
        obtain ⟨q0, q1, q2, q3⟩ := RM.out.get i hiM
        have HX2 := Aside0.mk (List.getElem?_eq_getElem hjM)
        generalize M[j] = x at k0 k1 HX2
        generalize M[i] = y at q0 q1
        have HC := Aside0.mk (may_closure x)
        have BL := Aside0.mk (blk_new wr (.cells #[.int .u8 x.f0, .int .u64 x.f1] tI))
        clear q0 q1 q2 q3
        cases hm : mayI x with
        | true =>
          go_wp2_with fail
          refine (HC.out _).mono ?_
          rintro e w2 ⟨rfl, hb⟩
          rw [hm]
          have B2 := Aside0.mk ((BS.out.alloc _).then_below hb)
          have R2 := Aside0.mk ((RM.out.alloc (.cells #[.int .u8 x.f0, .int .u64 x.f1] tI)).below hb)
          have c0 : w2.cell? ⟨wr.heap.size, 0, none⟩ = some (.int .u8 x.f0) := (blk_cell (blk_below BL.out hb) 0).trans rfl
          have c1 : w2.cell? ⟨wr.heap.size, 1, none⟩ = some (.int .u64 x.f1) := (blk_cell (blk_below BL.out hb) 1).trans rfl
          obtain ⟨q0, q1, q2, q3⟩ := R2.out.get i hiM
          generalize M[i] = y at q0 q1
          clear hb k0 k1
          have hwi := wrapi (x := (i : Int) + 1) (by omega) (by omega)
          have hwj := wrapi (x := (j : Int) + 1) (by omega) (by omega)
          have hiz : (i : Int) < (L.length : Int) := by omega
          have ne1 : wr.heap.size ≠ b := by have := RM.out.lt; omega
          go_wp2_with fail
          go_roundg (L.length - (j + 1))
          case measure => omega
          case rel =>
            refine ⟨i + 1, j + 1, M.set i x, by go_num, by go_num, by omega, Nat.le_refl _, by omega, ⟨R2.out.set i hiM x⟩, ⟨?_⟩, ⟨by simp [IN.out.1], ?_, ?_⟩⟩
            · exact (B2.out.setCell (p := ⟨b, i * 2, none⟩) rfl _).setCell (p := ⟨b, i * 2 + 1, none⟩) rfl _
            · rw [set_take hiM, take_filter ((drop_at IN.out.2.2).symm.trans HX2.out), IN.out.2.1, hm]
              rfl
            · rw [set_drop (by omega), ← List.drop_drop, IN.out.2.2, List.drop_drop]
        | false =>
          go_wp2_with fail
          refine (HC.out _).mono ?_
          rintro e w2 ⟨rfl, hb⟩
          rw [hm]
          have B2 := Aside0.mk ((BS.out.alloc _).then_below hb)
          have R2 := Aside0.mk ((RM.out.alloc (.cells #[.int .u8 x.f0, .int .u64 x.f1] tI)).below hb)
          clear hb k0 k1
          have hwj := wrapi (x := (j : Int) + 1) (by omega) (by omega)
          go_wp2_with fail
          go_roundg (L.length - (j + 1))
          case measure => omega
          case rel =>
            refine ⟨i, j + 1, M, rfl, by go_num, by omega, Nat.le_refl _, by omega, R2, B2, ⟨IN.out.1, ?_, ?_⟩⟩
            · rw [take_filter ((drop_at IN.out.2.2).symm.trans HX2.out), IN.out.2.1, hm]
              simp
            · rw [← List.drop_drop, IN.out.2.2, List.drop_drop]
      · obtain rfl : j = L.length := by omega
        have hltz : ¬ (L.length : Int) < (L.length : Int) := by omega
        have hcl : ∀ ty, ∃ vs, (Builtin.clear_ #[22] ty #[.slice (some ⟨b, i * 2, none⟩) (L.length - i) (c - i)]).run Try.prog wr = .ok (.tuple #[]) (wr.setCells b (i * 2) vs) := fun ty => clear_ids ty wr b (i * 2) (L.length - i) (c - i)
          (fun q hq => by
            obtain ⟨a1, a2, _, _⟩ := RM.out.get (i + q / 2) (by rw [IN.out.1]; omega)
            rcases Nat.mod_two_eq_zero_or_one q with hm | hm
            · rw [show i * 2 + q = (i + q / 2) * 2 by omega, a1]; rfl
            · rw [show i * 2 + q = (i + q / 2) * 2 + 1 by omega, a2]; rfl)
          (fun q hq => by
            obtain ⟨_, _, a1, a2⟩ := RM.out.get (i + q / 2) (by rw [IN.out.1]; omega)
            rcases Nat.mod_two_eq_zero_or_one q with hm | hm
            · rw [show i * 2 + q = (i + q / 2) * 2 by omega]; exact a1
            · rw [show i * 2 + q = (i + q / 2) * 2 + 1 by omega]; exact a2)
        obtain ⟨vs, hvs⟩ := hcl 0
        have hiz : (i : Int) ≤ (L.length : Int) := by omega
        have hiz2 : (i : Int) ≤ (c : Int) := by omega
        have hiN : i ≤ L.length := by omega
        have hiC : i ≤ c := by omega
        clear hcl
        go_wp2_with fail
        go_ret
        have e1 : L.filter mayI = M.take i := by rw [IN.out.2.1, List.take_length]
        have e2 : (M.take i).length = i := by rw [List.length_take]; have := IN.out.1; omega
        rw [e1, e2]
        refine ⟨rfl, (RM.out.take i).tail i (by rw [e2]; exact Nat.le_refl _) vs, ?_⟩
        obtain ⟨s1, s2, s3, s4⟩ := setCells_same b vs (i * 2) wr
        exact BS.out.trans ⟨s1, s2, s3, by rw [s4]; exact Nat.le_refl _, fun k _ hk => setCells_far vs _ k (fun he => hk he)⟩

end Go.Proofs.Ytgcnaebhmcggoaa.Walk
