/- slices.DeleteFunc at whole numbers. Conditions: none beyond the statement's own. -/
import Derived.Test.YtncofecfljocgaaWalkHolders
import Derived.Test.YtncofecfljocgaaArgs
import Derived.Deep.QuietTactic
import Derived.BigQuiet
import Derived.Lib.QuietBelow
import Derived.Outline
import Derived.Deep.RegionHeld3
import Derived.Deep.CutRange
namespace Go.Proofs.Ytncofecfljocgaa.Walk
open Go.RowKit Go.Proofs.Ytncofecfljocgaa.F Go.Proofs.YtncofecfljocgaaW.PrintWords Go.Proofs.YtncofecfljocgaaW.PrintLast Go.Proofs.YtncofecfljocgaaW.PrintMore Go.Proofs.Ytncofecfljocgaa.Open
open Go.Sort (grow)
attribute [local go_sem] max2_int min2_int max_two min_two max_three min_three max_four min_four
set_option linter.unusedVariables false
set_option linter.unusedSimpArgs false

/-! ### slices.DeleteFunc at whole numbers -/
abbrev kI : Kd Int := Kd.int .i64
abbrev RI (w : World) (base b n c : Nat) (L : List Int) : Prop := Kd.R kI tI64 w base (fun _ => True) (.slice (some ⟨b, 0, none⟩) n c) L
theorem wrapi {x : Int} (h0 : 0 ≤ x) (h1 : x < 4611686018427387904) : IntKind.i64.wrap x = x := by rw [IntKind.wrap_i64]; omega
section
variable {q : Int → Bool}
theorem take_filter {L : List Int} {k : Nat} {x : Int} (h : L[k]? = some x) : (L.take (k + 1)).filter (fun x => !q x) = (L.take k).filter (fun x => !q x) ++ if q x = false then [x] else [] := by
  rw [List.take_add_one, h, List.filter_append]
  cases hm : q x <;> simp [hm]
theorem drop_at {M L : List Int} {j : Nat} (h : M.drop j = L.drop j) : M[j]? = L[j]? := by
  have := congrArg (fun l : List Int => l[0]?) h
  simpa using this
theorem set_take {M : List Int} {i : Nat} (hi : i < M.length) (x : Int) : (M.set i x).take (i + 1) = M.take i ++ [x] := by
  rw [List.take_add_one, List.getElem?_set_self hi, List.take_set_of_le (Nat.le_refl _)]
  rfl
theorem set_drop {M : List Int} {i j : Nat} (hi : i < j) (x : Int) : (M.set i x).drop j = M.drop j := List.drop_set_of_lt hi
theorem zeroI (w : World) : (zeroValue tI64).run Try.prog w = .ok (.int .i64 0) w := by
  have h := infoI64
  cases hi : Try.prog.info? tI64 with
  | none => rw [hi] at h; cases h
  | some i =>
    rw [hi] at h
    simp only [Option.map_some, Option.some.injEq, Prod.mk.injEq] at h
    simp [zeroValue, typeInfo, hi, h.1]
theorem clear_ints (ty : TypeId) (W : World) (b o n c : Nat) (hc : ∀ j, j < n → (W.cell? ⟨b, o + j, none⟩).isSome = true) (hf : ∀ j, j < n → W.frozen? ⟨b, o + j, none⟩ = false) :
    ∃ vs, (Builtin.clear_ #[31] ty #[.slice (some ⟨b, o, none⟩) n c]).run Try.prog W = .ok (.tuple #[]) (W.setCells b o vs) := by
  by_cases hn : n = 0
  · subst hn
    exact ⟨[], by simp [Builtin.clear_, run_underlying Try.underlying31, World.setCells]⟩
  · refine ⟨(Builtin.zeroCells (Value.int .i64 0).cells n).toList, ?_⟩
    have hsz : (Builtin.zeroCells (Value.int .i64 0).cells n).toList.length = n := by simp [Builtin.zeroCells, Value.cells]
    have hone : ∀ v ∈ (Builtin.zeroCells (Value.int .i64 0).cells n).toList, v.oneCell' = true := by
      intro v hv
      simp only [Builtin.zeroCells, Value.cells, Array.toList_map, List.mem_map] at hv
      obtain ⟨i, _, rfl⟩ := hv
      simp [Nat.mod_one]
      rfl
    have hst := run_storeCells_cells (P := Try.prog) b o (Builtin.zeroCells (Value.int .i64 0).cells n).toList 0 W (by rw [hsz]; simpa using hc) (by rw [hsz]; simpa using hf) hone
    simp only [Nat.add_zero] at hst
    generalize hz : Builtin.zeroCells (Value.int .i64 0).cells n = z at hst ⊢
    have hz2 : ∀ m, m = n → Builtin.zeroCells (Value.int .i64 0).cells m = z := fun m hm => by rw [hm]; exact hz
    obtain ⟨m, rfl⟩ : ∃ m, n = m + 1 := ⟨n - 1, by omega⟩
    have hz3 := hz2 _ rfl
    clear hz hz2 hsz hone
    simp [Builtin.clear_, run_underlying Try.underlying31, zeroI, hz3, hst]
theorem I_elem {w : World} {base b n c : Nat} {L : List Int} (h : RI w base b n c L) {p : Nat} {x : Int} (hx : L[p]? = some x) : w.cell? ⟨b, p, none⟩ = some (.int .i64 x) ∧ w.frozen? ⟨b, p, none⟩ = false := by
  have hp : p < L.length := (List.getElem?_eq_some_iff.1 hx).1
  have hn : n = L.length := (Kd.R_reads' h).1
  subst hn
  obtain ⟨cc, hcl, hM, hcc, hcf⟩ := Kd.R_elem h 0 (p : Int) (by omega) (by omega)
  have e : L.getD ((p : Int)).toNat 0 = x := by simp [List.getD, hx]
  rw [e] at hM
  rw [Int.toNat_natCast] at hcc hcf
  have hM : cc = [.int .i64 x] := hM
  subst hM
  have h1 := hcc 0 _ rfl
  have h2 := hcf 0
  rw [show p * (Kd.int .i64).sz + 0 = p from Nat.mul_one _] at h1 h2
  exact ⟨h1, h2⟩
theorem I_block {w : World} {base : Nat} {K : List Int} {v : Value} (h : Kd.R kI tI64 w base (fun _ => True) v K) (hn : 0 < K.length) : ∃ b c, v = .slice (some ⟨b, 0, none⟩) K.length c ∧ base ≤ b ∧ K.length ≤ c ∧ b < w.heap.size := by
  obtain ⟨_, cs, ⟨_, ho⟩, _⟩ := h
  rcases ho with ⟨_, hz⟩ | ⟨g, cap, cur, e, hb, hh, hc, _⟩
  · omega
  · exact ⟨g, cap, e, hb, hc, blk_lt hh⟩
theorem entersF {P : Program} {f : FuncId} {fn : Func} {c : Code} (hf : P.funcs[f]? = some fn) (hname : (fn.name == "runtime.NumGoroutine") = false) (hb : fn.body = some c) : ∀ args w, (callFunc f args).run P w = .ok (.enter f args) w := by
  intro args w
  have h1 : fn.name ≠ "runtime.NumGoroutine" := by simpa using hname
  simp [callFunc, hf, h1, hb, mark]
abbrev fH : Nat := 42
/-- What the closure answers, as long as the blocks beside S stay. -/
def Clo (S : Nat → Prop) (w : World) (b1 b2 : Nat) (q : Int → Bool) : Prop := ∀ W, Beside S w W → ∀ p : Int, Calls Try.prog fH #[.int .i64 p, .pointer (some ⟨b1, 0, none⟩), .pointer (some ⟨b2, 0, none⟩)] W fun e w' => e = .returned (.bool (q p)) ∧ Below W.heap.size W w'
set_option maxHeartbeats 2000000 in
theorem IndexI_calls {w : World} {A : Option Addr} {c b1 b2 : Nat} {L : List Int} (hr : Kd.C kI w A L.length L) (hl : L.length ≤ 64) (hc : Clo (fun _ => False) w b1 b2 q) :
    Calls Try.prog 51 #[.slice A L.length c, .func (.func fH) #[] #[.pointer (some ⟨b1, 0, none⟩), .pointer (some ⟨b2, 0, none⟩)]] w fun e w' => ((e = .returned (.int .i64 (-1)) ∧ ∀ x ∈ L, q x = false) ∨ (∃ k : Nat, k < L.length ∧ e = .returned (.int .i64 k) ∧ (L.take k).filter (fun x => !q x) = L.take k ∧ ∀ y, L[k]? = some y → q y = true)) ∧ Below w.heap.size w w' := by
  have HR := Aside0.mk hr
  have HC := Aside0.mk hc
  have eg : ∀ args w, (callFunc fH args).run Try.prog w = .ok (.enter fH args) w := entersF Try.func42 (by kernel_rfl) rfl
  clear hr hc
  go_enter Try.func51, Try.ntmps51
  go_wp2
  go_loopg [5, 8] L.length (fun gg _ s8 wr => ∃ k : Nat, k ≤ L.length ∧ L.length - k ≤ gg ∧ s8 = .int .i64 k ∧ Aside0 (Below w.heap.size w wr) ∧ Aside0 ((L.take k).filter (fun x => !q x) = L.take k))
  case atStart => exact ⟨0, Nat.zero_le _, by omega, rfl, ⟨Below.refl _ w⟩, ⟨rfl⟩⟩
  case round =>
    obtain ⟨k, hk, hg, rfl, HB, HF⟩ := hrel
    by_cases hlt2 : k < L.length
    · have hltz : (k : Int) < (L.length : Int) := by omega
      have HX := Aside0.mk (List.getElem?_eq_getElem hlt2)
      obtain ⟨ad, cc, e, hcl, hKK, hcc⟩ := Kd.C_get (Kd.C_below HR.out HB.out) 0 (k : Int) (by omega) (by omega)
      cases e
      have e1 : L.getD ((k : Int)).toNat 0 = L[k] := by simp [List.getD, hlt2]
      rw [e1] at hKK
      rw [Int.toNat_natCast] at hcc
      have hwk := wrapi (x := (k : Int) + 1) (by omega) (by omega)
      generalize L[k] = x at hKK HX
      have hKK : cc = [.int .i64 x] := hKK
      subst hKK
      have k0 : wr.cell? (ad.add k) = some (.int .i64 x) := by
        have := hcc 0 _ rfl
        rwa [show k * (Kd.int .i64).sz + 0 = k from Nat.mul_one _] at this
      have HCC := Aside0.mk (HC.out wr (Beside.of_below _ HB.out) x)
      clear hcl hcc
      cases hm : q x with
      | false =>
        rw [hm] at HCC
        go_wp2_with fail
        refine HCC.out.mono ?_
        rintro e w1 ⟨rfl, hb⟩
        have HB2 := Aside0.mk (HB.out.trans (hb.mono HB.out.size))
        clear hb
        go_wp2_with fail
        go_roundg (L.length - (k + 1))
        case measure => omega
        case rel => exact ⟨k + 1, by omega, Nat.le_refl _, by go_num, HB2, ⟨by rw [take_filter HX.out, HF.out, if_pos hm, List.take_add_one, HX.out]; rfl⟩⟩
      | true =>
        rw [hm] at HCC
        go_wp2_with fail
        refine HCC.out.mono ?_
        rintro e w1 ⟨rfl, hb⟩
        have HB2 := Aside0.mk (HB.out.trans (hb.mono HB.out.size))
        clear hb
        go_wp2_with fail
        go_ret
        exact ⟨Or.inr ⟨k, hlt2, rfl, HF.out, fun y hy => by rw [HX.out] at hy; cases hy; exact hm⟩, HB2.out⟩
    · obtain rfl : k = L.length := by omega
      have hltz : ¬ (L.length : Int) < (L.length : Int) := by omega
      go_wp2_with fail
      go_ret
      refine ⟨Or.inl ⟨rfl, fun x hx => ?_⟩, HB.out⟩
      have := HF.out
      rw [List.take_length, List.filter_eq_self] at this
      have := this x hx
      simpa using this
set_option maxHeartbeats 4000000 in
theorem DeleteI_calls {w : World} {base c b1 b2 : Nat} {A : Option Addr} {L : List Int} (h : Kd.R kI tI64 w base (fun _ => True) (.slice A L.length c) L) (hl : L.length ≤ 64) (hcl : Clo (fun k => base ≤ k) w b1 b2 q) (hbw : base ≤ w.heap.size) :
    Calls Try.prog 41 #[.slice A L.length c, .func (.func fH) #[] #[.pointer (some ⟨b1, 0, none⟩), .pointer (some ⟨b2, 0, none⟩)]] w fun e w' => e = .returned (.slice A (L.filter fun x => !q x).length c) ∧ Kd.C kI w' A (L.filter fun x => !q x).length (L.filter fun x => !q x) ∧ Beside (fun k => base ≤ k) w w' := by
  have HR := Aside0.mk h
  have HC := Aside0.mk hcl
  have IX := Aside0.mk (IndexI_calls (c := c) (Kd.R_reads' h).2.2 hl (fun W hW p => hcl W (hW.mono (fun _ hk => hk.elim)) p))
  have hcc := (Kd.R_reads' h).2.1
  have eg : ∀ args w, (callFunc fH args).run Try.prog w = .ok (.enter fH args) w := entersF Try.func42 (by kernel_rfl) rfl
  clear h hcl
  go_enter Try.func41, Try.ntmps41
  go_wp2_with fail
  refine IX.out.mono ?_
  rintro e w1 ⟨⟨rfl, hall⟩ | ⟨k, hk, rfl, hf, hx⟩, hb⟩
  · have HB := Aside0.mk hb
    have HF := Aside0.mk (show L.filter (fun x => !q x) = L from List.filter_eq_self.2 (fun x hx => by simp [hall x hx]))
    clear hb hall IX
    go_wp2_with fail
    go_ret
    rw [HF.out]
    exact ⟨rfl, (Kd.R_reads' (Kd.R_below HR.out HB.out)).2.2, Beside.of_below _ HB.out⟩
  · have HB := Aside0.mk hb
    have HF := Aside0.mk hf
    have HX := Aside0.mk hx
    obtain ⟨b, c', e, hbb, hcL, hbl0⟩ := I_block HR.out (by omega)
    injection e with e1 _ e2
    subst e1; subst e2
    have hbl : Aside0 (b < w.heap.size) := ⟨hbl0⟩
    have HBB := Aside0.mk hbb
    clear hb hf hx IX hbb hbl0
    have hne : ((k : Int) == -1) = false := beq_eq_false_iff_ne.2 (by omega)
    have hw := wrapi (x := (k : Int) + 1) (by omega) (by omega)
    go_wp2_with fail
    go_loopg [5, 6, 7] L.length (fun gg s5 s6 _ wr => ∃ (i j : Nat) (M : List Int), s5 = .int .i64 i ∧ s6 = .int .i64 j ∧ j ≤ L.length ∧ L.length - j ≤ gg ∧ i < j ∧ Aside0 (RI wr base b L.length c M) ∧ Aside0 (Beside (fun k => base ≤ k) w wr) ∧ Aside0 (M.length = L.length ∧ M.take i = (L.take j).filter (fun x => !q x) ∧ M.drop j = L.drop j))
    case atStart =>
      refine ⟨k, k + 1, L, rfl, by go_num, by omega, by omega, by omega, ⟨Kd.R_below HR.out HB.out⟩, ⟨Beside.of_below _ HB.out⟩, ⟨rfl, ?_, rfl⟩⟩
      have := HX.out L[k] (List.getElem?_eq_getElem hk)
      rw [take_filter (List.getElem?_eq_getElem hk), HF.out, this]
      simp
    case round =>
      obtain ⟨i, j, M, rfl, rfl, hj, hgg, hij, RM, BS, IN⟩ := hrel
      by_cases hlt2 : j < L.length
      · have hltz : (j : Int) < (L.length : Int) := by omega
        have hjM : j < M.length := by rw [IN.out.1]; exact hlt2
        have hiM : i < M.length := by omega
        have HX2 := Aside0.mk (List.getElem?_eq_getElem hjM)
        obtain ⟨k0, _⟩ := I_elem RM.out HX2.out
        generalize M[j] = x at k0 HX2
        have HCC := Aside0.mk (HC.out wr BS.out x)
        cases hm : q x with
        | false =>
          rw [hm] at HCC
          go_wp2_with fail
          refine HCC.out.mono ?_
          rintro e w2 ⟨rfl, hb⟩
          have B2 := Aside0.mk (BS.out.then_below hb)
          have R2 : Aside0 (RI w2 base b L.length c M) := ⟨Kd.R_below RM.out hb⟩
          obtain ⟨q0, f0⟩ := I_elem R2.out (List.getElem?_eq_getElem hiM)
          clear hb k0
          have hwi := wrapi (x := (i : Int) + 1) (by omega) (by omega)
          have hwj := wrapi (x := (j : Int) + 1) (by omega) (by omega)
          have hiz : (i : Int) < (L.length : Int) := by omega
          have VS := Aside0.mk (Kd.R_putn R2.out (i : Int) x)
          rw [Int.toNat_natCast] at VS
          go_wp2_with fail
          go_roundg (L.length - (j + 1))
          case measure => omega
          case rel =>
            refine ⟨i + 1, j + 1, M.set i x, by go_num, by go_num, by omega, Nat.le_refl _, by omega, VS, ⟨B2.out.setCell (p := ⟨b, i, none⟩) HBB.out _⟩, ⟨by simp [IN.out.1], ?_, ?_⟩⟩
            · rw [set_take hiM, take_filter ((drop_at IN.out.2.2).symm.trans HX2.out), IN.out.2.1, if_pos hm]
            · rw [set_drop (by omega), ← List.drop_drop, IN.out.2.2, List.drop_drop]
        | true =>
          rw [hm] at HCC
          go_wp2_with fail
          refine HCC.out.mono ?_
          rintro e w2 ⟨rfl, hb⟩
          have B2 := Aside0.mk (BS.out.then_below hb)
          have R2 : Aside0 (RI w2 base b L.length c M) := ⟨Kd.R_below RM.out hb⟩
          clear hb k0
          have hwj := wrapi (x := (j : Int) + 1) (by omega) (by omega)
          go_wp2_with fail
          go_roundg (L.length - (j + 1))
          case measure => omega
          case rel =>
            refine ⟨i, j + 1, M, rfl, by go_num, by omega, Nat.le_refl _, by omega, R2, B2, ⟨IN.out.1, ?_, ?_⟩⟩
            · rw [take_filter ((drop_at IN.out.2.2).symm.trans HX2.out), IN.out.2.1, if_neg (by rw [hm]; decide)]
              simp
            · rw [← List.drop_drop, IN.out.2.2, List.drop_drop]
      · obtain rfl : j = L.length := by omega
        have hltz : ¬ (L.length : Int) < (L.length : Int) := by omega
        have hcl : ∀ ty, ∃ vs, (Builtin.clear_ #[31] ty #[.slice (some ⟨b, i, none⟩) (L.length - i) (c - i)]).run Try.prog wr = .ok (.tuple #[]) (wr.setCells b i vs) := fun ty => clear_ints ty wr b i (L.length - i) (c - i)
          (fun q hq => by
            obtain ⟨a0, _⟩ := I_elem RM.out (List.getElem?_eq_getElem (show i + q < M.length by rw [IN.out.1]; omega))
            rw [a0]; rfl)
          (fun q hq => (I_elem RM.out (List.getElem?_eq_getElem (show i + q < M.length by rw [IN.out.1]; omega))).2)
        obtain ⟨vs, hvs⟩ := hcl 0
        have hiz : (i : Int) ≤ (L.length : Int) := by omega
        have hiz2 : (i : Int) ≤ (c : Int) := by omega
        have hiN : i ≤ L.length := by omega
        have hiC : i ≤ c := by omega
        clear hcl
        go_wp2_with fail
        go_ret
        have e1 : L.filter (fun x => !q x) = M.take i := by rw [IN.out.2.1, List.take_length]
        have e2 : (M.take i).length = i := by rw [List.length_take]; have := IN.out.1; omega
        rw [e1, e2]
        obtain ⟨s1, s2, s3, s4⟩ := setCells_same b vs i wr
        refine ⟨rfl, ⟨e2, by omega, fun _ => ⟨_, rfl, fun j x hx => ?_⟩⟩, BS.out.trans ⟨s1, s2, s3, by rw [s4]; exact Nat.le_refl _, fun k _ hk => setCells_far vs _ k (fun he => hk (by rw [he]; exact HBB.out))⟩⟩
        have hji : j < i := by
          have := (List.getElem?_eq_some_iff.1 hx).1
          omega
        rw [List.getElem?_take_of_lt hji] at hx
        obtain ⟨a0, _⟩ := I_elem RM.out hx
        have out : ∀ o, o < i → (wr.setCells b i vs).cell? ⟨b, o, none⟩ = wr.cell? ⟨b, o, none⟩ := fun o ho => World.cell?_setCells_out b vs _ wr _ (fun _ _ => Or.inl (by show o < i; omega))
        refine ⟨[.int .i64 x], rfl, rfl, fun q u hu => ?_⟩
        rw [add_plain]
        match q, hu with
        | 0, hu => cases hu; rw [show j * (Kd.int .i64).sz + 0 = j from Nat.mul_one _]; exact (out j hji).trans a0
end

end Go.Proofs.Ytncofecfljocgaa.Walk
