/- Rows that are gone are struck. Conditions: none beyond the statement's own. -/
import Derived.Test.YtahdbiddpphepaaWalkLeft
import Derived.Test.YtahdbiddpphepaaArgs
import Derived.Deep.QuietTactic
import Derived.BigQuiet
import Derived.Lib.QuietBelow
import Derived.Outline
import Derived.Deep.RegionHeld3
import Derived.Deep.CutRange
namespace Go.Proofs.Ytahdbiddpphepaa.Walk
open Go.RowKit Go.Proofs.Ytahdbiddpphepaa.F Go.Proofs.YtahdbiddpphepaaW.PrintWords Go.Proofs.YtahdbiddpphepaaW.PrintLast Go.Proofs.YtahdbiddpphepaaW.PrintMore Go.Proofs.Ytahdbiddpphepaa.Open
open Go.Sort (grow)
attribute [local go_sem] max2_int min2_int max_two min_two max_three min_three max_four min_four
set_option linter.unusedVariables false
set_option linter.unusedSimpArgs false

/-! ### slices.DeleteFunc at rows -/
def st (x : V) : Bool := !x.g
abbrev RV (w : World) (base b n c : Nat) (L : List V) : Prop := Kd.R kV tX w base (fun _ => True) (.slice (some ⟨b, 0, none⟩) n c) L
theorem wrapi {x : Int} (h0 : 0 ≤ x) (h1 : x < 4611686018427387904) : IntKind.i64.wrap x = x := by rw [IntKind.wrap_i64]; omega
theorem take_filter {L : List V} {k : Nat} {x : V} (h : L[k]? = some x) : (L.take (k + 1)).filter st = (L.take k).filter st ++ if x.g = false then [x] else [] := by
  rw [List.take_add_one, h, List.filter_append]
  cases hm : x.g <;> simp [st, hm]
theorem drop_at {M L : List V} {j : Nat} (h : M.drop j = L.drop j) : M[j]? = L[j]? := by
  have := congrArg (fun l : List V => l[0]?) h
  simpa using this
theorem set_take {M : List V} {i : Nat} (hi : i < M.length) (x : V) : (M.set i x).take (i + 1) = M.take i ++ [x] := by
  rw [List.take_add_one, List.getElem?_set_self hi, List.take_set_of_le (Nat.le_refl _)]
  rfl
theorem set_drop {M : List V} {i j : Nat} (hi : i < j) (x : V) : (M.set i x).drop j = M.drop j := List.drop_set_of_lt hi
theorem zeroX (w : World) : (zeroValue tX).run Try.prog w = .ok (.agg #[.int .u64 0, .slice none 0 0, .slice none 0 0, .bool false]) w := by
  have h := infoX
  cases hi : Try.prog.info? tX with
  | none => rw [hi] at h; cases h
  | some i =>
    rw [hi] at h
    simp only [Option.map_some, Option.some.injEq, Prod.mk.injEq] at h
    simp [zeroValue, typeInfo, hi, h.1]
theorem clear_rows (ty : TypeId) (W : World) (b o n c : Nat) (hc : ∀ j, j < n * 4 → (W.cell? ⟨b, o + j, none⟩).isSome = true) (hf : ∀ j, j < n * 4 → W.frozen? ⟨b, o + j, none⟩ = false) :
    ∃ vs, (Builtin.clear_ #[58] ty #[.slice (some ⟨b, o, none⟩) n c]).run Try.prog W = .ok (.tuple #[]) (W.setCells b o vs) := by
  by_cases hn : n = 0
  · subst hn
    exact ⟨[], by simp [Builtin.clear_, run_underlying Try.underlying58, World.setCells]⟩
  · refine ⟨(Builtin.zeroCells (Value.agg #[.int .u64 0, .slice none 0 0, .slice none 0 0, .bool false]).cells n).toList, ?_⟩
    have hsz : (Builtin.zeroCells (Value.agg #[.int .u64 0, .slice none 0 0, .slice none 0 0, .bool false]).cells n).toList.length = n * 4 := by simp [Builtin.zeroCells, Value.cells]
    have hone : ∀ v ∈ (Builtin.zeroCells (Value.agg #[.int .u64 0, .slice none 0 0, .slice none 0 0, .bool false]).cells n).toList, v.oneCell' = true := by
      intro v hv
      simp only [Builtin.zeroCells, Value.cells, Array.toList_map, List.mem_map] at hv
      obtain ⟨i, _, rfl⟩ := hv
      have hm4 : i % 4 < 4 := Nat.mod_lt _ (by decide)
      rcases (by omega : i % 4 = 0 ∨ i % 4 = 1 ∨ i % 4 = 2 ∨ i % 4 = 3) with hm | hm | hm | hm
      · simp [hm]; rfl
      · simp [hm]; rfl
      · simp [hm]; rfl
      · simp [hm]; rfl
    have hst := run_storeCells_cells (P := Try.prog) b o (Builtin.zeroCells (Value.agg #[.int .u64 0, .slice none 0 0, .slice none 0 0, .bool false]).cells n).toList 0 W (by rw [hsz]; simpa using hc) (by rw [hsz]; simpa using hf) hone
    simp only [Nat.add_zero] at hst
    generalize hz : Builtin.zeroCells (Value.agg #[.int .u64 0, .slice none 0 0, .slice none 0 0, .bool false]).cells n = z at hst ⊢
    have hz2 : ∀ m, m = n → Builtin.zeroCells (Value.agg #[.int .u64 0, .slice none 0 0, .slice none 0 0, .bool false]).cells m = z := fun m hm => by rw [hm]; exact hz
    obtain ⟨m, rfl⟩ : ∃ m, n = m + 1 := ⟨n - 1, by omega⟩
    have hz3 := hz2 _ rfl
    clear hz hz2 hsz hone
    simp [Builtin.clear_, run_underlying Try.underlying58, zeroX, hz3, hst]
theorem RV_blk {w : World} {base b n c : Nat} {ok : Nat → Prop} {L : List V} (h : Kd.R kV tX w base ok (.slice (some ⟨b, 0, none⟩) n c) L) : b < w.heap.size := by
  obtain ⟨_, cs, ⟨_, ho⟩, _⟩ := h
  rcases ho with ⟨e, _⟩ | ⟨g, cap, cur, e, _, hg, _⟩
  · cases e
  · simp only [Value.slice.injEq, Option.some.injEq, Addr.mk.injEq] at e
    rw [e.1.1]
    exact blk_lt hg
theorem entersF {P : Program} {f : FuncId} {fn : Func} {c : Code} (hf : P.funcs[f]? = some fn) (hname : (fn.name == "runtime.NumGoroutine") = false) (hb : fn.body = some c) : ∀ args w, (callFunc f args).run P w = .ok (.enter f args) w := by
  intro args w
  have h1 : fn.name ≠ "runtime.NumGoroutine" := by simpa using hname
  simp [callFunc, hf, h1, hb, mark]
section
variable {w : World} {base b c : Nat} {L : List V}
set_option maxHeartbeats 2000000 in
theorem IndexV_calls (h : RV w base b L.length c L) (hl : L.length ≤ 64) :
    Calls Try.prog 50 #[.slice (some ⟨b, 0, none⟩) L.length c, .func (.func 46) #[] #[]] w fun e w' => ((e = .returned (.int .i64 (-1)) ∧ ∀ x ∈ L, st x = true) ∨ (∃ k : Nat, k < L.length ∧ e = .returned (.int .i64 k) ∧ (L.take k).filter st = L.take k ∧ ∀ x, L[k]? = some x → x.g = true)) ∧ Below w.heap.size w w' := by
  have HR := Aside0.mk h
  have eg : ∀ args w, (callFunc 46 args).run Try.prog w = .ok (.enter 46 args) w := entersF Try.func46 (by kernel_rfl) rfl
  clear h
  go_enter Try.func50, Try.ntmps50
  go_wp2
  go_loopg [5, 8] L.length (fun gg _ s8 wr => ∃ k : Nat, k ≤ L.length ∧ L.length - k ≤ gg ∧ s8 = .int .i64 k ∧ Aside0 (Below w.heap.size w wr) ∧ Aside0 ((L.take k).filter st = L.take k))
  case atStart => exact ⟨0, Nat.zero_le _, by omega, rfl, ⟨Below.refl _ w⟩, ⟨rfl⟩⟩
  case round =>
    obtain ⟨k, hk, hg, rfl, HB, HF⟩ := hrel
    by_cases hlt2 : k < L.length
    · have hltz : (k : Int) < (L.length : Int) := by omega
      have HX := Aside0.mk (List.getElem?_eq_getElem hlt2)
      obtain ⟨⟨k0, k1, k2, k3⟩, _⟩ := V_elem (Kd.R_below HR.out HB.out) HX.out
      have hwk := wrapi (x := (k : Int) + 1) (by omega) (by omega)
      have hcall := left_closure L[k]
      generalize L[k] = x at k0 k1 k2 k3 hcall HX
      have HC := Aside0.mk hcall
      clear hcall
      cases hm : x.g with
      | false =>
        rw [hm] at HC
        go_wp2_with fail
        refine (HC.out _).mono ?_
        rintro e w1 ⟨rfl, hb⟩
        have HB2 := Aside0.mk (HB.out.trans (hb.mono HB.out.size))
        clear hb
        go_wp2_with fail
        go_roundg (L.length - (k + 1))
        case measure => omega
        case rel => exact ⟨k + 1, by omega, Nat.le_refl _, by go_num, HB2, ⟨by rw [take_filter HX.out, HF.out, if_pos hm, List.take_add_one, HX.out]; rfl⟩⟩
      | true =>
        rw [hm] at HC
        go_wp2_with fail
        refine (HC.out _).mono ?_
        rintro e w1 ⟨rfl, hb⟩
        have HB2 := Aside0.mk (HB.out.trans (hb.mono HB.out.size))
        clear hb
        go_wp2_with fail
        go_ret
        exact ⟨Or.inr ⟨k, hlt2, rfl, HF.out, fun y hy => by rw [HX.out] at hy; cases hy; exact hm⟩, HB2.out⟩
    · obtain rfl : k = L.length := by omega
      have hltz : ¬ (L.length : Int) < (L.length : Int) := by omega
      go_wp2_with fail
      go_ret
      refine ⟨Or.inl ⟨rfl, fun x hx => ?_⟩, HB.out⟩
      have := HF.out
      rw [List.take_length, List.filter_eq_self] at this
      exact this x hx
set_option maxHeartbeats 4000000 in
theorem DeleteV_calls (h : RV w base b L.length c L) (hl : L.length ≤ 64) (hc : L.length ≤ c) :
    Calls Try.prog 44 #[.slice (some ⟨b, 0, none⟩) L.length c, .func (.func 46) #[] #[]] w fun e w' => e = .returned (.slice (some ⟨b, 0, none⟩) (L.filter st).length c) ∧ Kd.C kV w' (some ⟨b, 0, none⟩) (L.filter st).length (L.filter st) ∧ Beside (fun k => k = b) w w' := by
  have HR := Aside0.mk h
  have IX := Aside0.mk (IndexV_calls h hl)
  have hbl : Aside0 (b < w.heap.size) := ⟨RV_blk h⟩
  have eg : ∀ args w, (callFunc 46 args).run Try.prog w = .ok (.enter 46 args) w := entersF Try.func46 (by kernel_rfl) rfl
  clear h
  go_enter Try.func44, Try.ntmps44
  go_wp2_with fail
  refine IX.out.mono ?_
  rintro e w1 ⟨⟨rfl, hall⟩ | ⟨k, hk, rfl, hf, hx⟩, hb⟩
  · have HB := Aside0.mk hb
    have HF := Aside0.mk (List.filter_eq_self.2 hall)
    clear hb hall IX
    go_wp2_with fail
    go_ret
    rw [HF.out]
    exact ⟨rfl, (Kd.R_reads' (Kd.R_below HR.out HB.out)).2.2, Beside.of_below _ HB.out⟩
  · have HB := Aside0.mk hb
    have HF := Aside0.mk hf
    have HX := Aside0.mk hx
    clear hb hf hx IX
    have hne : ((k : Int) == -1) = false := beq_eq_false_iff_ne.2 (by omega)
    have hw := wrapi (x := (k : Int) + 1) (by omega) (by omega)
    go_wp2_with fail
    go_loopg [5, 6, 7] L.length (fun gg s5 s6 _ wr => ∃ (i j : Nat) (M : List V), s5 = .int .i64 i ∧ s6 = .int .i64 j ∧ j ≤ L.length ∧ L.length - j ≤ gg ∧ i < j ∧ Aside0 (RV wr base b L.length c M) ∧ Aside0 (Beside (fun k => k = b) w wr) ∧ Aside0 (M.length = L.length ∧ M.take i = (L.take j).filter st ∧ M.drop j = L.drop j))
    case atStart =>
      refine ⟨k, k + 1, L, rfl, by go_num, by omega, by omega, by omega, ⟨Kd.R_below HR.out HB.out⟩, ⟨Beside.of_below _ HB.out⟩, ⟨rfl, ?_, rfl⟩⟩
      have := HX.out L[k] (List.getElem?_eq_getElem hk)
      rw [take_filter (List.getElem?_eq_getElem hk), HF.out, this]
      simp
    case round =>
      obtain ⟨i, j, M, rfl, rfl, hj, hgg, hij, RM, BS, IN⟩ := hrel
      by_cases hlt2 : j < L.length
      · have hltz : (j : Int) < (L.length : Int) := by omega
        have hjM : j < M.length := by rw [IN.out.1]; exact hlt2
        have hiM : i < M.length := by omega
        have HX2 := Aside0.mk (List.getElem?_eq_getElem hjM)
        obtain ⟨⟨k0, k1, k2, k3⟩, _⟩ := V_elem RM.out HX2.out
        generalize M[j] = x at k0 k1 k2 k3 HX2
        have HC := Aside0.mk (left_closure x)
        have BL := Aside0.mk (blk_new wr (.cells #[.int .u64 x.i, .slice x.h1.A x.h1.n x.h1.c, .slice x.h2.A x.h2.n x.h2.c, .bool x.g] tX))
        have hblr : Aside0 (b < wr.heap.size) := ⟨Nat.lt_of_lt_of_le hbl.out BS.out.size⟩
        cases hm : x.g with
        | false =>
          rw [hm] at HC
          go_wp2_with fail
          refine (HC.out _).mono ?_
          rintro e w2 ⟨rfl, hb⟩
          rw [hm] at BL
          have B2 := Aside0.mk ((BS.out.alloc _).then_below hb)
          have R2 : Aside0 (RV w2 base b L.length c M) := ⟨Kd.R_below (Kd.R_alloc RM.out _) hb⟩
          have BK := blk_below BL.out hb
          have c0 : w2.cell? ⟨wr.heap.size, 0, none⟩ = some (.int .u64 x.i) := (blk_cell BK 0).trans rfl
          have c1 : w2.cell? ⟨wr.heap.size, 1, none⟩ = some (.slice x.h1.A x.h1.n x.h1.c) := (blk_cell BK 1).trans rfl
          have c2 : w2.cell? ⟨wr.heap.size, 2, none⟩ = some (.slice x.h2.A x.h2.n x.h2.c) := (blk_cell BK 2).trans rfl
          have c3 : w2.cell? ⟨wr.heap.size, 3, none⟩ = some (.bool false) := (blk_cell BK 3).trans rfl
          obtain ⟨⟨q0, q1, q2, q3⟩, qf⟩ := V_elem R2.out (List.getElem?_eq_getElem hiM)
          have f0 := qf 0
          have f1 := qf 1
          have f2 := qf 2
          have f3 := qf 3
          rw [Nat.add_zero] at f0
          generalize M[i] = y at q0 q1 q2 q3
          clear hb k0 k1 k2 k3 BK qf
          have hwi := wrapi (x := (i : Int) + 1) (by omega) (by omega)
          have hwj := wrapi (x := (j : Int) + 1) (by omega) (by omega)
          have hiz : (i : Int) < (L.length : Int) := by omega
          have ne1 : wr.heap.size ≠ b := Nat.ne_of_gt hblr.out
          have VS := Aside0.mk (V_set R2.out hiM x)
          rw [hm] at VS
          go_wp2_with fail
          go_roundg (L.length - (j + 1))
          case measure => omega
          case rel =>
            refine ⟨i + 1, j + 1, M.set i x, by go_num, by go_num, by omega, Nat.le_refl _, by omega, VS, ⟨?_⟩, ⟨by simp [IN.out.1], ?_, ?_⟩⟩
            · exact (((B2.out.setCell (p := ⟨b, i * 4, none⟩) rfl _).setCell (p := ⟨b, i * 4 + 1, none⟩) rfl _).setCell (p := ⟨b, i * 4 + 2, none⟩) rfl _).setCell (p := ⟨b, i * 4 + 3, none⟩) rfl _
            · rw [set_take hiM, take_filter ((drop_at IN.out.2.2).symm.trans HX2.out), IN.out.2.1, if_pos hm]
            · rw [set_drop (by omega), ← List.drop_drop, IN.out.2.2, List.drop_drop]
        | true =>
          rw [hm] at HC
          go_wp2_with fail
          refine (HC.out _).mono ?_
          rintro e w2 ⟨rfl, hb⟩
          have B2 := Aside0.mk ((BS.out.alloc _).then_below hb)
          have R2 : Aside0 (RV w2 base b L.length c M) := ⟨Kd.R_below (Kd.R_alloc RM.out _) hb⟩
          clear hb k0 k1 k2 k3
          have hwj := wrapi (x := (j : Int) + 1) (by omega) (by omega)
          go_wp2_with fail
          go_roundg (L.length - (j + 1))
          case measure => omega
          case rel =>
            refine ⟨i, j + 1, M, rfl, by go_num, by omega, Nat.le_refl _, by omega, R2, B2, ⟨IN.out.1, ?_, ?_⟩⟩
            · rw [take_filter ((drop_at IN.out.2.2).symm.trans HX2.out), IN.out.2.1, if_neg (by rw [hm]; decide)]
              simp
            · rw [← List.drop_drop, IN.out.2.2, List.drop_drop]
      · obtain rfl : j = L.length := by omega
        have hltz : ¬ (L.length : Int) < (L.length : Int) := by omega
        have hcl : ∀ ty, ∃ vs, (Builtin.clear_ #[58] ty #[.slice (some ⟨b, i * 4, none⟩) (L.length - i) (c - i)]).run Try.prog wr = .ok (.tuple #[]) (wr.setCells b (i * 4) vs) := fun ty => clear_rows ty wr b (i * 4) (L.length - i) (c - i)
          (fun q hq => by
            obtain ⟨⟨a0, a1, a2, a3⟩, _⟩ := V_elem RM.out (List.getElem?_eq_getElem (show i + q / 4 < M.length by rw [IN.out.1]; omega))
            have hm4 : q % 4 < 4 := Nat.mod_lt _ (by decide)
            rcases (by omega : q % 4 = 0 ∨ q % 4 = 1 ∨ q % 4 = 2 ∨ q % 4 = 3) with hm | hm | hm | hm
            · rw [show i * 4 + q = (i + q / 4) * 4 by omega, a0]; rfl
            · rw [show i * 4 + q = (i + q / 4) * 4 + 1 by omega, a1]; rfl
            · rw [show i * 4 + q = (i + q / 4) * 4 + 2 by omega, a2]; rfl
            · rw [show i * 4 + q = (i + q / 4) * 4 + 3 by omega, a3]; rfl)
          (fun q hq => by
            obtain ⟨_, qf⟩ := V_elem RM.out (List.getElem?_eq_getElem (show i + q / 4 < M.length by rw [IN.out.1]; omega))
            have := qf (q % 4)
            rwa [show (i + q / 4) * 4 + q % 4 = i * 4 + q by omega] at this)
        obtain ⟨vs, hvs⟩ := hcl 0
        have hiz : (i : Int) ≤ (L.length : Int) := by omega
        have hiz2 : (i : Int) ≤ (c : Int) := by omega
        have hiN : i ≤ L.length := by omega
        have hiC : i ≤ c := by omega
        clear hcl
        go_wp2_with fail
        go_ret
        have e1 : L.filter st = M.take i := by rw [IN.out.2.1, List.take_length]
        have e2 : (M.take i).length = i := by rw [List.length_take]; have := IN.out.1; omega
        rw [e1, e2]
        obtain ⟨s1, s2, s3, s4⟩ := setCells_same b vs (i * 4) wr
        refine ⟨rfl, ⟨e2, by omega, fun _ => ⟨_, rfl, fun j x hx => ?_⟩⟩, BS.out.trans ⟨s1, s2, s3, by rw [s4]; exact Nat.le_refl _, fun k _ hk => setCells_far vs _ k (fun he => hk he)⟩⟩
        have hji : j < i := by
          have := (List.getElem?_eq_some_iff.1 hx).1
          omega
        rw [List.getElem?_take_of_lt hji] at hx
        obtain ⟨⟨a0, a1, a2, a3⟩, _⟩ := V_elem RM.out hx
        have out : ∀ o, o < i * 4 → (wr.setCells b (i * 4) vs).cell? ⟨b, o, none⟩ = wr.cell? ⟨b, o, none⟩ := fun o ho => World.cell?_setCells_out b vs _ wr _ (fun _ _ => Or.inl (by show o < i * 4; omega))
        refine ⟨encV x, rfl, kV_mk _ x, fun q u hu => ?_⟩
        rw [add_plain]
        match q, hu with
        | 0, hu => cases hu; exact (out (j * 4) (by omega)).trans a0
        | 1, hu => cases hu; exact (out (j * 4 + 1) (by omega)).trans a1
        | 2, hu => cases hu; exact (out (j * 4 + 2) (by omega)).trans a2
        | 3, hu => cases hu; exact (out (j * 4 + 3) (by omega)).trans a3
end

end Go.Proofs.Ytahdbiddpphepaa.Walk
