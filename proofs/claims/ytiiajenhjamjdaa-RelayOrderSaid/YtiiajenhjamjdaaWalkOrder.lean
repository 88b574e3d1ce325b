/- What is taken was put in, each once, in order. Conditions: none beyond the statement's own. -/
import Derived.Test.YtiiajenhjamjdaaWalkNil
import Derived.Test.YtiiajenhjamjdaaArgs
import Derived.Deep.QuietTactic
import Derived.BigQuiet
import Derived.Lib.QuietBelow
import Derived.Outline
import Derived.Deep.RegionHeld3
import Derived.Deep.CutRange
namespace Go.Proofs.Ytiiajenhjamjdaa.Walk
open Go.RowKit Go.Proofs.Ytiiajenhjamjdaa.F Go.Proofs.YtiiajenhjamjdaaW.PrintWords Go.Proofs.YtiiajenhjamjdaaW.PrintLast Go.Proofs.YtiiajenhjamjdaaW.PrintMore Go.Proofs.Ytiiajenhjamjdaa.Open
open Go.Sort (grow)
attribute [local go_sem] max2_int min2_int max_two min_two max_three min_three max_four min_four
set_option linter.unusedVariables false
set_option linter.unusedSimpArgs false

/-! ### What is taken was put in, each once, in order -/
abbrev kB : Kd Int := Kd.int .u8
abbrev tB : Nat := 5
theorem str_run {w : World} {A : Option Addr} {n c : Nat} {xs : List Int} (h : (Kd.int .u8).C w A n xs) : (convert 23 9 (.slice A n c)).run Try.prog w = .ok (.string (strOfNums xs)) w :=
  Kd.C_string (P := Try.prog) Try.underlying23 Try.underlying5 Try.underlying9 h
theorem B_elem {w : World} {base b n c : Nat} {ok : Nat → Prop} {L : List Int} (h : Kd.R kB tB w base ok (.slice (some ⟨b, 0, none⟩) n c) L) {p : Nat} {x : Int} (hx : L[p]? = some x) : w.cell? ⟨b, p, none⟩ = some (.int .u8 x) ∧ w.frozen? ⟨b, p, none⟩ = false := by
  have hp : p < L.length := (List.getElem?_eq_some_iff.1 hx).1
  have hn : n = L.length := (Kd.R_reads' h).1
  subst hn
  obtain ⟨cc, hcl, hM, hcc, hcf⟩ := Kd.R_elem h 0 (p : Int) (by omega) (by omega)
  have e : L.getD ((p : Int)).toNat 0 = x := by simp [List.getD, hx]
  rw [e] at hM
  rw [Int.toNat_natCast] at hcc hcf
  have hM : cc = [.int .u8 x] := hM
  subst hM
  have h1 := hcc 0 _ rfl
  have h2 := hcf 0
  rw [show p * (Kd.int .u8).sz + 0 = p from Nat.mul_one _] at h1 h2
  exact ⟨h1, h2⟩
theorem B_block {w : World} {base : Nat} {ok : Nat → Prop} {K : List Int} {v : Value} (h : Kd.R kB tB w base ok v K) (hn : 0 < K.length) : ∃ b c, v = .slice (some ⟨b, 0, none⟩) K.length c ∧ base ≤ b ∧ ok b := by
  obtain ⟨ho2, cs, ⟨_, ho⟩, _⟩ := h
  rcases ho with ⟨_, hz⟩ | ⟨g, cap, cur, e, hb, hh, hc, _⟩
  · omega
  · exact ⟨g, cap, e, hb, ho2 g (by rw [e]; rfl)⟩
/-- A chunk with bytes. -/
def pd (i : Int) (d : List Int) : Fr := ⟨⟨0, 0, 0⟩, ⟨0, 0⟩, 0, i, 0, 0, 0, 0, [], [], [], [], d⟩
theorem pd_fin {i : Int} {d : List Int} (h : 0 ≤ i ∧ i ≤ 4294967295) (hd : d.length ≤ 1000000) : fin (pd i d) := ⟨⟨by simp [pd], by simp [pd], by simp [pd], by simp [pd], hd⟩, ⟨by simp [pd, pl], by simp [pd, pl], h⟩⟩
def pdc (i : Int) (A : Option Addr) (n c : Nat) : List Value := [.int .u8 0, .int .u8 0, .int .u8 0, .int .u8 0, .int .u64 0, .int .u64 0, .int .u32 i, .int .u32 0, .int .u32 0, .int .u64 0, .int .u64 0, .slice none 0 0, .slice none 0 0, .slice none 0 0, .slice none 0 0, .slice A n c]
theorem pd_FK {W : World} {ok : Nat → Prop} {i : Int} {d : List Int} {A : Option Addr} {c : Nat} (hc : d.length ≤ c) (h : Kd.F kB W ok A d.length d) : Kd.FK kF W ok (pd i d) (pdc i A d.length c) :=
  k37_mkF W ok (pd i d) (Nat.le_refl _) (Kd.F_nil _ _ _) (Nat.le_refl _) (Kd.F_nil _ _ _) (Nat.le_refl _) (Kd.F_nil _ _ _) (Nat.le_refl _) (Kd.F_nil _ _ _) hc h
theorem put_new {n : Nat} {L : List Fr} {lost : Int} {f : Fr} (h : hasP L (pl f) = false) (hl : L.length < n) : putQ n L lost [f] = (L ++ [f], lost, 1) := by
  show put1 n (L, lost, 0) f = _
  unfold put1
  rw [if_neg (by rw [h]; decide), if_neg (by show ¬ n ≤ L.length; omega)]
theorem put_old {n : Nat} {L : List Fr} {lost : Int} {f : Fr} (h : hasP L (pl f) = true) : putQ n L lost [f] = (L, lost, 0) := by
  show put1 n (L, lost, 0) f = _
  unfold put1
  rw [if_pos h]
section
variable {w : World} {S : Nat → Prop} {g mb n : Nat} {lost : Int} {v : Value} {L : List Fr}
/-- One chunk, written out, is put in. -/
theorem Put_one (h : Que w S g mb n lost v L) (hs : ∀ k, S k → k < w.heap.size) (f : Fr) (cs : List Value) (okp : Nat → Prop) (c : Nat) (hK : Kd.FK kF w okp f cs) (hS : ∀ k, okp k → k < w.heap.size ∧ ¬ S k) (hf : fin f) (hlost : lost ≤ 1000000) (o : Obj) (ho : o = .cells cs.toArray eF) :
    Calls Try.prog 9 #[.pointer (some ⟨g, 0, none⟩), .slice (some ⟨w.heap.size, 0, none⟩) 1 c] (w.alloc o) fun e w' => e = .returned (.int .i64 (putQ n L lost [f]).2.2) ∧ (∃ v', Que w' (fun k => S k ∨ w.heap.size ≤ k) g mb n (putQ n L lost [f]).2.1 v' (putQ n L lost [f]).1) ∧ Beside S w w' := by
  subst ho
  have hB := below_alloc (Below.refl w.heap.size w) (.cells cs.toArray eF)
  have hF : Kd.F kF (w.alloc (.cells cs.toArray eF)) (fun b => okp b ∨ b = w.heap.size) (some ⟨w.heap.size, 0, none⟩) 1 [f] :=
    F_lit (d := kF) (t := eF) (g := w.heap.size) (ok := okp) [(f, cs)] (by simpa using blk_new w (.cells cs.toArray eF)) (by simp) (fun r hr => by
      rw [List.mem_singleton.1 hr]
      exact Kd.FK_below hK hB)
  refine (Put_calls (A := some ⟨w.heap.size, 0, none⟩) (c := c) (h.below hB) [f] (fun w' hw' => Kd.F_now (Kd.F_step hF (fun k hk hlt => hw'.block k hlt (fun hSk => by
    have h1 := hs k hSk
    rcases hk with hk | hk
    · exact (hS k hk).2 hSk
    · omega)))) (fun x hx => by rw [List.mem_singleton.1 hx]; exact hf) (by simp; omega)).mono ?_
  rintro e w' ⟨rfl, ⟨v', hq⟩, hb⟩
  exact ⟨rfl, ⟨v', hq.mono (fun k hk => by rcases hk with hk | hk; exact .inl hk; exact .inr (Nat.le_trans hB.size hk))⟩, (Beside.of_below S hB).trans hb⟩
end
def fd (l : List (List Int)) (k : Nat) : List Fr := (List.range k).map fun j : Nat => pd (j : Int) (rd_L5 l (j : Int))
theorem fd_len (l : List (List Int)) (k : Nat) : (fd l k).length = k := by simp [fd]
theorem fd_succ (l : List (List Int)) (k : Nat) : fd l (k + 1) = fd l k ++ [pd (k : Int) (rd_L5 l (k : Int))] := by simp [fd, List.range_succ]
theorem fd_get {l : List (List Int)} {k i : Nat} (h : i < k) : (fd l k)[i]? = some (pd (i : Int) (rd_L5 l (i : Int))) := by simp [fd, h]
theorem fd_new {l : List (List Int)} {j : Nat} (d : List Int) : hasP (fd l j) (pl (pd (j : Int) d)) = false := by
  cases hc : hasP (fd l j) (pl (pd (j : Int) d)) with
  | false => rfl
  | true =>
    obtain ⟨f, hf, e⟩ := hasP_mem.1 hc
    simp only [fd, List.mem_map, List.mem_range] at hf
    obtain ⟨i, hi, rfl⟩ := hf
    simp only [pl, pd, Prod.mk.injEq] at e
    omega
theorem fd_old {l : List (List Int)} {j : Nat} : hasP (fd l (j + 1)) (pl (pa (j : Int))) = true :=
  hasP_mem.2 ⟨pd (j : Int) (rd_L5 l (j : Int)), by rw [fd_succ]; simp, rfl⟩
theorem R_empty {α : Type} (d : Kd α) {e : TypeId} {W : World} {base : Nat} {ok : Nat → Prop} {b : Nat} (hb : W.heap[b]? = some (.cells #[] e (0, 0))) (hbb : base ≤ b) (hok : ok b) : d.R e W base ok (.slice (some ⟨b, 0, none⟩) 0 0) [] := by
  refine ⟨fun k hk => ?_, [], ⟨by simp, .inr ⟨b, 0, #[], rfl, hbb, hb, Nat.le_refl _, by decide, by simp, by simp⟩⟩, Reps.none _ _⟩
  have : b = k := by simpa [Value.ownBlock] using hk
  exact this ▸ hok
set_option maxHeartbeats 8000000 in
set_option maxRecDepth 100000 in
theorem RelayOrder (A0 : Option Addr) (c0 : Nat) (l0 : List (List Int)) (A1 : Option Addr) (c1 : Nat) (l1 : List Int) (w : World) (hr0 : Kd.C (Kd.slice 5 (Kd.int .u8)) w A0 l0.length l0) (hc0 : l0.length ≤ c0) (hr1 : Kd.C (Kd.int .u8) w A1 l1.length l1) (hc1 : l1.length ≤ c1)
    (w0 : l0.length ≤ maxLen ∧ ∀ x ∈ l0, (x.length ≤ maxLen ∧ ∀ y ∈ x, (Lit.int .u8 y).wf = true)) (w1 : l1.length ≤ maxLen ∧ ∀ x ∈ l1, (Lit.int .u8 x).wf = true) :
    Calls Try.prog 3 #[.slice A0 l0.length c0, .slice A1 l1.length c1] w fun e w' => e = .returned (.bool true) ∧ Below w.heap.size w w' := by
  have HR := Aside0.mk hr0
  have HM := Aside0.mk hr1
  have WM := Aside0.mk w1.2
  have hl1 : l1.length ≤ maxLen := w1.1
  have hmx : maxLen ≤ 9223372036854775807 := by decide
  clear w0 w1 hr0 hc0 hr1 hc1
  by_cases hl : (100 : Int) < l0.length
  · have hl' : decide ((100 : Int) < l0.length) = true := decide_eq_true hl
    go_enter Try.func3, Try.ntmps3
    go_wp2_with fail
    refine (awake_calls _).mono ?_
    rintro e w1 ⟨rfl, hb⟩
    have B1 := Aside0.mk hb
    clear hb
    go_wp2_with fail
    go_ret
    exact ⟨rfl, B1.out⟩
  · have hl' : decide ((100 : Int) < l0.length) = false := decide_eq_false hl
    have hl100 : l0.length ≤ 100 := by omega
    go_enter Try.func3, Try.ntmps3
    go_wp2_with fail
    refine (New_calls 100 _).mono ?_
    rintro e w1 ⟨g, mb, rfl, hQ, hb⟩
    have Q1 := Aside0.mk hQ.bound
    have B1 := Aside0.mk hb
    clear hQ hb
    go_wp2_with fail
    go_loopg [6] l0.length (fun gg s6 wr => ∃ i : Nat, s6 = .int .i64 i ∧ i ≤ l0.length ∧ l0.length - i ≤ gg ∧ (∃ (S : Nat → Prop) (v : Value), Aside0 (Que wr S g mb 100 0 v (fd l0 i)) ∧ Aside0 (∀ k, S k → w.heap.size ≤ k ∧ k < wr.heap.size)) ∧ Aside0 (Below w.heap.size w wr))
    case atStart => exact ⟨0, rfl, Nat.zero_le _, by omega, ⟨_, _, Q1, ⟨fun k hk => hk⟩⟩, B1⟩
    case round =>
      obtain ⟨i, rfl, hi, hgg, ⟨S, v, QI, SI⟩, BI⟩ := hrel
      obtain ⟨wo, hwo⟩ : ∃ wo, wo = wr := ⟨_, rfl⟩
      subst hwo
      by_cases hlt : i < l0.length
      · have hltz : (i : Int) < (l0.length : Int) := by omega
        have hwi : IntKind.i64.wrap ((i : Int) + 1) = ((i + 1 : Nat) : Int) := by rw [IntKind.wrap_i64]; omega
        have hu : IntKind.u32.wrap (i : Int) = (i : Int) := by rw [IntKind.wrap_u32]; omega
        obtain ⟨ad, D0, d0, ea, k0, lD, g0⟩ := at_L5 HR.out (i : Int) (by omega) (by omega)
        cases ea
        rw [Int.toNat_natCast] at k0
        obtain ⟨x, hx⟩ : ∃ x, rd_L5 l0 (i : Int) = x := ⟨_, rfl⟩
        rw [hx] at k0 lD g0
        have HX := Aside0.mk hx
        have K0 := Aside0.mk k0
        have G0 := Aside0.mk g0
        have k1 := pw_cell_below BI.out k0
        clear hx k0 g0
        by_cases h50 : 50 < x.length
        · have h1 : decide ((50 : Int) < (x.length : Int)) = true := decide_eq_true (by omega)
          go_wp2_with fail
          refine (awake_calls _).mono ?_
          rintro e w2 ⟨rfl, hb⟩
          have B2 := Aside0.mk (below_step BI.out hb)
          clear hb
          go_wp2_with fail
          go_ret
          exact ⟨rfl, B2.out⟩
        · have h1 : decide ((50 : Int) < (x.length : Int)) = false := decide_eq_false (by omega)
          have C0 := Aside0.mk (Kd.C_below (Kd.C_below G0.out BI.out) (below_alloc (Below.refl wo.heap.size wo) (.cells #[] tB)))
          have hle : x.length ≤ 50 := by omega
          have k2 : (wo.alloc (.cells #[] tB)).cell? (ad.add i) = some (.slice D0 x.length d0) := pw_cell_below (below_alloc (Below.refl wo.heap.size wo) (.cells #[] tB)) k1
          go_upto_region 10 with ((with_reducible refine gate_dst (N := 37) rfl ?_); refine Kd.R_append_rows kB (w0 := wo) wo.heap.size rfl (.tmp 32) (.tmp 36) 23 tB (.int .u8 0) 1 rfl Try.underlying23 info5 rfl (by decide) (by decide) (.slice (some ⟨wo.heap.size, 0, none⟩) 0 0) [] x D0 x.length d0 (fun k => wo.heap.size ≤ k) (fun _ => False) rfl rfl (R_empty kB (blk_new wo _) (Nat.le_refl _) (Nat.le_refl _)) C0.out (fun _ _ h => h) (fun _ h => h.elim) (fun k hk => Nat.le_trans (below_alloc (Below.refl wo.heap.size wo) _).size hk) (below_alloc (Below.refl _ _) _) (below_alloc (Below.refl wo.heap.size wo) _).size (by simp; omega) ?_; intro v5 w5 hr hb hg hat; rw [List.nil_append] at hr; obtain ⟨A5, c5, rfl⟩ := Kd.R_slice hr; have R5 : Aside0 (Kd.R kB tB w5 wo.heap.size (fun k => wo.heap.size ≤ k ∧ k < w5.heap.size) (.slice A5 x.length c5) x) := ⟨Kd.R_mono (Kd.R_bound hr) (fun k hk => ⟨hk.1, hk.2.2.1⟩)⟩; have B5 := Aside0.mk hb; clear hr hb hg hat)
          have Q5 := Aside0.mk (QI.out.below B5.out)
          have BW5 := Aside0.mk (below_step BI.out B5.out)
          have hx5 := (Kd.R_reads' R5.out).2.1
          have P5 := Put_one Q5.out (fun k hk => Nat.lt_of_lt_of_le (SI.out k hk).2 B5.out.size) (pd (i : Int) x) (pdc (i : Int) A5 x.length c5) (fun k => wo.heap.size ≤ k ∧ k < w5.heap.size) 1 (pd_FK hx5 (Kd.R_F R5.out)) (fun k hk => ⟨hk.2, fun hS => by have h3 := (SI.out k hS).2; have h4 := hk.1; omega⟩) (pd_fin (by omega) (by omega)) (by decide) (.cells (pdc (i : Int) A5 x.length c5).toArray eF) rfl
          rw [put_new (fd_new x) (by rw [fd_len]; omega)] at P5
          dsimp only at P5
          rw [← HX.out, ← fd_succ, HX.out] at P5
          have P5 := Aside0.mk P5
          clear Q5 k1 k2 C0 hx5
          go_wp2_with fail
          refine P5.out.mono ?_
          rintro e w6 ⟨rfl, ⟨v6, hq⟩, hb⟩
          have Q6 := Aside0.mk hq.bound
          have R6 : Aside0 (Kd.R kB tB w6 wo.heap.size (fun k => wo.heap.size ≤ k ∧ k < w5.heap.size) (.slice A5 x.length c5) x) := ⟨Kd.R_step R5.out (fun k hk hlt => hb.block k hlt (fun hS => by have h3 := (SI.out k hS).2; have h4 := hk.1; omega))⟩
          have BW6 := Aside0.mk (Beside.step BW5.out hb (fun k hk => (SI.out k hk).1))
          have S6 : Aside0 (∀ k, (S k ∨ w5.heap.size ≤ k) ∧ k < w6.heap.size → w.heap.size ≤ k ∧ ¬ (wo.heap.size ≤ k ∧ k < w5.heap.size)) := ⟨fun k hk => by
            rcases hk.1 with h3 | h3
            · have h4 := SI.out k h3
              exact ⟨h4.1, fun h5 => by omega⟩
            · exact ⟨Nat.le_trans BW5.out.size h3, fun h5 => by omega⟩⟩
          have Z6 := Aside0.mk hb.size
          clear hq hb P5 R5
          have P6 := Put_one Q6.out (fun k hk => hk.2) (pa (i : Int)) (pac (i : Int)) (fun _ => False) 1 (pf_FK _ _ _ _ _ _ _ _ _ _ _ _) (fun _ hk => hk.elim) (pa_fin (by omega)) (by decide) (.cells (pac (i : Int)).toArray eF) rfl
          rw [put_old fd_old] at P6
          have P6 := Aside0.mk P6
          clear Q6
          go_wp2_with fail
          refine P6.out.mono ?_
          rintro e w7 ⟨rfl, ⟨v7, hq⟩, hb⟩
          have Q7 := Aside0.mk hq.bound
          have R7 : Aside0 (Kd.R kB tB w7 wo.heap.size (fun k => wo.heap.size ≤ k ∧ k < w5.heap.size) (.slice A5 x.length c5) x) := ⟨Kd.R_step R6.out (fun k hk hlt => hb.block k hlt (fun hS => (S6.out k hS).2 hk))⟩
          have BW7 := Aside0.mk (Beside.step BW6.out hb (fun k hk => (S6.out k hk).1))
          have S7 : Aside0 (∀ k, ((((S k ∨ w5.heap.size ≤ k) ∧ k < w6.heap.size) ∨ w6.heap.size ≤ k) ∧ k < w7.heap.size) → w.heap.size ≤ k ∧ k < w7.heap.size ∧ ¬ (wo.heap.size ≤ k ∧ k < w5.heap.size)) := ⟨fun k hk => by
            rcases hk.1 with h3 | h3
            · exact ⟨(S6.out k h3).1, hk.2, (S6.out k h3).2⟩
            · exact ⟨Nat.le_trans BW6.out.size h3, hk.2, fun h5 => by have := Z6.out; omega⟩⟩
          clear hq hb P6 R6 S6 Z6 BW6
          obtain ⟨T7, hT7⟩ : ∃ T : Nat → Prop, T = fun k => (((S k ∨ w5.heap.size ≤ k) ∧ k < w6.heap.size) ∨ w6.heap.size ≤ k) ∧ k < w7.heap.size := ⟨_, rfl⟩
          have Q7 : Aside0 (Que w7 T7 g mb 100 0 v7 (fd l0 (i + 1))) := ⟨by rw [hT7]; exact Q7.out⟩
          have S7 : Aside0 (∀ k, T7 k → w.heap.size ≤ k ∧ k < w7.heap.size ∧ ¬ (wo.heap.size ≤ k ∧ k < w5.heap.size)) := ⟨by rw [hT7]; exact S7.out⟩
          clear hT7
          go_wp2_with fail
          go_loopg [8] x.length (fun gg s8 wz => ∃ (j : Nat) (xs : List Int), s8 = .int .i64 j ∧ j ≤ x.length ∧ x.length - j ≤ gg ∧ xs.length = x.length ∧ Aside0 (Kd.R kB tB wz wo.heap.size (fun k => wo.heap.size ≤ k ∧ k < w5.heap.size) (.slice A5 x.length c5) xs) ∧ Aside0 (Que wz T7 g mb 100 0 v7 (fd l0 (i + 1))) ∧ Aside0 (Below w.heap.size w wz) ∧ Aside0 (w7.heap.size ≤ wz.heap.size))
          case atStart => exact ⟨0, x, rfl, Nat.zero_le _, by omega, rfl, R7, Q7, BW7, ⟨Nat.le_refl _⟩⟩
          case round =>
            clear R7 Q7 BW7
            obtain ⟨j, xs, rfl, hj, hgg2, hxl, RO, QO, BO, ZO⟩ := hrel
            by_cases hlt2 : j < x.length
            · have hltz2 : (j : Int) < (x.length : Int) := by omega
              have hwj : IntKind.i64.wrap ((j : Int) + 1) = ((j + 1 : Nat) : Int) := by rw [IntKind.wrap_i64]; omega
              obtain ⟨b, cb, e, hbb, hbo⟩ := B_block RO.out (by omega)
              rw [hxl] at e
              injection e with e1 _ e2
              subst e1; subst e2
              obtain ⟨q0, z0⟩ := B_elem RO.out (List.getElem?_eq_getElem (show j < xs.length by omega))
              generalize xs[j] = y at q0
              obtain ⟨y2, hy2⟩ : ∃ y2, IntKind.u8.wrap (y + 1) = y2 := ⟨_, rfl⟩
              have NR := Aside0.mk (Kd.R_putn RO.out (j : Int) y2)
              rw [Int.toNat_natCast] at NR
              have SG := Aside0.mk ((Beside.refl (fun k => k = b) wr).setCell (p := ⟨b, j, none⟩) rfl (.int .u8 y2))
              have HBO := Aside0.mk hbo
              go_wp2_with fail
              go_roundg (x.length - (j + 1))
              case measure => omega
              case rel => exact ⟨j + 1, xs.set j y2, by go_num, by omega, Nat.le_refl _, by rw [List.length_set]; exact hxl, NR, ⟨QO.out.beside SG.out (fun k hk e => by
                have e : k = b := e
                exact (S7.out k hk).2.2 (e ▸ HBO.out))⟩, ⟨Beside.step BO.out SG.out (fun k hk => by
                have hk : k = b := hk
                rw [hk]
                exact Nat.le_trans BI.out.size HBO.out.1)⟩, ⟨by simpa [World.setCell] using ZO.out⟩⟩
            · obtain rfl : j = x.length := by omega
              have hltz2 : ¬ (x.length : Int) < (x.length : Int) := by omega
              have QF : Aside0 (Que wr T7 g mb 100 0 v7 (fd l0 (i + 1))) := QO
              have BF := Aside0.mk BO.out
              clear RO QO BO
              go_wp2_with fail
              go_roundg (l0.length - (i + 1))
              case measure => omega
              case rel => exact ⟨i + 1, by go_num, by omega, Nat.le_refl _, ⟨T7, v7, QF, ⟨fun k hk => ⟨(S7.out k hk).1, Nat.lt_of_lt_of_le (S7.out k hk).2.1 ZO.out⟩⟩⟩, BF⟩
      · obtain rfl : i = l0.length := by omega
        have hltz : ¬ (l0.length : Int) < (l0.length : Int) := by omega
        obtain ⟨A3, c3, rfl, hqt⟩ := QI.out.qt
        have QT0 := Aside0.mk hqt
        have SB : Aside0 (∀ k, S k → k < wo.heap.size) := ⟨fun k hk => (SI.out k hk).2⟩
        have GM : Aside0 (w.heap.size ≤ g ∧ w.heap.size ≤ mb) := ⟨(SI.out g hqt.S_g).1, (SI.out mb hqt.S_m).1⟩
        have BW := Aside0.mk BI.out
        clear hqt QI SI BI Q1 B1
        obtain ⟨m, hm⟩ : ∃ m, m = l0.length := ⟨_, rfl⟩
        have HMM := Aside0.mk hm
        go_wp2_with fail
        go_loopg [9, 10] 300 (fun gg s9 s10 wr => ∃ nx i : Nat, s9 = .int .i64 nx ∧ s10 = .int .i64 i ∧ i ≤ 300 ∧ 300 - i ≤ gg ∧ nx ≤ l0.length ∧ (∃ A c, Aside0 (QT wr S g mb 100 0 A c ((fd l0 l0.length).drop nx))) ∧ Aside0 (Below w.heap.size w wr) ∧ Aside0 (wo.heap.size ≤ wr.heap.size))
        case atStart => exact ⟨0, 0, rfl, rfl, Nat.zero_le _, by omega, Nat.zero_le _, ⟨_, _, QT0⟩, BW, ⟨Nat.le_refl _⟩⟩
        case round =>
          clear QT0 BW
          obtain ⟨nx, i, rfl, rfl, hi, hgg, hnx, ⟨Aq, cq, QQ⟩, BB, ZZ⟩ := hrel
          have LEN := Aside0.mk (QLen_calls QQ.out)
          have hdl : ((fd l0 l0.length).drop nx).length = l0.length - nx := by rw [List.length_drop, fd_len]
          rw [hdl] at LEN
          have hwi : IntKind.i64.wrap ((i : Int) + 1) = ((i + 1 : Nat) : Int) := by rw [IntKind.wrap_i64]; omega
          by_cases hgo : i < 300 ∧ nx < l0.length
          · have hgi : (i : Int) < 300 := by omega
            have hp : ((l0.length - nx : Nat) : Int) > 0 := by omega
            go_wp2_with fail
            refine LEN.out.mono ?_
            rintro e w2 ⟨rfl, rfl⟩
            go_upto_if 79 with (fail)
            go_cut [11] (fun v11 w' => ∃ kk : Nat, v11 = .int .i64 kk ∧ kk ≤ 4 ∧ w' = w2)
            case first =>
              by_cases hml : i < l1.length
              · have hmz : (i : Int) < (l1.length : Int) := by omega
                obtain ⟨ad1, cs1, e1, _, hK1, hc1⟩ := Kd.C_get (Kd.C_below HM.out BB.out) 0 (i : Int) (by omega) hmz
                cases e1
                rw [Int.toNat_natCast] at hc1 hK1
                have hy : 0 ≤ l1.getD i 0 ∧ l1.getD i 0 ≤ 255 := by
                  rw [List.getD_eq_getElem?_getD, List.getElem?_eq_getElem hml]
                  have := WM.out _ (List.getElem_mem hml)
                  simp only [Lit.wf, Bool.and_eq_true, decide_eq_true_eq, show IntKind.u8.min = 0 from rfl, show IntKind.u8.max = 255 from rfl] at this
                  exact this
                generalize l1.getD i 0 = y at hK1 hy
                have hK1 : cs1 = [.int .u8 y] := hK1
                subst hK1
                have q0 : w2.cell? (ad1.add i) = some (.int .u8 y) := by
                  have := hc1 0 _ rfl
                  rwa [show i * (Kd.int .u8).sz + 0 = i from Nat.mul_one _] at this
                clear hc1
                go_wp2_with fail
                go_meet
                exact ⟨(y % 5).toNat, by rw [Int.toNat_of_nonneg (by omega)], by omega, rfl⟩
              · have hmz : ¬ (i : Int) < (l1.length : Int) := by omega
                go_wp2_with fail
                go_meet
                exact ⟨1, rfl, by omega, rfl⟩
            case rest =>
              obtain ⟨kk, rfl, hkk, rfl⟩ := hcut
              have TK := Take_calls QQ.out (fun k hk => Nat.lt_of_lt_of_le (SB.out k hk) ZZ.out) (kk : Int) (by rw [hdl]; omega)
              rw [Int.toNat_natCast, List.drop_drop] at TK
              obtain ⟨r, hr⟩ : ∃ r, r = min kk (l0.length - nx) := ⟨_, rfl⟩
              have htl : (((fd l0 l0.length).drop nx).take kk).length = r := by rw [List.length_take, hdl, hr]
              have hdr : (fd l0 l0.length).drop (nx + kk) = (fd l0 l0.length).drop (nx + r) := by
                by_cases hc : kk ≤ l0.length - nx
                · rw [hr, Nat.min_eq_left hc]
                · rw [List.drop_of_length_le (by rw [fd_len]; omega), List.drop_of_length_le (by rw [fd_len]; omega)]
              have hwn : IntKind.i64.wrap ((l0.length : Int) - (nx : Int)) = ((l0.length - nx : Nat) : Int) := by rw [IntKind.wrap_i64]; omega
              have hmin : Builtin.min2 (.int .i64 (kk : Int)) (.int .i64 ((l0.length - nx : Nat) : Int)) = pure (.int .i64 (r : Int)) := by
                rw [min2_int]
                congr 2
                rw [hr]
                split <;> omega
              have GET : Aside0 (∀ j, j < r → (((fd l0 l0.length).drop nx).take kk).getD j z37 = pd ((nx + j : Nat) : Int) (rd_L5 l0 ((nx + j : Nat) : Int))) := ⟨fun j hj => by
                rw [List.getD_eq_getElem?_getD, List.getElem?_take_of_lt (by omega), List.getElem?_drop, fd_get (by omega)]
                rfl⟩
              have hrn : nx + r ≤ l0.length := by omega
              rw [hdr] at TK
              have TK := Aside0.mk TK
              generalize ((fd l0 l0.length).drop nx).take kk = LK at TK htl GET
              clear hr hdr LEN QQ
              go_wp2_with fail
              refine TK.out.mono ?_
              rintro e w6 ⟨v6, rfl, hN, ⟨A6, c6, hq6⟩, hb⟩
              obtain ⟨Av, cv, rfl⟩ := Kd.N_slice hN
              rw [htl] at hN ⊢
              have FR := Aside0.mk (Kd.N_F hN)
              have Q6 := Aside0.mk hq6
              have B6 := Aside0.mk (Beside.step BB.out hb (fun k hk => by
                rcases hk with hk | hk
                · rw [hk]; exact GM.out.1
                · rw [hk]; exact GM.out.2))
              have Z6 : Aside0 (wo.heap.size ≤ w6.heap.size) := ⟨Nat.le_trans ZZ.out hb.size⟩
              clear hN hq6 hb TK BB ZZ
              go_wp2_with fail
              go_loopg [9, 13] r (fun gg s9 s13 wz => ∃ p j : Nat, s9 = .int .i64 p ∧ s13 = .int .i64 j ∧ Aside0 (p = nx + j) ∧ j ≤ r ∧ r - j ≤ gg ∧ Aside0 (Below w6.heap.size w6 wz))
              case atStart => exact ⟨nx, 0, rfl, rfl, ⟨rfl⟩, Nat.zero_le _, by omega, ⟨Below.refl _ _⟩⟩
              case round =>
                obtain ⟨p, j, rfl, rfl, HPJ, hj, hgg4, BZ⟩ := hrel
                have hpl : p ≤ l0.length := by have := HPJ.out; omega
                by_cases hlt4 : j < r
                · have hltz4 : (j : Int) < (r : Int) := by omega
                  have hpl2 : p < l0.length := by have := HPJ.out; omega
                  have hwj : IntKind.i64.wrap ((j : Int) + 1) = ((j + 1 : Nat) : Int) := by rw [IntKind.wrap_i64]; omega
                  have hwp : IntKind.i64.wrap ((p : Int) + 1) = ((p + 1 : Nat) : Int) := by rw [IntKind.wrap_i64]; omega
                  have hu : IntKind.u32.wrap (p : Int) = (p : Int) := by rw [IntKind.wrap_u32]; omega
                  obtain ⟨ad, cs, hA, _, hK, hcc, _⟩ := Kd.F_get (Kd.F_below FR.out BZ.out) z37 (j : Int) (by omega) hltz4
                  subst hA
                  rw [Int.toNat_natCast, GET.out j hlt4, ← HPJ.out] at hK
                  rw [Int.toNat_natCast] at hcc
                  have hcc : ∀ i u, cs[i]? = some u → wr.cell? (ad.add (j * 16 + i)) = some u := hcc
                  obtain ⟨adL, D0, d0, ea, q0, lD, gD⟩ := at_L5 HR.out (p : Int) (by omega) (by omega)
                  cases ea
                  rw [Int.toNat_natCast] at q0
                  generalize rd_L5 l0 (p : Int) = X at hK q0 lD gD
                  obtain ⟨A11, c11, A12, c12, A13, c13, A14, c14, A15, c15, rfl, l11, g11, l12, g12, l13, g13, l14, g14, l15, g15⟩ := k37_open (Kd.FK_now hK)
                  have k6 : wr.cell? ⟨(ad.add (j * 16)).block, (ad.add (j * 16)).off + 6, none⟩ = some (.int .u32 (p : Int)) := by rw [← add_field _ _ 6 (by omega)]; exact hcc 6 _ rfl
                  have k15 : wr.cell? ⟨(ad.add (j * 16)).block, (ad.add (j * 16)).off + 15, none⟩ = some (.slice A15 X.length c15) := by rw [← add_field _ _ 15 (by omega)]; exact hcc 15 _ rfl
                  have BT := Aside0.mk (below_step B6.out BZ.out)
                  have s1 : ∀ q, (convert 23 9 (.slice A15 X.length c15)).run Try.prog (wr.drewN q) = .ok (.string (strOfNums X)) (wr.drewN q) := fun q => str_run (Kd.C_drewN g15 q)
                  have s2 : ∀ q, (convert 23 9 (.slice D0 X.length d0)).run Try.prog (wr.drewN q) = .ok (.string (strOfNums X)) (wr.drewN q) := fun q => str_run (Kd.C_drewN (Kd.C_below gD BT.out) q)
                  have q0' := pw_cell_below BT.out q0
                  have hpz : (p : Int) < (l0.length : Int) := by omega
                  clear hcc hK q0 lD gD l11 g11 l12 g12 l13 g13 l14 g14 l15 g15 BT
                  go_wp2_with fail
                  go_quiet (fail)
                  have BZ2 := Aside0.mk (pw_below_drewN BZ.out nq)
                  go_wp2_with fail
                  go_roundg (r - (j + 1))
                  case measure => omega
                  case rel => exact ⟨p + 1, j + 1, by go_num, by go_num, ⟨by have := HPJ.out; omega⟩, by omega, Nat.le_refl _, BZ2⟩
                · obtain rfl : j = r := by omega
                  have hltz4 : ¬ (j : Int) < (j : Int) := by omega
                  go_wp2_with fail
                  go_roundg (300 - (i + 1))
                  case measure => omega
                  case rel => exact ⟨p, i + 1, rfl, by go_num, by omega, Nat.le_refl _, by omega, ⟨A6, c6, ⟨by rw [HPJ.out]; exact Q6.out.below BZ.out⟩⟩, ⟨below_step B6.out BZ.out⟩, ⟨Nat.le_trans Z6.out BZ.out.size⟩⟩
          · by_cases h300 : i < 300
            · obtain rfl : nx = l0.length := by omega
              have hgi : (i : Int) < 300 := by omega
              rw [Nat.sub_self] at LEN
              go_wp2_with fail
              refine LEN.out.mono ?_
              rintro e w2 ⟨rfl, rfl⟩
              go_wp2_with fail
              refine LEN.out.mono ?_
              rintro e w3 ⟨rfl, rfl⟩
              go_wp2_with fail
              refine (awake_calls _).mono ?_
              rintro e w8 ⟨rfl, hb⟩
              have B8 := Aside0.mk (below_step BB.out hb)
              clear hb
              go_wp2_with fail
              go_ret
              exact ⟨rfl, B8.out⟩
            · have hgi : ¬ (i : Int) < 300 := by omega
              by_cases hnl : nx < l0.length
              · have hp : ((l0.length - nx : Nat) : Int) > 0 := by omega
                go_wp2_with fail
                refine LEN.out.mono ?_
                rintro e w3 ⟨rfl, rfl⟩
                go_wp2_with fail
                refine (awake_calls _).mono ?_
                rintro e w8 ⟨rfl, hb⟩
                have B8 := Aside0.mk (below_step BB.out hb)
                clear hb
                go_wp2_with fail
                go_ret
                exact ⟨rfl, B8.out⟩
              · obtain rfl : nx = l0.length := by omega
                rw [Nat.sub_self] at LEN
                go_wp2_with fail
                refine LEN.out.mono ?_
                rintro e w3 ⟨rfl, rfl⟩
                go_wp2_with fail
                refine (awake_calls _).mono ?_
                rintro e w8 ⟨rfl, hb⟩
                have B8 := Aside0.mk (below_step BB.out hb)
                clear hb
                go_wp2_with fail
                go_ret
                exact ⟨rfl, B8.out⟩

end Go.Proofs.Ytiiajenhjamjdaa.Walk
