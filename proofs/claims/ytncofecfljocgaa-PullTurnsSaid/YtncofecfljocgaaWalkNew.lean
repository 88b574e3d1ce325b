/- A new matrix. Conditions: none beyond the statement's own. -/
import Derived.Test.YtncofecfljocgaaWalkMat
import Derived.Test.YtncofecfljocgaaArgs
import Derived.Deep.QuietTactic
import Derived.BigQuiet
import Derived.Lib.QuietBelow
import Derived.Outline
import Derived.Deep.RegionHeld3
import Derived.Deep.CutRange
namespace Go.Proofs.Ytncofecfljocgaa.Walk
open Go.RowKit Go.Proofs.Ytncofecfljocgaa.F Go.Proofs.YtncofecfljocgaaW.PrintWords Go.Proofs.YtncofecfljocgaaW.PrintLast Go.Proofs.YtncofecfljocgaaW.PrintMore Go.Proofs.Ytncofecfljocgaa.Open
open Go.Sort (grow)
attribute [local go_sem] max2_int min2_int max_two min_two max_three min_three max_four min_four
set_option linter.unusedVariables false
set_option linter.unusedSimpArgs false

/-! ### a new matrix -/
theorem wpList_build' {P : Program} {ops : Array Oper} {rest : List Oper} {o : Oper} {a : Act} {w : World} {Q : Exit → Act → World → Prop} (hg : o.guard = none) (t : TypeId) (parts : Array (Nat × Operand)) (ho : o.op = .build t parts) (cells : Array Value)
    (hb : P.built t (parts.map fun (i, x) => (i, a.eval x)).toList = some cells) (h : wpList P ops Q rest (a.put o.dst (.agg cells)) w) : wpList P ops Q (o :: rest) a w :=
  wpList_build hg t parts ho (by rw [hb]; rfl) (by rw [hb]; exact h)
theorem row_made {w w1 : World} {v : Value} {n : Nat} (h : Kd.R kX tX w1 w.heap.size (fun _ => True) v (List.replicate n zX)) (hv : ∃ b, v.ownBlock = some b ∧ w.heap.size ≤ b) (hn : 0 < n) : ∃ rb cp, v = .slice (some ⟨rb, 0, none⟩) n cp ∧ w.heap.size ≤ rb ∧ rb < w1.heap.size := by
  obtain ⟨b, hb, hle⟩ := hv
  obtain ⟨A, c, rfl⟩ := Kd.R_slice h
  obtain ⟨_, inner, ⟨_, ho⟩, _⟩ := h
  rcases ho with ⟨e, _⟩ | ⟨g, cap, cur, e, _, hg, _⟩
  · simp only [Value.slice.injEq] at e
    rw [e.1] at hb
    cases hb
  · simp only [Value.slice.injEq] at e
    obtain ⟨rfl, _, _⟩ := e
    refine ⟨g, c, by simp, ?_, blk_lt hg⟩
    simp [Value.ownBlock] at hb
    omega
theorem part_get {n i : Nat} (h : i < n) : (part n i)[i]? = some zX := by
  unfold part
  rw [List.getElem?_append_right (by simp), List.length_replicate, Nat.sub_self]
  obtain ⟨m, hm⟩ : ∃ m, n - i = m + 1 := ⟨n - i - 1, by omega⟩
  rw [hm]
  rfl
theorem part_set {n i : Nat} (h : i < n) : (part n i).set i (x0 n) = part n (i + 1) := by
  unfold part
  rw [List.set_append_right _ _ (by simp)]
  obtain ⟨m, hm⟩ : ∃ m, n - i = m + 1 := ⟨n - i - 1, by omega⟩
  have : n - (i + 1) = m := by omega
  rw [hm, this, List.length_replicate, Nat.sub_self, List.replicate_succ, List.set_cons_zero, List.replicate_succ', List.append_assoc]
  rfl
theorem part_len {n i : Nat} (h : i ≤ n) : (part n i).length = n := by simp [part]; omega
def ZC (n : Nat) : Obj := .cells (madeCells #[.int .u64 0] n) tU
theorem zero_row (W : World) (base : Nat) (ok : Nat → Prop) (n : Nat) (hb : base ≤ W.heap.size) (hn : n ≤ 64) (hok : ok W.heap.size) : Kd.R kU tU (W.alloc (ZC n)) base ok (.slice (some ⟨W.heap.size, 0, none⟩) n n) (List.replicate n 0) := by
  have h := own_made W base tU .u64 n hb (by omega)
  refine Kd.R_of_own ?_ (fun k hk => ?_)
  · rw [List.length_replicate]
    exact h
  · have : W.heap.size = k := by simpa [Value.ownBlock] using hk
    rw [← this]
    exact hok
theorem New_fill {w wr : World} {g rb cp n i a b : Nat} (h : Kd.R kX tX wr w.heap.size (fun k => k ≠ g) (.slice (some ⟨rb, 0, none⟩) n cp) (part n i)) (hi : i < n) (hn : n ≤ 64) (hs : w.heap.size ≤ wr.heap.size) (hg : g < wr.heap.size) (hrb : rb < wr.heap.size) (hne : g ≠ rb) (hB : Below w.heap.size w wr) (hwr : w.heap.size ≤ rb)
    (hab : (a = wr.heap.size ∧ b = wr.heap.size + 1) ∨ (a = wr.heap.size + 1 ∧ b = wr.heap.size)) :
    Kd.R kX tX (((((((wr.alloc (ZC n)).alloc (ZC n)).setCell ⟨rb, i * 4, none⟩ (.int .u64 0)).setCell ⟨rb, i * 4 + 1, none⟩ (.slice (some ⟨a, 0, none⟩) n n)).setCell ⟨rb, i * 4 + 2, none⟩ (.slice (some ⟨b, 0, none⟩) n n)).setCell ⟨rb, i * 4 + 3, none⟩ (.bool false)).drew) w.heap.size (fun k => k ≠ g) (.slice (some ⟨rb, 0, none⟩) n cp) (part n (i + 1)) ∧
    (((((((wr.alloc (ZC n)).alloc (ZC n)).setCell ⟨rb, i * 4, none⟩ (.int .u64 0)).setCell ⟨rb, i * 4 + 1, none⟩ (.slice (some ⟨a, 0, none⟩) n n)).setCell ⟨rb, i * 4 + 2, none⟩ (.slice (some ⟨b, 0, none⟩) n n)).setCell ⟨rb, i * 4 + 3, none⟩ (.bool false)).drew).heap[g]? = wr.heap[g]? ∧
    Below w.heap.size w (((((((wr.alloc (ZC n)).alloc (ZC n)).setCell ⟨rb, i * 4, none⟩ (.int .u64 0)).setCell ⟨rb, i * 4 + 1, none⟩ (.slice (some ⟨a, 0, none⟩) n n)).setCell ⟨rb, i * 4 + 2, none⟩ (.slice (some ⟨b, 0, none⟩) n n)).setCell ⟨rb, i * 4 + 3, none⟩ (.bool false)).drew) := by
  have hl := part_len (n := n) (i := i) (by omega)
  have hsz : (wr.alloc (ZC n)).heap.size = wr.heap.size + 1 := by simp
  have h2 := Kd.R_alloc (Kd.R_alloc h (ZC n)) (ZC n)
  have hB2 : Below w.heap.size w ((wr.alloc (ZC n)).alloc (ZC n)) := below_alloc (below_alloc hB _) _
  have hg2 : ((wr.alloc (ZC n)).alloc (ZC n)).heap[g]? = wr.heap[g]? := (below_alloc (below_alloc (Below.refl wr.heap.size wr) (ZC n)) (ZC n)).block g hg
  have z1 : Kd.R kU tU ((wr.alloc (ZC n)).alloc (ZC n)) w.heap.size (fun k => k ≠ g ∧ k ≠ rb) (.slice (some ⟨wr.heap.size, 0, none⟩) n n) (List.replicate n 0) := Kd.R_alloc (zero_row wr _ _ n hs hn ⟨by omega, by omega⟩) _
  have z2 : Kd.R kU tU ((wr.alloc (ZC n)).alloc (ZC n)) w.heap.size (fun k => k ≠ g ∧ k ≠ rb) (.slice (some ⟨wr.heap.size + 1, 0, none⟩) n n) (List.replicate n 0) := by
    have := zero_row (wr.alloc (ZC n)) w.heap.size (fun k => k ≠ g ∧ k ≠ rb) n (by omega) hn ⟨by omega, by omega⟩
    rwa [hsz] at this
  generalize (wr.alloc (ZC n)).alloc (ZC n) = W at h2 hB2 hg2 z1 z2 ⊢
  obtain ⟨A1, c1, A2, c2, ⟨k0, k1, k2, k3⟩, _, _, _⟩ := row_elem h2 (part_get hi)
  have za : Kd.R kU tU W w.heap.size (fun k => k ≠ g ∧ k ≠ rb) (.slice (some ⟨a, 0, none⟩) n n) (List.replicate n 0) := by
    rcases hab with ⟨rfl, _⟩ | ⟨rfl, _⟩
    · exact z1
    · exact z2
  have zb : Kd.R kU tU W w.heap.size (fun k => k ≠ g ∧ k ≠ rb) (.slice (some ⟨b, 0, none⟩) n n) (List.replicate n 0) := by
    rcases hab with ⟨_, rfl⟩ | ⟨_, rfl⟩
    · exact z2
    · exact z1
  have key := row_set h2 (p := i) (x' := x0 n) (by omega) (c := [.int .u64 zX.f0, .slice A1 zX.f1.length c1, .slice A2 zX.f2.length c2, .bool zX.f3]) rfl (fun j u hj => by
    match j, hj with
    | 0, hj => cases hj; exact k0
    | 1, hj => cases hj; exact k1
    | 2, hj => cases hj; exact k2
    | 3, hj => cases hj; exact k3) 0 [.int .u64 0, .slice (some ⟨a, 0, none⟩) n n, .slice (some ⟨b, 0, none⟩) n n, .bool false] (by show 0 + 4 ≤ 4; exact Nat.le_refl _) (k65_mkM _ _ _ (x0 n) za zb)
  rw [part_set hi] at key
  refine ⟨Kd.R_drew key.1, (key.2.block g ?_ (by simp [hne])).trans hg2, below_drew ⟨key.2.os.trans hB2.os, key.2.tape.trans hB2.tape, key.2.output.trans hB2.output, Nat.le_trans hB2.size key.2.size, fun k hk => (key.2.block k (Nat.lt_of_lt_of_le hk hB2.size) (by simp; omega)).trans (hB2.block k hk)⟩⟩
  have := (Array.getElem?_eq_some_iff.1 (hg2.trans (Array.getElem?_eq_getElem hg))).1
  exact this
theorem New_done {w W : World} {g rb cp n : Nat} (hg : W.heap[g]? = some (.cells #[.slice (some ⟨rb, 0, none⟩) n cp] tM (0, 0))) (h : Kd.R kX tX W w.heap.size (fun k => k ≠ g) (.slice (some ⟨rb, 0, none⟩) n cp) (part n n)) (hrb : w.heap.size ≤ rb) (h1 : 0 < n) (h2 : n ≤ 64) (hgw : w.heap.size ≤ g) : Mat W (fun k => w.heap.size ≤ k) g rb cp (newL n) := by
  have e : part n n = newL n := by simp [part, newL]
  have hl : (newL n).length = n := by simp [newL]
  rw [e] at h
  refine ⟨newL_ok h1 h2, hgw, by rw [hl]; exact hg, ?_⟩
  rw [hl]
  exact Kd.R_lower (Kd.R_mono (Kd.R_bound h) (fun k hk => ⟨hk.2.1, hk.1⟩)) (Nat.zero_le _)
set_option maxHeartbeats 4000000 in
theorem New_calls (a : Int) (w : World) : Calls Try.prog 8 #[.int .i64 a] w fun e w' => ∃ g rb cp, e = .returned (.pointer (some ⟨g, 0, none⟩)) ∧ Mat w' (fun k => w.heap.size ≤ k) g rb cp (newL (nn a)) ∧ Below w.heap.size w w' := by
  have hmk := fun (m : Nat) (hm : m * 8 ≤ 281474976710656) => print_make (P := Try.prog) 28 tU .u64 8 Try.underlying28 infoU (by decide) m hm
  have B0 := Aside0.mk (Below.refl w.heap.size w)
  have hbM := fun (v : Option Addr) (n c : Nat) (W : World) => run_build (P := Try.prog) W tM #[(0, .slice v n c)] #[.slice v n c] (by kernel_rfl)
  have hbX := fun (v u : Option Addr) (n c m d : Nat) (W : World) => run_build (P := Try.prog) W tX #[(1, .slice v n c), (2, .slice u m d)] #[.int .u64 0, .slice v n c, .slice u m d, .bool false] (by kernel_rfl)
  by_cases h : 64 < a
  · rw [show nn a = 64 from if_pos h]
    have hmk : ∀ W : World, (Instr.makeSlice 28 (.int .i64 64) (.int .i64 64)).run Try.prog W = .ok (.slice (some ⟨W.heap.size, 0, none⟩) 64 64) (W.alloc (.cells (madeCells #[.int .u64 0] 64) tU)) := hmk 64 (by decide)
    have hnpos : 0 < 64 := by decide
    go_enter Try.func8, Try.ntmps8
    go_upto_region 2 with (fail)
    go_wp2_with ((with_reducible refine gate_dst (N := 9) rfl ?_); refine Kd.R_make kX (w0 := w) w.heap.size tX rfl rfl 61 (.tmp 8) (.tmp 8) rfl 64 rfl rfl Try.underlying61 _ 64 infoX rfl (by decide) (by decide) zX (ok := fun _ => True) (okp := fun _ => False) (k65_mkM _ _ _ zX (Kd.R_nil _ _ _ _ _) (Kd.R_nil _ _ _ _ _)) (fun _ h => h.elim) trivial (by omega) (by omega) B0.out (Nat.le_refl _) ?_; intro v1 w1 hR hb hg hv; have R1 := Aside0.mk hR; have B1 := Aside0.mk hb; obtain ⟨rb, cp, rfl, hrb, hrl⟩ := row_made hR hv hnpos; clear hb hR hg hv)
    have NE : Aside0 (w1.heap.size ≠ rb) := ⟨by omega⟩
    have hel : ∀ i : Nat, i < 64 → (i : Int) < 64 := fun i h => by omega
    have BM := Aside0.mk (blk_new w1 (.cells #[.slice (some ⟨rb, 0, none⟩) 64 cp] tM))
    go_loopg [4, 17] 64 (fun gg _ s17 wr => ∃ i : Nat, s17 = .int .i64 i ∧ i ≤ 64 ∧ 64 - i ≤ gg ∧ Aside0 (wr.heap[w1.heap.size]? = some (.cells #[.slice (some ⟨rb, 0, none⟩) 64 cp] tM (0, 0))) ∧ Aside0 (Kd.R kX tX wr w.heap.size (fun k => k ≠ w1.heap.size) (.slice (some ⟨rb, 0, none⟩) 64 cp) (part 64 i)) ∧ Aside0 (Below w.heap.size w wr))
    case atStart => exact ⟨0, rfl, Nat.zero_le _, by omega, BM, ⟨Kd.R_alloc (Kd.R_mono (Kd.R_bound R1.out) (fun k hk => Nat.ne_of_lt hk.2.2.1)) _⟩, ⟨below_alloc B1.out _⟩⟩
    case round =>
      obtain ⟨i, rfl, hi, hgg, BK, RR, HB⟩ := hrel
      by_cases hlt : i < 64
      · have hltz : (i : Int) < 64 := by omega
        have c0 : wr.cell? ⟨w1.heap.size, 0, none⟩ = some (.slice (some ⟨rb, 0, none⟩) 64 cp) := (blk_cell BK.out 0).trans rfl
        obtain ⟨A1, d1, A2, d2, ⟨k0, k1, k2, k3⟩, kf, _, _⟩ := row_elem RR.out (part_get (by omega))
        have f0 := kf 0
        have f1 := kf 1
        have f2 := kf 2
        have f3 := kf 3
        rw [Nat.add_zero] at f0
        have hwi : IntKind.i64.wrap ((i : Int) + 1) = ((i + 1 : Nat) : Int) := by rw [IntKind.wrap_i64]; omega
        have hrw := blk_lt BK.out
        have hb2 : ∀ o p : Obj, Below wr.heap.size wr ((wr.alloc o).alloc p) := fun o p => below_alloc (below_alloc (Below.refl _ _) o) p
        have K0 := fun o p => pw_cell_below (hb2 o p) k0
        have K1 := fun o p => pw_cell_below (hb2 o p) k1
        have K2 := fun o p => pw_cell_below (hb2 o p) k2
        have K3 := fun o p => pw_cell_below (hb2 o p) k3
        have F0 := fun o p => ((hb2 o p).frozen (World.block_lt_of_cell? _ _ k0)).trans f0
        have F1 := fun o p => ((hb2 o p).frozen (World.block_lt_of_cell? _ _ k1)).trans f1
        have F2 := fun o p => ((hb2 o p).frozen (World.block_lt_of_cell? _ _ k2)).trans f2
        have F3 := fun o p => ((hb2 o p).frozen (World.block_lt_of_cell? _ _ k3)).trans f3
        have HK := Aside0.mk (And.intro k0 (And.intro k1 (And.intro k2 k3)))
        clear kf f0 f1 f2 f3 hb2 k0 k1 k2 k3
        go_wp2_with fail
        go_region
        · have FF := Aside0.mk (New_fill RR.out hlt (by omega) HB.out.size hrw (Nat.lt_trans hrl (Nat.lt_of_le_of_lt (Nat.le_refl _) hrw)) (Nat.ne_of_gt hrl) HB.out hrb (.inl ⟨rfl, rfl⟩))
          go_wp2_with fail
          go_roundg (64 - (i + 1))
          case measure => omega
          case rel => exact ⟨i + 1, by go_num, by omega, Nat.le_refl _, ⟨FF.out.2.1.trans BK.out⟩, ⟨FF.out.1⟩, ⟨FF.out.2.2⟩⟩
        · have FF := Aside0.mk (New_fill RR.out hlt (by omega) HB.out.size hrw (Nat.lt_trans hrl (Nat.lt_of_le_of_lt (Nat.le_refl _) hrw)) (Nat.ne_of_gt hrl) HB.out hrb (.inr ⟨rfl, rfl⟩))
          go_wp2_with fail
          go_roundg (64 - (i + 1))
          case measure => omega
          case rel => exact ⟨i + 1, by go_num, by omega, Nat.le_refl _, ⟨FF.out.2.1.trans BK.out⟩, ⟨FF.out.1⟩, ⟨FF.out.2.2⟩⟩
      · have hiN : i = 64 := by omega
        rw [hiN] at RR ⊢
        have hltz : ¬ (64 < 64) := by omega
        have FM := Aside0.mk (New_done (w := w) BK.out RR.out hrb hnpos (by omega) (Nat.le_trans hrb (Nat.le_of_lt hrl)))
        clear hiN
        go_wp2_with fail
        go_ret
        first | exact ⟨_, rb, cp, rfl, FM.out, HB.out⟩ | exact ⟨_, rfl, ⟨rb, cp, FM.out⟩, HB.out⟩
  · by_cases h1 : 1 < a
    · rw [show nn a = a.toNat from (if_neg h).trans (if_pos h1)]
      obtain ⟨n, rfl⟩ : ∃ n : Nat, a = (n : Int) := ⟨a.toNat, by omega⟩
      rw [Int.toNat_natCast]
      have hmk := hmk n (by omega)
      have hnpos : 0 < n := by omega
      go_enter Try.func8, Try.ntmps8
      go_upto_region 2 with (fail)
      go_wp2_with ((with_reducible refine gate_dst (N := 9) rfl ?_); refine Kd.R_make kX (w0 := w) w.heap.size tX rfl rfl 61 (.tmp 8) (.tmp 8) rfl (n : Int) rfl rfl Try.underlying61 _ 64 infoX rfl (by decide) (by decide) zX (ok := fun _ => True) (okp := fun _ => False) (k65_mkM _ _ _ zX (Kd.R_nil _ _ _ _ _) (Kd.R_nil _ _ _ _ _)) (fun _ h => h.elim) trivial (by omega) (by omega) B0.out (Nat.le_refl _) ?_; intro v1 w1 hR hb hg hv; have R1 := Aside0.mk hR; have B1 := Aside0.mk hb; obtain ⟨rb, cp, rfl, hrb, hrl⟩ := row_made hR hv hnpos; clear hb hR hg hv)
      have NE : Aside0 (w1.heap.size ≠ rb) := ⟨by omega⟩
      have hel : ∀ i : Nat, i < n → (i : Int) < (n : Int) := fun i h => by omega
      have BM := Aside0.mk (blk_new w1 (.cells #[.slice (some ⟨rb, 0, none⟩) n cp] tM))
      go_loopg [4, 17] n (fun gg _ s17 wr => ∃ i : Nat, s17 = .int .i64 i ∧ i ≤ n ∧ n - i ≤ gg ∧ Aside0 (wr.heap[w1.heap.size]? = some (.cells #[.slice (some ⟨rb, 0, none⟩) n cp] tM (0, 0))) ∧ Aside0 (Kd.R kX tX wr w.heap.size (fun k => k ≠ w1.heap.size) (.slice (some ⟨rb, 0, none⟩) n cp) (part n i)) ∧ Aside0 (Below w.heap.size w wr))
      case atStart => exact ⟨0, rfl, Nat.zero_le _, by omega, BM, ⟨Kd.R_alloc (Kd.R_mono (Kd.R_bound R1.out) (fun k hk => Nat.ne_of_lt hk.2.2.1)) _⟩, ⟨below_alloc B1.out _⟩⟩
      case round =>
        obtain ⟨i, rfl, hi, hgg, BK, RR, HB⟩ := hrel
        by_cases hlt : i < n
        · have hltz : (i : Int) < (n : Int) := by omega
          have c0 : wr.cell? ⟨w1.heap.size, 0, none⟩ = some (.slice (some ⟨rb, 0, none⟩) n cp) := (blk_cell BK.out 0).trans rfl
          obtain ⟨A1, d1, A2, d2, ⟨k0, k1, k2, k3⟩, kf, _, _⟩ := row_elem RR.out (part_get (by omega))
          have f0 := kf 0
          have f1 := kf 1
          have f2 := kf 2
          have f3 := kf 3
          rw [Nat.add_zero] at f0
          have hwi : IntKind.i64.wrap ((i : Int) + 1) = ((i + 1 : Nat) : Int) := by rw [IntKind.wrap_i64]; omega
          have hrw := blk_lt BK.out
          have hb2 : ∀ o p : Obj, Below wr.heap.size wr ((wr.alloc o).alloc p) := fun o p => below_alloc (below_alloc (Below.refl _ _) o) p
          have K0 := fun o p => pw_cell_below (hb2 o p) k0
          have K1 := fun o p => pw_cell_below (hb2 o p) k1
          have K2 := fun o p => pw_cell_below (hb2 o p) k2
          have K3 := fun o p => pw_cell_below (hb2 o p) k3
          have F0 := fun o p => ((hb2 o p).frozen (World.block_lt_of_cell? _ _ k0)).trans f0
          have F1 := fun o p => ((hb2 o p).frozen (World.block_lt_of_cell? _ _ k1)).trans f1
          have F2 := fun o p => ((hb2 o p).frozen (World.block_lt_of_cell? _ _ k2)).trans f2
          have F3 := fun o p => ((hb2 o p).frozen (World.block_lt_of_cell? _ _ k3)).trans f3
          have HK := Aside0.mk (And.intro k0 (And.intro k1 (And.intro k2 k3)))
          clear kf f0 f1 f2 f3 hb2 k0 k1 k2 k3
          go_wp2_with fail
          go_region
          · have FF := Aside0.mk (New_fill RR.out hlt (by omega) HB.out.size hrw (Nat.lt_trans hrl (Nat.lt_of_le_of_lt (Nat.le_refl _) hrw)) (Nat.ne_of_gt hrl) HB.out hrb (.inl ⟨rfl, rfl⟩))
            go_wp2_with fail
            go_roundg (n - (i + 1))
            case measure => omega
            case rel => exact ⟨i + 1, by go_num, by omega, Nat.le_refl _, ⟨FF.out.2.1.trans BK.out⟩, ⟨FF.out.1⟩, ⟨FF.out.2.2⟩⟩
          · have FF := Aside0.mk (New_fill RR.out hlt (by omega) HB.out.size hrw (Nat.lt_trans hrl (Nat.lt_of_le_of_lt (Nat.le_refl _) hrw)) (Nat.ne_of_gt hrl) HB.out hrb (.inr ⟨rfl, rfl⟩))
            go_wp2_with fail
            go_roundg (n - (i + 1))
            case measure => omega
            case rel => exact ⟨i + 1, by go_num, by omega, Nat.le_refl _, ⟨FF.out.2.1.trans BK.out⟩, ⟨FF.out.1⟩, ⟨FF.out.2.2⟩⟩
        · have hiN : i = n := by omega
          rw [hiN] at RR ⊢
          have hltz : ¬ ((n : Int) < (n : Int)) := by omega
          have FM := Aside0.mk (New_done (w := w) BK.out RR.out hrb hnpos (by omega) (Nat.le_trans hrb (Nat.le_of_lt hrl)))
          clear hiN
          go_wp2_with fail
          go_ret
          first | exact ⟨_, rb, cp, rfl, FM.out, HB.out⟩ | exact ⟨_, rfl, ⟨rb, cp, FM.out⟩, HB.out⟩
    · rw [show nn a = 1 from (if_neg h).trans (if_neg h1)]
      have hmk : ∀ W : World, (Instr.makeSlice 28 (.int .i64 1) (.int .i64 1)).run Try.prog W = .ok (.slice (some ⟨W.heap.size, 0, none⟩) 1 1) (W.alloc (.cells (madeCells #[.int .u64 0] 1) tU)) := hmk 1 (by decide)
      have hnpos : 0 < 1 := by decide
      go_enter Try.func8, Try.ntmps8
      go_upto_region 2 with (fail)
      go_wp2_with ((with_reducible refine gate_dst (N := 9) rfl ?_); refine Kd.R_make kX (w0 := w) w.heap.size tX rfl rfl 61 (.tmp 8) (.tmp 8) rfl 1 rfl rfl Try.underlying61 _ 64 infoX rfl (by decide) (by decide) zX (ok := fun _ => True) (okp := fun _ => False) (k65_mkM _ _ _ zX (Kd.R_nil _ _ _ _ _) (Kd.R_nil _ _ _ _ _)) (fun _ h => h.elim) trivial (by omega) (by omega) B0.out (Nat.le_refl _) ?_; intro v1 w1 hR hb hg hv; have R1 := Aside0.mk hR; have B1 := Aside0.mk hb; obtain ⟨rb, cp, rfl, hrb, hrl⟩ := row_made hR hv hnpos; clear hb hR hg hv)
      have NE : Aside0 (w1.heap.size ≠ rb) := ⟨by omega⟩
      have hel : ∀ i : Nat, i < 1 → (i : Int) < 1 := fun i h => by omega
      have BM := Aside0.mk (blk_new w1 (.cells #[.slice (some ⟨rb, 0, none⟩) 1 cp] tM))
      go_loopg [4, 17] 1 (fun gg _ s17 wr => ∃ i : Nat, s17 = .int .i64 i ∧ i ≤ 1 ∧ 1 - i ≤ gg ∧ Aside0 (wr.heap[w1.heap.size]? = some (.cells #[.slice (some ⟨rb, 0, none⟩) 1 cp] tM (0, 0))) ∧ Aside0 (Kd.R kX tX wr w.heap.size (fun k => k ≠ w1.heap.size) (.slice (some ⟨rb, 0, none⟩) 1 cp) (part 1 i)) ∧ Aside0 (Below w.heap.size w wr))
      case atStart => exact ⟨0, rfl, Nat.zero_le _, by omega, BM, ⟨Kd.R_alloc (Kd.R_mono (Kd.R_bound R1.out) (fun k hk => Nat.ne_of_lt hk.2.2.1)) _⟩, ⟨below_alloc B1.out _⟩⟩
      case round =>
        obtain ⟨i, rfl, hi, hgg, BK, RR, HB⟩ := hrel
        by_cases hlt : i < 1
        · have hltz : (i : Int) < 1 := by omega
          have c0 : wr.cell? ⟨w1.heap.size, 0, none⟩ = some (.slice (some ⟨rb, 0, none⟩) 1 cp) := (blk_cell BK.out 0).trans rfl
          obtain ⟨A1, d1, A2, d2, ⟨k0, k1, k2, k3⟩, kf, _, _⟩ := row_elem RR.out (part_get (by omega))
          have f0 := kf 0
          have f1 := kf 1
          have f2 := kf 2
          have f3 := kf 3
          rw [Nat.add_zero] at f0
          have hwi : IntKind.i64.wrap ((i : Int) + 1) = ((i + 1 : Nat) : Int) := by rw [IntKind.wrap_i64]; omega
          have hrw := blk_lt BK.out
          have hb2 : ∀ o p : Obj, Below wr.heap.size wr ((wr.alloc o).alloc p) := fun o p => below_alloc (below_alloc (Below.refl _ _) o) p
          have K0 := fun o p => pw_cell_below (hb2 o p) k0
          have K1 := fun o p => pw_cell_below (hb2 o p) k1
          have K2 := fun o p => pw_cell_below (hb2 o p) k2
          have K3 := fun o p => pw_cell_below (hb2 o p) k3
          have F0 := fun o p => ((hb2 o p).frozen (World.block_lt_of_cell? _ _ k0)).trans f0
          have F1 := fun o p => ((hb2 o p).frozen (World.block_lt_of_cell? _ _ k1)).trans f1
          have F2 := fun o p => ((hb2 o p).frozen (World.block_lt_of_cell? _ _ k2)).trans f2
          have F3 := fun o p => ((hb2 o p).frozen (World.block_lt_of_cell? _ _ k3)).trans f3
          have HK := Aside0.mk (And.intro k0 (And.intro k1 (And.intro k2 k3)))
          clear kf f0 f1 f2 f3 hb2 k0 k1 k2 k3
          go_wp2_with fail
          go_region
          · have FF := Aside0.mk (New_fill RR.out hlt (by omega) HB.out.size hrw (Nat.lt_trans hrl (Nat.lt_of_le_of_lt (Nat.le_refl _) hrw)) (Nat.ne_of_gt hrl) HB.out hrb (.inl ⟨rfl, rfl⟩))
            go_wp2_with fail
            go_roundg (1 - (i + 1))
            case measure => omega
            case rel => exact ⟨i + 1, by go_num, by omega, Nat.le_refl _, ⟨FF.out.2.1.trans BK.out⟩, ⟨FF.out.1⟩, ⟨FF.out.2.2⟩⟩
          · have FF := Aside0.mk (New_fill RR.out hlt (by omega) HB.out.size hrw (Nat.lt_trans hrl (Nat.lt_of_le_of_lt (Nat.le_refl _) hrw)) (Nat.ne_of_gt hrl) HB.out hrb (.inr ⟨rfl, rfl⟩))
            go_wp2_with fail
            go_roundg (1 - (i + 1))
            case measure => omega
            case rel => exact ⟨i + 1, by go_num, by omega, Nat.le_refl _, ⟨FF.out.2.1.trans BK.out⟩, ⟨FF.out.1⟩, ⟨FF.out.2.2⟩⟩
        · have hiN : i = 1 := by omega
          rw [hiN] at RR ⊢
          have hltz : ¬ (1 < 1) := by omega
          have FM := Aside0.mk (New_done (w := w) BK.out RR.out hrb hnpos (by omega) (Nat.le_trans hrb (Nat.le_of_lt hrl)))
          clear hiN
          go_wp2_with fail
          go_ret
          first | exact ⟨_, rb, cp, rfl, FM.out, HB.out⟩ | exact ⟨_, rfl, ⟨rb, cp, FM.out⟩, HB.out⟩

end Go.Proofs.Ytncofecfljocgaa.Walk
