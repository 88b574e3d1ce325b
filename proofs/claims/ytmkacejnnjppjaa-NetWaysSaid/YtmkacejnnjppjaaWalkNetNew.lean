/- A new net. Conditions: none beyond the statement's own. -/
import Derived.Test.YtmkacejnnjppjaaWalkNet
import Derived.Test.YtmkacejnnjppjaaF1
import Derived.Test.YtmkacejnnjppjaaArgs
import Derived.Deep.QuietTactic
import Derived.BigQuiet
import Derived.Lib.QuietBelow
import Derived.Outline
import Derived.Deep.RegionHeld3
import Derived.Deep.CutRange
namespace Go.Proofs.Ytmkacejnnjppjaa.Walk
open Go.RowKit Go.Proofs.Ytmkacejnnjppjaa.F Go.Proofs.YtmkacejnnjppjaaW.PrintWords Go.Proofs.YtmkacejnnjppjaaW.PrintLast Go.Proofs.YtmkacejnnjppjaaW.PrintMore Go.Proofs.Ytmkacejnnjppjaa.Open
open Go.Sort (grow)
attribute [local go_sem] max2_int min2_int max_two min_two max_three min_three max_four min_four
set_option linter.unusedVariables false
set_option linter.unusedSimpArgs false

/-! ### The ways of a net, in plain Lean -/
def rowW (n a : Nat) : List Wk := ((List.range n).filter fun b => decide (a ≠ b)).map fun (b : Nat) => ((a : Int), (b : Int))
def wk (n : Nat) : List Wk := (List.range n).flatMap (rowW n)
def wkp (n i j : Nat) : List Wk := (List.range i).flatMap (rowW n) ++ ((List.range j).filter fun b => decide (i ≠ b)).map fun (b : Nat) => ((i : Int), (b : Int))
theorem wkp_row (n i : Nat) : wkp n i n = wkp n (i + 1) 0 := by
  unfold wkp
  rw [List.range_succ, List.flatMap_append, List.range_zero]
  simp [rowW]
theorem wkp_all (n : Nat) : wkp n n 0 = wk n := by simp [wkp, wk]
theorem wkp_same (n i : Nat) : wkp n i (i + 1) = wkp n i i := by
  unfold wkp
  rw [List.range_succ, List.filter_append]
  simp
theorem wkp_next {n i j : Nat} (h : i ≠ j) : wkp n i (j + 1) = wkp n i j ++ [((i : Int), (j : Int))] := by
  unfold wkp
  rw [List.range_succ, List.filter_append, List.filter_cons, if_pos (by simp [h]), List.filter_nil, List.map_append, List.append_assoc]
  rfl
theorem mem_row {n a : Nat} {x : Wk} (h : x ∈ rowW n a) : ∃ b : Nat, x = ((a : Int), (b : Int)) ∧ b < n ∧ a ≠ b := by
  obtain ⟨b, hb, rfl⟩ := List.mem_map.1 h
  obtain ⟨h1, h2⟩ := List.mem_filter.1 hb
  exact ⟨b, rfl, List.mem_range.1 h1, by simpa using h2⟩
theorem mem_wkp {n i j : Nat} {x : Wk} (h : x ∈ wkp n i j) : ∃ a b : Nat, x = ((a : Int), (b : Int)) ∧ a ≠ b ∧ ((a < i ∧ b < n) ∨ (a = i ∧ b < j)) := by
  rcases List.mem_append.1 h with h | h
  · obtain ⟨a, ha, hx⟩ := List.mem_flatMap.1 h
    obtain ⟨b, rfl, hb, hne⟩ := mem_row hx
    exact ⟨a, b, rfl, hne, .inl ⟨List.mem_range.1 ha, hb⟩⟩
  · obtain ⟨b, hb, rfl⟩ := List.mem_map.1 h
    obtain ⟨h1, h2⟩ := List.mem_filter.1 hb
    exact ⟨i, b, rfl, by simpa using h2, .inr ⟨rfl, List.mem_range.1 h1⟩⟩
theorem mem_wk {n : Nat} {x : Wk} : x ∈ wk n ↔ ∃ a b : Nat, x = ((a : Int), (b : Int)) ∧ a ≠ b ∧ a < n ∧ b < n := by
  constructor
  · intro h
    rw [← wkp_all] at h
    obtain ⟨a, b, rfl, hne, h | h⟩ := mem_wkp h
    · exact ⟨a, b, rfl, hne, h⟩
    · omega
  · rintro ⟨a, b, rfl, hne, ha, hb⟩
    exact List.mem_flatMap.2 ⟨a, List.mem_range.2 ha, List.mem_map.2 ⟨b, List.mem_filter.2 ⟨List.mem_range.2 hb, by simp [hne]⟩, rfl⟩⟩
theorem wkp_fresh (n i j : Nat) : ((i : Int), (j : Int)) ∉ wkp n i j := by
  intro h
  obtain ⟨a, b, e, _, h⟩ := mem_wkp h
  simp only [Prod.mk.injEq] at e
  omega
theorem mlk_fresh {E : List Ent} {x : Wk} (h : x ∉ E.map (·.1)) : mlk E x = none := by
  cases hl : mlk E x with
  | none => rfl
  | some v => exact absurd (List.mem_map.2 ⟨_, mlk_some hl, rfl⟩) h
/-! ### A new net -/
theorem blk_new1 (w : World) (o o2 : Obj) : ((w.alloc o).alloc o2).heap[w.heap.size + 1]? = some o2 := by
  have h := blk_new (w.alloc o) o2
  rwa [show (w.alloc o).heap.size = w.heap.size + 1 by simp] at h
structure NetN (w w' : World) (S : Nat → Prop) (g mb n room : Nat) (E : List Ent) (ks : List Wk) : Prop where
  net : NetS w' S g mb n room E (List.replicate E.length ([], 0))
  keys : E.map (·.1) = ks
  up : ∀ k, S k → w.heap.size ≤ k
  below : Below w.heap.size w w'
theorem NetN.drew {w w' : World} {S : Nat → Prop} {g mb n room : Nat} {E : List Ent} {ks : List Wk} (h : NetN w w' S g mb n room E ks) : NetN w w'.drew S g mb n room E ks :=
  ⟨h.net.below (below_drew (Below.refl _ _)), h.keys, h.up, below_drew h.below⟩
/-- A way is laid. -/
theorem NetN.way {w w1 w2 : World} {S : Nat → Prop} {g mb n room gb i j : Nat} {E : List Ent} {ks : List Wk} (h : NetN w w1 S g mb n room E ks) (hi : i < 64) (hj : j < 64) (hf : ((i : Int), (j : Int)) ∉ ks) (hB : Bag w2 (fun k => w1.heap.size ≤ k) gb room [] 0) (hb : Below w1.heap.size w1 w2) :
    ∃ w3, (Instr.mapUpdate tWM (.map (some mb)) (.agg #[.int .i64 i, .int .i64 j]) (.pointer (some ⟨gb, 0, none⟩))).run Try.prog w2 = .ok () w3 ∧ NetN w w3 (fun k => S k ∨ w1.heap.size ≤ k) g mb n room (E ++ [(((i : Int), (j : Int)), gb)]) (ks ++ [((i : Int), (j : Int))]) := by
  obtain ⟨hn, hk, hu, hw⟩ := h
  obtain ⟨l, hl⟩ := way_key (x := ((i : Int), (j : Int))) ⟨by show (-9223372036854775808 : Int) ≤ i; omega, by show (i : Int) ≤ 9223372036854775807; omega⟩ ⟨by show (-9223372036854775808 : Int) ≤ j; omega, by show (j : Int) ≤ 9223372036854775807; omega⟩
  obtain ⟨w3, hrun, hM, hB3, hsz⟩ := (hn.map.below hb).push lawWay fkW_inj Try.underlying63 hl (mlk_fresh (by rw [hk]; exact hf)) gb
  have g0 : g < w1.heap.size := blk_lt hn.blk
  have m0 : mb < w1.heap.size := hn.map.lt
  have hP := hn.bags.bound.push hb (e := (((i : Int), (j : Int)), gb)) (v := ([], 0)) hB
  refine ⟨w3, hrun, ⟨.inl hn.S_g, .inl hn.S_m, hn.ne, (hB3.block g (Nat.lt_of_lt_of_le g0 hb.size) hn.ne).trans ((hb.block g g0).trans hn.blk), hM, ?_⟩, by rw [List.map_append, hk]; rfl, fun k hk => hk.elim (hu k) (fun h => Nat.le_trans hw.size h), Beside.step (below_step hw hb) hB3 (fun k hk => by rw [hk]; exact hu mb hn.S_m)⟩
  have e1 : List.replicate (E ++ [(((i : Int), (j : Int)), gb)]).length (([], 0) : Bv) = List.replicate E.length ([], 0) ++ [([], 0)] := by rw [List.length_append, List.length_singleton, List.replicate_succ']
  rw [e1]
  refine (hP.beside hB3 (fun k hk hk2 => ?_)).mono fun k hk => ?_
  · rcases hk with hk | hk
    · exact hk.1.2.2 hk2
    · omega
  · rcases hk with hk | hk
    · exact ⟨.inl hk.1.1, hk.1.2⟩
    · exact ⟨.inr hk, by omega, by omega⟩
def nn (n : Int) : Nat := if 64 < n then 64 else if 1 < n then n.toNat else 1
theorem nn_ok (n : Int) : 1 ≤ nn n ∧ nn n ≤ 64 := by
  unfold nn
  split
  · omega
  · split <;> omega
theorem nn_max (n : Int) : (if (if n < 64 then n else 64) > 1 then (if n < 64 then n else 64) else 1) = (nn n : Int) := by
  unfold nn
  repeat (first | rfl | omega | split)

set_option maxHeartbeats 2000000 in
theorem NetNew_calls (a r : Int) (w : World) : Calls Try.prog 11 #[.int .i64 a, .int .i64 r] w fun e w' => ∃ (g mb : Nat) (E : List Ent) (S : Nat → Prop), e = .returned (.pointer (some ⟨g, 0, none⟩)) ∧ NetN w w' S g mb (nn a) (rm r) E (wk (nn a)) := by
  have hn1 := (nn_ok a).1
  have hn2 := (nn_ok a).2
  obtain ⟨mm, hmm⟩ : ∃ mm : Int, mm = if a < 64 then a else 64 := ⟨_, rfl⟩
  have hmin : Builtin.min2 (.int .i64 a) (.int .i64 64) = pure (.int .i64 mm) := by
    rw [min2_int]
    congr 2
    rw [hmm]
    repeat (first | rfl | omega | split)
  have hmax : Builtin.max2 (.int .i64 1) (.int .i64 mm) = pure (.int .i64 (nn a : Nat)) := by
    rw [max2_int]
    congr 2
    rw [hmm]
    unfold nn
    repeat (first | rfl | omega | split)
  have hmk := @run_makeMap Try.prog
  generalize nn a = n at *
  clear hmm
  have N0 : Aside0 (∃ E S, NetN w ((w.alloc (.map #[] 0)).alloc (.cells #[.int .i64 n, .map (some w.heap.size)] tNet)) S (w.heap.size + 1) w.heap.size n (rm r) E (wkp n 0 0)) :=
    ⟨[], fun k => w.heap.size ≤ k, ⟨⟨by omega, Nat.le_refl _, by omega, blk_new1 w _ _, (MapE.made w Try.prog tWay fkW fvB).below (below_alloc (Below.refl _ _) _), Bags.nil _ _ _⟩, rfl, fun k hk => hk, below_alloc (below_alloc (Below.refl _ _) _) _⟩⟩
  go_enter Try.func11, Try.ntmps11
  go_wp2_with fail
  generalize (w.alloc (.map #[] 0)).alloc (.cells #[.int .i64 n, .map (some w.heap.size)] tNet) = w1 at N0 ⊢
  obtain ⟨g, hg⟩ : ∃ g, g = w.heap.size + 1 := ⟨_, rfl⟩
  obtain ⟨mb, hmb⟩ : ∃ mb, mb = w.heap.size := ⟨_, rfl⟩
  rw [← hg, ← hmb] at N0
  rw [← hg, ← hmb]
  clear hg hmb hmin hmax hmk
  go_loopg [18] n (fun gg s18 wr => ∃ i : Nat, s18 = .int .i64 i ∧ i ≤ n ∧ n - i ≤ gg ∧ Aside0 (∃ E S, NetN w wr S g mb n (rm r) E (wkp n i 0)))
  case atStart => exact ⟨0, rfl, Nat.zero_le _, by omega, N0⟩
  case round =>
    clear N0
    obtain ⟨i, rfl, hi, hgg, NR⟩ := hrel
    by_cases hlt : i < n
    · have hltz : (i : Int) < (n : Int) := by omega
      obtain ⟨go_, hgo⟩ : ∃ go_, go_ = gk := ⟨_, rfl⟩
      have GO := Aside0.mk hgo
      clear hgo
      have cN : wr.cell? ⟨g, 0, none⟩ = some (.int .i64 n) := by
        obtain ⟨E, S, h⟩ := NR.out
        exact h.net.c0
      have hwi : IntKind.i64.wrap ((i : Int) + 1) = ((i + 1 : Nat) : Int) := by rw [IntKind.wrap_i64]; omega
      go_wp2_with fail
      clear cN
      go_loopg [25] n (fun gg s25 wj => ∃ j : Nat, s25 = .int .i64 j ∧ j ≤ n ∧ n - j ≤ gg ∧ Aside0 (∃ E S, NetN w wj S g mb n (rm r) E (wkp n i j)))
      case atStart => exact ⟨0, rfl, Nat.zero_le _, by omega, NR⟩
      case round =>
        clear NR
        obtain ⟨j, rfl, hj, hgj, NJ⟩ := hrel
        by_cases hjlt : j < n
        · have hjltz : (j : Int) < (n : Int) := by omega
          have hwj : IntKind.i64.wrap ((j : Int) + 1) = ((j + 1 : Nat) : Int) := by rw [IntKind.wrap_i64]; omega
          by_cases hij : i = j
          · subst hij
            rw [← wkp_same] at NJ
            go_wp2_with fail
            go_roundg (n - (i + 1))
            case measure => omega
            case rel => exact ⟨i + 1, by go_num, by omega, by omega, NJ⟩
          · have hijz : ((i : Int) == (j : Int)) = false := beq_eq_false_iff_ne.2 (by omega)
            have hijn : ((i : Int) != (j : Int)) = true := by simp; omega
            have EJ := Aside0.mk (wkp_next (n := n) hij)
            obtain ⟨E, S, h⟩ := NJ.out
            have HN := Aside0.mk h.drew
            have cG : wr.cell? ⟨g, 1, none⟩ = some (.map (some mb)) := h.net.c1
            clear h NJ
            go_wp2_with fail
            have hi64 : i < 64 := by omega
            have hj64 : j < 64 := by omega
            go_region_held3 (fun w' => w'.cell? ⟨g, 1, none⟩ = some (.map (some mb))) (go_keep)
              ((go_at_call 24; refine (New_calls r _).mono ?_; rintro e w3 ⟨gb, rfl, hgb, hBg, hb⟩; obtain ⟨w4, hrun, hN4⟩ := HN.out.way hi64 hj64 (wkp_fresh n i j) hBg hb; have N4 := Aside0.mk hN4; have x5 := hN4.net.c1; have x4 : w3.cell? ⟨g, 1, none⟩ = some (.map (some mb)) := pw_cell_below hb HN.out.net.c1; clear hBg hb hgb hN4))
            go_wp2_with fail
            go_roundg (n - (j + 1))
            case measure => omega
            case rel => exact ⟨j + 1, by go_num, by omega, by omega, ⟨_, _, by rw [EJ.out]; exact N4.out⟩⟩
        · obtain rfl : j = n := by omega
          have hjltz : ¬ (j : Int) < (j : Int) := by omega
          rw [wkp_row] at NJ
          go_wp2_with fail
          go_roundg (j - (i + 1))
          case measure => rw [GO.out] at *; omega
          case rel => exact ⟨i + 1, by go_num, by omega, by omega, NJ⟩
    · obtain rfl : i = n := by omega
      have hltz : ¬ (i : Int) < (i : Int) := by omega
      rw [wkp_all] at NR
      go_wp2_with fail
      go_ret
      obtain ⟨E, S, h⟩ := NR.out
      exact ⟨g, rfl, mb, E, S, h⟩

end Go.Proofs.Ytmkacejnnjppjaa.Walk
