/- Chunks are put into the queue. Conditions: none beyond the statement's own. -/
import Derived.Test.YtiiajenhjamjdaaWalkHeldZ
import Derived.Test.YtiiajenhjamjdaaArgs
import Derived.Deep.QuietTactic
import Derived.BigQuiet
import Derived.Lib.QuietBelow
import Derived.Outline
import Derived.Deep.RegionHeld3
import Derived.Deep.CutRange
import Derived.StillTailTactics
namespace Go.Proofs.Ytiiajenhjamjdaa.Walk
open Go.RowKit Go.Proofs.Ytiiajenhjamjdaa.F Go.Proofs.YtiiajenhjamjdaaW.PrintWords Go.Proofs.YtiiajenhjamjdaaW.PrintLast Go.Proofs.YtiiajenhjamjdaaW.PrintMore Go.Proofs.Ytiiajenhjamjdaa.Open
open Go.Sort (grow)
attribute [local go_sem] max2_int min2_int max_two min_two max_three min_three max_four min_four
set_option linter.unusedVariables false
set_option linter.unusedSimpArgs false

/-! ### Put -/
def put1 (n : Nat) (s : List Fr × Int × Nat) (f : Fr) : List Fr × Int × Nat := if hasP s.1 (pl f) = true then s else if n ≤ s.1.length then (s.1, s.2.1 + 1, s.2.2) else (s.1 ++ [f], s.2.1, s.2.2 + 1)
def putQ (n : Nat) (L : List Fr) (lost : Int) (l : List Fr) : List Fr × Int × Nat := l.foldl (put1 n) (L, lost, 0)
theorem putQ_snoc {n : Nat} {L : List Fr} {lost : Int} {l : List Fr} {i : Nat} {x : Fr} (h : l[i]? = some x) : putQ n L lost (l.take (i + 1)) = put1 n (putQ n L lost (l.take i)) x := by
  unfold putQ
  rw [List.take_add_one, h, Option.toList_some, List.foldl_append]
  rfl
theorem putQ_le (n : Nat) (L : List Fr) (lost : Int) (l : List Fr) : (putQ n L lost l).2.2 ≤ l.length ∧ lost ≤ (putQ n L lost l).2.1 ∧ (putQ n L lost l).2.1 ≤ lost + l.length := by
  have : ∀ (l : List Fr) (s : List Fr × Int × Nat), (l.foldl (put1 n) s).2.2 ≤ s.2.2 + l.length ∧ s.2.1 ≤ (l.foldl (put1 n) s).2.1 ∧ (l.foldl (put1 n) s).2.1 ≤ s.2.1 + l.length := by
    intro l
    induction l with
    | nil => intro s; simp
    | cons f l ih =>
      intro s
      have h := ih (put1 n s f)
      have h2 : (put1 n s f).2.2 ≤ s.2.2 + 1 ∧ s.2.1 ≤ (put1 n s f).2.1 ∧ (put1 n s f).2.1 ≤ s.2.1 + 1 := by
        unfold put1
        split
        · omega
        · split
          · dsimp only; omega
          · dsimp only; omega
      simp only [List.foldl_cons, List.length_cons]
      push_cast
      omega
  have h := this l (L, lost, 0)
  simp only [Nat.zero_add] at h
  exact h
/-- A chunk that can stand in a row. -/
structure fin (f : Fr) : Prop where
  ok : fok f
  pl : plr (pl f)
theorem none_of {L : List Fr} {x : Pl} (h : hasP L x = false) : mlk (plE L) x = none := by
  unfold hasP at h
  cases hl : mlk (plE L) x with
  | none => rfl
  | some v => rw [hl] at h; cases h
/-- The place of a chunk, whatever its rows are. -/
theorem of_any (x : Fr) (v11 v12 v13 v14 v15 : Value) (w : World) : Calls Try.prog 20 #[.agg #[.int .u8 x.f0.f0, .int .u8 x.f0.f1, .int .u8 x.f0.f2, .int .u8 x.f1.f0, .int .u64 x.f1.f1, .int .u64 x.f2, .int .u32 x.f3, .int .u32 x.f4, .int .u32 x.f5, .int .u64 x.f6, .int .u64 x.f7, v11, v12, v13, v14, v15]] w fun e w' => e = .returned (.agg #[.int .u8 x.f1.f0, .int .u64 x.f1.f1, .int .u32 x.f3]) ∧ Below w.heap.size w w' := by
  have hu37 := Try.underlying37
  have hu66 := Try.underlying66
  have hu33 := Try.underlying33
  have HB := Aside0.mk (Below.refl w.heap.size w)
  go_enter Try.func20, Try.ntmps20
  go_wp2_with (first | ((with_reducible refine gate_dst (N := 1) rfl ?_); refine box_event ?hg (N := 1) ?hd (cs := #[.int .u8 x.f0.f0, .int .u8 x.f0.f1, .int .u8 x.f0.f2, .int .u8 x.f1.f0, .int .u64 x.f1.f1, .int .u64 x.f2, .int .u32 x.f3, .int .u32 x.f4, .int .u32 x.f5, .int .u64 x.f6, .int .u64 x.f7, v11, v12, v13, v14, v15]) (t := 37) ?hr ?_; (case hd => rfl); (case hg => rfl); (case hr => first | (go_simp; done) | (go_simp; rfl)); intro gb101 hg w2 hbox hb; have n0_ := Aside0.mk (below_step (by repeat (first | (with_reducible first | exact HB.out | apply below_alloc | apply pw_below_drewN | apply below_drew1) | exact HB.out)) hb); have n1_ := Aside0.mk (hbox); have n2_ := Aside0.mk ((by rw [hg]; exact (below_size (by repeat (first | (with_reducible first | exact HB.out | apply below_alloc | apply pw_below_drewN | apply below_drew1) | exact HB.out))) : w.heap.size ≤ gb101)); have n3_ := Aside0.mk ((by rw [hg]; exact (below_size (by repeat (first | (with_reducible first | exact HB.out | apply below_alloc | apply pw_below_drewN | apply below_drew1) | exact HB.out))) : w.heap.size ≤ gb101)); clear HB; have HB := n0_; have BK101 := n1_; have GW101 := n2_; have GE101 := n3_; clear n0_ n1_ n2_ n3_; clear hb hbox hg) | ((with_reducible refine gate_dst (N := 2) rfl ?_); refine box_event ?hg (N := 2) ?hd (cs := #[.int .u8 0, .int .u64 0, .int .u32 0]) (t := 66) ?hr ?_; (case hd => rfl); (case hg => rfl); (case hr => first | (go_simp; done) | (go_simp; rfl)); intro gb102 hg w3 hbox hb; have n0_ := Aside0.mk (blk_below (g := gb101) (o := .cells #[.int .u8 x.f0.f0, .int .u8 x.f0.f1, .int .u8 x.f0.f2, .int .u8 x.f1.f0, .int .u64 x.f1.f1, .int .u64 x.f2, .int .u32 x.f3, .int .u32 x.f4, .int .u32 x.f5, .int .u64 x.f6, .int .u64 x.f7, v11, v12, v13, v14, v15] 37 (0, 0)) (by (with_reducible repeat (first | refine blk_drewN ?_ _ | refine blk_drew ?_ | refine blk_alloc ?_ _)); exact BK101.out) hb); have n1_ := Aside0.mk (below_step (by repeat (first | (with_reducible first | exact HB.out | apply below_alloc | apply pw_below_drewN | apply below_drew1 | refine below_set ?_ GE101.out) | exact HB.out)) hb); have n2_ := Aside0.mk (hbox); have n3_ := Aside0.mk ((by rw [hg]; exact (below_size (by repeat (first | (with_reducible first | exact HB.out | apply below_alloc | apply pw_below_drewN | apply below_drew1 | refine below_set ?_ GE101.out) | exact HB.out))) : w.heap.size ≤ gb102)); have n4_ := Aside0.mk ((by rw [hg]; exact (below_size (by repeat (first | (with_reducible first | exact HB.out | apply below_alloc | apply pw_below_drewN | apply below_drew1 | refine below_set ?_ GE101.out) | exact HB.out))) : w.heap.size ≤ gb102)); have n5_ := Aside0.mk ((by rw [hg]; exact Nat.ne_of_lt (blk_lt (g := gb101) (o := .cells #[.int .u8 x.f0.f0, .int .u8 x.f0.f1, .int .u8 x.f0.f2, .int .u8 x.f1.f0, .int .u64 x.f1.f1, .int .u64 x.f2, .int .u32 x.f3, .int .u32 x.f4, .int .u32 x.f5, .int .u64 x.f6, .int .u64 x.f7, v11, v12, v13, v14, v15] 37 (0, 0)) (by (with_reducible repeat (first | refine blk_drewN ?_ _ | refine blk_drew ?_ | refine blk_alloc ?_ _)); exact BK101.out)) : gb101 ≠ gb102)); have n6_ := Aside0.mk ((by rw [hg]; exact Nat.ne_of_gt (blk_lt (g := gb101) (o := .cells #[.int .u8 x.f0.f0, .int .u8 x.f0.f1, .int .u8 x.f0.f2, .int .u8 x.f1.f0, .int .u64 x.f1.f1, .int .u64 x.f2, .int .u32 x.f3, .int .u32 x.f4, .int .u32 x.f5, .int .u64 x.f6, .int .u64 x.f7, v11, v12, v13, v14, v15] 37 (0, 0)) (by (with_reducible repeat (first | refine blk_drewN ?_ _ | refine blk_drew ?_ | refine blk_alloc ?_ _)); exact BK101.out)) : gb102 ≠ gb101)); clear BK101; clear HB; have BK101 := n0_; have HB := n1_; have BK102 := n2_; have GW102 := n3_; have GE102 := n4_; have NB101_102 := n5_; have NB102_101 := n6_; clear n0_ n1_ n2_ n3_ n4_ n5_ n6_; clear hb hbox hg; have hnb4 := NB101_102.out; have hnc4 := NB102_101.out; have hcz5_0 : w3.cell? ⟨gb101, 0, none⟩ = some (.int .u8 x.f0.f0) := (blk_cell BK101.out 0).trans rfl; have hcz5_1 : w3.cell? ⟨gb101, 1, none⟩ = some (.int .u8 x.f0.f1) := (blk_cell BK101.out 1).trans rfl; have hcz5_2 : w3.cell? ⟨gb101, 2, none⟩ = some (.int .u8 x.f0.f2) := (blk_cell BK101.out 2).trans rfl; have hcz5_3 : w3.cell? ⟨gb101, 3, none⟩ = some (.int .u8 x.f1.f0) := (blk_cell BK101.out 3).trans rfl; have hcz5_4 : w3.cell? ⟨gb101, 4, none⟩ = some (.int .u64 x.f1.f1) := (blk_cell BK101.out 4).trans rfl; have hcz5_5 : w3.cell? ⟨gb101, 5, none⟩ = some (.int .u64 x.f2) := (blk_cell BK101.out 5).trans rfl; have hcz5_6 : w3.cell? ⟨gb101, 6, none⟩ = some (.int .u32 x.f3) := (blk_cell BK101.out 6).trans rfl; have hcz5_7 : w3.cell? ⟨gb101, 7, none⟩ = some (.int .u32 x.f4) := (blk_cell BK101.out 7).trans rfl; have hcz5_8 : w3.cell? ⟨gb101, 8, none⟩ = some (.int .u32 x.f5) := (blk_cell BK101.out 8).trans rfl; have hcz5_9 : w3.cell? ⟨gb101, 9, none⟩ = some (.int .u64 x.f6) := (blk_cell BK101.out 9).trans rfl; have hcz5_10 : w3.cell? ⟨gb101, 10, none⟩ = some (.int .u64 x.f7) := (blk_cell BK101.out 10).trans rfl; have hcz5_11 : w3.cell? ⟨gb101, 11, none⟩ = some (v11) := (blk_cell BK101.out 11).trans rfl; have hcz5_12 : w3.cell? ⟨gb101, 12, none⟩ = some (v12) := (blk_cell BK101.out 12).trans rfl; have hcz5_13 : w3.cell? ⟨gb101, 13, none⟩ = some (v13) := (blk_cell BK101.out 13).trans rfl; have hcz5_14 : w3.cell? ⟨gb101, 14, none⟩ = some (v14) := (blk_cell BK101.out 14).trans rfl; have hcz5_15 : w3.cell? ⟨gb101, 15, none⟩ = some (v15) := (blk_cell BK101.out 15).trans rfl; have hfz5_0 := blk_frozen BK101.out 0; have hfz5_1 := blk_frozen BK101.out 1; have hfz5_2 := blk_frozen BK101.out 2; have hfz5_3 := blk_frozen BK101.out 3; have hfz5_4 := blk_frozen BK101.out 4; have hfz5_5 := blk_frozen BK101.out 5; have hfz5_6 := blk_frozen BK101.out 6; have hfz5_7 := blk_frozen BK101.out 7; have hfz5_8 := blk_frozen BK101.out 8; have hfz5_9 := blk_frozen BK101.out 9; have hfz5_10 := blk_frozen BK101.out 10; have hfz5_11 := blk_frozen BK101.out 11; have hfz5_12 := blk_frozen BK101.out 12; have hfz5_13 := blk_frozen BK101.out 13; have hfz5_14 := blk_frozen BK101.out 14; have hfz5_15 := blk_frozen BK101.out 15; have hcz6_0 : w3.cell? ⟨gb102, 0, none⟩ = some (.int .u8 0) := (blk_cell BK102.out 0).trans rfl; have hcz6_1 : w3.cell? ⟨gb102, 1, none⟩ = some (.int .u64 0) := (blk_cell BK102.out 1).trans rfl; have hcz6_2 : w3.cell? ⟨gb102, 2, none⟩ = some (.int .u32 0) := (blk_cell BK102.out 2).trans rfl; have hfz6_0 := blk_frozen BK102.out 0; have hfz6_1 := blk_frozen BK102.out 1; have hfz6_2 := blk_frozen BK102.out 2))
  refine bodyPost_ret (results_cell_row rfl _ _ gb102 66 #[.int .u8 x.f1.f0, .int .u64 x.f1.f1, .int .u32 x.f3] (0, 0) _ rfl (by (with_reducible repeat (first | refine blk_drewN ?_ _ | refine blk_drew ?_ | refine blk_alloc ?_ _)); refine blk_put (cs := #[.int .u8 x.f1.f0, .int .u64 x.f1.f1, .int .u32 0]) ?_ 2 _ rfl; (with_reducible repeat (first | refine blk_drewN ?_ _ | refine blk_drew ?_ | refine blk_alloc ?_ _)); refine blk_put (cs := #[.int .u8 x.f1.f0, .int .u64 0, .int .u32 0]) ?_ 1 _ rfl; (with_reducible repeat (first | refine blk_drewN ?_ _ | refine blk_drew ?_ | refine blk_alloc ?_ _)); refine blk_put (cs := #[.int .u8 0, .int .u64 0, .int .u32 0]) ?_ 0 _ rfl; (with_reducible repeat (first | refine blk_drewN ?_ _ | refine blk_drew ?_ | refine blk_alloc ?_ _)); exact BK102.out) Try.underlying66 rfl (by kernel_rfl)) rfl ?_
  exact ⟨by first | rfl | (simp [errW_none, errW_some] <;> rfl) | (simp [*, errW_none, errW_some] <;> rfl), by repeat (first | (with_reducible first | exact HB.out | apply below_alloc | apply pw_below_drewN | apply below_drew1 | refine below_set ?_ GE101.out | refine below_set ?_ GE102.out) | exact HB.out)⟩
section
variable {w : World} {S : Nat → Prop} {g mb n : Nat} {lost : Int} {v : Value} {L : List Fr}
set_option maxHeartbeats 8000000 in
set_option maxRecDepth 100000 in
theorem Put_calls {A : Option Addr} {c : Nat} (h : Que w S g mb n lost v L) (l : List Fr) (hr : ∀ w', Beside S w w' → Kd.C kF w' A l.length l) (hl : ∀ x ∈ l, fin x) (hlost : lost + l.length ≤ 4611686018427387904) :
    Calls Try.prog 9 #[.pointer (some ⟨g, 0, none⟩), .slice A l.length c] w fun e w' => e = .returned (.int .i64 (putQ n L lost l).2.2) ∧ (∃ v', Que w' (fun k => S k ∨ w.heap.size ≤ k) g mb n (putQ n L lost l).2.1 v' (putQ n L lost l).1) ∧ Beside S w w' := by
  have HQ := Aside0.mk h
  have HR := Aside0.mk hr
  have HL := Aside0.mk hl
  have HLO := Aside0.mk hlost
  have hl0 := h.l0
  have hll : l.length ≤ 4611686018427387904 := by omega
  clear h hr hl hlost
  go_enter Try.func9, Try.ntmps9
  go_wp2_with fail
  go_loopg [5, 15] l.length (fun gg s5 s15 wr => ∃ i : Nat, s15 = .int .i64 i ∧ i ≤ l.length ∧ l.length - i ≤ gg ∧ ∃ (L' : List Fr) (lost' : Int) (k : Nat) (v' : Value), s5 = .int .i64 k ∧ Aside0 (putQ n L lost (l.take i) = (L', lost', k)) ∧ Aside0 (Que wr (fun b => S b ∨ w.heap.size ≤ b) g mb n lost' v' L') ∧ Aside0 (Beside S w wr))
  case atStart => exact ⟨0, rfl, Nat.zero_le _, by omega, L, lost, 0, v, rfl, ⟨rfl⟩, ⟨HQ.out.mono fun b hb => .inl hb⟩, ⟨Beside.refl S w⟩⟩
  case round =>
    obtain ⟨i, rfl, hi, hgg, L', lost', k, v', rfl, PE, QI, BI⟩ := hrel
    by_cases hlt : i < l.length
    · have hltz : (i : Int) < (l.length : Int) := by omega
      have hltz2 : decide ((i : Int) < (l.length : Int)) = true := decide_eq_true hltz
      obtain ⟨ad, A11, c11, A12, c12, A13, c13, A14, c14, A15, c15, e, k0, k1, k2, k3, k4, k5, k6, k7, k8, k9, k10, k11, k12, k13, k14, k15, l11, g11, l12, g12, l13, g13, l14, g14, l15, g15⟩ := at_T37 (HR.out wr BI.out) (i : Int) (by omega) hltz
      cases e
      have HX : Aside0 (l[i]? = some (rd_T37 l (i : Int))) := ⟨by unfold rd_T37; rw [Int.toNat_natCast, List.getD_eq_getElem?_getD, List.getElem?_eq_getElem hlt]; rfl⟩
      rw [Int.toNat_natCast] at k0 k1 k2 k3 k4 k5 k6 k7 k8 k9 k10 k11 k12 k13 k14 k15
      generalize rd_T37 l (i : Int) = x at *
      have KX : Aside0 (kF.K wr x [.int .u8 x.f0.f0, .int .u8 x.f0.f1, .int .u8 x.f0.f2, .int .u8 x.f1.f0, .int .u64 x.f1.f1, .int .u64 x.f2, .int .u32 x.f3, .int .u32 x.f4, .int .u32 x.f5, .int .u64 x.f6, .int .u64 x.f7, .slice A11 x.f8.length c11, .slice A12 x.f9.length c12, .slice A13 x.f10.length c13, .slice A14 x.f11.length c14, .slice A15 x.f12.length c15]) := ⟨k37_mk wr x l11 g11 l12 g12 l13 g13 l14 g14 l15 g15⟩
      have FX := Aside0.mk (HL.out x (List.mem_of_getElem? HX.out))
      have PS := Aside0.mk (putQ_snoc (n := n) (L := L) (lost := lost) HX.out)
      rw [PE.out] at PS
      have hkl : k ≤ l.length ∧ lost ≤ lost' ∧ lost' ≤ lost + i := by
        have h1 := putQ_le n L lost (l.take i)
        rw [PE.out, List.length_take] at h1
        dsimp only at h1
        omega
      clear l11 g11 l12 g12 l13 g13 l14 g14 l15 g15 PE
      have hu := Try.underlying37
      have hwi : IntKind.i64.wrap ((i : Int) + 1) = ((i + 1 : Nat) : Int) := by rw [IntKind.wrap_i64]; omega
      have hwk : IntKind.i64.wrap ((k : Int) + 1) = ((k + 1 : Nat) : Int) := by rw [IntKind.wrap_i64]; omega
      go_upto_region 7 with (fail)
      have XB := Aside0.mk (blk_new wr (.cells #[.int .u8 x.f0.f0, .int .u8 x.f0.f1, .int .u8 x.f0.f2, .int .u8 x.f1.f0, .int .u64 x.f1.f1, .int .u64 x.f2, .int .u32 x.f3, .int .u32 x.f4, .int .u32 x.f5, .int .u64 x.f6, .int .u64 x.f7, .slice A11 x.f8.length c11, .slice A12 x.f9.length c12, .slice A13 x.f10.length c13, .slice A14 x.f11.length c14, .slice A15 x.f12.length c15] eF))
      have BQ := Aside0.mk (below_alloc (Below.refl wr.heap.size wr) (.cells #[.int .u8 x.f0.f0, .int .u8 x.f0.f1, .int .u8 x.f0.f2, .int .u8 x.f1.f0, .int .u64 x.f1.f1, .int .u64 x.f2, .int .u32 x.f3, .int .u32 x.f4, .int .u32 x.f5, .int .u64 x.f6, .int .u64 x.f7, .slice A11 x.f8.length c11, .slice A12 x.f9.length c12, .slice A13 x.f10.length c13, .slice A14 x.f11.length c14, .slice A15 x.f12.length c15] eF))
      clear k0 k1 k2 k3 k4 k5 k6 k7 k8 k9 k10 k11 k12 k13 k14 k15
      generalize wr.alloc (.cells #[.int .u8 x.f0.f0, .int .u8 x.f0.f1, .int .u8 x.f0.f2, .int .u8 x.f1.f0, .int .u64 x.f1.f1, .int .u64 x.f2, .int .u32 x.f3, .int .u32 x.f4, .int .u32 x.f5, .int .u64 x.f6, .int .u64 x.f7, .slice A11 x.f8.length c11, .slice A12 x.f9.length c12, .slice A13 x.f10.length c13, .slice A14 x.f11.length c14, .slice A15 x.f12.length c15] eF) = wq at XB BQ ⊢
      obtain ⟨bx, hbx⟩ : ∃ bx, bx = wr.heap.size := ⟨_, rfl⟩
      rw [← hbx] at XB ⊢
      have BXE := Aside0.mk hbx
      clear hbx
      have KQ := Aside0.mk (kF.K_below BQ.out KX.out)
      have QQ := Aside0.mk (QI.out.below BQ.out)
      have QI0 := QI
      have g2 : Aside0 (wq.cell? ⟨g, 2, none⟩ = some (.map (some mb))) := ⟨by obtain ⟨_, _, _, _, _, h, _⟩ := QQ.out.cell; exact h⟩
      have LK : Aside0 (∀ W, Below wq.heap.size wq W → (Instr.lookup tPM (.map (some mb)) (.agg #[.int .u8 x.f1.f0, .int .u64 x.f1.f1, .int .u32 x.f3]) true).run Try.prog W = .ok (.tuple #[.agg #[], .bool (hasP L' (pl x))]) W) := ⟨fun W hW => look_pl (QQ.out.map.below hW) FX.out.pl⟩
      go_cut [9] (fun v9 w' => v9 = .bool (hasP L' (pl x)) ∧ Aside0 (Below wq.heap.size wq w'))
      case first =>
        as_aux_lemma =>
          refine wp_region_held_drew (S := fun w' => Below wq.heap.size wq w') (by kernel_rfl) (by exact below_drew (Below.refl _ _)) (fun hHeld => ?_)
          refine wpAnyH_take (i := 0) (oi := { dst := some 20, op := Op.move (Operand.tmp 0), type := 25, pos := "relay.go:48", after := #[], guard := none }) (v := ?_) rfl (by kernel_rfl) (by kernel_rfl) (by kernel_rfl) (fun _ _ _ h => h) (Or.inl ⟨by rfl, ?_⟩) (by assumption) ?_
          rotate_left
          · (intro w hSw; (try dsimp only at hSw); go_simp; try with_reducible rfl)
          simp only [Act.put, List.setIfInBounds_toArray, List.set_cons_zero, List.set_cons_succ]
          refine wpAnyH_take (i := 1) (oi := { dst := some 21, op := Op.nilCheck (Operand.tmp 20), type := 0, pos := "relay.go:48", after := #[{ on := 0, ground := Ground.data }], guard := none }) (v := ?_) rfl (by kernel_rfl) (by kernel_rfl) (by kernel_rfl) (fun _ _ _ h => h) (Or.inl ⟨by rfl, ?_⟩) (by assumption) ?_
          rotate_left
          · (intro w hSw; (try dsimp only at hSw); go_simp; try with_reducible rfl)
          simp only [Act.put, List.setIfInBounds_toArray, List.set_cons_zero, List.set_cons_succ]
          refine wpAnyH_take (i := 2) (oi := { dst := some 22, op := Op.fieldAddr 62 (Operand.tmp 21) 2, type := 0, pos := "relay.go:48", after := #[{ on := 1, ground := Ground.data }], guard := none }) (v := ?_) rfl (by kernel_rfl) (by kernel_rfl) (by kernel_rfl) (fun _ _ _ h => h) (Or.inl ⟨by rfl, ?_⟩) (by assumption) ?_
          rotate_left
          · (intro w hSw; (try dsimp only at hSw); go_simp; try with_reducible rfl)
          simp only [Act.put, List.setIfInBounds_toArray, List.set_cons_zero, List.set_cons_succ]
          refine wpAnyH_take (i := 3) (oi := { dst := some 23, op := Op.load 60 (Operand.tmp 22), type := 60, pos := "relay.go:48", after := #[{ on := 2, ground := Ground.data }], guard := none }) (v := ?_) rfl (by kernel_rfl) (by kernel_rfl) (by kernel_rfl) (fun _ _ _ h => h) (Or.inl ⟨by rfl, ?_⟩) (by assumption) ?_
          rotate_left
          · (intro w hSw; (try dsimp only at hSw); have y2 := pw_cell_below hSw g2.out; go_simp; try with_reducible rfl)
          simp only [Act.put, List.setIfInBounds_toArray, List.set_cons_zero, List.set_cons_succ]
          refine wpAnyH_take (i := 4) (oi := { dst := some 24, op := Op.load 37 (Operand.tmp 7), type := 37, pos := "relay.go:48", after := #[], guard := none }) (v := ?_) rfl (by kernel_rfl) (by kernel_rfl) (by kernel_rfl) (fun _ _ _ h => h) (Or.inl ⟨by rfl, ?_⟩) (by assumption) ?_
          rotate_left
          · (intro w hSw; (try dsimp only at hSw); have z0 := pw_cell_below hSw ((blk_cell XB.out 0).trans rfl); have z1 := pw_cell_below hSw ((blk_cell XB.out 1).trans rfl); have z2 := pw_cell_below hSw ((blk_cell XB.out 2).trans rfl); have z3 := pw_cell_below hSw ((blk_cell XB.out 3).trans rfl); have z4 := pw_cell_below hSw ((blk_cell XB.out 4).trans rfl); have z5 := pw_cell_below hSw ((blk_cell XB.out 5).trans rfl); have z6 := pw_cell_below hSw ((blk_cell XB.out 6).trans rfl); have z7 := pw_cell_below hSw ((blk_cell XB.out 7).trans rfl); have z8 := pw_cell_below hSw ((blk_cell XB.out 8).trans rfl); have z9 := pw_cell_below hSw ((blk_cell XB.out 9).trans rfl); have z10 := pw_cell_below hSw ((blk_cell XB.out 10).trans rfl); have z11 := pw_cell_below hSw ((blk_cell XB.out 11).trans rfl); have z12 := pw_cell_below hSw ((blk_cell XB.out 12).trans rfl); have z13 := pw_cell_below hSw ((blk_cell XB.out 13).trans rfl); have z14 := pw_cell_below hSw ((blk_cell XB.out 14).trans rfl); have z15 := pw_cell_below hSw ((blk_cell XB.out 15).trans rfl); go_simp; try with_reducible rfl)
          simp only [Act.put, List.setIfInBounds_toArray, List.set_cons_zero, List.set_cons_succ]
          refine wpAnyH_ready (rs := [5, 10]) (by kernel_rfl) (by simp) ?_
          refine AllReadyH.cons (o := { dst := some 25, op := Op.call { callee := Callee.value (Operand.func 20), args := #[Operand.tmp 24], argTypes := #[37] }, type := 66, pos := "relay.go:48", after := #[{ on := 4, ground := Ground.data }], guard := none }) rfl (fun K hK => ?_) (AllReadyH.cons (o := { dst := some 8, op := Op.alloc 63, type := 0, pos := "relay.go:48", after := #[], guard := none }) rfl (fun K hK => ?_) AllReadyH.nil)
          · go_simp
            go_at_call 20
            refine (of_any x _ _ _ _ _ _).mono ?_
            rintro e wa ⟨rfl, hb0⟩
            try go_wp2_with fail
            refine hK.out _ _ (below_step hHeld hb0) (fun hHeld => ?_)
            clear hK K
            try simp only [Act.put, List.setIfInBounds_toArray, List.set_cons_zero, List.set_cons_succ]
            refine wpAnyH_take (i := 6) (oi := { dst := some 26, op := Op.lookup 60 (Operand.tmp 23) (Operand.tmp 25) true, type := 64, pos := "relay.go:48", after := #[{ on := 3, ground := Ground.data }, { on := 5, ground := Ground.data }], guard := none }) (v := ?_) rfl (by kernel_rfl) (by kernel_rfl) (by kernel_rfl) (fun _ _ _ h => h) (Or.inl ⟨by rfl, ?_⟩) (by assumption) ?_
            rotate_left
            · (intro w hSw; (try dsimp only at hSw); have lk := LK.out w hSw; go_simp; try with_reducible rfl)
            simp only [Act.put, List.setIfInBounds_toArray, List.set_cons_zero, List.set_cons_succ]
            refine wpAnyH_take (i := 7) (oi := { dst := some 19, op := Op.move (Operand.tmp 26), type := 64, pos := "relay.go:48", after := #[{ on := 6, ground := Ground.data }], guard := none }) (v := ?_) rfl (by kernel_rfl) (by kernel_rfl) (by kernel_rfl) (fun _ _ _ h => h) (Or.inl ⟨by rfl, ?_⟩) (by assumption) ?_
            rotate_left
            · (intro w hSw; (try dsimp only at hSw); go_simp; try with_reducible rfl)
            simp only [Act.put, List.setIfInBounds_toArray, List.set_cons_zero, List.set_cons_succ]
            refine wpAnyH_take (i := 8) (oi := { dst := some 27, op := Op.extract (Operand.tmp 19) 0, type := 63, pos := "relay.go:48", after := #[{ on := 7, ground := Ground.data }], guard := none }) (v := ?_) rfl (by kernel_rfl) (by kernel_rfl) (by kernel_rfl) (fun _ _ _ h => h) (Or.inl ⟨by rfl, ?_⟩) (by assumption) ?_
            rotate_left
            · (intro w hSw; (try dsimp only at hSw); go_simp; try with_reducible rfl)
            simp only [Act.put, List.setIfInBounds_toArray, List.set_cons_zero, List.set_cons_succ]
            refine wpAnyH_take (i := 9) (oi := { dst := some 28, op := Op.extract (Operand.tmp 19) 1, type := 4, pos := "relay.go:48", after := #[{ on := 7, ground := Ground.data }, { on := 11, ground := Ground.gcOnly Departure.lateStores }], guard := none }) (v := ?_) rfl (by kernel_rfl) (by kernel_rfl) (by kernel_rfl) (fun _ _ _ h => h) (Or.inl ⟨by rfl, ?_⟩) (by assumption) ?_
            rotate_left
            · (intro w hSw; (try dsimp only at hSw); go_simp; try with_reducible rfl)
            simp only [Act.put, List.setIfInBounds_toArray, List.set_cons_zero, List.set_cons_succ]
            refine wpAnyH_ready (rs := [10]) (by kernel_rfl) (by simp) ?_
            refine AllReadyH.cons (o := { dst := some 8, op := Op.alloc 63, type := 0, pos := "relay.go:48", after := #[], guard := none }) rfl (fun K hK => ?_) AllReadyH.nil
            go_simp
            refine hK.out _ _ (below_step hHeld (below_alloc (Below.refl _ _) _)) (fun hHeld => ?_)
            clear hK K
            try simp only [Act.put, List.setIfInBounds_toArray, List.set_cons_zero, List.set_cons_succ]
            refine wpAnyH_ready (rs := [11]) (by kernel_rfl) (by simp) ?_
            refine AllReadyH.cons (o := { dst := none, op := Op.store 63 (Operand.tmp 8) (Operand.tmp 27), type := 0, pos := "relay.go:48", after := #[{ on := 10, ground := Ground.data }, { on := 8, ground := Ground.data }, { on := 5, ground := Ground.chain }, { on := 0, ground := Ground.phase }, { on := 1, ground := Ground.phase }, { on := 2, ground := Ground.phase }, { on := 3, ground := Ground.phase }, { on := 4, ground := Ground.phase }, { on := 5, ground := Ground.phase }, { on := 6, ground := Ground.phase }, { on := 7, ground := Ground.phase }, { on := 8, ground := Ground.phase }, { on := 9, ground := Ground.textOnly Departure.lateStores }, { on := 10, ground := Ground.phase }], guard := none }) rfl (fun K hK => ?_) AllReadyH.nil
            go_simp
            refine hK.out _ _ hHeld (fun hHeld => ?_)
            clear hK K
            try simp only [Act.put, List.setIfInBounds_toArray, List.set_cons_zero, List.set_cons_succ]
            refine wpAnyH_take (i := 12) (oi := { dst := some 9, op := Op.assign (Operand.tmp 28), type := 4, pos := "relay.go:48", after := #[{ on := 9, ground := Ground.data }, { on := 11, ground := Ground.chain }, { on := 0, ground := Ground.phase }, { on := 1, ground := Ground.phase }, { on := 2, ground := Ground.phase }, { on := 3, ground := Ground.phase }, { on := 4, ground := Ground.phase }, { on := 5, ground := Ground.phase }, { on := 6, ground := Ground.phase }, { on := 7, ground := Ground.phase }, { on := 8, ground := Ground.phase }, { on := 9, ground := Ground.phase }, { on := 10, ground := Ground.phase }, { on := 11, ground := Ground.phase }], guard := none }) (v := ?_) rfl (by kernel_rfl) (by kernel_rfl) (by kernel_rfl) (fun _ _ _ h => h) (Or.inl ⟨by rfl, ?_⟩) (by assumption) ?_
            rotate_left
            · (intro w hSw; (try dsimp only at hSw); go_simp; try with_reducible rfl)
            simp only [Act.put, List.setIfInBounds_toArray, List.set_cons_zero, List.set_cons_succ]
            refine wpAnyH_done (by kernel_rfl) ?_ _
            go_wp2_with fail
            go_meet
            case rel => exact ⟨rfl, ⟨hHeld⟩⟩
          · go_simp
            refine hK.out _ _ (below_step hHeld (below_alloc (Below.refl _ _) _)) (fun hHeld => ?_)
            clear hK K
            try simp only [Act.put, List.setIfInBounds_toArray, List.set_cons_zero, List.set_cons_succ]
            refine wpAnyH_ready (rs := [5]) (by kernel_rfl) (by simp) ?_
            refine AllReadyH.cons (o := { dst := some 25, op := Op.call { callee := Callee.value (Operand.func 20), args := #[Operand.tmp 24], argTypes := #[37] }, type := 66, pos := "relay.go:48", after := #[{ on := 4, ground := Ground.data }], guard := none }) rfl (fun K hK => ?_) AllReadyH.nil
            go_simp
            go_at_call 20
            refine (of_any x _ _ _ _ _ _).mono ?_
            rintro e wa ⟨rfl, hb0⟩
            try go_wp2_with fail
            refine hK.out _ _ (below_step hHeld hb0) (fun hHeld => ?_)
            clear hK K
            try simp only [Act.put, List.setIfInBounds_toArray, List.set_cons_zero, List.set_cons_succ]
            refine wpAnyH_take (i := 6) (oi := { dst := some 26, op := Op.lookup 60 (Operand.tmp 23) (Operand.tmp 25) true, type := 64, pos := "relay.go:48", after := #[{ on := 3, ground := Ground.data }, { on := 5, ground := Ground.data }], guard := none }) (v := ?_) rfl (by kernel_rfl) (by kernel_rfl) (by kernel_rfl) (fun _ _ _ h => h) (Or.inl ⟨by rfl, ?_⟩) (by assumption) ?_
            rotate_left
            · (intro w hSw; (try dsimp only at hSw); have lk := LK.out w hSw; go_simp; try with_reducible rfl)
            simp only [Act.put, List.setIfInBounds_toArray, List.set_cons_zero, List.set_cons_succ]
            refine wpAnyH_take (i := 7) (oi := { dst := some 19, op := Op.move (Operand.tmp 26), type := 64, pos := "relay.go:48", after := #[{ on := 6, ground := Ground.data }], guard := none }) (v := ?_) rfl (by kernel_rfl) (by kernel_rfl) (by kernel_rfl) (fun _ _ _ h => h) (Or.inl ⟨by rfl, ?_⟩) (by assumption) ?_
            rotate_left
            · (intro w hSw; (try dsimp only at hSw); go_simp; try with_reducible rfl)
            simp only [Act.put, List.setIfInBounds_toArray, List.set_cons_zero, List.set_cons_succ]
            refine wpAnyH_take (i := 8) (oi := { dst := some 27, op := Op.extract (Operand.tmp 19) 0, type := 63, pos := "relay.go:48", after := #[{ on := 7, ground := Ground.data }], guard := none }) (v := ?_) rfl (by kernel_rfl) (by kernel_rfl) (by kernel_rfl) (fun _ _ _ h => h) (Or.inl ⟨by rfl, ?_⟩) (by assumption) ?_
            rotate_left
            · (intro w hSw; (try dsimp only at hSw); go_simp; try with_reducible rfl)
            simp only [Act.put, List.setIfInBounds_toArray, List.set_cons_zero, List.set_cons_succ]
            refine wpAnyH_take (i := 9) (oi := { dst := some 28, op := Op.extract (Operand.tmp 19) 1, type := 4, pos := "relay.go:48", after := #[{ on := 7, ground := Ground.data }, { on := 11, ground := Ground.gcOnly Departure.lateStores }], guard := none }) (v := ?_) rfl (by kernel_rfl) (by kernel_rfl) (by kernel_rfl) (fun _ _ _ h => h) (Or.inl ⟨by rfl, ?_⟩) (by assumption) ?_
            rotate_left
            · (intro w hSw; (try dsimp only at hSw); go_simp; try with_reducible rfl)
            simp only [Act.put, List.setIfInBounds_toArray, List.set_cons_zero, List.set_cons_succ]
            refine wpAnyH_ready (rs := [11]) (by kernel_rfl) (by simp) ?_
            refine AllReadyH.cons (o := { dst := none, op := Op.store 63 (Operand.tmp 8) (Operand.tmp 27), type := 0, pos := "relay.go:48", after := #[{ on := 10, ground := Ground.data }, { on := 8, ground := Ground.data }, { on := 5, ground := Ground.chain }, { on := 0, ground := Ground.phase }, { on := 1, ground := Ground.phase }, { on := 2, ground := Ground.phase }, { on := 3, ground := Ground.phase }, { on := 4, ground := Ground.phase }, { on := 5, ground := Ground.phase }, { on := 6, ground := Ground.phase }, { on := 7, ground := Ground.phase }, { on := 8, ground := Ground.phase }, { on := 9, ground := Ground.textOnly Departure.lateStores }, { on := 10, ground := Ground.phase }], guard := none }) rfl (fun K hK => ?_) AllReadyH.nil
            go_simp
            refine hK.out _ _ hHeld (fun hHeld => ?_)
            clear hK K
            try simp only [Act.put, List.setIfInBounds_toArray, List.set_cons_zero, List.set_cons_succ]
            refine wpAnyH_take (i := 12) (oi := { dst := some 9, op := Op.assign (Operand.tmp 28), type := 4, pos := "relay.go:48", after := #[{ on := 9, ground := Ground.data }, { on := 11, ground := Ground.chain }, { on := 0, ground := Ground.phase }, { on := 1, ground := Ground.phase }, { on := 2, ground := Ground.phase }, { on := 3, ground := Ground.phase }, { on := 4, ground := Ground.phase }, { on := 5, ground := Ground.phase }, { on := 6, ground := Ground.phase }, { on := 7, ground := Ground.phase }, { on := 8, ground := Ground.phase }, { on := 9, ground := Ground.phase }, { on := 10, ground := Ground.phase }, { on := 11, ground := Ground.phase }], guard := none }) (v := ?_) rfl (by kernel_rfl) (by kernel_rfl) (by kernel_rfl) (fun _ _ _ h => h) (Or.inl ⟨by rfl, ?_⟩) (by assumption) ?_
            rotate_left
            · (intro w hSw; (try dsimp only at hSw); go_simp; try with_reducible rfl)
            simp only [Act.put, List.setIfInBounds_toArray, List.set_cons_zero, List.set_cons_succ]
            refine wpAnyH_done (by kernel_rfl) ?_ _
            go_wp2_with fail
            go_meet
            case rel => exact ⟨rfl, ⟨hHeld⟩⟩
      case rest =>
        obtain ⟨rfl, BC⟩ := hcut
        have QC := Aside0.mk (QQ.out.below BC.out)
        have BW := Aside0.mk ((BI.out.then_below BQ.out).then_below BC.out)
        have XC := Aside0.mk (blk_below XB.out BC.out)
        have KC := Aside0.mk (kF.K_below BC.out KQ.out)
        clear g2 LK QQ XB KQ QI BI BC BQ
        cases hh : hasP L' (pl x) with
        | true =>
          have PS2 : Aside0 (putQ n L lost (l.take (i + 1)) = (L', lost', k)) := ⟨by rw [PS.out]; unfold put1; rw [if_pos hh]⟩
          clear hh PS
          go_wp2_with fail
          go_roundg (l.length - (i + 1))
          case measure => omega
          case rel => exact ⟨i + 1, by go_num, by omega, by omega, L', lost', k, v', rfl, PS2, QC, BW⟩
        | false =>
          obtain ⟨A1, cc, rfl, c0, c1, c2, c3⟩ := QC.out.cell
          by_cases hn : n ≤ L'.length
          · have PS2 : Aside0 (putQ n L lost (l.take (i + 1)) = (L', lost' + 1, k)) := ⟨by rw [PS.out]; unfold put1; rw [if_neg (by rw [hh]; decide), if_pos hn]⟩
            have dn : decide ((L'.length : Int) ≥ (n : Int)) = true := decide_eq_true (by omega)
            have hw1 : IntKind.i64.wrap (lost' + 1) = lost' + 1 := by rw [IntKind.wrap_i64]; have := HLO.out; omega
            have zf : wc.frozen? ⟨g, 3, none⟩ = false := blk_frozen QC.out.blk 3
            have Q2 := Aside0.mk (QC.out.lose (lost' + 1) (by have := HLO.out; omega))
            clear hh PS
            go_upto_region 12 with (fail)
            refine wp_region_still_tail 10 (by kernel_rfl) (by kernel_rfl) ?_
            simp only [List.take_succ_cons, List.take_zero, List.drop_succ_cons, List.drop_zero]
            repeat still_step
            refine wpStill_nil ?_
            change wpList _ _ _ _ _ wc.drew
            go_wp2_with fail
            go_roundg (l.length - (i + 1))
            case measure => omega
            case rel => exact ⟨i + 1, by go_num, by omega, by omega, L', lost' + 1, k, .slice A1 L'.length cc, rfl, PS2, ⟨Q2.out.1.below (below_drew (Below.refl _ _))⟩, ⟨(BW.out.then_ Q2.out.2 (fun b hb => hb)).drew⟩⟩
          · have PS2 : Aside0 (putQ n L lost (l.take (i + 1)) = (L' ++ [x], lost', k + 1)) := ⟨by rw [PS.out]; unfold put1; rw [if_neg (by rw [hh]; decide), if_neg hn]⟩
            have dn : decide ((L'.length : Int) ≥ (n : Int)) = false := decide_eq_false (by omega)
            go_upto_region 12 with (fail)
            refine wp_region_still_tail 10 (by kernel_rfl) (by kernel_rfl) ?_
            simp only [List.take_succ_cons, List.take_zero, List.drop_succ_cons, List.drop_zero]
            repeat still_step
            refine wpStill_nil ?_
            change wpList _ _ _ _ _ wc.drew
            go_wp2_with fail
            have HH := Aside0.mk hh
            have NO := Aside0.mk (show ¬ some g = (Value.slice A1 L'.length cc).ownBlock from fun he => (QC.out.row.1 g he.symm).2.1 rfl)
            have NX := Aside0.mk (show ¬ some bx = (Value.slice A1 L'.length cc).ownBlock from fun he => by
              have h1 := (Kd.R_bound QI0.out.row).1 bx he.symm
              have h2 := h1.2.2.1
              have h3 := BXE.out
              omega)
            have NB := Aside0.mk (show ∀ b, wc.heap.size ≤ b → ¬ some b = (Value.slice A1 L'.length cc).ownBlock from fun b hb he => by
              have h1 := (Kd.R_bound QC.out.row).1 b he.symm
              have h2 := h1.2.2.1
              omega)
            have NXG := Aside0.mk (show bx ≠ g from fun e => by have h1 := blk_lt QI0.out.blk; have h3 := BXE.out; omega)
            have lg := Aside0.mk (blk_lt QC.out.blk)
            have lm := Aside0.mk QC.out.map.lt
            clear c0 c1 c2 c3 hh dn
            refine wp_region_Z (S := fun w' => Beside (fun b => some b = (Value.slice A1 L'.length cc).ownBlock) wc w') 11 (by kernel_rfl) (by exact (Beside.refl _ _).drew.drew) (fun hHeld => ?_)
            refine wpAnyZ_take (i := 0) (oi := { dst := some 29, op := Op.move (Operand.tmp 0), type := 25, pos := "relay.go:54", after := #[], guard := none }) (v := ?_) rfl (by kernel_rfl) (by kernel_rfl) (by kernel_rfl) (by kernel_rfl) (fun _ _ _ h => h) (Or.inl ⟨by rfl, ?_⟩) (by assumption) ?_
            rotate_left
            · (intro w hSw; (try dsimp only at hSw); go_simp; try with_reducible rfl)
            simp only [Act.put, List.setIfInBounds_toArray, List.set_cons_zero, List.set_cons_succ]
            refine wpAnyZ_take (i := 1) (oi := { dst := some 30, op := Op.move (Operand.tmp 0), type := 25, pos := "relay.go:54", after := #[], guard := none }) (v := ?_) rfl (by kernel_rfl) (by kernel_rfl) (by kernel_rfl) (by kernel_rfl) (fun _ _ _ h => h) (Or.inl ⟨by rfl, ?_⟩) (by assumption) ?_
            rotate_left
            · (intro w hSw; (try dsimp only at hSw); go_simp; try with_reducible rfl)
            simp only [Act.put, List.setIfInBounds_toArray, List.set_cons_zero, List.set_cons_succ]
            refine wpAnyZ_take (i := 2) (oi := { dst := some 31, op := Op.nilCheck (Operand.tmp 30), type := 0, pos := "relay.go:54", after := #[{ on := 1, ground := Ground.data }], guard := none }) (v := ?_) rfl (by kernel_rfl) (by kernel_rfl) (by kernel_rfl) (by kernel_rfl) (fun _ _ _ h => h) (Or.inl ⟨by rfl, ?_⟩) (by assumption) ?_
            rotate_left
            · (intro w hSw; (try dsimp only at hSw); go_simp; try with_reducible rfl)
            simp only [Act.put, List.setIfInBounds_toArray, List.set_cons_zero, List.set_cons_succ]
            refine wpAnyZ_take (i := 3) (oi := { dst := some 32, op := Op.fieldAddr 62 (Operand.tmp 31) 1, type := 0, pos := "relay.go:54", after := #[{ on := 2, ground := Ground.data }], guard := none }) (v := ?_) rfl (by kernel_rfl) (by kernel_rfl) (by kernel_rfl) (by kernel_rfl) (fun _ _ _ h => h) (Or.inl ⟨by rfl, ?_⟩) (by assumption) ?_
            rotate_left
            · (intro w hSw; (try dsimp only at hSw); go_simp; try with_reducible rfl)
            simp only [Act.put, List.setIfInBounds_toArray, List.set_cons_zero, List.set_cons_succ]
            refine wpAnyZ_take (i := 4) (oi := { dst := some 33, op := Op.load 39 (Operand.tmp 32), type := 39, pos := "relay.go:54", after := #[{ on := 3, ground := Ground.data }], guard := none }) (v := ?_) rfl (by kernel_rfl) (by kernel_rfl) (by kernel_rfl) (by kernel_rfl) (fun _ _ _ h => h) (Or.inl ⟨by rfl, ?_⟩) (by assumption) ?_
            rotate_left
            · (intro w hSw; (try dsimp only at hSw); have y1 := cell_step ((blk_cell QC.out.blk 1).trans rfl) hSw NO.out; go_simp; try with_reducible rfl)
            simp only [Act.put, List.setIfInBounds_toArray, List.set_cons_zero, List.set_cons_succ]
            refine wpAnyZ_take (i := 5) (oi := { dst := some 34, op := Op.load 37 (Operand.tmp 7), type := 37, pos := "relay.go:54", after := #[], guard := none }) (v := ?_) rfl (by kernel_rfl) (by kernel_rfl) (by kernel_rfl) (by kernel_rfl) (fun _ _ _ h => h) (Or.inl ⟨by rfl, ?_⟩) (by assumption) ?_
            rotate_left
            · (intro w hSw; (try dsimp only at hSw); have z0 := cell_step ((blk_cell XC.out 0).trans rfl) hSw NX.out; have z1 := cell_step ((blk_cell XC.out 1).trans rfl) hSw NX.out; have z2 := cell_step ((blk_cell XC.out 2).trans rfl) hSw NX.out; have z3 := cell_step ((blk_cell XC.out 3).trans rfl) hSw NX.out; have z4 := cell_step ((blk_cell XC.out 4).trans rfl) hSw NX.out; have z5 := cell_step ((blk_cell XC.out 5).trans rfl) hSw NX.out; have z6 := cell_step ((blk_cell XC.out 6).trans rfl) hSw NX.out; have z7 := cell_step ((blk_cell XC.out 7).trans rfl) hSw NX.out; have z8 := cell_step ((blk_cell XC.out 8).trans rfl) hSw NX.out; have z9 := cell_step ((blk_cell XC.out 9).trans rfl) hSw NX.out; have z10 := cell_step ((blk_cell XC.out 10).trans rfl) hSw NX.out; have z11 := cell_step ((blk_cell XC.out 11).trans rfl) hSw NX.out; have z12 := cell_step ((blk_cell XC.out 12).trans rfl) hSw NX.out; have z13 := cell_step ((blk_cell XC.out 13).trans rfl) hSw NX.out; have z14 := cell_step ((blk_cell XC.out 14).trans rfl) hSw NX.out; have z15 := cell_step ((blk_cell XC.out 15).trans rfl) hSw NX.out; go_simp; try with_reducible rfl)
            simp only [Act.put, List.setIfInBounds_toArray, List.set_cons_zero, List.set_cons_succ]
            refine wpAnyZ_one (i := 6) (o := { dst := some 35, op := Op.call { callee := Callee.value (Operand.func 21), args := #[Operand.tmp 34], argTypes := #[37] }, type := 37, pos := "relay.go:54", after := #[{ on := 5, ground := Ground.data }], guard := none }) (by kernel_rfl) rfl (fun K hK => ?_)
            go_simp
            go_at_call 21
            refine (own_M x [.int .u8 x.f0.f0, .int .u8 x.f0.f1, .int .u8 x.f0.f2, .int .u8 x.f1.f0, .int .u64 x.f1.f1, .int .u64 x.f2, .int .u32 x.f3, .int .u32 x.f4, .int .u32 x.f5, .int .u64 x.f6, .int .u64 x.f7, .slice A11 x.f8.length c11, .slice A12 x.f9.length c12, .slice A13 x.f10.length c13, .slice A14 x.f11.length c14, .slice A15 x.f12.length c15] _ (kF.K_below (below_drew (below_drew (Below.refl _ _))) KC.out) FX.out.ok).mono ?_
            rintro e w5 ⟨cs', rfl, hM, hb5⟩
            have hM2 := hM
            obtain ⟨v11, v12, v13, v14, v15, rfl, r11, r12, r13, r14, r15⟩ := k37_openM hM2
            obtain ⟨B11, d11, rfl⟩ := Kd.R_slice r11
            obtain ⟨B12, d12, rfl⟩ := Kd.R_slice r12
            obtain ⟨B13, d13, rfl⟩ := Kd.R_slice r13
            obtain ⟨B14, d14, rfl⟩ := Kd.R_slice r14
            obtain ⟨B15, d15, rfl⟩ := Kd.R_slice r15
            have M5 := Aside0.mk hM
            have B5 := Aside0.mk (below_step (below_drew (below_drew (Below.refl wc.heap.size wc))) hb5)
            have R5 := Aside0.mk (Kd.R_below QC.out.row B5.out)
            clear hM hM2 hb5 r11 r12 r13 r14 r15
            try go_wp2_with fail
            refine hK.out _ _ (fun _ => (Beside.of_below _ B5.out)) (fun hHeld => ?_)
            have hHeld := hHeld (by decide)
            clear hK K
            try simp only [Act.put, List.setIfInBounds_toArray, List.set_cons_zero, List.set_cons_succ]
            refine wpAnyZ_one (i := 7) (o := { dst := some 36, op := Op.buildSlice 39 1 #[(0, Operand.tmp 35)], type := 39, pos := "relay.go:54", after := #[{ on := 6, ground := Ground.data }], guard := none }) (by kernel_rfl) rfl (fun K hK => ?_)
            go_simp
            refine hK.out _ _ (fun _ => ((Beside.of_below _ B5.out).alloc _)) (fun hHeld => ?_)
            have hHeld := hHeld (by decide)
            clear hK K
            try simp only [Act.put, List.setIfInBounds_toArray, List.set_cons_zero, List.set_cons_succ]
            refine wpAnyZ_one (i := 8) (o := { dst := some 37, op := Op.call { callee := Callee.builtin Builtin.append, args := #[Operand.tmp 33, Operand.tmp 36], argTypes := #[39, 39] }, type := 39, pos := "relay.go:54", after := #[{ on := 4, ground := Ground.data }, { on := 7, ground := Ground.data }, { on := 6, ground := Ground.chain }], guard := none }) (by kernel_rfl) rfl (fun K hK => ?_)
            refine Kd.R_append_step kF 0 (w0 := w5) (by rfl) (.tmp 33) (.tmp 36) 39 eF _ 184 rfl Try.underlying39 info37 rfl (by decide) (by decide) (.slice A1 L'.length cc) L' x [.int .u8 x.f0.f0, .int .u8 x.f0.f1, .int .u8 x.f0.f2, .int .u8 x.f1.f0, .int .u64 x.f1.f1, .int .u64 x.f2, .int .u32 x.f3, .int .u32 x.f4, .int .u32 x.f5, .int .u64 x.f6, .int .u64 x.f7, .slice B11 x.f8.length d11, .slice B12 x.f9.length d12, .slice B13 x.f10.length d13, .slice B14 x.f11.length d14, .slice B15 x.f12.length d15] (fun b => (S b ∨ w.heap.size ≤ b) ∧ b ≠ g ∧ b ≠ mb) (fun b => wc.heap.size ≤ b) rfl rfl (kF.M_lower (Nat.zero_le _) (kF.M_mono (fun b hb => hb.2.1) (kF.M_bound M5.out))) (fun b hb => ⟨⟨.inr (Nat.le_trans BW.out.size hb), fun e => by have := lg.out; omega, fun e => by have := lm.out; omega⟩, NB.out b hb⟩) (fun b hb => ⟨.inr (Nat.le_trans (Nat.le_trans BW.out.size B5.out.size) hb), fun e => by have := lg.out; have := B5.out.size; omega, fun e => by have := lm.out; have := B5.out.size; omega⟩) R5.out ⟨rfl, rfl, rfl, Nat.le_refl _, fun k hk => absurd hk (Nat.not_lt_zero k)⟩ (Nat.zero_le _) (by have := QC.out.len; have := QC.out.n2; omega) ?_
            intro v1 w6 ho hb6 hg6 hat6
            obtain ⟨A4, c4, rfl⟩ := Kd.R_slice ho
            rw [show (L' ++ [x]).length = L'.length + 1 by simp] at ho
            rw [show (L' ++ [x]).length = L'.length + 1 by simp]
            have R6 := Aside0.mk ho
            have S6 := Aside0.mk ((Beside.of_below (fun b => some b = (Value.slice A1 L'.length cc).ownBlock) B5.out).then_ (S2 := fun b => some b = (Value.slice A1 L'.length cc).ownBlock) ⟨hg6.os, hg6.tape, hg6.output, hg6.size, fun b hb hn => hg6.block b hb (fun he => hn he)⟩ (fun b hb => .inl hb))
            have G6 := Aside0.mk (S6.out.blk QC.out.blk NO.out)
            have y6 : w6.cell? ⟨g, 1, none⟩ = some (.slice A1 L'.length cc) := (blk_cell G6.out 1).trans rfl
            have zf6 : w6.frozen? ⟨g, 1, none⟩ = false := blk_frozen G6.out 1
            clear ho hb6 hg6 hat6
            refine hK.out _ _ (fun _ => S6.out) (fun hHeld => ?_)
            have hHeld := hHeld (by decide)
            clear hK K
            try simp only [Act.put, List.setIfInBounds_toArray, List.set_cons_zero, List.set_cons_succ]
            refine wpAnyZ_one (i := 9) (o := { dst := some 38, op := Op.nilCheck (Operand.tmp 29), type := 0, pos := "relay.go:54", after := #[{ on := 0, ground := Ground.data }, { on := 0, ground := Ground.phase }, { on := 1, ground := Ground.phase }, { on := 2, ground := Ground.phase }, { on := 3, ground := Ground.phase }, { on := 4, ground := Ground.phase }, { on := 5, ground := Ground.phase }, { on := 6, ground := Ground.phase }, { on := 7, ground := Ground.phase }, { on := 8, ground := Ground.phase }], guard := none }) (by kernel_rfl) rfl (fun K hK => ?_)
            go_simp
            refine hK.out _ _ (fun _ => S6.out) (fun hHeld => ?_)
            have hHeld := hHeld (by decide)
            clear hK K
            try simp only [Act.put, List.setIfInBounds_toArray, List.set_cons_zero, List.set_cons_succ]
            refine wpAnyZ_one (i := 10) (o := { dst := some 39, op := Op.fieldAddr 62 (Operand.tmp 38) 1, type := 0, pos := "relay.go:54", after := #[{ on := 9, ground := Ground.data }, { on := 0, ground := Ground.phase }, { on := 1, ground := Ground.phase }, { on := 2, ground := Ground.phase }, { on := 3, ground := Ground.phase }, { on := 4, ground := Ground.phase }, { on := 5, ground := Ground.phase }, { on := 6, ground := Ground.phase }, { on := 7, ground := Ground.phase }, { on := 8, ground := Ground.phase }], guard := none }) (by kernel_rfl) rfl (fun K hK => ?_)
            go_simp
            refine hK.out _ _ (fun _ => S6.out) (fun hHeld => ?_)
            have hHeld := hHeld (by decide)
            clear hK K
            try simp only [Act.put, List.setIfInBounds_toArray, List.set_cons_zero, List.set_cons_succ]
            refine wpAnyZ_one (i := 11) (o := { dst := none, op := Op.store 39 (Operand.tmp 39) (Operand.tmp 37), type := 0, pos := "relay.go:54", after := #[{ on := 10, ground := Ground.data }, { on := 8, ground := Ground.data }, { on := 8, ground := Ground.chain }, { on := 0, ground := Ground.phase }, { on := 1, ground := Ground.phase }, { on := 2, ground := Ground.phase }, { on := 3, ground := Ground.phase }, { on := 4, ground := Ground.phase }, { on := 5, ground := Ground.phase }, { on := 6, ground := Ground.phase }, { on := 7, ground := Ground.phase }, { on := 8, ground := Ground.phase }], guard := none }) (by kernel_rfl) rfl (fun K hK => ?_)
            go_simp
            refine hK.out _ _ (fun h => absurd rfl h) (fun hHeld => ?_)
            clear hK K
            try simp only [Act.put, List.setIfInBounds_toArray, List.set_cons_zero, List.set_cons_succ]
            refine wpAnyZ_done (by kernel_rfl) ?_ _
            have G7 := Aside0.mk (blk_put G6.out 1 (.slice A4 (L'.length + 1) c4) rfl)
            have R7 := Aside0.mk (Kd.R_far (p := ⟨g, 1, none⟩) R6.out (fun b hb => hb.2.1) (.slice A4 (L'.length + 1) c4))
            have SG := Aside0.mk ((Beside.refl (fun b => b = g) w6).setCell (p := ⟨g, 1, none⟩) rfl (.slice A4 (L'.length + 1) c4))
            have M7 := Aside0.mk ((QC.out.map.beside S6.out (fun he => (QC.out.row.1 mb he.symm).2.2 rfl)).beside SG.out (fun e => QC.out.ne e.symm))
            have X7 := Aside0.mk (SG.out.blk (S6.out.blk XC.out NX.out) NXG.out)
            have BE7 := Aside0.mk ((BW.out.then_ S6.out (fun b hb => (QC.out.row.1 b hb.symm).1)).then_ SG.out (fun b hb => by rw [hb]; exact QC.out.S_g))
            clear hHeld
            generalize w6.setCell ⟨g, 1, none⟩ (.slice A4 (L'.length + 1) c4) = w7 at G7 R7 M7 X7 BE7 SG ⊢
            clear SG
            go_wp2_with fail
            refine wp_region_Z (S := fun w' => Below w7.heap.size w7 w') 7 (by kernel_rfl) (by exact below_drew (Below.refl _ _)) (fun hHeld => ?_)
            refine wpAnyZ_take (i := 0) (oi := { dst := some 40, op := Op.move (Operand.tmp 0), type := 25, pos := "relay.go:55", after := #[], guard := none }) (v := ?_) rfl (by kernel_rfl) (by kernel_rfl) (by kernel_rfl) (by kernel_rfl) (fun _ _ _ h => h) (Or.inl ⟨by rfl, ?_⟩) (by assumption) ?_
            rotate_left
            · (intro w hSw; (try dsimp only at hSw); go_simp; try with_reducible rfl)
            simp only [Act.put, List.setIfInBounds_toArray, List.set_cons_zero, List.set_cons_succ]
            refine wpAnyZ_take (i := 1) (oi := { dst := some 41, op := Op.nilCheck (Operand.tmp 40), type := 0, pos := "relay.go:55", after := #[{ on := 0, ground := Ground.data }], guard := none }) (v := ?_) rfl (by kernel_rfl) (by kernel_rfl) (by kernel_rfl) (by kernel_rfl) (fun _ _ _ h => h) (Or.inl ⟨by rfl, ?_⟩) (by assumption) ?_
            rotate_left
            · (intro w hSw; (try dsimp only at hSw); go_simp; try with_reducible rfl)
            simp only [Act.put, List.setIfInBounds_toArray, List.set_cons_zero, List.set_cons_succ]
            refine wpAnyZ_take (i := 2) (oi := { dst := some 42, op := Op.fieldAddr 62 (Operand.tmp 41) 2, type := 0, pos := "relay.go:55", after := #[{ on := 1, ground := Ground.data }], guard := none }) (v := ?_) rfl (by kernel_rfl) (by kernel_rfl) (by kernel_rfl) (by kernel_rfl) (fun _ _ _ h => h) (Or.inl ⟨by rfl, ?_⟩) (by assumption) ?_
            rotate_left
            · (intro w hSw; (try dsimp only at hSw); go_simp; try with_reducible rfl)
            simp only [Act.put, List.setIfInBounds_toArray, List.set_cons_zero, List.set_cons_succ]
            refine wpAnyZ_take (i := 3) (oi := { dst := some 43, op := Op.load 60 (Operand.tmp 42), type := 60, pos := "relay.go:55", after := #[{ on := 2, ground := Ground.data }], guard := none }) (v := ?_) rfl (by kernel_rfl) (by kernel_rfl) (by kernel_rfl) (by kernel_rfl) (fun _ _ _ h => h) (Or.inl ⟨by rfl, ?_⟩) (by assumption) ?_
            rotate_left
            · (intro w hSw; (try dsimp only at hSw); have y2 := pw_cell_below hSw ((blk_cell G7.out 2).trans rfl); go_simp; try with_reducible rfl)
            simp only [Act.put, List.setIfInBounds_toArray, List.set_cons_zero, List.set_cons_succ]
            refine wpAnyZ_take (i := 4) (oi := { dst := some 44, op := Op.load 37 (Operand.tmp 7), type := 37, pos := "relay.go:55", after := #[], guard := none }) (v := ?_) rfl (by kernel_rfl) (by kernel_rfl) (by kernel_rfl) (by kernel_rfl) (fun _ _ _ h => h) (Or.inl ⟨by rfl, ?_⟩) (by assumption) ?_
            rotate_left
            · (intro w hSw; (try dsimp only at hSw); have z0 := pw_cell_below hSw ((blk_cell X7.out 0).trans rfl); have z1 := pw_cell_below hSw ((blk_cell X7.out 1).trans rfl); have z2 := pw_cell_below hSw ((blk_cell X7.out 2).trans rfl); have z3 := pw_cell_below hSw ((blk_cell X7.out 3).trans rfl); have z4 := pw_cell_below hSw ((blk_cell X7.out 4).trans rfl); have z5 := pw_cell_below hSw ((blk_cell X7.out 5).trans rfl); have z6 := pw_cell_below hSw ((blk_cell X7.out 6).trans rfl); have z7 := pw_cell_below hSw ((blk_cell X7.out 7).trans rfl); have z8 := pw_cell_below hSw ((blk_cell X7.out 8).trans rfl); have z9 := pw_cell_below hSw ((blk_cell X7.out 9).trans rfl); have z10 := pw_cell_below hSw ((blk_cell X7.out 10).trans rfl); have z11 := pw_cell_below hSw ((blk_cell X7.out 11).trans rfl); have z12 := pw_cell_below hSw ((blk_cell X7.out 12).trans rfl); have z13 := pw_cell_below hSw ((blk_cell X7.out 13).trans rfl); have z14 := pw_cell_below hSw ((blk_cell X7.out 14).trans rfl); have z15 := pw_cell_below hSw ((blk_cell X7.out 15).trans rfl); go_simp; try with_reducible rfl)
            simp only [Act.put, List.setIfInBounds_toArray, List.set_cons_zero, List.set_cons_succ]
            refine wpAnyZ_take (i := 6) (oi := { dst := some 46, op := Op.build 63 #[], type := 63, pos := "relay.go:55", after := #[], guard := none }) (v := ?_) rfl (by kernel_rfl) (by kernel_rfl) (by kernel_rfl) (by kernel_rfl) (fun _ _ _ h => h) (Or.inl ⟨by rfl, ?_⟩) (by assumption) ?_
            rotate_left
            · (intro w hSw; (try dsimp only at hSw); go_simp; try with_reducible rfl)
            simp only [Act.put, List.setIfInBounds_toArray, List.set_cons_zero, List.set_cons_succ]
            refine wpAnyZ_one (i := 5) (o := { dst := some 45, op := Op.call { callee := Callee.value (Operand.func 20), args := #[Operand.tmp 44], argTypes := #[37] }, type := 66, pos := "relay.go:55", after := #[{ on := 4, ground := Ground.data }], guard := none }) (by kernel_rfl) rfl (fun K hK => ?_)
            go_simp
            go_at_call 20
            refine (of_any x _ _ _ _ _ _).mono ?_
            rintro e wa ⟨rfl, hb0⟩
            have B9 := Aside0.mk (below_step hHeld hb0)
            have MA := M7.out.below B9.out
            obtain ⟨la, hla⟩ := pl_key FX.out.pl
            obtain ⟨w8, hrun8, hM8, hB8, hsz8⟩ := MA.push lawPl fkP_inj Try.underlying60 (x := pl x) hla (none_of HH.out) ()
            have hrun8 : (Instr.mapUpdate tPM (.map (some mb)) (.agg #[.int .u8 x.f1.f0, .int .u64 x.f1.f1, .int .u32 x.f3]) (.agg #[])).run Try.prog wa = .ok () w8 := hrun8
            have M8 := Aside0.mk hM8
            have S8 := Aside0.mk hB8
            clear hM8 hB8 MA hla
            try go_wp2_with fail
            refine hK.out _ _ (fun _ => B9.out) (fun hHeld => ?_)
            have hHeld := hHeld (by decide)
            clear hK K
            try simp only [Act.put, List.setIfInBounds_toArray, List.set_cons_zero, List.set_cons_succ]
            refine wpAnyZ_one (i := 7) (o := { dst := none, op := Op.mapUpdate 60 (Operand.tmp 43) (Operand.tmp 45) (Operand.tmp 46), type := 0, pos := "relay.go:55", after := #[{ on := 3, ground := Ground.data }, { on := 5, ground := Ground.data }, { on := 6, ground := Ground.data }, { on := 5, ground := Ground.chain }, { on := 0, ground := Ground.phase }, { on := 1, ground := Ground.phase }, { on := 2, ground := Ground.phase }, { on := 3, ground := Ground.phase }, { on := 4, ground := Ground.phase }, { on := 5, ground := Ground.phase }, { on := 6, ground := Ground.phase }], guard := none }) (by kernel_rfl) rfl (fun K hK => ?_)
            go_simp
            refine hK.out _ _ (fun h => absurd rfl h) (fun hHeld => ?_)
            clear hK K
            try simp only [Act.put, List.setIfInBounds_toArray, List.set_cons_zero, List.set_cons_succ]
            refine wpAnyZ_done (by kernel_rfl) ?_ _
            have Q8 : Aside0 (Que w8 (fun b => S b ∨ w.heap.size ≤ b) g mb n lost' (.slice A4 (L'.length + 1) c4) (L' ++ [x])) := ⟨⟨QC.out.S_g, QC.out.S_m, QC.out.ne, QC.out.n1, QC.out.n2, by simp; omega, QC.out.l0, (S8.out.block g (blk_lt (blk_below G7.out B9.out)) QC.out.ne).trans (blk_below G7.out B9.out), Kd.R_step (Kd.R_below R7.out B9.out) (fun b hb hlt => S8.out.block b hlt hb.2.2), by have := M8.out; unfold plE at this ⊢; rw [List.map_append]; exact this⟩⟩
            have BE8 := Aside0.mk ((BE7.out.then_below B9.out).then_ S8.out (fun b hb => by rw [hb]; exact QC.out.S_m))
            clear hHeld hrun8
            go_wp2_with fail
            go_roundg (l.length - (i + 1))
            case measure => omega
            case rel => exact ⟨i + 1, by go_num, by omega, by omega, L' ++ [x], lost', k + 1, _, by go_num, PS2, Q8, BE8⟩
    · obtain rfl : i = l.length := by omega
      have hltz : ¬ (l.length : Int) < (l.length : Int) := by omega
      rw [List.take_length] at PE
      have QE := Aside0.mk QI.out
      have BE := Aside0.mk BI.out
      clear QI BI
      go_wp2_with fail
      go_ret
      rw [PE.out]
      exact ⟨rfl, ⟨v', QE.out⟩, BE.out⟩
end

end Go.Proofs.Ytiiajenhjamjdaa.Walk
