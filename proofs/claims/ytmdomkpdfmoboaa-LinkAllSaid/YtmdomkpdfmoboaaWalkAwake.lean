/- The example of a link. Conditions: none beyond the statement's own. -/
import Derived.Test.YtmdomkpdfmoboaaWalkNil
import Derived.Test.YtmdomkpdfmoboaaArgs
import Derived.Deep.QuietTactic
import Derived.BigQuiet
import Derived.Lib.QuietBelow
import Derived.Outline
import Derived.Deep.RegionHeld3
import Derived.Deep.CutRange
namespace Go.Proofs.Ytmdomkpdfmoboaa.Walk
open Go.RowKit Go.Proofs.Ytmdomkpdfmoboaa.F Go.Proofs.YtmdomkpdfmoboaaW.PrintWords Go.Proofs.YtmdomkpdfmoboaaW.PrintLast Go.Proofs.YtmdomkpdfmoboaaW.PrintMore Go.Proofs.Ytmdomkpdfmoboaa.Open
open Go.Sort (grow)
attribute [local go_sem] max2_int min2_int max_two min_two max_three min_three max_four min_four
set_option linter.unusedVariables false
set_option linter.unusedSimpArgs false

/-! ### The example -/
theorem LkB.own {w w1 : World} {S : Nat → Prop} {base : Nat} {v : Value} {X : List Fr} (hR : Kd.R kF eF w base (fun _ => True) v X) (hB : Beside S w w1) (hs : ∀ k, S k → k < base) : Kd.R kF eF w1 base (fun _ => True) v X :=
  Kd.R_mono (Kd.R_kept (Kd.R_bound hR) hB.kept (fun k hk e => by have := hk.2.1; have := hs k e; omega)) (fun _ _ => trivial)
def awA : LS := sentS ⟨wid 4, 0, [], Acc.g0, 0, 1, agn 5, 0, 0, 0⟩ (pf 0 0 0 0 0 0 7 0 0 0 0) 1
def awX : Fr := { pf 1 0 1 0 0 0 7 0 0 0 0 with f2 := 1 }
theorem aw1 : outL awA 0 = [awX] := rfl
theorem aw2 : outL (outS awA 0) 1 = [] := rfl
theorem aw3 : outL (outS (outS awA 0) 1) 5 = [awX] := rfl
set_option maxHeartbeats 2000000 in
set_option maxRecDepth 100000 in
theorem awake_calls (w : World) : Calls Try.prog 9 #[] w fun e w' => e = .returned (.bool true) ∧ Below w.heap.size w w' := by
  go_enter Try.func9, Try.ntmps9
  go_wp2_with fail
  refine (LNew_calls 0 1 4 5 _ ⟨by decide, by decide⟩ ⟨by decide, by decide⟩).mono ?_
  rintro e w1 ⟨g, rfl, hge, hL, hb⟩
  obtain ⟨gw, gg, hL⟩ := hL
  have L1 := Aside0.mk hL.bound
  have B1 := Aside0.mk hb
  clear hge hL hb
  go_wp2_with fail
  obtain ⟨w2, hw2⟩ : ∃ w2, w2 = w1.alloc (.cells #[.int .u8 0, .int .u8 0, .int .u8 0, .int .u8 0, .int .u64 0, .int .u64 0, .int .u32 7, .int .u32 0, .int .u32 0, .int .u64 0, .int .u64 0, .slice none 0 0, .slice none 0 0, .slice none 0 0, .slice none 0 0, .slice none 0 0] 39) := ⟨_, rfl⟩
  rw [← hw2]
  have hF : Kd.F kF w2 (fun b => b = w1.heap.size) (some ⟨w1.heap.size, 0, none⟩) 1 [pf 0 0 0 0 0 0 7 0 0 0 0] := by
    refine Kd.F_mono (F_lit (t := 39) (g := w1.heap.size) (ok := fun _ => False) (d := kF) [(pf 0 0 0 0 0 0 7 0 0 0 0, pcells 0 0 0 0 0 0 7 0 0 0 0)] (by rw [hw2]; exact blk_new w1 _) (by simp) ?_) (fun k hk => by rcases hk with h | h; exact h.elim; exact h)
    intro r hr
    rw [List.mem_singleton.1 hr]
    exact pf_FK _ _ _ _ _ _ _ _ _ _ _ _
  have L2 := Aside0.mk (L1.out.below (w1 := w2) (by rw [hw2]; exact below_alloc (Below.refl _ _) _))
  have B2 := Aside0.mk (show Below w.heap.size w w2 by rw [hw2]; exact below_alloc B1.out _)
  have SZ : Aside0 (w1.heap.size < w2.heap.size) := ⟨by rw [hw2]; simp⟩
  have SD := Aside0.mk (Send1_calls (pf 0 0 0 0 0 0 7 0 0 0 0) 1 w2 L2.out hF (fun b hb hS => by have := hS.2; have h9 : b = w1.heap.size := hb; omega) (Nat.le_refl _) (pf_fok _ _ _ _ _ _ _ _ _ _ _) (by decide) (by decide))
  clear hF hw2 L1 B1
  refine SD.out.mono ?_
  rintro e w3 ⟨rfl, hL, hb⟩
  have L3 := Aside0.mk hL.bound
  have B3 := Aside0.mk (Beside.step B2.out hb (fun k hk => hk.1))
  have Z3 := Aside0.mk hb.size
  clear hL hb SD L2
  go_wp2_with fail
  have HO := Out_calls (s := awA) 0 0 w3 L3.out (by decide) (fun k hk => hk.2)
  rw [aw1] at HO
  refine HO.mono ?_
  clear HO
  rintro e w4 ⟨va, rfl, ho, hL, hb⟩
  obtain ⟨ra, ca, rfl, _, ha1, ha2⟩ := R_head ho (by decide)
  have RA := Aside0.mk ho
  have L4 := Aside0.mk hL
  have B4 := Aside0.mk (Beside.step B3.out hb (fun k hk => by
    rcases hk.1 with h | h
    · exact h.1
    · have := B2.out.size; omega))
  have SS : Aside0 (∀ k, ((w.heap.size ≤ k ∧ k < w1.heap.size) ∨ w2.heap.size ≤ k) ∧ k < w3.heap.size → w.heap.size ≤ k) := ⟨fun k hk => by
    rcases hk.1 with h | h
    · exact h.1
    · have := B2.out.size; omega⟩
  have Z4 := Aside0.mk hb.size
  clear ho hL hb ha1 ha2 B2 B3
  go_wp2_with fail
  have HO := Out_calls 1 1 w4 L4.out (by decide) (fun k hk => by have := hk.2; have := Z4.out; omega)
  rw [aw2] at HO
  refine HO.mono ?_
  clear HO
  rintro e w5 ⟨vb, rfl, ho, hL, hb⟩
  obtain ⟨Ab, cb, rfl⟩ := Kd.R_slice ho
  have RA5 := Aside0.mk (LkB.own RA.out hb (fun k hk => hk.2))
  have L5 := Aside0.mk hL
  have B5 := Aside0.mk (Beside.step B4.out hb SS.out)
  have Z5 := Aside0.mk hb.size
  clear ho hL hb
  go_wp2_with fail
  have HO := Out_calls 5 5 w5 L5.out (by decide) (fun k hk => by have := hk.2; have := Z4.out; have := Z5.out; omega)
  rw [aw3] at HO
  refine HO.mono ?_
  clear HO
  rintro e w6 ⟨vc, rfl, ho, hL, hb⟩
  obtain ⟨rc, cc, rfl, _, _, _⟩ := R_head ho (by decide)
  have RA6 := LkB.own RA5.out hb (fun k hk => hk.2)
  have B6 := Aside0.mk (Beside.step B5.out hb SS.out)
  obtain ⟨c0, _, m0, k0, _⟩ := Kd.R_elem RA6 z39 0 (by decide) (by decide)
  obtain ⟨c1, _, m1, k1, _⟩ := Kd.R_elem ho z39 0 (by decide) (by decide)
  obtain ⟨v11, v12, v13, v14, v15, rfl, _⟩ := k39_openM m0
  obtain ⟨v21, v22, v23, v24, v25, rfl, _⟩ := k39_openM m1
  have q1 : w6.cell? ⟨ra, 6, none⟩ = some (.int .u32 7) := k0 6 _ rfl
  have q2 : w6.cell? ⟨ra, 0, none⟩ = some (.int .u8 1) := k0 0 _ rfl
  have q3 : w6.cell? ⟨rc, 5, none⟩ = some (.int .u64 1) := k1 5 _ rfl
  clear ho hL hb k0 k1 m0 m1 RA RA5 RA6
  go_wp2_with fail
  try go_quiet (fail)
  go_wp2_with fail
  go_ret
  exact ⟨rfl, B6.out⟩

end Go.Proofs.Ytmdomkpdfmoboaa.Walk
