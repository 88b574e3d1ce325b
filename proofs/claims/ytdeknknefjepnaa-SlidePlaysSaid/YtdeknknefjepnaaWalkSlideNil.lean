/- A nil window has nothing, and takes nothing. Conditions: none beyond the statement's own. -/
import Derived.Test.YtdeknknefjepnaaWalkLit
import Derived.Test.YtdeknknefjepnaaArgs
import Derived.Deep.QuietTactic
import Derived.BigQuiet
import Derived.Lib.QuietBelow
import Derived.Outline
import Derived.Deep.RegionHeld3
import Derived.Deep.CutRange
namespace Go.Proofs.Ytdeknknefjepnaa.Walk
open Go.RowKit Go.Proofs.Ytdeknknefjepnaa.F Go.Proofs.YtdeknknefjepnaaW.PrintWords Go.Proofs.YtdeknknefjepnaaW.PrintLast Go.Proofs.YtdeknknefjepnaaW.PrintMore Go.Proofs.Ytdeknknefjepnaa.Open
open Go.Sort (grow)
attribute [local go_sem] max2_int min2_int max_two min_two max_three min_three max_four min_four
set_option linter.unusedVariables false
set_option linter.unusedSimpArgs false

/-! ### The example, and the nil window -/
theorem lit3 (f : Int → Fr) (c : Int → List Value) : [(f 7, c 7), (f 8, c 8), (f 9, c 9)].map (·.1) = [f 7, f 8, f 9] := rfl
set_option maxHeartbeats 2000000 in
theorem awake_calls (w : World) : Calls Try.prog 7 #[] w fun e w' => e = .returned (.bool true) ∧ Below w.heap.size w w' := by
  go_enter Try.func7, Try.ntmps7
  go_wp2_with fail
  refine (New_calls 2 _).mono ?_
  rintro e w1 ⟨g, rfl, hge, hW, hb⟩
  have GE := Aside0.mk hge
  have W1 := Aside0.mk hW.bound
  have B1 := Aside0.mk hb
  clear hge hW hb
  go_wp2_with fail
  obtain ⟨w2, hw2⟩ : ∃ w2, w2 = w1.alloc (.cells #[.int .u8 0, .int .u8 0, .int .u8 0, .int .u8 0, .int .u64 0, .int .u64 0, .int .u32 7, .int .u32 0, .int .u32 0, .int .u64 0, .int .u64 0, .slice none 0 0, .slice none 0 0, .slice none 0 0, .slice none 0 0, .slice none 0 0, .int .u8 0, .int .u8 0, .int .u8 0, .int .u8 0, .int .u64 0, .int .u64 0, .int .u32 8, .int .u32 0, .int .u32 0, .int .u64 0, .int .u64 0, .slice none 0 0, .slice none 0 0, .slice none 0 0, .slice none 0 0, .slice none 0 0, .int .u8 0, .int .u8 0, .int .u8 0, .int .u8 0, .int .u64 0, .int .u64 0, .int .u32 9, .int .u32 0, .int .u32 0, .int .u64 0, .int .u64 0, .slice none 0 0, .slice none 0 0, .slice none 0 0, .slice none 0 0, .slice none 0 0] 36) := ⟨_, rfl⟩
  rw [← hw2]
  have hF : Kd.F kF w2 (fun b => ¬ (w.heap.size ≤ b ∧ b < w1.heap.size)) (some ⟨w1.heap.size, 0, none⟩) 3 [pf 0 0 0 0 0 0 7 0 0 0 0, pf 0 0 0 0 0 0 8 0 0 0 0, pf 0 0 0 0 0 0 9 0 0 0 0] := by
    refine Kd.F_mono (F_lit (t := 36) (g := w1.heap.size) (ok := fun _ => False) [(pf 0 0 0 0 0 0 7 0 0 0 0, pcells 0 0 0 0 0 0 7 0 0 0 0), (pf 0 0 0 0 0 0 8 0 0 0 0, pcells 0 0 0 0 0 0 8 0 0 0 0), (pf 0 0 0 0 0 0 9 0 0 0 0, pcells 0 0 0 0 0 0 9 0 0 0 0)] (by rw [hw2]; exact blk_new w1 _) (by simp) ?_) (fun k hk => by rcases hk with h | h; exact h.elim; omega)
    intro r hr
    simp only [List.mem_cons, List.not_mem_nil, or_false] at hr
    rcases hr with rfl | rfl | rfl <;> exact pf_FK _ _ _ _ _ _ _ _ _ _ _ _
  have W2 := W1.out.below (w1 := w2) (by rw [hw2]; exact below_alloc (Below.refl _ _) _)
  have B2 := Aside0.mk (show Below w.heap.size w w2 by rw [hw2]; exact below_alloc B1.out _)
  have hsz : w1.heap.size < w2.heap.size := by rw [hw2]; simp
  have P2 := Put_calls [pf 0 0 0 0 0 0 7 0 0 0 0, pf 0 0 0 0 0 0 8 0 0 0 0, pf 0 0 0 0 0 0 9 0 0 0 0] 2 w2 W2 hF (Nat.le_refl _) (fun f hf => by
    simp only [List.mem_cons, List.not_mem_nil, or_false] at hf
    rcases hf with rfl | rfl | rfl <;> exact pf_fok _ _ _ _ _ _ _ _ _ _ _) (by simp) (by simp [wid])
  have PP := Aside0.mk P2
  have SZ := Aside0.mk hsz
  clear hF W2 P2 hsz hw2
  refine PP.out.mono ?_
  rintro e w3 ⟨rfl, hW, hb⟩
  have W3 := Aside0.mk hW
  have B3 := Aside0.mk (Beside.step B2.out hb (fun k hk => hk.1))
  clear hW hb PP
  go_wp2_with fail
  refine (Waiting_calls 0 9 0 [{ pf 0 0 0 0 0 0 7 0 0 0 0 with f2 := 1 }, { pf 0 0 0 0 0 0 8 0 0 0 0 with f2 := 2 }] _ W3.out (by decide) (by decide) rfl rfl).mono ?_
  rintro e w4 ⟨v, rfl, ho, hb⟩
  obtain ⟨rb, c, rfl, hc, hrb, hlt⟩ := R_head ho (by simp)
  have B4 := Aside0.mk (below_step B3.out hb)
  obtain ⟨c0, _, m0, k0, _⟩ := Kd.R_elem ho z36 0 (by decide) (by decide)
  obtain ⟨c1, _, m1, k1, _⟩ := Kd.R_elem ho z36 1 (by decide) (by decide)
  obtain ⟨v11, v12, v13, v14, v15, rfl, _⟩ := k36_openM m0
  obtain ⟨v21, v22, v23, v24, v25, rfl, _⟩ := k36_openM m1
  have q1 : w4.cell? ⟨rb, 5, none⟩ = some (.int .u64 1) := k0 5 _ rfl
  have q2 : w4.cell? ⟨rb, 6, none⟩ = some (.int .u32 7) := k0 6 _ rfl
  have q3 : w4.cell? ⟨rb, 21, none⟩ = some (.int .u64 2) := k1 5 _ rfl
  have q4 : w4.cell? ⟨rb, 22, none⟩ = some (.int .u32 8) := k1 6 _ rfl
  clear ho hb k0 k1 m0 m1 hc hrb hlt
  go_wp2_with fail
  go_ret
  exact ⟨rfl, B4.out⟩
set_option maxHeartbeats 2000000 in
theorem SlideNil (a0 a1 : Int) (w : World) (w0 : (Lit.int .u32 a0).wf = true) (w1 : (Lit.int .u64 a1).wf = true) :
    Calls Try.prog 6 #[.int .u32 a0, .int .u64 a1] w fun e w' => e = .returned (.bool true) ∧ Below w.heap.size w w' := by
  clear w0 w1
  go_enter Try.func6, Try.ntmps6
  go_wp2_with fail
  refine (Put_nil _ _ _ (by decide) _).mono ?_
  rintro e w2 ⟨rfl, rfl⟩
  have B1 := Aside0.mk (below_alloc (Below.refl w.heap.size w) (.cells #[.int .u8 0, .int .u8 0, .int .u8 0, .int .u8 0, .int .u64 0, .int .u64 0, .int .u32 a0, .int .u32 0, .int .u32 0, .int .u64 0, .int .u64 0, .slice none 0 0, .slice none 0 0, .slice none 0 0, .slice none 0 0, .slice none 0 0] 36))
  go_wp2_with fail
  refine (Acked_nil _ _).mono ?_
  rintro e w2 ⟨rfl, rfl⟩
  go_wp2_with fail
  refine (Waiting_nil _ _ _).mono ?_
  rintro e w2 ⟨rfl, rfl⟩
  go_wp2_with fail
  refine (Waits_nil _).mono ?_
  rintro e w2 ⟨rfl, rfl⟩
  go_wp2_with fail
  refine (Room_nil _).mono ?_
  rintro e w2 ⟨rfl, rfl⟩
  go_wp2_with fail
  refine (First_nil _).mono ?_
  rintro e w2 ⟨rfl, rfl⟩
  go_wp2_with fail
  refine (Last_nil _).mono ?_
  rintro e w2 ⟨rfl, rfl⟩
  go_wp2_with fail
  refine (awake_calls _).mono ?_
  rintro e w4 ⟨rfl, hb⟩
  have B4 := Aside0.mk (below_step B1.out hb)
  clear hb
  go_wp2_with fail
  go_ret
  exact ⟨rfl, B4.out⟩

end Go.Proofs.Ytdeknknefjepnaa.Walk
