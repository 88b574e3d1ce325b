/- The document's Turn. Conditions: none beyond the statement's own. -/
import Derived.Test.YtemgfogpeogdeaaWalkRef
import Derived.Test.YtemgfogpeogdeaaWalkNearP
import Derived.Test.YtemgfogpeogdeaaArgs
import Derived.Deep.QuietTactic
import Derived.BigQuiet
import Derived.Lib.QuietBelow
import Derived.Outline
import Derived.Deep.RegionHeld3
import Derived.Deep.CutRange
namespace Go.Proofs.Ytemgfogpeogdeaa.Walk
open Go.RowKit Go.Proofs.Ytemgfogpeogdeaa.F Go.Proofs.YtemgfogpeogdeaaW.PrintWords Go.Proofs.YtemgfogpeogdeaaW.PrintLast Go.Proofs.YtemgfogpeogdeaaW.PrintMore Go.Proofs.Ytemgfogpeogdeaa.Open
open Go.Sort (grow)
attribute [local go_sem] max2_int min2_int max_two min_two max_three min_three max_four min_four
set_option linter.unusedVariables false
set_option linter.unusedSimpArgs false

/-! ### The document's Turn -/
theorem info2R : (Try.prog.info? 48).map (·.size) = some 2 := by
  have h := congrArg (Option.map (·.2.1)) infoR
  rw [Option.map_map] at h
  exact h
theorem blk_new2 (w : World) (o o2 o3 : Obj) : (((w.alloc o).alloc o2).alloc o3).heap[w.heap.size + 1 + 1]? = some o3 := by
  have h := blk_new ((w.alloc o).alloc o2) o3
  rwa [show ((w.alloc o).alloc o2).heap.size = w.heap.size + 1 + 1 by simp] at h
set_option maxHeartbeats 8000000 in
theorem refTurn_calls {w : World} {ok : Nat → Prop} {v : Value} {n : Nat} {L : List Th} {lost : Int} (hR : Kd.R kR eR w 0 ok v (L.map rt)) (i a bits : Int) (hL : L.length ≤ 4096) (h8 : ∀ x ∈ L, u8s x.f0 ∧ x.f0.length ≤ 1000000) (hb0 : 0 ≤ bits) (hb1 : bits < 4294967296) :
    Calls Try.prog 27 #[.agg #[.int .i64 n, v, .int .i64 lost], .int .i64 i, .int .i64 a, .int .u32 bits] w fun e w' => ∃ v', e = .returned (.tuple #[.agg #[.int .i64 n, v', .int .i64 lost], .bool (mayTurn L i a bits)]) ∧ Kd.R kR eR w' 0 (fun k => ok k ∨ w.heap.size ≤ k) v' ((turn L i a bits).map rt) ∧ Below w.heap.size w w' := by
  obtain ⟨A1, c1, rfl⟩ := Kd.R_slice hR
  rw [List.length_map] at hR ⊢
  have HR := Aside0.mk hR
  have hu := Try.underlying43
  by_cases hi : 0 ≤ i ∧ i < L.length
  · have d0 : decide (i < 0) = false := decide_eq_false (by omega)
    have d1 : decide ((L.length : Int) ≤ i) = false := decide_eq_false (by omega)
    by_cases hb : bits = 0
    · have e1 : mayTurn L i a bits = false := decide_eq_false (fun h => h.2.1 hb)
      have e2 : turn L i a bits = L := if_neg (by rw [e1]; simp)
      rw [e1, e2]
      subst hb
      clear e1 e2 hi hR h8
      go_enter Try.func27, Try.ntmps27
      go_wp2_with fail
      refine bodyPost_ret (results_ct rfl _ _ (w.heap.size + 1) tG #[.int .i64 n, .slice A1 L.length c1, .int .i64 lost] (0, 0) _ rfl (blk_new1 w _ _) hu rfl (by kernel_rfl)) rfl ?_
      exact ⟨_, rfl, Kd.R_mono (Kd.R_alloc (Kd.R_alloc HR.out _) _) (fun k hk => Or.inl hk), below_alloc (below_alloc (Below.refl _ _) _) _⟩
    · have hb' : (bits == 0) = false := beq_eq_false_iff_ne.2 hb
      by_cases h0 : a < 0
      · have e1 : mayTurn L i a bits = false := decide_eq_false (fun h => by have := h.2.2.1; omega)
        have e2 : turn L i a bits = L := if_neg (by rw [e1]; simp)
        rw [e1, e2]
        have d2 : decide (a < 0) = true := decide_eq_true h0
        clear e1 e2 hi hR h8
        go_enter Try.func27, Try.ntmps27
        go_wp2_with fail
        refine bodyPost_ret (results_ct rfl _ _ (w.heap.size + 1) tG #[.int .i64 n, .slice A1 L.length c1, .int .i64 lost] (0, 0) _ rfl (blk_new1 w _ _) hu rfl (by kernel_rfl)) rfl ?_
        exact ⟨_, rfl, Kd.R_mono (Kd.R_alloc (Kd.R_alloc HR.out _) _) (fun k hk => Or.inl hk), below_alloc (below_alloc (Below.refl _ _) _) _⟩
      · have d2 : decide (a < 0) = false := decide_eq_false h0
        obtain ⟨m, rfl⟩ : ∃ m : Nat, i = (m : Int) := ⟨i.toNat, by omega⟩
        obtain ⟨a, rfl⟩ : ∃ a' : Nat, a = (a' : Int) := ⟨a.toNat, by omega⟩
        have hml : m < L.length := by omega
        have hxm : L.getD m zT ∈ L := by
          rw [List.getD_eq_getElem?_getD, List.getElem?_eq_getElem hml]
          exact List.getElem_mem _
        have h8x := h8 _ hxm
        obtain ⟨x, hx⟩ : ∃ x, x = L.getD m zT := ⟨_, rfl⟩
        rw [← hx] at h8x
        have hC := (Kd.R_reads' hR).2.2
        rw [List.length_map] at hC
        obtain ⟨ad, ea, k0, k1⟩ := at_T48 hC (m : Int) (by omega) (by omega)
        cases ea
        have hrd : rd_T48 (L.map rt) (m : Int) = rt x := by
          unfold rd_T48
          rw [hx, Int.toNat_natCast, List.getD_eq_getElem?_getD, List.getElem?_map, List.getD_eq_getElem?_getD, List.getElem?_eq_getElem hml]
          rfl
        rw [hrd, Int.toNat_natCast] at k0 k1
        have k0 : w.cell? (ad.add (m * 2)) = some (.string (strOfNums x.f0)) := k0
        have k1 : w.cell? ⟨(ad.add (m * 2)).block, (ad.add (m * 2)).off + 1, none⟩ = some (.bool x.f1) := k1
        have k0 : ∀ o o', ((w.alloc o).alloc o').cell? (ad.add (m * 2)) = some (.string (strOfNums x.f0)) := fun o o' => ((below_alloc (below_alloc (Below.refl w.heap.size w) o) o').cell (World.block_lt_of_cell? w _ k0)).trans k0
        have k1 : ∀ o o', ((w.alloc o).alloc o').cell? ⟨(ad.add (m * 2)).block, (ad.add (m * 2)).off + 1, none⟩ = some (.bool x.f1) := fun o o' => ((below_alloc (below_alloc (Below.refl w.heap.size w) o) o').cell (World.block_lt_of_cell? w _ k1)).trans k1
        have e3 : mayTurn L m a bits = decide (x.f1 = false ∧ (a : Int) ≤ 8 * (x.f0.length : Int) - 32) := by
          unfold mayTurn
          rw [Int.toNat_natCast, ← hx]
          congr 1
          exact propext ⟨fun h => h.2.2.2, fun h => ⟨hi, hb, by omega, h⟩⟩
        have E3 := Aside0.mk e3
        have H8 := Aside0.mk h8x
        have HX := Aside0.mk hx
        have HML := Aside0.mk hml
        have HWL : Aside0 (wrap64 (8 * (x.f0.length : Int)) = 8 * (x.f0.length : Int)) := ⟨w64 (by omega) (by omega)⟩
        have HWL2 : Aside0 (wrap64 (8 * (x.f0.length : Int) - 32) = 8 * (x.f0.length : Int) - 32) := ⟨w64 (by omega) (by omega)⟩
        have hsz : (strOfNums x.f0).size = x.f0.length := strOfNums_size x.f0
        have pm : (0 ≤ (m : Int)) = True := eq_true (by omega)
        have qm : ((m : Int) < (L.length : Int)) = True := eq_true (by omega)
        clear e3 hi hR h8 hC hrd hx hxm h8x
        have d1n : decide (L.length ≤ m) = false := decide_eq_false (by omega)
        cases hf : x.f1 with
        | true =>
          rw [hf] at k1
          have e1 : mayTurn L m a bits = false := by rw [E3.out, hf]; simp
          have e2 : turn L m a bits = L := if_neg (by rw [e1]; simp)
          rw [e1, e2]
          clear e1 e2 hf
          go_enter Try.func27, Try.ntmps27
          go_wp2_with fail
          refine bodyPost_ret (results_ct rfl _ _ (w.heap.size + 1) tG #[.int .i64 n, .slice (some ad) L.length c1, .int .i64 lost] (0, 0) _ rfl (blk_alloc (blk_new1 w _ _) _) hu rfl (by kernel_rfl)) rfl ?_
          exact ⟨_, rfl, Kd.R_mono (Kd.R_alloc (Kd.R_alloc (Kd.R_alloc HR.out _) _) _) (fun k hk => Or.inl hk), below_alloc (below_alloc (below_alloc (Below.refl _ _) _) _) _⟩
        | false =>
          rw [hf] at k1
          by_cases hfit : 8 * (x.f0.length : Int) - 32 < a
          · have d3 : decide (8 * (x.f0.length : Int) - 32 < (a : Int)) = true := decide_eq_true hfit
            have e1 : mayTurn L m a bits = false := by rw [E3.out, hf]; simp; omega
            have e2 : turn L m a bits = L := if_neg (by rw [e1]; simp)
            rw [e1, e2]
            clear e1 e2 hf hfit
            have hwl := HWL.out
            have hwl2 := HWL2.out
            go_enter Try.func27, Try.ntmps27
            go_wp2_with fail
            refine bodyPost_ret (results_ct rfl _ _ (w.heap.size + 1) tG #[.int .i64 n, .slice (some ad) L.length c1, .int .i64 lost] (0, 0) _ rfl (blk_alloc (blk_new1 w _ _) _) hu rfl (by kernel_rfl)) rfl ?_
            exact ⟨_, rfl, Kd.R_mono (Kd.R_alloc (Kd.R_alloc (Kd.R_alloc HR.out _) _) _) (fun k hk => Or.inl hk), below_alloc (below_alloc (below_alloc (Below.refl _ _) _) _) _⟩
          · have d3 : decide (8 * (x.f0.length : Int) - 32 < (a : Int)) = false := decide_eq_false hfit
            have e1 : mayTurn L m a bits = true := by rw [E3.out, hf]; simp; omega
            have e2 : (turn L m a bits).map rt = (L.map rt).set m ⟨strOfNums (turnN bits a x.f0 32), true⟩ := by
              unfold turn
              rw [if_pos e1, Int.toNat_natCast, Int.toNat_natCast, ← HX.out, List.map_set]
              rfl
            rw [e1, e2]
            have TC := Aside0.mk (fun W => Turned_calls x.f0 a bits W H8.out.1 H8.out.2 (by omega) hb0 hb1)
            clear e1 e2 hf hfit
            have hwl := HWL.out
            have hwl2 := HWL2.out
            go_enter Try.func27, Try.ntmps27
            go_upto_region 6 with (fail)
            clear hwl hwl2
            have B3 : Aside0 (Below w.heap.size w (((w.alloc (.cells #[.int .i64 n, .slice (some ad) L.length c1, .int .i64 lost] tG)).alloc (.cells #[.int .i64 0, .slice none 0 0, .int .i64 0] tG)).alloc (.cells #[.string (strOfNums x.f0), .bool false] eR))) := ⟨below_alloc (below_alloc (below_alloc (Below.refl _ _) _) _) _⟩
            have X3 : Aside0 ((((w.alloc (.cells #[.int .i64 n, .slice (some ad) L.length c1, .int .i64 lost] tG)).alloc (.cells #[.int .i64 0, .slice none 0 0, .int .i64 0] tG)).alloc (.cells #[.string (strOfNums x.f0), .bool false] eR)).heap[w.heap.size]? = some (.cells #[.int .i64 n, .slice (some ad) L.length c1, .int .i64 lost] tG (0, 0))) := ⟨blk_alloc (blk_alloc (blk_new w _) _) _⟩
            have Y3 : Aside0 ((((w.alloc (.cells #[.int .i64 n, .slice (some ad) L.length c1, .int .i64 lost] tG)).alloc (.cells #[.int .i64 0, .slice none 0 0, .int .i64 0] tG)).alloc (.cells #[.string (strOfNums x.f0), .bool false] eR)).heap[w.heap.size + 1]? = some (.cells #[.int .i64 0, .slice none 0 0, .int .i64 0] tG (0, 0))) := ⟨blk_alloc (blk_new1 w _ _) _⟩
            have V3 : Aside0 ((((w.alloc (.cells #[.int .i64 n, .slice (some ad) L.length c1, .int .i64 lost] tG)).alloc (.cells #[.int .i64 0, .slice none 0 0, .int .i64 0] tG)).alloc (.cells #[.string (strOfNums x.f0), .bool false] eR)).heap[w.heap.size + 1 + 1]? = some (.cells #[.string (strOfNums x.f0), .bool false] eR (0, 0))) := ⟨blk_new2 w _ _ _⟩
            generalize ((w.alloc (.cells #[.int .i64 n, .slice (some ad) L.length c1, .int .i64 lost] tG)).alloc (.cells #[.int .i64 0, .slice none 0 0, .int .i64 0] tG)).alloc (.cells #[.string (strOfNums x.f0), .bool false] eR) = w3 at *
            have N3 : Aside0 (w.heap.size + 1 + 1 < w3.heap.size) := ⟨blk_lt V3.out⟩
            have HR3 := Aside0.mk (Kd.R_below HR.out B3.out)
            have HL2 : Aside0 (L.length ≤ 4096) := ⟨hL⟩
            have x1 : w3.cell? ⟨w.heap.size, 1, none⟩ = some (.slice (some ad) L.length c1) := (blk_cell X3.out 1).trans rfl
            have x1a : ∀ o, (w3.alloc o).cell? ⟨w.heap.size, 1, none⟩ = some (.slice (some ad) L.length c1) := fun o => (blk_cell (blk_alloc X3.out o) 1).trans rfl
            clear k0 k1
            go_wp2_with ((with_reducible refine gate_dst (N := 50) rfl ?_); refine Kd.R_append_rows kR (Rr := cR) (w0 := w3) w3.heap.size rfl (.tmp 47) (.tmp 49) 41 eR (.agg #[.string ⟨#[]⟩, .bool false]) 24 rfl Try.underlying41 infoR rfl (by decide) (by decide) (.slice (some ⟨w3.heap.size, 0, none⟩) 0 0) [] (L.map rt) (some ad) L.length c1 (fun k => w3.heap.size ≤ k) (fun _ => False) rfl rfl (R_empty kR (blk_new w3 _) (Nat.le_refl _) (Nat.le_refl _)) (C_cR (by have h9 := (Kd.R_reads' HR3.out).2.2; rw [List.length_map] at h9; exact Kd.C_below h9 (below_alloc (Below.refl _ _) _))) cR_M (fun _ h => h.elim) (fun k hk => Nat.le_trans (below_alloc (Below.refl w3.heap.size w3) _).size hk) (below_alloc (Below.refl _ _) _) (below_alloc (Below.refl w3.heap.size w3) _).size (by have := HL2.out; simp; omega) ?_; intro v5 w5 hr hb hg hat; rw [List.nil_append] at hr; obtain ⟨rg, c5, rfl, hc5, hrb, hrl⟩ := R_head hr (by rw [List.length_map]; omega); rw [List.length_map] at hr; have R5 := Aside0.mk hr; have B5 := Aside0.mk hb; have RB := Aside0.mk hrb; clear hr hb hg hat hc5 hrb hrl; have v50 : w5.cell? ⟨w.heap.size + 1 + 1, 0, none⟩ = some (.string (strOfNums x.f0)) := (blk_cell (blk_below V3.out B5.out) 0).trans rfl)
            refine (TC.out _).mono ?_
            rintro e w6 ⟨rfl, hb⟩
            have B6 := Aside0.mk (below_step B5.out hb)
            have R6 := Aside0.mk (Kd.R_below R5.out hb)
            clear hb x1 x1a v50
            obtain ⟨c0, hcl, _, hcc, _⟩ := Kd.R_elem R6.out zR (m : Int) (by omega) (by omega)
            have HCC := Aside0.mk hcc
            have HCL := Aside0.mk hcl
            clear hcc hcl
            obtain ⟨Y, hY⟩ : ∃ Y, Y = strOfNums (turnN bits a x.f0 32) := ⟨_, rfl⟩
            rw [← hY]
            have HYO := Aside0.mk hY
            clear hY TC
            have hml' : ((m : Int)) < (L.length : Nat) := by omega
            go_wp2_with ((with_reducible refine gate_ (.store eR (.tmp 59) (.tmp 58)) rfl ?_); refine Kd.R_store kR (w0 := w3) w3.heap.size rfl rfl eR (.tmp 59) (.tmp 58) rfl eR (m : Int) 0 (L.map rt) ⟨Y, true⟩ (.agg #[.string Y, .bool true]) [.string Y, .bool true] c0 (fun k => w3.heap.size ≤ k) (fun _ => False) rfl (by show m * 2 = (m : Int).toNat * 2 + 0; simp) rfl rfl info2R (fun q hq => by simp only [List.mem_cons, List.not_mem_nil, or_false] at hq; rcases hq with rfl | rfl <;> rfl) R6.out (by omega) hml' HCL.out HCC.out (by show 0 + 2 ≤ 2; exact Nat.le_refl _) (by rw [List.drop_of_length_le (by rw [HCL.out]; exact Nat.le_refl 2)]; exact k48_mkM w6 _ _ (⟨Y, true⟩ : S48)) (fun _ hk => hk.elim) B6.out ?_; intro w7 hr hb hg; rw [Int.toNat_natCast] at hr; have R7 := Aside0.mk hr; have B7 := Aside0.mk hb; clear hr hb hg; have g7 := blk_below X3.out B7.out; have x70 : w7.cell? ⟨w.heap.size, 0, none⟩ = some (.int .i64 n) := (blk_cell g7 0).trans rfl; have x71 : w7.cell? ⟨w.heap.size, 1, none⟩ = some (.slice (some ad) L.length c1) := (blk_cell g7 1).trans rfl; have x72 : w7.cell? ⟨w.heap.size, 2, none⟩ = some (.int .i64 lost) := (blk_cell g7 2).trans rfl; have z71 := blk_frozen g7 1; have GX7 := Aside0.mk g7; clear g7; have h7 := blk_below Y3.out B7.out; have y70 : w7.cell? ⟨w.heap.size + 1, 0, none⟩ = some (.int .i64 0) := (blk_cell h7 0).trans rfl; have y71 : w7.cell? ⟨w.heap.size + 1, 1, none⟩ = some (.slice none 0 0) := (blk_cell h7 1).trans rfl; have y72 : w7.cell? ⟨w.heap.size + 1, 2, none⟩ = some (.int .i64 0) := (blk_cell h7 2).trans rfl; have f70 := blk_frozen h7 0; have f71 := blk_frozen h7 1; have f72 := blk_frozen h7 2; clear h7)
            have hne : w.heap.size + 1 ≠ w.heap.size := Nat.succ_ne_self _
            have Y8 : Aside0 ((w7.setCell ⟨w.heap.size, 1, none⟩ (.slice (some ⟨rg, 0, none⟩) L.length c5)).heap[w.heap.size + 1]? = some (.cells #[.int .i64 0, .slice none 0 0, .int .i64 0] tG (0, 0))) := ⟨(Below.heap_setCell w7 ⟨w.heap.size, 1, none⟩ _ _ hne).trans (blk_below Y3.out B7.out)⟩
            have X8 : Aside0 ((w7.setCell ⟨w.heap.size, 1, none⟩ (.slice (some ⟨rg, 0, none⟩) L.length c5)).heap[w.heap.size]? = some (.cells #[.int .i64 n, .slice (some ⟨rg, 0, none⟩) L.length c5, .int .i64 lost] tG (0, 0))) := ⟨blk_put GX7.out 1 _ rfl⟩
            have R8 : Aside0 (Kd.R kR eR (w7.setCell ⟨w.heap.size, 1, none⟩ (.slice (some ⟨rg, 0, none⟩) L.length c5)) w3.heap.size (fun k => w3.heap.size ≤ k) (.slice (some ⟨rg, 0, none⟩) L.length c5) ((L.map rt).set m ⟨Y, true⟩)) := ⟨Kd.R_far R7.out (fun k hk => by have h1 : w3.heap.size ≤ k := hk; have := N3.out; show k ≠ w.heap.size; omega) _⟩
            have B8 : Aside0 (Below w.heap.size w (w7.setCell ⟨w.heap.size, 1, none⟩ (.slice (some ⟨rg, 0, none⟩) L.length c5))) := ⟨(below_step B3.out B7.out).setCell (p := ⟨w.heap.size, 1, none⟩) (Nat.le_refl _) _⟩
            refine bodyPost_ret (results_ct rfl _ _ (w.heap.size + 1) tG #[.int .i64 n, .slice (some ⟨rg, 0, none⟩) L.length c5, .int .i64 lost] (0, 0) _ rfl (put3 Y8.out) hu rfl (by kernel_rfl)) rfl ?_
            rw [← HYO.out]
            refine ⟨_, rfl, Kd.R_lower (Kd.R_mono (Kd.R_far (p := ⟨w.heap.size + 1, 2, none⟩) (Kd.R_far (p := ⟨w.heap.size + 1, 1, none⟩) (Kd.R_far (p := ⟨w.heap.size + 1, 0, none⟩) R8.out ?_ _) ?_ _) ?_ _) (fun k hk => Or.inr (by have h1 : w3.heap.size ≤ k := hk; have := N3.out; omega))) (Nat.zero_le _), ((B8.out.setCell (p := ⟨w.heap.size + 1, 0, none⟩) (Nat.le_succ _) _).setCell (p := ⟨w.heap.size + 1, 1, none⟩) (Nat.le_succ _) _).setCell (p := ⟨w.heap.size + 1, 2, none⟩) (Nat.le_succ _) _⟩
            all_goals exact fun k hk => by have h1 : w3.heap.size ≤ k := hk; have := N3.out; show k ≠ w.heap.size + 1; omega
  · have e1 : mayTurn L i a bits = false := decide_eq_false (fun h => hi h.1)
    have e2 : turn L i a bits = L := if_neg (by rw [e1]; simp)
    rw [e1, e2]
    clear e1 e2 hR h8
    by_cases h0 : i < 0
    · have d0 : decide (i < 0) = true := decide_eq_true h0
      clear hi
      go_enter Try.func27, Try.ntmps27
      go_wp2_with fail
      refine bodyPost_ret (results_ct rfl _ _ (w.heap.size + 1) tG #[.int .i64 n, .slice A1 L.length c1, .int .i64 lost] (0, 0) _ rfl (blk_new1 w _ _) hu rfl (by kernel_rfl)) rfl ?_
      exact ⟨_, rfl, Kd.R_mono (Kd.R_alloc (Kd.R_alloc HR.out _) _) (fun k hk => Or.inl hk), below_alloc (below_alloc (Below.refl _ _) _) _⟩
    · have d0 : decide (i < 0) = false := decide_eq_false h0
      have d1 : decide ((L.length : Int) ≤ i) = true := decide_eq_true (by omega)
      clear hi
      go_enter Try.func27, Try.ntmps27
      go_wp2_with fail
      refine bodyPost_ret (results_ct rfl _ _ (w.heap.size + 1) tG #[.int .i64 n, .slice A1 L.length c1, .int .i64 lost] (0, 0) _ rfl (blk_new1 w _ _) hu rfl (by kernel_rfl)) rfl ?_
      exact ⟨_, rfl, Kd.R_mono (Kd.R_alloc (Kd.R_alloc HR.out _) _) (fun k hk => Or.inl hk), below_alloc (below_alloc (Below.refl _ _) _) _⟩

end Go.Proofs.Ytemgfogpeogdeaa.Walk
