/- The document's Twice. Conditions: none beyond the statement's own. -/
import Derived.Test.YtemgfogpeogdeaaWalkRef
import Derived.Test.YtemgfogpeogdeaaWalkTwice
import Derived.Test.YtemgfogpeogdeaaArgs
import Derived.Deep.QuietTactic
import Derived.BigQuiet
import Derived.Lib.QuietBelow
import Derived.Outline
import Derived.Deep.RegionHeld3
import Derived.Deep.CutRange
import Derived.Deep.RegionLaw
namespace Go.Proofs.Ytemgfogpeogdeaa.Walk
open Go.RowKit Go.Proofs.Ytemgfogpeogdeaa.F Go.Proofs.YtemgfogpeogdeaaW.PrintWords Go.Proofs.YtemgfogpeogdeaaW.PrintLast Go.Proofs.YtemgfogpeogdeaaW.PrintMore Go.Proofs.Ytemgfogpeogdeaa.Open
open Go.Sort (grow)
attribute [local go_sem] max2_int min2_int max_two min_two max_three min_three max_four min_four
set_option linter.unusedVariables false
set_option linter.unusedSimpArgs false

/-! ### The document's Twice -/
set_option maxHeartbeats 8000000 in
theorem refTwice_calls {w : World} {ok : Nat → Prop} {v : Value} {n : Nat} {L : List Th} {lost : Int} (hR : Kd.R kR eR w 0 ok v (L.map rt)) (i : Int) (hn : n ≤ 4096) (hL : L.length ≤ n) :
    Calls Try.prog 26 #[.agg #[.int .i64 n, v, .int .i64 lost], .int .i64 i] w fun e w' => ∃ v', e = .returned (.tuple #[.agg #[.int .i64 n, v', .int .i64 lost], .bool (mayTwice n L i)]) ∧ Kd.R kR eR w' 0 (fun k => ok k ∨ w.heap.size ≤ k) v' ((twice n L i).map rt) ∧ Below w.heap.size w w' := by
  obtain ⟨A1, c1, rfl⟩ := Kd.R_slice hR
  rw [List.length_map] at hR ⊢
  have HR := Aside0.mk hR
  have HLN := Aside0.mk hL
  have hu := Try.underlying43
  by_cases hi : 0 ≤ i ∧ i < L.length
  · have d0 : decide (i < 0) = false := decide_eq_false (by omega)
    have d1 : decide ((L.length : Int) ≤ i) = false := decide_eq_false (by omega)
    by_cases h : L.length < n
    · have h1 : decide ((n : Int) ≤ (L.length : Int)) = false := decide_eq_false (by omega)
      have h2 : decide (n ≤ L.length) = false := decide_eq_false (by omega)
      obtain ⟨X, hX⟩ : ∃ X, X = rt (L.getD i.toNat zT) := ⟨_, rfl⟩
      have e1 : mayTwice n L i = true := decide_eq_true ⟨hi, h⟩
      have e2 : (twice n L i).map rt = L.map rt ++ [X] := by
        rw [hX]
        unfold twice
        rw [if_pos ⟨hi, h⟩]
        simp
      rw [e1, e2]
      have hC := (Kd.R_reads' hR).2.2
      rw [List.length_map] at hC
      obtain ⟨ad, ea, k0, k1⟩ := at_T48 hC i hi.1 hi.2
      cases ea
      have hrd : rd_T48 (L.map rt) i = X := by
        unfold rd_T48
        rw [hX, List.getD_eq_getElem?_getD, List.getElem?_map, List.getD_eq_getElem?_getD, List.getElem?_eq_getElem (by omega)]
        rfl
      rw [hrd] at k0 k1
      have K0 : Aside0 (∀ W, Below w.heap.size w W → W.cell? (ad.add (i.toNat * 2)) = some (.string X.f0)) := ⟨fun W hb => (hb.cell (World.block_lt_of_cell? w _ k0)).trans k0⟩
      have K1 : Aside0 (∀ W, Below w.heap.size w W → W.cell? ⟨(ad.add (i.toNat * 2)).block, (ad.add (i.toNat * 2)).off + 1, none⟩ = some (.bool X.f1)) := ⟨fun W hb => (hb.cell (World.block_lt_of_cell? w _ k1)).trans k1⟩
      have p1 : (0 ≤ i) = True := eq_true hi.1
      have p2 : (i < (L.length : Int)) = True := eq_true hi.2
      have HL := Aside0.mk hL
      clear e1 e2 hC k0 k1 hrd hX hR hi
      go_enter Try.func26, Try.ntmps26
      go_wp2_with fail
      have B2 : Aside0 (Below w.heap.size w ((w.alloc (.cells #[.int .i64 n, .slice (some ad) L.length c1, .int .i64 lost] tG)).alloc (.cells #[.int .i64 0, .slice none 0 0, .int .i64 0] tG))) := ⟨below_alloc (below_alloc (Below.refl _ _) _) _⟩
      have X2 : Aside0 (((w.alloc (.cells #[.int .i64 n, .slice (some ad) L.length c1, .int .i64 lost] tG)).alloc (.cells #[.int .i64 0, .slice none 0 0, .int .i64 0] tG)).heap[w.heap.size]? = some (.cells #[.int .i64 n, .slice (some ad) L.length c1, .int .i64 lost] tG (0, 0))) := ⟨blk_alloc (blk_new w _) _⟩
      have Y2 : Aside0 (((w.alloc (.cells #[.int .i64 n, .slice (some ad) L.length c1, .int .i64 lost] tG)).alloc (.cells #[.int .i64 0, .slice none 0 0, .int .i64 0] tG)).heap[w.heap.size + 1]? = some (.cells #[.int .i64 0, .slice none 0 0, .int .i64 0] tG (0, 0))) := ⟨blk_new1 w _ _⟩
      generalize (w.alloc (.cells #[.int .i64 n, .slice (some ad) L.length c1, .int .i64 lost] tG)).alloc (.cells #[.int .i64 0, .slice none 0 0, .int .i64 0] tG) = w2 at *
      have f0 := K0.out w2 B2.out
      have f1 := K1.out w2 B2.out
      have f0a := fun o => K0.out (w2.alloc o) (below_alloc B2.out o)
      have f1a := fun o => K1.out (w2.alloc o) (below_alloc B2.out o)
      have x1 : w2.cell? ⟨w.heap.size, 1, none⟩ = some (.slice (some ad) L.length c1) := (blk_cell X2.out 1).trans rfl
      have x1a : ∀ o, (w2.alloc o).cell? ⟨w.heap.size, 1, none⟩ = some (.slice (some ad) L.length c1) := fun o => (blk_cell (blk_alloc X2.out o) 1).trans rfl
      have x1b : ∀ o o', ((w2.alloc o).alloc o').cell? ⟨w.heap.size, 1, none⟩ = some (.slice (some ad) L.length c1) := fun o o' => (blk_cell (blk_alloc (blk_alloc X2.out o) o') 1).trans rfl
      have N2 : Aside0 (w.heap.size + 1 < w2.heap.size) := ⟨blk_lt Y2.out⟩
      have HR2 := Aside0.mk (Kd.R_below HR.out B2.out)
      have HL2 : Aside0 (L.length ≤ 4096) := ⟨by have := HLN.out; omega⟩
      go_region_law
        ((first
          | (refine Kd.R_append_rows_step kR (Rr := cR) (w0 := w2) w2.heap.size (by rfl) (.tmp 24) (.tmp 26) 41 eR (.agg #[.string ⟨#[]⟩, .bool false]) 24 rfl Try.underlying41 infoR rfl (by decide) (by decide) (.slice (some ⟨w2.heap.size, 0, none⟩) 0 0) [] (L.map rt) (some ad) L.length c1 (fun k => w2.heap.size ≤ k) (fun _ => False) rfl rfl (R_empty kR (by first | exact blk_new w2 _ | exact blk_alloc (blk_new w2 _) _ | exact blk_new1 w2 _ _) (by simp <;> omega) (by simp <;> omega)) (C_cR (by have h9 := (Kd.R_reads' HR2.out).2.2; rw [List.length_map] at h9; first | exact Kd.C_below h9 (below_drew (below_alloc (Below.refl _ _) _)) | exact Kd.C_below h9 (below_drew (below_alloc (below_alloc (Below.refl _ _) _) _)) | exact Kd.C_below h9 (below_alloc (Below.refl _ _) _) | exact Kd.C_below h9 (below_alloc (below_alloc (Below.refl _ _) _) _))) cR_M (fun _ h => h.elim) (fun k hk => by first | exact Nat.le_trans (below_drew (below_alloc (Below.refl _ _) _)).size hk | exact Nat.le_trans (below_drew (below_alloc (below_alloc (Below.refl _ _) _) _)).size hk) (by first | exact below_drew (below_alloc (Below.refl _ _) _) | exact below_drew (below_alloc (below_alloc (Below.refl _ _) _) _)) (by simp <;> omega) (by have := HL2.out; simp; omega) ?_; intro v5 w5 hr hb hg hat; obtain ⟨A5, c5, rfl⟩ := Kd.R_slice hr; rw [List.nil_append, show (L.map rt).length = L.length by simp] at hr; have R5 := Aside0.mk hr; have G5 := Aside0.mk hg; have B5 := Aside0.mk hb; clear hr hb hg hat; have e50 := K0.out w5 (below_step B2.out B5.out); have e51 := K1.out w5 (below_step B2.out B5.out); have e5b : w5.cell? ⟨w.heap.size, 1, none⟩ = some (.slice (some ad) L.length c1) := (blk_cell (blk_below X2.out B5.out) 1).trans rfl)
          | (refine Kd.R_append_rows_step kR (Rr := cR) (w0 := w2) w2.heap.size (by rfl) (.tmp 24) (.tmp 26) 41 eR (.agg #[.string ⟨#[]⟩, .bool false]) 24 rfl Try.underlying41 infoR rfl (by decide) (by decide) (.slice (some ⟨w2.heap.size + 1, 0, none⟩) 0 0) [] (L.map rt) (some ad) L.length c1 (fun k => w2.heap.size ≤ k) (fun _ => False) rfl rfl (R_empty kR (by first | exact blk_new w2 _ | exact blk_alloc (blk_new w2 _) _ | exact blk_new1 w2 _ _) (by simp <;> omega) (by simp <;> omega)) (C_cR (by have h9 := (Kd.R_reads' HR2.out).2.2; rw [List.length_map] at h9; first | exact Kd.C_below h9 (below_drew (below_alloc (Below.refl _ _) _)) | exact Kd.C_below h9 (below_drew (below_alloc (below_alloc (Below.refl _ _) _) _)) | exact Kd.C_below h9 (below_alloc (Below.refl _ _) _) | exact Kd.C_below h9 (below_alloc (below_alloc (Below.refl _ _) _) _))) cR_M (fun _ h => h.elim) (fun k hk => by first | exact Nat.le_trans (below_drew (below_alloc (Below.refl _ _) _)).size hk | exact Nat.le_trans (below_drew (below_alloc (below_alloc (Below.refl _ _) _) _)).size hk) (by first | exact below_drew (below_alloc (Below.refl _ _) _) | exact below_drew (below_alloc (below_alloc (Below.refl _ _) _) _)) (by simp <;> omega) (by have := HL2.out; simp; omega) ?_; intro v5 w5 hr hb hg hat; obtain ⟨A5, c5, rfl⟩ := Kd.R_slice hr; rw [List.nil_append, show (L.map rt).length = L.length by simp] at hr; have R5 := Aside0.mk hr; have G5 := Aside0.mk hg; have B5 := Aside0.mk hb; clear hr hb hg hat; have e50 := K0.out w5 (below_step B2.out B5.out); have e51 := K1.out w5 (below_step B2.out B5.out); have e5b : w5.cell? ⟨w.heap.size, 1, none⟩ = some (.slice (some ad) L.length c1) := (blk_cell (blk_below X2.out B5.out) 1).trans rfl)
          | (refine Kd.R_append_rows_step kR (Rr := cR) (w0 := w2) w2.heap.size (by rfl) (.tmp 27) (.tmp 33) 41 eR (.agg #[.string ⟨#[]⟩, .bool false]) 24 rfl Try.underlying41 infoR rfl (by decide) (by decide) _ (L.map rt) [X] _ 1 1 (fun k => w2.heap.size ≤ k) (fun _ => False) rfl rfl (by first | exact R5.out | exact Kd.R_alloc R5.out _) (by first | exact one_cR (x := X) (blk_new w5 _) | exact one_cR (x := X) ((G5.out.block _ (by simp <;> omega) (by simp [Value.ownBlock] <;> omega)).trans (blk_new1 w2 _ _)) | exact one_cR (x := X) ((G5.out.block _ (by simp <;> omega) (by simp [Value.ownBlock] <;> omega)).trans (blk_alloc (blk_new w2 _) _))) cR_M (fun _ h => h.elim) (fun k hk => by first | exact Nat.le_trans B5.out.size hk | exact Nat.le_trans (below_alloc B5.out _).size hk) (by first | exact B5.out | exact below_alloc B5.out _) (by first | exact B5.out.size | exact (below_alloc B5.out _).size) (by have := HL2.out; rw [List.length_map]; omega) ?_; intro v6 w6 hr hb hg hat; obtain ⟨A6, c6, rfl⟩ := Kd.R_slice hr; rw [show (L.map rt ++ [X]).length = L.length + 1 by simp] at hr; have R6 := Aside0.mk hr; have B6 := Aside0.mk hb; clear hr hb hg hat; have g6 := blk_below X2.out B6.out; have x60 : w6.cell? ⟨w.heap.size, 0, none⟩ = some (.int .i64 n) := (blk_cell g6 0).trans rfl; have x61 : w6.cell? ⟨w.heap.size, 1, none⟩ = some (.slice (some ad) L.length c1) := (blk_cell g6 1).trans rfl; have x62 : w6.cell? ⟨w.heap.size, 2, none⟩ = some (.int .i64 lost) := (blk_cell g6 2).trans rfl; have z61 := blk_frozen g6 1; have GX6 := Aside0.mk g6; clear g6)
          | fail))
      all_goals
        have hne : w.heap.size + 1 ≠ w.heap.size := Nat.succ_ne_self _
        have Y7 : Aside0 ((w6.setCell ⟨w.heap.size, 1, none⟩ (.slice A6 (L.length + 1) c6)).heap[w.heap.size + 1]? = some (.cells #[.int .i64 0, .slice none 0 0, .int .i64 0] tG (0, 0))) := ⟨(Below.heap_setCell w6 ⟨w.heap.size, 1, none⟩ _ _ hne).trans (blk_below Y2.out B6.out)⟩
        have X7 : Aside0 ((w6.setCell ⟨w.heap.size, 1, none⟩ (.slice A6 (L.length + 1) c6)).heap[w.heap.size]? = some (.cells #[.int .i64 n, .slice A6 (L.length + 1) c6, .int .i64 lost] tG (0, 0))) := ⟨blk_put GX6.out 1 _ rfl⟩
        have R7 : Aside0 (Kd.R kR eR (w6.setCell ⟨w.heap.size, 1, none⟩ (.slice A6 (L.length + 1) c6)) w2.heap.size (fun k => w2.heap.size ≤ k) (.slice A6 (L.length + 1) c6) (L.map rt ++ [X])) := ⟨Kd.R_far R6.out (fun k hk => by have h1 : w2.heap.size ≤ k := hk; have := N2.out; show k ≠ w.heap.size; omega) _⟩
        have B7 : Aside0 (Below w.heap.size w (w6.setCell ⟨w.heap.size, 1, none⟩ (.slice A6 (L.length + 1) c6))) := ⟨(below_step B2.out B6.out).setCell (p := ⟨w.heap.size, 1, none⟩) (Nat.le_refl _) _⟩
        clear x60 x61 x62 z61
        generalize w6.setCell ⟨w.heap.size, 1, none⟩ (.slice A6 (L.length + 1) c6) = w7 at *
        have x70 : w7.cell? ⟨w.heap.size, 0, none⟩ = some (.int .i64 n) := (blk_cell X7.out 0).trans rfl
        have x71 : w7.cell? ⟨w.heap.size, 1, none⟩ = some (.slice A6 (L.length + 1) c6) := (blk_cell X7.out 1).trans rfl
        have x72 : w7.cell? ⟨w.heap.size, 2, none⟩ = some (.int .i64 lost) := (blk_cell X7.out 2).trans rfl
        have y70 : w7.cell? ⟨w.heap.size + 1, 0, none⟩ = some (.int .i64 0) := (blk_cell Y7.out 0).trans rfl
        have y71 : w7.cell? ⟨w.heap.size + 1, 1, none⟩ = some (.slice none 0 0) := (blk_cell Y7.out 1).trans rfl
        have y72 : w7.cell? ⟨w.heap.size + 1, 2, none⟩ = some (.int .i64 0) := (blk_cell Y7.out 2).trans rfl
        have f70 := blk_frozen Y7.out 0
        have f71 := blk_frozen Y7.out 1
        have f72 := blk_frozen Y7.out 2
        go_wp2_with fail
        refine bodyPost_ret (results_ct rfl _ _ (w.heap.size + 1) tG #[.int .i64 n, .slice A6 (L.length + 1) c6, .int .i64 lost] (0, 0) _ rfl (put3 Y7.out) hu rfl (by kernel_rfl)) rfl ?_
        refine ⟨_, rfl, Kd.R_lower (Kd.R_mono (Kd.R_far (p := ⟨w.heap.size + 1, 2, none⟩) (Kd.R_far (p := ⟨w.heap.size + 1, 1, none⟩) (Kd.R_far (p := ⟨w.heap.size + 1, 0, none⟩) R7.out ?_ _) ?_ _) ?_ _) (fun k hk => Or.inr (by have h1 : w2.heap.size ≤ k := hk; have := N2.out; omega))) (Nat.zero_le _), ((B7.out.setCell (p := ⟨w.heap.size + 1, 0, none⟩) (Nat.le_succ _) _).setCell (p := ⟨w.heap.size + 1, 1, none⟩) (Nat.le_succ _) _).setCell (p := ⟨w.heap.size + 1, 2, none⟩) (Nat.le_succ _) _⟩
        all_goals exact fun k hk => by have h1 : w2.heap.size ≤ k := hk; have := N2.out; show k ≠ w.heap.size + 1; omega
    · have h1 : decide ((n : Int) ≤ (L.length : Int)) = true := decide_eq_true (by omega)
      have h2 : decide (n ≤ L.length) = true := decide_eq_true (by omega)
      have e1 : mayTwice n L i = false := decide_eq_false (fun hc => h hc.2)
      have e2 : twice n L i = L := if_neg (fun hc => h hc.2)
      rw [e1, e2]
      clear e1 e2 hi hR
      go_enter Try.func26, Try.ntmps26
      go_wp2_with fail
      refine bodyPost_ret (results_ct rfl _ _ (w.heap.size + 1) tG #[.int .i64 n, .slice A1 L.length c1, .int .i64 lost] (0, 0) _ rfl (blk_new1 w _ _) hu rfl (by kernel_rfl)) rfl ?_
      exact ⟨_, rfl, Kd.R_mono (Kd.R_alloc (Kd.R_alloc HR.out _) _) (fun k hk => Or.inl hk), below_alloc (below_alloc (Below.refl _ _) _) _⟩
  · have e1 : mayTwice n L i = false := decide_eq_false (fun hc => hi hc.1)
    have e2 : twice n L i = L := if_neg (fun hc => hi hc.1)
    rw [e1, e2]
    clear e1 e2 hR
    by_cases h0 : i < 0
    · have d0 : decide (i < 0) = true := decide_eq_true h0
      clear hi
      go_enter Try.func26, Try.ntmps26
      go_wp2_with fail
      refine bodyPost_ret (results_ct rfl _ _ (w.heap.size + 1) tG #[.int .i64 n, .slice A1 L.length c1, .int .i64 lost] (0, 0) _ rfl (blk_new1 w _ _) hu rfl (by kernel_rfl)) rfl ?_
      exact ⟨_, rfl, Kd.R_mono (Kd.R_alloc (Kd.R_alloc HR.out _) _) (fun k hk => Or.inl hk), below_alloc (below_alloc (Below.refl _ _) _) _⟩
    · have d0 : decide (i < 0) = false := decide_eq_false h0
      have d1 : decide ((L.length : Int) ≤ i) = true := decide_eq_true (by omega)
      clear hi
      go_enter Try.func26, Try.ntmps26
      go_wp2_with fail
      refine bodyPost_ret (results_ct rfl _ _ (w.heap.size + 1) tG #[.int .i64 n, .slice A1 L.length c1, .int .i64 lost] (0, 0) _ rfl (blk_new1 w _ _) hu rfl (by kernel_rfl)) rfl ?_
      exact ⟨_, rfl, Kd.R_mono (Kd.R_alloc (Kd.R_alloc HR.out _) _) (fun k hk => Or.inl hk), below_alloc (below_alloc (Below.refl _ _) _) _⟩

end Go.Proofs.Ytemgfogpeogdeaa.Walk
