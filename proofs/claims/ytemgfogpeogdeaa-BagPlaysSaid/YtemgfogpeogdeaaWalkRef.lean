/- The document's bag. Conditions: none beyond the statement's own. -/
import Derived.Test.YtemgfogpeogdeaaWalkTurned
import Derived.Test.YtemgfogpeogdeaaWalkPut1
import Derived.Test.YtemgfogpeogdeaaArgs
import Derived.Deep.QuietTactic
import Derived.BigQuiet
import Derived.Lib.QuietBelow
import Derived.Outline
import Derived.Deep.RegionHeld3
import Derived.Deep.CutRange
import Derived.Deep.RegionLaw
namespace Go.Proofs.Ytemgfogpeogdeaa.Walk
open Go.RowKit Go.Proofs.Ytemgfogpeogdeaa.F Go.Proofs.YtemgfogpeogdeaaW.PrintWords Go.Proofs.YtemgfogpeogdeaaW.PrintLast Go.Proofs.YtemgfogpeogdeaaW.PrintMore Go.Proofs.Ytemgfogpeogdeaa.Open
open Go.Sort (grow)
attribute [local go_sem] max2_int min2_int max_two min_two max_three min_three max_four min_four
set_option linter.unusedVariables false
set_option linter.unusedSimpArgs false

/-! ### The document's bag -/
abbrev kR : Kd S48 := k48
abbrev eR : Nat := 48
abbrev tG : Nat := 43
abbrev zR : S48 := z48
def rt (x : Th) : S48 := ⟨strOfNums x.f0, x.f1⟩
theorem put3 {w : World} {g : Nat} {t : TypeId} {a b c x y z : Value} (h : w.heap[g]? = some (.cells #[a, b, c] t (0, 0))) : (((w.setCell ⟨g, 0, none⟩ x).setCell ⟨g, 1, none⟩ y).setCell ⟨g, 2, none⟩ z).heap[g]? = some (.cells #[x, y, z] t (0, 0)) :=
  blk_put (blk_put (blk_put h 0 _ rfl) 1 _ rfl) 2 _ rfl
theorem blk_new1 (w : World) (o o2 : Obj) : ((w.alloc o).alloc o2).heap[w.heap.size + 1]? = some o2 := by
  have h := blk_new (w.alloc o) o2
  rwa [show (w.alloc o).heap.size = w.heap.size + 1 by simp] at h
theorem putL_map (n : Nat) (L : List Th) (x : List Int) : (putL n L x).map rt = if L.length < n then L.map rt ++ [rt (th x)] else L.map rt := by
  unfold putL
  split <;> simp
theorem infoR : (Try.prog.info? 48).map (fun i => (i.zero, i.size, i.bytes)) = some (some (.agg #[.string ⟨#[]⟩, .bool false]), 2, 24) := by kernel_rfl
abbrev cR (x : S48) (cs : List Value) : Prop := cs = [.string x.f0, .bool x.f1]
theorem C_cR {W : World} {A : Option Addr} {n : Nat} {xs : List S48} (h : kR.C W A n xs) : ReadsRow cR kR.sz W A n xs :=
  ⟨h.1, h.2.1, fun hn => by
    obtain ⟨ad, e, hc⟩ := h.2.2 hn
    refine ⟨ad, e, fun j p hj => ?_⟩
    obtain ⟨c, h1, h2, h3⟩ := hc j p hj
    exact ⟨c, h1, k48_open h2, h3⟩⟩
theorem cR_M {W : World} {base : Nat} {okp : Nat → Prop} (x : S48) (cs : List Value) (h : cR x cs) : kR.M W base okp x cs := by
  rw [show cs = [.string x.f0, .bool x.f1] from h]
  exact k48_mkM W base okp x
theorem one_cR {W : World} {b : Nat} {t : TypeId} {x : S48} (hb : W.heap[b]? = some (.cells #[.string x.f0, .bool x.f1] t (0, 0))) : ReadsRow cR kR.sz W (some ⟨b, 0, none⟩) 1 [x] := by
  refine ⟨rfl, by omega, fun _ => ⟨_, rfl, fun j p hj => ⟨[.string p.f0, .bool p.f1], rfl, rfl, fun i u hu => ?_⟩⟩⟩
  obtain ⟨hl, rfl⟩ := List.getElem?_eq_some_iff.1 hj
  obtain rfl : j = 0 := by simpa using hl
  rw [add_plain, show 0 * kR.sz + i = i by omega, blk_cell hb, List.getElem?_toArray]
  exact hu
theorem R_empty {α : Type} (d : Kd α) {e : TypeId} {W : World} {base : Nat} {ok : Nat → Prop} {b : Nat} (hb : W.heap[b]? = some (.cells #[] e (0, 0))) (hbb : base ≤ b) (hok : ok b) : d.R e W base ok (.slice (some ⟨b, 0, none⟩) 0 0) [] := by
  refine ⟨fun k hk => ?_, [], ⟨by simp, .inr ⟨b, 0, #[], rfl, hbb, hb, Nat.le_refl _, by decide, by simp, by simp⟩⟩, Reps.none _ _⟩
  have : b = k := by simpa [Value.ownBlock] using hk
  exact this ▸ hok
set_option maxHeartbeats 4000000 in
theorem refPut_calls {w : World} {ok : Nat → Prop} {v : Value} {n : Nat} {L : List Th} {lost : Int} {A : Option Addr} {c : Nat} {x : List Int} (hR : Kd.R kR eR w 0 ok v (L.map rt)) (hx : (Kd.int .u8).C w A x.length x) (hn : n ≤ 4096) (hL : L.length ≤ n) (hl0 : 0 ≤ lost) (hlost : lost + 1 ≤ 4611686018427387904) :
    Calls Try.prog 24 #[.agg #[.int .i64 n, v, .int .i64 lost], .slice A x.length c] w fun e w' => ∃ v', e = .returned (.tuple #[.agg #[.int .i64 n, v', .int .i64 (putLost n L lost)], .int .i64 (putN n L)]) ∧ Kd.R kR eR w' 0 (fun k => ok k ∨ w.heap.size ≤ k) v' ((putL n L x).map rt) ∧ Below w.heap.size w w' := by
  obtain ⟨A1, c1, rfl⟩ := Kd.R_slice hR
  rw [List.length_map] at hR ⊢
  have HR := Aside0.mk hR
  have HX := Aside0.mk hx
  have HL := Aside0.mk hL
  clear hR hx
  have hu := Try.underlying43
  by_cases h : L.length < n
  · have h1 : decide ((n : Int) ≤ (L.length : Int)) = false := decide_eq_false (by omega)
    have h2 : decide (n ≤ L.length) = false := decide_eq_false (by omega)
    have e1 : putN n L = 1 := if_pos h
    have e2 : putLost n L lost = lost := if_pos h
    have e3 : (putL n L x).map rt = L.map rt ++ [rt (th x)] := (putL_map n L x).trans (if_pos h)
    rw [e1, e2, e3]
    clear e1 e2 e3
    have sx0 := fun (W : World) (hb : Below w.heap.size w W) => str_run (c := c) (Kd.C_below HX.out hb)
    have SX := Aside0.mk sx0
    clear sx0
    go_enter Try.func24, Try.ntmps24
    go_wp2_with fail
    have B2 : Aside0 (Below w.heap.size w ((w.alloc (.cells #[.int .i64 n, .slice A1 L.length c1, .int .i64 lost] tG)).alloc (.cells #[.int .i64 0, .slice none 0 0, .int .i64 0] tG))) := ⟨below_alloc (below_alloc (Below.refl _ _) _) _⟩
    have X2 : Aside0 (((w.alloc (.cells #[.int .i64 n, .slice A1 L.length c1, .int .i64 lost] tG)).alloc (.cells #[.int .i64 0, .slice none 0 0, .int .i64 0] tG)).heap[w.heap.size]? = some (.cells #[.int .i64 n, .slice A1 L.length c1, .int .i64 lost] tG (0, 0))) := ⟨blk_alloc (blk_new w _) _⟩
    have Y2 : Aside0 (((w.alloc (.cells #[.int .i64 n, .slice A1 L.length c1, .int .i64 lost] tG)).alloc (.cells #[.int .i64 0, .slice none 0 0, .int .i64 0] tG)).heap[w.heap.size + 1]? = some (.cells #[.int .i64 0, .slice none 0 0, .int .i64 0] tG (0, 0))) := ⟨blk_new1 w _ _⟩
    generalize (w.alloc (.cells #[.int .i64 n, .slice A1 L.length c1, .int .i64 lost] tG)).alloc (.cells #[.int .i64 0, .slice none 0 0, .int .i64 0] tG) = w2 at *
    have s0 := SX.out w2.drew (below_drew B2.out)
    have s1 := fun o => SX.out (w2.alloc o).drew (below_drew (below_alloc B2.out o))
    have s2 := fun o o' => SX.out ((w2.alloc o).alloc o').drew (below_drew (below_alloc (below_alloc B2.out o) o'))
    have x1 : w2.cell? ⟨w.heap.size, 1, none⟩ = some (.slice A1 L.length c1) := (blk_cell X2.out 1).trans rfl
    have x1a : ∀ o, (w2.alloc o).cell? ⟨w.heap.size, 1, none⟩ = some (.slice A1 L.length c1) := fun o => (blk_cell (blk_alloc X2.out o) 1).trans rfl
    have x1b : ∀ o o', ((w2.alloc o).alloc o').cell? ⟨w.heap.size, 1, none⟩ = some (.slice A1 L.length c1) := fun o o' => (blk_cell (blk_alloc (blk_alloc X2.out o) o') 1).trans rfl
    have N2 : Aside0 (w.heap.size + 1 < w2.heap.size) := ⟨blk_lt Y2.out⟩
    have HR2 := Aside0.mk (Kd.R_below HR.out B2.out)
    have HL2 : Aside0 (L.length ≤ 4096) := ⟨by omega⟩
    go_region_law
      ((first
        | (refine Kd.R_append_rows_step kR (Rr := cR) (w0 := w2) w2.heap.size (by rfl) (.tmp 17) (.tmp 19) 41 eR (.agg #[.string ⟨#[]⟩, .bool false]) 24 rfl Try.underlying41 infoR rfl (by decide) (by decide) (.slice (some ⟨w2.heap.size, 0, none⟩) 0 0) [] (L.map rt) A1 L.length c1 (fun k => w2.heap.size ≤ k) (fun _ => False) rfl rfl (R_empty kR (by first | exact blk_new w2 _ | exact blk_alloc (blk_new w2 _) _ | exact blk_new1 w2 _ _) (by simp <;> omega) (by simp <;> omega)) (C_cR (by have h9 := (Kd.R_reads' HR2.out).2.2; rw [List.length_map] at h9; first | exact Kd.C_below h9 (below_drew (below_alloc (Below.refl _ _) _)) | exact Kd.C_below h9 (below_drew (below_alloc (below_alloc (Below.refl _ _) _) _)) | exact Kd.C_below h9 (below_alloc (Below.refl _ _) _) | exact Kd.C_below h9 (below_alloc (below_alloc (Below.refl _ _) _) _))) cR_M (fun _ h => h.elim) (fun k hk => by first | exact Nat.le_trans (below_drew (below_alloc (Below.refl _ _) _)).size hk | exact Nat.le_trans (below_drew (below_alloc (below_alloc (Below.refl _ _) _) _)).size hk) (by first | exact below_drew (below_alloc (Below.refl _ _) _) | exact below_drew (below_alloc (below_alloc (Below.refl _ _) _) _)) (by simp <;> omega) (by have := HL2.out; simp; omega) ?_; intro v5 w5 hr hb hg hat; obtain ⟨A5, c5, rfl⟩ := Kd.R_slice hr; rw [List.nil_append, show (L.map rt).length = L.length by simp] at hr; have R5 := Aside0.mk hr; have G5 := Aside0.mk hg; have B5 := Aside0.mk hb; clear hr hb hg hat; have s5 := SX.out w5 (below_step B2.out B5.out); have s5a := fun o => SX.out (w5.alloc o) (below_alloc (below_step B2.out B5.out) o))
        | (refine Kd.R_append_rows_step kR (Rr := cR) (w0 := w2) w2.heap.size (by rfl) (.tmp 17) (.tmp 19) 41 eR (.agg #[.string ⟨#[]⟩, .bool false]) 24 rfl Try.underlying41 infoR rfl (by decide) (by decide) (.slice (some ⟨w2.heap.size + 1, 0, none⟩) 0 0) [] (L.map rt) A1 L.length c1 (fun k => w2.heap.size ≤ k) (fun _ => False) rfl rfl (R_empty kR (by first | exact blk_new w2 _ | exact blk_alloc (blk_new w2 _) _ | exact blk_new1 w2 _ _) (by simp <;> omega) (by simp <;> omega)) (C_cR (by have h9 := (Kd.R_reads' HR2.out).2.2; rw [List.length_map] at h9; first | exact Kd.C_below h9 (below_drew (below_alloc (Below.refl _ _) _)) | exact Kd.C_below h9 (below_drew (below_alloc (below_alloc (Below.refl _ _) _) _)) | exact Kd.C_below h9 (below_alloc (Below.refl _ _) _) | exact Kd.C_below h9 (below_alloc (below_alloc (Below.refl _ _) _) _))) cR_M (fun _ h => h.elim) (fun k hk => by first | exact Nat.le_trans (below_drew (below_alloc (Below.refl _ _) _)).size hk | exact Nat.le_trans (below_drew (below_alloc (below_alloc (Below.refl _ _) _) _)).size hk) (by first | exact below_drew (below_alloc (Below.refl _ _) _) | exact below_drew (below_alloc (below_alloc (Below.refl _ _) _) _)) (by simp <;> omega) (by have := HL2.out; simp; omega) ?_; intro v5 w5 hr hb hg hat; obtain ⟨A5, c5, rfl⟩ := Kd.R_slice hr; rw [List.nil_append, show (L.map rt).length = L.length by simp] at hr; have R5 := Aside0.mk hr; have G5 := Aside0.mk hg; have B5 := Aside0.mk hb; clear hr hb hg hat; have s5 := SX.out w5 (below_step B2.out B5.out); have s5a := fun o => SX.out (w5.alloc o) (below_alloc (below_step B2.out B5.out) o))
        | (refine Kd.R_append_rows_step kR (Rr := cR) (w0 := w2) w2.heap.size (by rfl) (.tmp 20) (.tmp 24) 41 eR (.agg #[.string ⟨#[]⟩, .bool false]) 24 rfl Try.underlying41 infoR rfl (by decide) (by decide) _ (L.map rt) [rt (th x)] _ 1 1 (fun k => w2.heap.size ≤ k) (fun _ => False) rfl rfl (by first | exact R5.out | exact Kd.R_alloc R5.out _) (by first | exact one_cR (x := rt (th x)) (blk_new w5 _) | exact one_cR (x := rt (th x)) ((G5.out.block _ (by simp <;> omega) (by simp [Value.ownBlock] <;> omega)).trans (blk_new1 w2 _ _)) | exact one_cR (x := rt (th x)) ((G5.out.block _ (by simp <;> omega) (by simp [Value.ownBlock] <;> omega)).trans (blk_alloc (blk_new w2 _) _))) cR_M (fun _ h => h.elim) (fun k hk => by first | exact Nat.le_trans B5.out.size hk | exact Nat.le_trans (below_alloc B5.out _).size hk) (by first | exact B5.out | exact below_alloc B5.out _) (by first | exact B5.out.size | exact (below_alloc B5.out _).size) (by have := HL2.out; rw [List.length_map]; omega) ?_; intro v6 w6 hr hb hg hat; obtain ⟨A6, c6, rfl⟩ := Kd.R_slice hr; rw [show (L.map rt ++ [rt (th x)]).length = L.length + 1 by simp] at hr; have R6 := Aside0.mk hr; have B6 := Aside0.mk hb; clear hr hb hg hat; have g6 := blk_below X2.out B6.out; have x60 : w6.cell? ⟨w.heap.size, 0, none⟩ = some (.int .i64 n) := (blk_cell g6 0).trans rfl; have x61 : w6.cell? ⟨w.heap.size, 1, none⟩ = some (.slice A1 L.length c1) := (blk_cell g6 1).trans rfl; have x62 : w6.cell? ⟨w.heap.size, 2, none⟩ = some (.int .i64 lost) := (blk_cell g6 2).trans rfl; have z61 := blk_frozen g6 1; have GX6 := Aside0.mk g6; clear g6)
        | fail))
    all_goals
      have hne : w.heap.size + 1 ≠ w.heap.size := Nat.succ_ne_self _
      have Y7 : Aside0 ((w6.setCell ⟨w.heap.size, 1, none⟩ (.slice A6 (L.length + 1) c6)).heap[w.heap.size + 1]? = some (.cells #[.int .i64 0, .slice none 0 0, .int .i64 0] tG (0, 0))) := ⟨(Below.heap_setCell w6 ⟨w.heap.size, 1, none⟩ _ _ hne).trans (blk_below Y2.out B6.out)⟩
      have X7 : Aside0 ((w6.setCell ⟨w.heap.size, 1, none⟩ (.slice A6 (L.length + 1) c6)).heap[w.heap.size]? = some (.cells #[.int .i64 n, .slice A6 (L.length + 1) c6, .int .i64 lost] tG (0, 0))) := ⟨blk_put GX6.out 1 _ rfl⟩
      have R7 : Aside0 (Kd.R kR eR (w6.setCell ⟨w.heap.size, 1, none⟩ (.slice A6 (L.length + 1) c6)) w2.heap.size (fun k => w2.heap.size ≤ k) (.slice A6 (L.length + 1) c6) (L.map rt ++ [rt (th x)])) := ⟨Kd.R_far R6.out (fun k hk => by have h1 : w2.heap.size ≤ k := hk; have := N2.out; show k ≠ w.heap.size; omega) _⟩
      have B7 : Aside0 (Below w.heap.size w (w6.setCell ⟨w.heap.size, 1, none⟩ (.slice A6 (L.length + 1) c6))) := ⟨(below_step B2.out B6.out).setCell (p := ⟨w.heap.size, 1, none⟩) (Nat.le_refl _) _⟩
      clear x60 x61 x62 z61
      generalize w6.setCell ⟨w.heap.size, 1, none⟩ (.slice A6 (L.length + 1) c6) = w7 at *
      have x70 : w7.cell? ⟨w.heap.size, 0, none⟩ = some (.int .i64 n) := (blk_cell X7.out 0).trans rfl
      have x71 : w7.cell? ⟨w.heap.size, 1, none⟩ = some (.slice A6 (L.length + 1) c6) := (blk_cell X7.out 1).trans rfl
      have x72 : w7.cell? ⟨w.heap.size, 2, none⟩ = some (.int .i64 lost) := (blk_cell X7.out 2).trans rfl
      have y70 : w7.cell? ⟨w.heap.size + 1, 0, none⟩ = some (.int .i64 0) := (blk_cell Y7.out 0).trans rfl
      have y71 : w7.cell? ⟨w.heap.size + 1, 1, none⟩ = some (.slice none 0 0) := (blk_cell Y7.out 1).trans rfl
      have y72 : w7.cell? ⟨w.heap.size + 1, 2, none⟩ = some (.int .i64 0) := (blk_cell Y7.out 2).trans rfl
      have f70 := blk_frozen Y7.out 0
      have f71 := blk_frozen Y7.out 1
      have f72 := blk_frozen Y7.out 2
      go_wp2_with fail
      refine bodyPost_ret (results_ct rfl _ _ (w.heap.size + 1) tG #[.int .i64 n, .slice A6 (L.length + 1) c6, .int .i64 lost] (0, 0) _ rfl (put3 Y7.out) hu rfl (by kernel_rfl)) rfl ?_
      refine ⟨_, rfl, Kd.R_lower (Kd.R_mono (Kd.R_far (p := ⟨w.heap.size + 1, 2, none⟩) (Kd.R_far (p := ⟨w.heap.size + 1, 1, none⟩) (Kd.R_far (p := ⟨w.heap.size + 1, 0, none⟩) R7.out ?_ _) ?_ _) ?_ _) (fun k hk => Or.inr (by have h1 : w2.heap.size ≤ k := hk; have := N2.out; omega))) (Nat.zero_le _), ((B7.out.setCell (p := ⟨w.heap.size + 1, 0, none⟩) (Nat.le_succ _) _).setCell (p := ⟨w.heap.size + 1, 1, none⟩) (Nat.le_succ _) _).setCell (p := ⟨w.heap.size + 1, 2, none⟩) (Nat.le_succ _) _⟩
      all_goals exact fun k hk => by have h1 : w2.heap.size ≤ k := hk; have := N2.out; show k ≠ w.heap.size + 1; omega
  · have h1 : decide ((n : Int) ≤ (L.length : Int)) = true := decide_eq_true (by omega)
    have h2 : decide (n ≤ L.length) = true := decide_eq_true (by omega)
    have e1 : putN n L = 0 := if_neg h
    have e2 : putLost n L lost = lost + 1 := if_neg h
    have e3 : (putL n L x).map rt = L.map rt := (putL_map n L x).trans (if_neg h)
    rw [e1, e2, e3]
    clear e1 e2 e3
    have HW : Aside0 (wrap64 (lost + 1) = lost + 1) := ⟨w64 (by omega) (by omega)⟩
    have hw := HW.out
    go_enter Try.func24, Try.ntmps24
    go_wp2_with fail
    refine bodyPost_ret (results_ct rfl _ _ (w.heap.size + 1) tG #[.int .i64 n, .slice A1 L.length c1, .int .i64 (lost + 1)] (0, 0) _ rfl (blk_new1 w _ _) hu rfl (by kernel_rfl)) rfl ?_
    exact ⟨_, rfl, Kd.R_mono (Kd.R_alloc (Kd.R_alloc HR.out _) _) (fun k hk => Or.inl hk), below_alloc (below_alloc (Below.refl _ _) _) _⟩

end Go.Proofs.Ytemgfogpeogdeaa.Walk
