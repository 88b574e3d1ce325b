/- Twice. Conditions: none beyond the statement's own. -/
import Derived.Test.YtemgfogpeogdeaaWalkAwake
import Derived.Test.YtemgfogpeogdeaaArgs
import Derived.Deep.QuietTactic
import Derived.BigQuiet
import Derived.Lib.QuietBelow
import Derived.Outline
import Derived.Deep.RegionHeld3
import Derived.Deep.CutRange
import Derived.Deep.RegionLaw
namespace Go.Proofs.Ytemgfogpeogdeaa.Walk
open Go.RowKit Go.Proofs.Ytemgfogpeogdeaa.F Go.Proofs.YtemgfogpeogdeaaW.PrintWords Go.Proofs.YtemgfogpeogdeaaW.PrintLast Go.Proofs.YtemgfogpeogdeaaW.PrintMore Go.Proofs.Ytemgfogpeogdeaa.Open
open Go.Sort (grow)
attribute [local go_sem] max2_int min2_int max_two min_two max_three min_three max_four min_four
set_option linter.unusedVariables false
set_option linter.unusedSimpArgs false

/-! ### Twice -/
def twice (n : Nat) (L : List Th) (i : Int) : List Th := if (0 ≤ i ∧ i < L.length) ∧ L.length < n then L ++ [L.getD i.toNat zT] else L
def mayTwice (n : Nat) (L : List Th) (i : Int) : Bool := decide ((0 ≤ i ∧ i < L.length) ∧ L.length < n)
set_option maxHeartbeats 4000000 in
theorem Twice_calls {w : World} {S : Nat → Prop} {g n : Nat} {L : List Th} {lost : Int} (h : Bag w S g n L lost) (i : Int) : Calls Try.prog 14 #[.pointer (some ⟨g, 0, none⟩), .int .i64 i] w fun e w' => e = .returned (.bool (mayTwice n L i)) ∧ Bag w' (fun b => S b ∨ w.heap.size ≤ b) g n (twice n L i) lost ∧ Beside S w w' := by
  have TH : Aside0 (∀ q, Calls Try.prog 23 #[.pointer (some ⟨g, 0, none⟩), .int .i64 i] (w.drewN q) fun e w' => e = .returned (.bool (has L i)) ∧ w' = w.drewN q) := ⟨fun q => there_calls (h.below (pw_below_drewN (Below.refl _ _) q)) i⟩
  have H := Aside0.mk h
  obtain ⟨A1, c1, q0, q1, q2, hB, hS⟩ := h.cell
  have HS := Aside0.mk hS
  have HB := Aside0.mk hB
  by_cases hi : 0 ≤ i ∧ i < L.length
  · have e1 : has L i = true := decide_eq_true hi
    rw [e1] at TH
    by_cases hr : L.length < n
    · have hr1 : decide ((n : Int) ≤ (L.length : Int)) = false := decide_eq_false (by omega)
      have hr2 : decide (n ≤ L.length) = false := decide_eq_false (by omega)
      have e2 : twice n L i = L ++ [L.getD i.toNat zT] := if_pos ⟨hi, hr⟩
      have e3 : mayTwice n L i = true := decide_eq_true ⟨hi, hr⟩
      rw [e2, e3]
      obtain ⟨ad, D0, d0, ea, k0, k1, l0, g0⟩ := at_T57 (Kd.S_reads' hS).2.2 i hi.1 hi.2
      cases ea
      have hx : rd_T57 L i ∈ L := by
        unfold rd_T57
        rw [List.getD_eq_getElem?_getD, List.getElem?_eq_getElem (by omega)]
        exact List.getElem_mem _
      have hx' : (L.getD i.toNat zT) = rd_T57 L i := rfl
      rw [hx']
      have HX := Aside0.mk (h.ok.fr _ hx)
      have p1 : (0 ≤ i) = True := eq_true hi.1
      have p2 : (i < (L.length : Int)) = True := eq_true hi.2
      generalize rd_T57 L i = x at *
      have FX : Aside0 (slices_Clone_byte_byte.f x.f0 = some x.f0) := ⟨if_pos (by have := HX.out; omega)⟩
      have G0 := Aside0.mk g0
      have L0 := Aside0.mk l0
      have RM := Aside0.mk hr
      clear e1 e2 e3 hx hx' hi hr g0 l0 h hS hB q0 q2
      have q0 : w.cell? ⟨g, 0, none⟩ = some (.int .i64 n) := (blk_cell HB.out 0).trans rfl
      go_enter Try.func14, Try.ntmps14
      go_wp2_with fail
      go_quiet ((go_at_call 23; exact quiet_of0 (TH.out _)))
      have B1 := Aside0.mk (pw_below_drewN (Below.refl w.heap.size w) nq)
      have S1 := Aside0.mk (Kd.S_drewN HS.out nq)
      have G1 := Aside0.mk (Kd.C_drewN G0.out nq)
      have HB1 : Aside0 ((w.drewN nq).heap[g]? = some (.cells #[.int .i64 n, .slice (some ad) L.length c1, .int .i64 lost] tB (0, 0))) := ⟨HB.out⟩
      have k0' : (w.drewN nq).cell? (ad.add (i.toNat * 2)) = some (.slice D0 x.f0.length d0) := k0
      have k1' : (w.drewN nq).cell? ⟨(ad.add (i.toNat * 2)).block, (ad.add (i.toNat * 2)).off + 1, none⟩ = some (.bool x.f1) := k1
      have q1' : (w.drewN nq).cell? ⟨g, 1, none⟩ = some (.slice (some ad) L.length c1) := q1
      have hsz : (w.drewN nq).heap.size = w.heap.size := rfl
      clear k0 k1 q1 q0
      generalize w.drewN nq = w1 at *
      go_wp2_with fail
      have HZ := Aside0.mk hsz
      have B2 : Aside0 (Below w1.heap.size w1 (w1.alloc (.cells #[.slice D0 x.f0.length d0, .bool x.f1] 57))) := ⟨below_alloc (Below.refl _ _) _⟩
      have X2 : Aside0 ((w1.alloc (.cells #[.slice D0 x.f0.length d0, .bool x.f1] 57)).heap[w.heap.size]? = some (.cells #[.slice D0 x.f0.length d0, .bool x.f1] 57 (0, 0))) := ⟨by rw [← HZ.out]; exact blk_new w1 _⟩
      have N2 : Aside0 ((w1.alloc (.cells #[.slice D0 x.f0.length d0, .bool x.f1] 57)).heap.size = w.heap.size + 1) := ⟨by rw [← HZ.out]; simp⟩
      clear hsz k0' k1' q1'
      generalize w1.alloc (.cells #[.slice D0 x.f0.length d0, .bool x.f1] 57) = w2 at *
      refine (slices_Clone_byte_byte.calls D0 d0 x.f0 x.f0 _ (Kd.C_below G1.out B2.out) L0.out FX.out).mono ?_
      rintro e w3 ⟨v, rfl, ho, hb⟩
      obtain ⟨V, cv, rfl⟩ := Kd.R_slice ho
      have R3 : Aside0 (Kd.R (Kd.int .u8) 5 w3 0 (fun k => w.heap.size + 1 ≤ k) (.slice V x.f0.length cv) x.f0) := ⟨Kd.R_lower (Kd.R_mono (Kd.R_bound ho) (fun k hk => by have := hk.2.1; rw [N2.out] at this; exact this)) (Nat.zero_le _)⟩
      have B3 := Aside0.mk (below_step B2.out hb)
      have x3 := blk_below X2.out hb
      have e0 : w3.cell? ⟨w.heap.size, 0, none⟩ = some (.slice D0 x.f0.length d0) := (blk_cell x3 0).trans rfl
      have z0 := blk_frozen x3 0
      have Z3 : Aside0 (w.heap.size < w3.heap.size) := ⟨blk_lt x3⟩
      clear ho hb
      have X4 : Aside0 ((w3.setCell ⟨w.heap.size, 0, none⟩ (.slice V x.f0.length cv)).heap[w.heap.size]? = some (.cells #[.slice V x.f0.length cv, .bool x.f1] 57 (0, 0))) := ⟨blk_put x3 0 _ rfl⟩
      have gne : Aside0 (g ≠ w.heap.size) := ⟨by have := blk_lt HB.out; omega⟩
      have HB4 : Aside0 ((w3.setCell ⟨w.heap.size, 0, none⟩ (.slice V x.f0.length cv)).heap[g]? = some (.cells #[.int .i64 n, .slice (some ad) L.length c1, .int .i64 lost] tB (0, 0))) := ⟨(Below.heap_setCell _ ⟨w.heap.size, 0, none⟩ _ _ gne.out).trans (blk_below HB1.out B3.out)⟩
      have S4 : Aside0 (Kd.S kT eT (w3.setCell ⟨w.heap.size, 0, none⟩ (.slice V x.f0.length cv)) 0 (fun k => (S k ∧ k ≠ g) ∧ k < w.heap.size) (.slice (some ad) L.length c1) L) := ⟨Kd.S_far (p := ⟨w.heap.size, 0, none⟩) (Kd.S_mono (Kd.S_below (Kd.S_bound S1.out) B3.out) (fun k hk => ⟨hk.1, by have := hk.2.2.1; rw [HZ.out] at this; exact this⟩)) (fun k hk => by have := hk.2; show k ≠ w.heap.size; omega) _⟩
      have R4 : Aside0 (Kd.R (Kd.int .u8) 5 (w3.setCell ⟨w.heap.size, 0, none⟩ (.slice V x.f0.length cv)) 0 (fun k => w.heap.size + 1 ≤ k) (.slice V x.f0.length cv) x.f0) := ⟨Kd.R_far (p := ⟨w.heap.size, 0, none⟩) R3.out (fun k hk => by have h9 : w.heap.size + 1 ≤ k := hk; show k ≠ w.heap.size; omega) _⟩
      have BE4 : Aside0 (Beside S w (w3.setCell ⟨w.heap.size, 0, none⟩ (.slice V x.f0.length cv))) := ⟨((Beside.of_below S B1.out).then_below (by rw [HZ.out] at B3; exact (HZ.out ▸ B3.out))).then_ (S2 := fun b => b = w.heap.size) (Beside.setCell (S := fun b => b = w.heap.size) (Beside.refl _ w3) (p := ⟨w.heap.size, 0, none⟩) rfl _) (fun b hb => Or.inr (by rw [hb]; exact Nat.le_refl _))⟩
      have Z4 : Aside0 (w.heap.size < (w3.setCell ⟨w.heap.size, 0, none⟩ (.slice V x.f0.length cv)).heap.size) := ⟨by simpa [World.setCell] using Z3.out⟩
      clear x3
      go_upto_region 5 with (fail)
      clear e0 z0
      generalize w3.setCell ⟨w.heap.size, 0, none⟩ (.slice V x.f0.length cv) = w4 at *
      have y1 : w4.cell? ⟨g, 1, none⟩ = some (.slice (some ad) L.length c1) := (blk_cell HB4.out 1).trans rfl
      have y1a : ∀ o, (w4.alloc o).cell? ⟨g, 1, none⟩ = some (.slice (some ad) L.length c1) := fun o => (blk_cell (blk_alloc HB4.out o) 1).trans rfl
      have x0 : w4.cell? ⟨w.heap.size, 0, none⟩ = some (.slice V x.f0.length cv) := (blk_cell X4.out 0).trans rfl
      have x1 : w4.cell? ⟨w.heap.size, 1, none⟩ = some (.bool x.f1) := (blk_cell X4.out 1).trans rfl
      go_region_law
        ((first
          | (refine Kd.S_append_step (W := w4.drew) kT 0 (w0 := w4) (by rfl) (.tmp 37) (.tmp 39) 52 eT (.agg #[.slice none 0 0, .bool false]) 32 rfl Try.underlying52 infoT rfl (by decide) (by decide) (.slice (some ad) L.length c1) L x [.slice V x.f0.length cv, .bool x.f1] (fun b => (S b ∨ w.heap.size ≤ b) ∧ b ≠ g) (fun b => w.heap.size + 1 ≤ b) rfl rfl (th_M x (Kd.R_drew R4.out)) (fun k hk => ⟨⟨Or.inr (by have h1 : w.heap.size + 1 ≤ k := hk; omega), by have h1 : w.heap.size + 1 ≤ k := hk; have := blk_lt HB.out; omega⟩, fun he => by have h1 : w.heap.size + 1 ≤ k := hk; have := Kd.S_lt HS.out k he.symm; omega⟩) (fun k hk => ⟨Or.inr (by have := Z4.out; have h1 : w4.heap.size ≤ k := hk; omega), by have := Z4.out; have := blk_lt HB.out; have h1 : w4.heap.size ≤ k := hk; omega⟩) (Kd.S_drew (Kd.S_mono S4.out (fun k hk => ⟨⟨Or.inl hk.1.1, hk.1.2⟩, fun h1 => by have h2 : w.heap.size + 1 ≤ k := h1; have := hk.2; omega⟩))) (below_drew (Below.refl _ _)) (Nat.zero_le _) (by have := RM.out; have := H.out.ok.n2; omega) ?_; intro v5 w5 hs hb hg hat; obtain ⟨A5, c5, rfl⟩ := Kd.S_slice hs; rw [show (L ++ [x]).length = L.length + 1 by simp] at hs; have S5 := Aside0.mk hs; have G5 := Aside0.mk hg; clear hs hb hg hat; have NE : Aside0 (some g ≠ (Value.slice (some ad) L.length c1).ownBlock) := ⟨Kd.S_away HS.out (fun k hk => hk.2)⟩; have b5 := blk_grown (w := w4.drew) HB4.out G5.out NE.out; have z1 := blk_frozen b5 1; have y5 : w5.cell? ⟨g, 1, none⟩ = some (.slice (some ad) L.length c1) := (blk_cell b5 1).trans rfl; clear b5)))
      all_goals
        have WE := app_end (size0 := w.heap.size) (w3 := w4.drew) H.out.ok RM.out HX.out (Or.inl H.out.S_g) HB4.out S5.out G5.out NE.out
        have BE : Beside S w (w5.setCell ⟨g, 1, none⟩ (.slice A5 (L.length + 1) c5)) := (BE4.out.drew.then_ (S2 := fun b => some b = (Value.slice (some ad) L.length c1).ownBlock) ⟨G5.out.os, G5.out.tape, G5.out.output, G5.out.size, fun b hb hn => G5.out.block b hb (fun he => hn he)⟩ (fun b hb => Or.inl (((Kd.S_R HS.out).1 b hb.symm).1))).setCell (p := ⟨g, 1, none⟩) H.out.S_g _
        have WE2 := Aside0.mk WE
        have BE2 := Aside0.mk BE
        clear WE BE y1 y1a x0 x1 z1 y5
        go_wp2_with fail
        go_ret
        exact ⟨rfl, WE2.out, BE2.out⟩
    · have hr1 : decide ((n : Int) ≤ (L.length : Int)) = true := decide_eq_true (by omega)
      have hr2 : decide (n ≤ L.length) = true := decide_eq_true (by omega)
      have e2 : twice n L i = L := if_neg (fun h => hr h.2)
      have e3 : mayTwice n L i = false := decide_eq_false (fun h => hr h.2)
      rw [e2, e3]
      clear e1 e2 e3 hi h hS hB
      go_enter Try.func14, Try.ntmps14
      go_wp2_with fail
      go_quiet ((go_at_call 23; exact quiet_of0 (TH.out _)))
      go_wp2_with fail
      go_ret
      exact ⟨rfl, (H.out.below (pw_below_drewN (Below.refl _ _) _)).mono (fun b hb => Or.inl hb), Beside.of_below S (pw_below_drewN (Below.refl _ _) _)⟩
  · have e1 : has L i = false := decide_eq_false hi
    have e2 : twice n L i = L := if_neg (fun h => hi h.1)
    have e3 : mayTwice n L i = false := decide_eq_false (fun h => hi h.1)
    rw [e1] at TH
    rw [e2, e3]
    clear e1 e2 e3 hi h hS hB
    go_enter Try.func14, Try.ntmps14
    go_wp2_with fail
    go_quiet ((go_at_call 23; exact quiet_of0 (TH.out _)))
    go_wp2_with fail
    go_ret
    exact ⟨rfl, (H.out.below (pw_below_drewN (Below.refl _ _) _)).mono (fun b hb => Or.inl hb), Beside.of_below S (pw_below_drewN (Below.refl _ _) _)⟩

end Go.Proofs.Ytemgfogpeogdeaa.Walk
