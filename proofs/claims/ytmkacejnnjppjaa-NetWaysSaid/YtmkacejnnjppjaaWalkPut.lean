/- Put. Conditions: none beyond the statement's own. -/
import Derived.Test.YtmkacejnnjppjaaWalkTake
import Derived.Test.YtmkacejnnjppjaaArgs
import Derived.Deep.QuietTactic
import Derived.BigQuiet
import Derived.Lib.QuietBelow
import Derived.Outline
import Derived.Deep.RegionHeld3
import Derived.Deep.CutRange
import Derived.Deep.RegionLaw
namespace Go.Proofs.Ytmkacejnnjppjaa.Walk
open Go.RowKit Go.Proofs.Ytmkacejnnjppjaa.F Go.Proofs.YtmkacejnnjppjaaW.PrintWords Go.Proofs.YtmkacejnnjppjaaW.PrintLast Go.Proofs.YtmkacejnnjppjaaW.PrintMore Go.Proofs.Ytmkacejnnjppjaa.Open
open Go.Sort (grow)
attribute [local go_sem] max2_int min2_int max_two min_two max_three min_three max_four min_four
set_option linter.unusedVariables false
set_option linter.unusedSimpArgs false


/-! ### Put -/
abbrev kL : Kd (List Int) := Kd.slice 5 (Kd.int .u8)
def th (x : List Int) : Th := ⟨x, false⟩
theorem th_M {w : World} {base : Nat} {ok : Nat → Prop} {v : Value} (x : Th) (h : Kd.R (Kd.int .u8) 5 w base ok v x.f0) : kT.M w base ok x [v, .bool x.f1] := k77_mkM w base ok x h
/-- What a round of Put, or Twice, leaves. -/
theorem app_end {w3 w4 : World} {S : Nat → Prop} {g n : Nat} {Lj : List Th} {lost : Int} {A1 : Option Addr} {c1 : Nat} {v4 : Value} {x : Th} {size0 : Nat} (hok : bok n Lj lost) (hroom : Lj.length < n) (hx : x.f0.length ≤ 1000000) (hg : S g ∨ size0 ≤ g)
    (hB : w3.heap[g]? = some (.cells #[.int .i64 n, .slice A1 Lj.length c1, .int .i64 lost] tB (0, 0)))
    (hs : Kd.S kT eT w4 0 (fun b => (S b ∨ size0 ≤ b) ∧ b ≠ g) v4 (Lj ++ [x])) (hgr : w3.grownBy w4 (Value.slice A1 Lj.length c1).ownBlock) (hne : some g ≠ (Value.slice A1 Lj.length c1).ownBlock) :
    Bag (w4.setCell ⟨g, 1, none⟩ v4) (fun b => S b ∨ size0 ≤ b) g n (Lj ++ [x]) lost := by
  refine ⟨⟨hok.n1, hok.n2, by simp; omega, hok.l0, hok.l1, fun y hy => ?_⟩, hg, v4, blk_put (blk_grown hB hgr hne) 1 _ rfl, Kd.S_far hs (fun k hk => hk.2) _⟩
  rcases List.mem_append.1 hy with hy | hy
  · exact hok.fr y hy
  · rw [List.mem_singleton.1 hy]; exact hx
set_option maxHeartbeats 4000000 in
theorem Put_calls {w : World} {S : Nat → Prop} {g n : Nat} {L : List Th} {lost : Int} {A : Option Addr} {c : Nat} (l : List (List Int)) (k : Nat) (hW : Bag w S g n L lost) (hr : ∀ w', Beside S w w' → kL.C w' A l.length l) (hc : l.length ≤ c) (hl : ∀ x ∈ l, x.length ≤ 1000000) (hlost : lost + l.length ≤ 4611686018427387904) (hk : k = min l.length (n - L.length)) :
    Calls Try.prog 22 #[.pointer (some ⟨g, 0, none⟩), .slice A l.length c] w fun e w' => e = .returned (.int .i64 k) ∧ Bag w' (fun b => S b ∨ w.heap.size ≤ b) g n (L ++ (l.take k).map th) (lost + (l.length - k : Nat)) ∧ Beside S w w' := by
  have HW := Aside0.mk hW
  have HR := Aside0.mk hr
  have HL := Aside0.mk hl
  have HT := Aside0.mk hlost
  have HK := Aside0.mk hk
  have hok := hW.ok
  obtain ⟨A0, d0, c0, c1, c2, hB, hS⟩ := hW.cell
  have hlm : l.length ≤ 4611686018427387904 := by have := hok.l0; omega
  obtain ⟨r, hr0⟩ : ∃ r : Nat, (n : Int) - L.length = (r : Int) := ⟨n - L.length, by have := hok.fit; omega⟩
  have hwr : wrap64 ((n : Int) - L.length) = (r : Int) := by rw [w64 (by have := hok.n2; have := hok.fit; omega) (by have := hok.n2; omega)]; exact hr0
  have hwr2 : IntKind.i64.wrap ((n : Int) - L.length) = (r : Int) := (i64_w _).trans hwr
  have hk2 : (if (r : Int) < (l.length : Int) then (r : Int) else (l.length : Int)) = (k : Int) := by
    have := hok.fit
    split <;> omega
  have hk3 : (if r < l.length then (r : Int) else (l.length : Int)) = (k : Int) := by
    have := hok.fit
    split <;> omega
  have hkl : k ≤ l.length := by omega
  have hkr : k ≤ n - L.length := by omega
  obtain ⟨B', hcut, hCT, hlc⟩ := kcut_to (P := Try.prog) kL 33 24 .i64 Try.underlying33 (by rfl) A c l k hkl hc
  have HRT : Aside0 (∀ w', Beside S w w' → kL.C w' B' (l.take k).length (l.take k)) := ⟨fun w' h => hCT w' (hr w' h)⟩
  have htl : (l.take k).length = k := by simp; omega
  have HTM : Aside0 (∀ f ∈ l.take k, f.length ≤ 1000000) := ⟨fun f hf => hl f (List.mem_of_mem_take hf)⟩
  have HOK := Aside0.mk hok
  have KR := Aside0.mk hkr
  clear hW hr hl hlost hk hCT hok hB hS hc hr0
  generalize hTT : l.take k = T at *
  have ET := Aside0.mk hTT
  have EL := Aside0.mk htl
  clear hTT htl
  have hkn : (k : Int) ≤ 4096 := by have := HOK.out.n2; omega
  go_enter Try.func22, Try.ntmps22
  go_wp2_with fail
  go_region
  (try simp only [hk3])
  clear hk2 hk3 hwr hwr2 c0 c1 c2
  go_wp2_with fail
  go_loopg [27] T.length (fun kq v27 w' => ∃ j : Nat, v27 = .int .i64 j ∧ j ≤ T.length ∧ T.length ≤ kq + j ∧ Aside0 (Bag w' (fun b => S b ∨ w.heap.size ≤ b) g n (L ++ (T.take j).map th) lost) ∧ Aside0 (Beside S w w'))
  case atStart => exact ⟨0, rfl, by omega, by omega, ⟨by simpa using HW.out.drew.mono (fun b hb => Or.inl hb)⟩, ⟨(Beside.refl S w).drew⟩⟩
  case round =>
    obtain ⟨j, rfl, hj, hkj, HW1, HB1⟩ := hrel
    by_cases hlt : j < T.length
    · have hlt' : decide ((j : Int) < T.length) = true := decide_eq_true (by omega)
      obtain ⟨ad, D0, d0, ea, k0, l0, g0⟩ := at_L1 (HRT.out wr HB1.out) (j : Int) (by omega) (by omega)
      cases ea
      rw [Int.toNat_natCast] at k0
      have hxm : rd_L1 T (j : Int) ∈ T := by
        unfold rd_L1
        rw [Int.toNat_natCast, List.getD_eq_getElem?_getD, List.getElem?_eq_getElem hlt]
        exact List.getElem_mem _
      have hTj : T.take (j + 1) = T.take j ++ [rd_L1 T (j : Int)] := by
        rw [List.take_succ_eq_append_getElem hlt]
        unfold rd_L1
        rw [Int.toNat_natCast, List.getD_eq_getElem?_getD, List.getElem?_eq_getElem hlt]
        rfl
      have HX := Aside0.mk (HTM.out _ hxm)
      have TJ := Aside0.mk hTj
      clear hxm hTj
      generalize rd_L1 T (j : Int) = x at *
      have FX : Aside0 (slices_Clone_byte_byte.f x = some x) := ⟨if_pos (by have := HX.out; omega)⟩
      have G0 := Aside0.mk g0
      have L0 := Aside0.mk l0
      have hrm : (L ++ (T.take j).map th).length < n := by rw [List.length_append, List.length_map, List.length_take]; have := KR.out; have := EL.out; omega
      obtain ⟨Lj, hLj⟩ : ∃ Lj, Lj = L ++ (T.take j).map th := ⟨_, rfl⟩
      have HN : Aside0 (L ++ (T.take (j + 1)).map th = Lj ++ [th x]) := ⟨by rw [TJ.out, List.map_append, hLj, List.append_assoc]; rfl⟩
      rw [← hLj] at hrm HW1
      clear hLj
      have RM := Aside0.mk hrm
      obtain ⟨A1, c1, q0, q1, q2, hB, hS⟩ := HW1.out.cell
      have HS := Aside0.mk hS
      have HB := Aside0.mk hB
      have pm : (0 ≤ (j : Int)) = True := eq_true (by omega)
      have qm : ((j : Int) < (T.length : Int)) = True := eq_true (by omega)
      clear hrm hS hB g0 l0 q0 q2
      go_wp2_with fail
      go_region_law
        ((first
          | (refine Kd.S_append_step kT 0 (w0 := w3) (by rfl) (.tmp 35) (.tmp 39) 71 eT (.agg #[.slice none 0 0, .bool false]) 32 rfl Try.underlying71 infoT rfl (by decide) (by decide) (.slice A1 Lj.length c1) Lj (th x) [.slice V x.length cv, .bool false] (fun b => (S b ∨ w.heap.size ≤ b) ∧ b ≠ g) (fun b => wr.heap.size ≤ b) rfl rfl (th_M (th x) (Kd.R_lower (Kd.R_mono (Kd.R_bound R3.out) (fun k hk => hk.2.1)) (Nat.zero_le _))) (fun k hk => ⟨⟨Or.inr (Nat.le_trans HB1.out.size hk), by have h1 : wr.heap.size ≤ k := hk; have := blk_lt HB.out; omega⟩, fun he => by have h1 : wr.heap.size ≤ k := hk; have := Kd.S_lt HS.out k he.symm; omega⟩) (fun k hk => ⟨Or.inr (by have := HB1.out.size; have := B3.out.size; omega), by have := blk_lt HB.out; have := B3.out.size; omega⟩) (Kd.S_below (Kd.S_mono (Kd.S_bound HS.out) (fun k hk => ⟨hk.1, fun h1 => by have h2 : wr.heap.size ≤ k := h1; have := hk.2.2.1; omega⟩)) B3.out) (Below.refl _ _) (Nat.zero_le _) (by have := RM.out; have := HOK.out.n2; omega) ?_; intro v4 w4 hs hb hg hat; obtain ⟨A4, c4, rfl⟩ := Kd.S_slice hs; rw [show (Lj ++ [th x]).length = Lj.length + 1 by simp] at hs; have S4 := Aside0.mk hs; have G4 := Aside0.mk hg; clear hs hb hg hat; have NE : Aside0 (some g ≠ (Value.slice A1 Lj.length c1).ownBlock) := ⟨Kd.S_away HS.out (fun k hk => hk.2)⟩; have b4 := blk_grown (blk_below HB.out B3.out) G4.out NE.out; have z1 := blk_frozen b4 1; have y4 : w4.cell? ⟨g, 1, none⟩ = some (.slice A1 Lj.length c1) := (blk_cell b4 1).trans rfl; clear b4)
          | (go_simp; go_at_call 26; refine (slices_Clone_byte_byte.calls D0 d0 x x _ (by first | exact G0.out | exact Kd.C_drew G0.out) L0.out FX.out).mono ?_; rintro e w3 ⟨v, rfl, ho, hb⟩; obtain ⟨V, cv, rfl⟩ := Kd.R_slice ho; have R3 := Aside0.mk ho; have B3 := Aside0.mk (show Below wr.heap.size wr w3 from below_step (by first | exact Below.refl _ _ | exact below_drew (Below.refl _ _)) hb); clear ho hb; have y1 : w3.cell? ⟨g, 1, none⟩ = some (.slice A1 Lj.length c1) := (blk_cell (blk_below HB.out B3.out) 1).trans rfl; have y1a : ∀ o, (w3.alloc o).cell? ⟨g, 1, none⟩ = some (.slice A1 Lj.length c1) := fun o => (blk_cell (blk_alloc (blk_below HB.out B3.out) o) 1).trans rfl)))
      all_goals
        have WE := app_end (size0 := w.heap.size) HW1.out.ok RM.out HX.out HW1.out.S_g (blk_below HB.out B3.out) S4.out G4.out NE.out
        have BE : Beside S w (w4.setCell ⟨g, 1, none⟩ (.slice A4 (Lj.length + 1) c4)) := ((HB1.out.then_below B3.out).then_ (S2 := fun b => some b = (Value.slice A1 Lj.length c1).ownBlock) ⟨G4.out.os, G4.out.tape, G4.out.output, G4.out.size, fun b hb hn => G4.out.block b hb (fun he => hn he)⟩ (fun b hb => (((Kd.S_R HS.out).1 b hb.symm).1))).setCell (p := ⟨g, 1, none⟩) HW.out.S_g _
        rw [← HN.out] at WE
        have WE2 := Aside0.mk WE
        have BE2 := Aside0.mk BE
        clear WE BE q1 y1 y1a z1 y4
        go_wp2_with fail
        go_roundg (gk - 1)
        case measure => omega
        case rel => exact ⟨j + 1, by simp; exact w64 (by omega) (by have := EL.out; omega), by omega, by omega, WE2, BE2⟩
    · have hlt' : decide ((j : Int) < T.length) = false := decide_eq_false (by omega)
      have hje : j = T.length := by omega
      subst hje
      have HE : Aside0 (Bag wr (fun b => S b ∨ w.heap.size ≤ b) g n (L ++ T.map th) lost) := ⟨by
        have h := HW1.out
        rwa [List.take_length] at h⟩
      obtain ⟨A1, c1, q0, q1, q2, hB, hS⟩ := HE.out.cell
      have HB := Aside0.mk hB
      have HS := Aside0.mk hS
      have z2 := blk_frozen hB 2
      have hw1 : wrap64 ((l.length : Int) - (k : Int)) = (l.length - k : Nat) := by rw [w64 (by omega) (by omega)]; omega
      have hw2 : wrap64 (lost + ((l.length - k : Nat) : Int)) = lost + ((l.length - k : Nat) : Int) := w64 (by have := HOK.out.l0; omega) (by have := HT.out; omega)
      have H1 := Aside0.mk hw1
      have H2 := Aside0.mk hw2
      clear HW1 hS hB
      go_wp2_with fail
      go_ret
      clear hw1 hw2
      refine ⟨rfl, ⟨⟨HE.out.ok.n1, HE.out.ok.n2, HE.out.ok.fit, by have := HOK.out.l0; omega, by have := HT.out; omega, HE.out.ok.fr⟩, HE.out.S_g, _, blk_put HB.out 2 _ ?_, Kd.S_far HS.out (fun b hb => hb.2) _⟩, HB1.out.setCell (p := ⟨g, 2, none⟩) HW.out.S_g _⟩
      rw [show wrap64 (lost + ((l.length : Int) - (k : Int))) = lost + ((l.length - k : Nat) : Int) by rw [show ((l.length : Int) - (k : Int)) = ((l.length - k : Nat) : Int) by omega]; exact H2.out]
      rfl

end Go.Proofs.Ytmkacejnnjppjaa.Walk
