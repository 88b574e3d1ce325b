/- The gate laws' functions come to what the Lean functions beside them tell. Conditions: none beyond the statement's own. -/
import Derived.Test.YtfhhpliofajiaaaWalkGate
import Derived.Test.YtfhhpliofajiaaaArgs
import Derived.Deep.QuietTactic
import Derived.BigQuiet
import Derived.Lib.QuietBelow
import Derived.Outline
import Derived.Deep.RegionHeld3
namespace Go.Proofs.Ytfhhpliofajiaaa.Walk
open Go.RowKit Go.Proofs.Ytfhhpliofajiaaa.F Go.Proofs.YtfhhpliofajiaaaW.PrintWords Go.Proofs.YtfhhpliofajiaaaW.PrintLast Go.Proofs.YtfhhpliofajiaaaW.PrintMore Go.Proofs.Ytfhhpliofajiaaa.Open
open Go.Sort (grow)
attribute [local go_sem] max2_int min2_int max_two min_two max_three min_three max_four min_four
set_option linter.unusedVariables false
set_option linter.unusedSimpArgs false

/-! ### One number, told as a literal row -/
theorem lit_C (w : World) (e : Nat) (k : IntKind) (xs : List Int) (hm : xs.length ≤ 9223372036854775807) : Kd.C (Kd.int k) (w.alloc (.cells (nums k xs).toArray e)) (some ⟨w.heap.size, 0, none⟩) xs.length xs :=
  (Kd.R_reads' (d := Kd.int k) (Kd.R_of_own (own_lit w w.heap.size e k xs (Nat.le_refl _) hm) (ok := fun _ => True) (fun _ _ => trivial))).2.2
theorem Take1_calls (g : Nat) (s : GS) (n : Int) (e : Nat) (w : World) (hg : Gate w g s) (hu : ok64 s.u) (hn : ok64 n) :
    Calls Try.prog 8 #[.pointer (some ⟨g, 0, none⟩), .slice (some ⟨w.heap.size, 0, none⟩) 1 1] (w.alloc (.cells #[.int .u64 n] e)) fun e w' => e = .returned (.int .u8 (took s n).2) ∧ Gate w' g (took s n).1 ∧ Beside (fun k => k = g) w w' := by
  have hR : Kd.R (Kd.int .u64) e (w.alloc (.cells (nums .u64 [n]).toArray e)) w.heap.size (fun k => k = w.heap.size) (.slice (some ⟨w.heap.size, 0, none⟩) 1 1) [n] :=
    Kd.R_of_own (own_lit w w.heap.size e .u64 [n] (Nat.le_refl _) (by simp)) (fun k hk => (Option.some.inj hk).symm)
  refine (Take_calls g s (some ⟨w.heap.size, 0, none⟩) 1 [n] (w.alloc (.cells #[.int .u64 n] e)) (blk_alloc hg _) hu (Kd.C_kept_own hR ?_) (by simp) (by simp) (by simp [hn])).mono ?_
  · rintro k rfl h
    have := blk_lt hg
    omega
  · rintro e w' ⟨rfl, h1, h2⟩
    exact ⟨rfl, h1, ((Beside.refl _ w).alloc _).trans h2⟩
/-! ### The example -/
theorem awake_calls (w : World) : Calls Try.prog 6 #[] w fun e w' => e = .returned (.bool true) ∧ Below w.heap.size w w' := by
  go_enter Try.func6, Try.ntmps6
  go_wp2_with fail
  refine (New_calls _).mono ?_
  rintro e w1 ⟨g, rfl, hge, hg, hb⟩
  have GE := Aside0.mk hge
  have G1 := Aside0.mk hg
  have B1 := Aside0.mk hb
  clear hg hb hge
  go_wp2_with fail
  refine (Take1_calls _ _ 1 _ _ G1.out ⟨by decide, by decide⟩ ⟨by decide, by decide⟩).mono ?_
  rintro e w2 ⟨rfl, hg, hb⟩
  have G2 := Aside0.mk hg
  have B2 := Aside0.mk hb
  clear hg hb
  go_wp2_with fail
  refine (Take1_calls _ _ 3 _ _ G2.out ⟨by decide, by decide⟩ ⟨by decide, by decide⟩).mono ?_
  rintro e w3 ⟨rfl, hg, hb⟩
  have G3 := Aside0.mk hg
  have B3 := Aside0.mk hb
  clear hg hb
  go_wp2_with fail
  refine (Take1_calls _ _ 2 _ _ G3.out ⟨by decide, by decide⟩ ⟨by decide, by decide⟩).mono ?_
  rintro e w4 ⟨rfl, hg, hb⟩
  have G4 := Aside0.mk hg
  have B4 := Aside0.mk hb
  clear hg hb
  go_wp2_with fail
  refine (Take1_calls _ _ 2 _ _ G4.out ⟨by decide, by decide⟩ ⟨by decide, by decide⟩).mono ?_
  rintro e w5 ⟨rfl, hg, hb⟩
  have G5 := Aside0.mk hg
  have B5 := Aside0.mk hb
  clear hg hb
  go_wp2_with fail
  refine (Upto_calls _ _ _ G5.out).mono ?_
  rintro e w6 ⟨rfl, rfl⟩
  go_wp2_with fail
  go_ret
  have hs : ∀ k, k = g → w.heap.size ≤ k := fun k hk => hk ▸ GE.out
  exact ⟨rfl, Beside.step (Beside.step (Beside.step (Beside.step B1.out B2.out hs) B3.out hs) B4.out hs) B5.out hs⟩
/-! ### The laws -/
theorem wf_ok {n : Int} (h : (Lit.int .u64 n).wf = true) : ok64 n := by
  simp [Lit.wf, IntKind.min, IntKind.max, IntKind.signed, IntKind.bits] at h
  exact ⟨by omega, by omega⟩
theorem took_c1 {s : GS} {n : Int} (hu : ok64 s.u) (hn : ok64 n) (h : s.c1 = s.u) : (took s n).1.c1 = (took s n).1.u := by
  unfold took
  split
  · exact h
  · split
    · rename_i h2
      show up s.c1 = n
      rw [h, up, wu64 (by have := hu.1; omega) (by have := hn.2; omega), h2]
    · exact h
set_option maxHeartbeats 1000000 in
theorem AcceptOnce (A0 : Option Addr) (c0 : Nat) (l0 : List Int) (w : World) (hr0 : Kd.C (Kd.int .u64) w A0 l0.length l0) (hc0 : l0.length ≤ c0) (w0 : l0.length ≤ maxLen ∧ ∀ x ∈ l0, (Lit.int .u64 x).wf = true) :
    Calls Try.prog 3 #[.slice A0 l0.length c0] w fun e w' => e = .returned (.bool true) ∧ Below w.heap.size w w' := by
  have hlen : l0.length ≤ 9223372036854775807 := by have := w0.1; unfold maxLen at this; exact this
  have HN := Aside0.mk (fun x hx => wf_ok (w0.2 x hx))
  have HR := Aside0.mk hr0
  have HC := Aside0.mk hc0
  clear hr0 hc0 w0
  by_cases hl : (200 : Int) < l0.length
  · have hl' : decide ((200 : Int) < l0.length) = true := decide_eq_true hl
    go_enter Try.func3, Try.ntmps3
    go_wp2_with fail
    refine (awake_calls _).mono ?_
    rintro e w1 ⟨rfl, hb⟩
    have B1 := Aside0.mk hb
    clear hb
    go_wp2_with fail
    go_ret
    exact ⟨rfl, B1.out⟩
  · have hl' : decide ((200 : Int) < l0.length) = false := decide_eq_false hl
    go_enter Try.func3, Try.ntmps3
    go_wp2_with fail
    refine (New_calls _).mono ?_
    rintro e w1 ⟨g, rfl, hge, hg, hb⟩
    have GE := Aside0.mk hge
    have G1 := Aside0.mk hg
    have B1 := Aside0.mk hb
    clear hg hb hge
    go_wp2_with fail
    refine (New_calls _).mono ?_
    rintro e w2 ⟨g2, rfl, hge, hg, hb⟩
    have NE : Aside0 (g2 ≠ g) := ⟨by have := blk_lt G1.out; omega⟩
    have GE2 : Aside0 (w.heap.size ≤ g2) := ⟨Nat.le_trans B1.out.size hge⟩
    have H2 := Aside0.mk hg
    have G2 : Aside0 (Gate w2 g _) := ⟨blk_below G1.out hb⟩
    have B2 := Aside0.mk (below_step B1.out hb)
    clear hg hb hge G1 B1
    go_wp2_with fail
    refine (Take_calls _ _ _ _ l0 _ H2.out ⟨by decide, by decide⟩ (Kd.C_kept_came (Kd.heap_int _) HR.out B2.out (fun k hk => hk ▸ GE2.out)) HC.out hlen HN.out).mono ?_
    rintro e w3 ⟨rfl, hg, hb⟩
    have H3 := Aside0.mk hg
    have G3 : Aside0 (Gate w3 g _) := ⟨hb.blk G2.out (fun e => NE.out e.symm)⟩
    have B3 := Aside0.mk (Beside.step B2.out hb (fun k hk => hk ▸ GE2.out))
    clear hg hb H2 G2 B2
    generalize hT : tookAll g0 0 l0 = T at *
    have HT := Aside0.mk hT
    clear hT
    go_wp2_with fail
    go_loopg [6, 7, 8] l0.length (fun kq v6 v7 v8 w' => ∃ (j : Nat) (t : GS) (a : Int), v6 = .int .u64 t.u ∧ v7 = .int .u8 a ∧ v8 = .int .i64 j ∧ j ≤ l0.length ∧ l0.length ≤ kq + j ∧ Aside0 (T = tookAll t a (l0.drop j)) ∧ Aside0 (ok64 t.u) ∧ Aside0 (t.c1 = t.u) ∧ Aside0 (Gate w' g t) ∧ Aside0 (Gate w' g2 T.1) ∧ Aside0 (Below w.heap.size w w'))
    case atStart => exact ⟨0, g0, 0, rfl, rfl, rfl, by omega, by omega, ⟨HT.out.symm⟩, ⟨by decide, by decide⟩, ⟨rfl⟩, G3, H3, B3⟩
    case round =>
      clear G3 H3 B3 HT
      obtain ⟨j, t, a, rfl, rfl, rfl, hj, hkj, HT, HU, H1, G, H, HB⟩ := hrel
      by_cases hlt : j < l0.length
      · have hlt' : decide ((j : Int) < l0.length) = true := decide_eq_true (by omega)
        obtain ⟨ad, ead, hx⟩ := Kd.at_int HR.out (j : Int) (by omega) (by omega)
        cases ead
        have HX : Aside0 (∀ w', Below w.heap.size w w' → w'.cell? (ad.add j) = some (.int .u64 (rd l0 j))) := ⟨fun w' hb => by simpa using (hb.cell (World.block_lt_of_cell? w _ hx)).trans hx⟩
        clear hx
        have hx1 := HX.out wr HB.out
        have hd : l0.drop j = rd l0 j :: l0.drop (j + 1) := by
          rw [List.drop_eq_getElem_cons hlt]
          simp [rd, List.getD, hlt]
        have hm : rd l0 j ∈ l0 := by
          simp [rd, List.getD, hlt]
        have hok := Aside0.mk (HN.out _ hm)
        have HT' := Aside0.mk (show T = tookAll (took t (rd l0 j)).1 (took t (rd l0 j)).2 (l0.drop (j + 1)) by rw [HT.out, hd]; rfl)
        clear hd hm HT
        generalize rd l0 j = n at *
        have p_ : (0 ≤ (j : Int)) = True := eq_true (by omega)
        have q_ : ((j : Int) < (l0.length : Int)) = True := eq_true (by omega)
        have H1' := Aside0.mk (took_c1 HU.out hok.out H1.out)
        have HU' := Aside0.mk (took_ok HU.out hok.out)
        go_wp2_with fail
        refine (Take1_calls g t n _ _ G.out HU.out hok.out).mono ?_
        rintro e w4 ⟨rfl, hg1, hb1⟩
        have G1 := Aside0.mk hg1
        have H2 : Aside0 (Gate w4 g2 _) := ⟨hb1.blk H.out NE.out⟩
        have HB2 := Aside0.mk (Beside.step HB.out hb1 (fun k hk => hk ▸ GE.out))
        have hx2 := HX.out w4 HB2.out
        clear hg1 hb1 G H HB hx1
        by_cases h1 : n ≤ t.u
        · have ht : took t n = ({ t with o := true, c2 := up t.c2 }, 2) := if_pos h1
          rw [ht] at HT' H1' HU' G1 ⊢
          clear ht
          go_wp2_with fail
          go_roundg (gk - 1)
          case measure => omega
          case rel => exact ⟨j + 1, { t with o := true, c2 := up t.c2 }, _, rfl, rfl, (by simp), by omega, by omega, HT', HU', H1', G1, H2, HB2⟩
        · by_cases h2 : n = t.u + 1
          · have ht : took t n = ({ t with u := n, o := true, c1 := up t.c1 }, 1) := (if_neg h1).trans (if_pos h2)
            rw [ht] at HT' H1' HU' G1 ⊢
            have hw : IntKind.u64.wrap (t.u + 1) = n := by rw [← h2]; exact wu64 hok.out.1 hok.out.2
            clear ht h2 h1
            go_wp2_with fail
            go_roundg (gk - 1)
            case measure => omega
            case rel => exact ⟨j + 1, { t with u := n, o := true, c1 := up t.c1 }, _, rfl, rfl, (by simp), by omega, by omega, HT', HU', H1', G1, H2, HB2⟩
          · have ht : took t n = ({ t with o := true, c3 := up t.c3 }, 3) := (if_neg h1).trans (if_neg h2)
            rw [ht] at HT' H1' HU' G1 ⊢
            clear ht
            go_wp2_with fail
            go_roundg (gk - 1)
            case measure => omega
            case rel => exact ⟨j + 1, { t with o := true, c3 := up t.c3 }, _, rfl, rfl, (by simp), by omega, by omega, HT', HU', H1', G1, H2, HB2⟩
      · have hlt' : decide ((j : Int) < l0.length) = false := decide_eq_false (by omega)
        have hd : l0.drop j = [] := List.drop_eq_nil_iff.2 (by omega)
        have HT' := Aside0.mk (show T = (t, a) by rw [HT.out, hd]; rfl)
        clear hd HT
        obtain rfl := HT'.out
        clear HT'
        go_wp2_with fail
        refine (Upto_calls _ _ _ G.out).mono ?_
        rintro e w4 ⟨rfl, rfl⟩
        go_wp2_with fail
        refine (Upto_calls _ _ _ H.out).mono ?_
        rintro e w4 ⟨rfl, rfl⟩
        go_wp2_with fail
        refine (Count_calls _ _ 1 _ H.out ⟨by decide, by decide⟩).mono ?_
        rintro e w4 ⟨rfl, rfl⟩
        have h1 : cnt t 1 = t.u := H1.out
        rw [show cnt (t, a).1 1 = t.u from h1]
        clear h1
        go_wp2_with fail
        refine (awake_calls _).mono ?_
        rintro e w4 ⟨rfl, hb⟩
        have B4 := Aside0.mk (below_step HB.out hb)
        clear hb
        go_wp2_with fail
        go_ret
        exact ⟨rfl, B4.out⟩

end Go.Proofs.Ytfhhpliofajiaaa.Walk
