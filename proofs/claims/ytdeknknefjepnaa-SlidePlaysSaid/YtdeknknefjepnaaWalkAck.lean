/- Frames that are acknowledged leave a window. Conditions: none beyond the statement's own. -/
import Derived.Test.YtdeknknefjepnaaWalkNew
import Derived.Test.YtdeknknefjepnaaArgs
import Derived.Deep.QuietTactic
import Derived.BigQuiet
import Derived.Lib.QuietBelow
import Derived.Outline
import Derived.Deep.RegionHeld3
import Derived.Deep.CutRange
namespace Go.Proofs.Ytdeknknefjepnaa.Walk
open Go.RowKit Go.Proofs.Ytdeknknefjepnaa.F Go.Proofs.YtdeknknefjepnaaW.PrintWords Go.Proofs.YtdeknknefjepnaaW.PrintLast Go.Proofs.YtdeknknefjepnaaW.PrintMore Go.Proofs.Ytdeknknefjepnaa.Open
open Go.Sort (grow)
attribute [local go_sem] max2_int min2_int max_two min_two max_three min_three max_four min_four
set_option linter.unusedVariables false
set_option linter.unusedSimpArgs false

/-! ### Acked -/
theorem ack_end {w3 w4 : World} {S : Nat → Prop} {g n rb cap ix : Nat} {last : Int} {f : Fr} {L ring : List Fr} (hok : wok n last (f :: L)) (hSg : S g)
    (h3 : w3.heap[g]? = some (.cells #[.slice (some ⟨rb, 0, none⟩) n cap, .int .u64 (last - L.length), .int .u64 last] tW (0, 0)))
    (h4 : Kd.R kF eF w4 0 (fun k => S k ∧ k ≠ g) (.slice (some ⟨rb, 0, none⟩) n cap) (ring.set ix z36)) (hg : w3.grownBy w4 (some rb)) (hrb : rb ≠ g) (h5 : ring.length = n) (h6 : inRing ring last (f :: L)) (hix : (last - L.length) % (n : Int) = ix) :
    Win (w4.setCell ⟨g, 1, none⟩ (.int .u64 (last - L.length + 1))) S g n last L := by
  have hl := hok.fit
  simp only [List.length_cons] at hl
  have h7 := h6.ack (z := z36) (by omega)
  rw [h5, hix, Int.toNat_natCast] at h7
  have hle := hok.le
  simp only [List.length_cons] at hle
  refine ⟨⟨hok.n1, hok.n64, by omega, by omega, hok.big, fun x hx => hok.fr x (List.mem_cons_of_mem _ hx)⟩, hSg, _, rb, cap, ?_, Kd.R_far (p := ⟨g, 1, none⟩) h4 (fun k hk => hk.2) _, by simp [h5], h7⟩
  have e : last + 1 - (L.length : Int) = last - L.length + 1 := by omega
  rw [e]
  exact blk_put ((hg.block g (blk_lt h3) (fun he => hrb (Option.some.inj he).symm)).trans h3) 1 _ rfl
set_option maxHeartbeats 2000000 in
set_option maxRecDepth 100000 in
theorem Acked_calls {S : Nat → Prop} {g n : Nat} {last : Int} {L : List Fr} (u : Int) (k : Nat) (w : World) (hW : Win w S g n last L) (hu0 : 0 ≤ u) (hu1 : u < 18446744073709551616) (hk : k = if last < u then 0 else (u - (last - L.length)).toNat) :
    Calls Try.prog 14 #[.pointer (some ⟨g, 0, none⟩), .int .u64 u] w fun e w' => e = .returned (.int .i64 k) ∧ Win w' S g n last (L.drop k) ∧ Beside S w w' := by
  have HW := Aside0.mk hW
  obtain ⟨hok, hSg, ring0, rb0, cap0, h3, h4, h5, h6⟩ := hW
  have c2 : w.cell? ⟨g, 2, none⟩ = some (.int .u64 last) := (blk_cell h3 2).trans rfl
  have hle := hok.le
  have hfit := hok.fit
  have h64 := hok.n64
  clear h3 h4 h5 h6 hSg hok ring0 rb0 cap0
  by_cases hlu : last < u
  · have hlu' : decide (last < u) = true := decide_eq_true hlu
    rw [if_pos hlu] at hk
    subst hk
    clear hlu
    go_enter Try.func14, Try.ntmps14
    go_wp2
    go_ret
    exact ⟨rfl, HW.out, Beside.refl S w⟩
  · have hlu' : decide (last < u) = false := decide_eq_false hlu
    rw [if_neg hlu] at hk
    have HK := Aside0.mk hk
    have hkl : k ≤ L.length := by omega
    clear hlu hk
    go_enter Try.func14, Try.ntmps14
    go_wp2_with fail
    go_loopg [5] k (fun kq v5 w' => ∃ j : Nat, v5 = .int .i64 j ∧ j ≤ k ∧ k ≤ kq + j ∧ Aside0 (Win w' S g n last (L.drop j)) ∧ Aside0 (Beside S w w'))
    case atStart => exact ⟨0, rfl, by omega, by omega, HW, ⟨Beside.refl S w⟩⟩
    case round =>
      clear HW c2
      obtain ⟨j, rfl, hj, hkj, HW1, HB1⟩ := hrel
      obtain ⟨hok, hSg, ring, rb, cap, h3, h4, h5, h6⟩ := HW1.out
      have hdl : (L.drop j).length = L.length - j := List.length_drop
      by_cases hlt : j < k
      · obtain ⟨f, L', hL'⟩ : ∃ f L', L.drop j = f :: L' := by
          cases hd : L.drop j with
          | nil => rw [hd] at hdl; simp at hdl; omega
          | cons f L' => exact ⟨f, L', rfl⟩
        have hLn : L.drop (j + 1) = L' := by rw [← List.drop_drop, hL']; rfl
        rw [hL'] at h3 h6 hok hdl HW1
        simp only [List.length_cons] at h3 hdl
        obtain ⟨fi, hfi⟩ : ∃ fi : Int, fi = last - L'.length := ⟨_, rfl⟩
        have e1 : last + 1 - ((L'.length + 1 : Nat) : Int) = fi := by omega
        rw [e1] at h3
        have hfu : decide (fi ≤ u) = true := decide_eq_true (by have := HK.out; omega)
        have c0 : wr.cell? ⟨g, 0, none⟩ = some (.slice (some ⟨rb, 0, none⟩) n cap) := (blk_cell h3 0).trans rfl
        have c1 : wr.cell? ⟨g, 1, none⟩ = some (.int .u64 fi) := (blk_cell h3 1).trans rfl
        have f0 : 0 ≤ fi := by have := hok.le; simp at this; omega
        have hwf : IntKind.u64.wrap (fi + 1) = fi + 1 := wu64 (by omega) (by have := hok.big; omega)
        obtain ⟨ix, hix⟩ : ∃ ix : Nat, fi % (n : Int) = (ix : Int) := ⟨(fi % n).toNat, by have := Int.emod_nonneg fi (show (n : Int) ≠ 0 by have := hok.n1; omega); omega⟩
        have IX := Aside0.mk hix
        have IL : Aside0 (ix < n) := ⟨by have := Int.emod_lt_of_pos fi (show (0 : Int) < n by have := hok.n1; omega); omega⟩
        have hwj : wrap64 ((j : Int) + 1) = ((j + 1 : Nat) : Int) := by rw [w64 (by omega) (by omega)]; simp
        have H3 := Aside0.mk h3
        have H4 := Aside0.mk h4
        have H5 := Aside0.mk h5
        have H6 := Aside0.mk h6
        have HOK := Aside0.mk hok
        have HG := Aside0.mk hSg
        have RG := Aside0.mk (h4.1 rb (by simp [Value.ownBlock]))
        have HLn := Aside0.mk hLn
        have HFI := Aside0.mk hfi
        clear h3 h4 h5 h6 hok hSg hix hLn hfi e1 hL' hdl
        go_wp2_with (first
          | (go_at_call 24; refine (at_calls g rb cap n fi _ c0 HOK.out.n1 HOK.out.n64 f0 ix IX.out).mono ?_; rintro e wa ⟨rfl, q, rfl⟩; have D4 : Aside0 (Kd.R kF eF (wr.drewN q) 0 (fun b => S b ∧ b ≠ g) (.slice (some ⟨rb, 0, none⟩) n cap) ring) := ⟨Kd.R_drewN H4.out q⟩; have D3 : Aside0 ((wr.drewN q).heap[g]? = some (.cells #[.slice (some ⟨rb, 0, none⟩) n cap, .int .u64 fi, .int .u64 last] tW (0, 0))) := ⟨H3.out⟩; have DB : Aside0 (Beside S w (wr.drewN q)) := ⟨HB1.out.drewN q⟩; clear c0 c1; generalize wr.drewN q = w3 at *)
          | ((with_reducible refine gate_ (.store 36 (.tmp 36) (.tmp 35)) rfl ?_); refine Kd.R_whole kF 0 (w0 := w3) rfl rfl 36 (.tmp 36) (.tmp 35) rfl eF ix ring z36 z36 [.int .u8 0, .int .u8 0, .int .u8 0, .int .u8 0, .int .u64 0, .int .u64 0, .int .u32 0, .int .u32 0, .int .u32 0, .int .u64 0, .int .u64 0, .slice none 0 0, .slice none 0 0, .slice none 0 0, .slice none 0 0, .slice none 0 0] (fun b => S b ∧ b ≠ g) (fun b => False) rfl rfl rfl (by rfl) D4.out IL.out (zf_M _ _ _) (fun b hb => hb.elim) (Below.refl _ _) ?_; intro w4 ho hb hg; have R4 := Aside0.mk ho; have G4 := Aside0.mk hg; clear ho hb hg; have b4 : w4.heap[g]? = some (.cells #[.slice (some ⟨rb, 0, none⟩) n cap, .int .u64 fi, .int .u64 last] tW (0, 0)) := (G4.out.block g (blk_lt D3.out) (fun he => RG.out.2 (Option.some.inj he).symm)).trans D3.out; have c1 : w4.cell? ⟨g, 1, none⟩ = some (.int .u64 fi) := (blk_cell b4 1).trans rfl; have z1 := blk_frozen b4 1; clear b4))
        have D3b := D3.out
        rw [HFI.out] at D3b
        have WE := ack_end HOK.out HG.out D3b R4.out G4.out RG.out.2 H5.out H6.out (by rw [← HFI.out]; exact IX.out)
        rw [← HFI.out, ← HLn.out] at WE
        have WE2 := Aside0.mk WE
        have BE2 : Aside0 (Beside S w (w4.setCell ⟨g, 1, none⟩ (.int .u64 (fi + 1)))) := ⟨(DB.out.trans (w2 := w4) ⟨G4.out.os, G4.out.tape, G4.out.output, G4.out.size, fun b hb hn => G4.out.block b hb (fun he => hn (by rw [Option.some.inj he]; exact RG.out.1))⟩).setCell (p := ⟨g, 1, none⟩) HG.out _⟩
        clear WE D3b
        go_roundg (gk - 1)
        case measure => omega
        case rel => exact ⟨j + 1, by rfl, by omega, by omega, WE2, BE2⟩
      · have hjk : j = k := by omega
        subst hjk
        obtain ⟨fi, hfi⟩ : ∃ fi : Int, fi = last + 1 - (L.drop j).length := ⟨_, rfl⟩
        rw [← hfi] at h3
        have c1 : wr.cell? ⟨g, 1, none⟩ = some (.int .u64 fi) := (blk_cell h3 1).trans rfl
        have hfu : decide (fi ≤ u) = false := decide_eq_false (by have := HK.out; have := hok.le; omega)
        clear h3 h4 h5 h6 hok hSg hfi hdl
        go_wp2_with fail
        go_ret
        exact ⟨rfl, HW1.out, HB1.out⟩

end Go.Proofs.Ytdeknknefjepnaa.Walk
