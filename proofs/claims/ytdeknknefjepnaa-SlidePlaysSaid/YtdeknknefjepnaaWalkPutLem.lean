/- What a round of Put leaves. Conditions: none beyond the statement's own. -/
import Derived.Test.YtdeknknefjepnaaWalkNew
import Derived.Test.YtdeknknefjepnaaArgs
import Derived.Deep.QuietTactic
import Derived.BigQuiet
import Derived.Lib.QuietBelow
import Derived.Outline
import Derived.Deep.RegionHeld3
import Derived.Deep.CutRange
namespace Go.Proofs.Ytdeknknefjepnaa.Walk
open Go.RowKit Go.Proofs.Ytdeknknefjepnaa.F Go.Proofs.YtdeknknefjepnaaW.PrintWords Go.Proofs.YtdeknknefjepnaaW.PrintLast Go.Proofs.YtdeknknefjepnaaW.PrintMore Go.Proofs.Ytdeknknefjepnaa.Open
open Go.Sort (grow)
attribute [local go_sem] max2_int min2_int max_two min_two max_three min_three max_four min_four
set_option linter.unusedVariables false
set_option linter.unusedSimpArgs false

theorem put_end {w2 w3 w4 : World} {S : Nat → Prop} {g n rb cap : Nat} {last : Int} {L ring : List Fr} {f : Fr} (hok : wok n last L) (hroom : L.length < n) (hbig : last + 1 ≤ 4611686018427387904) (hf : fok f) (hSg : S g)
    (h3 : w2.heap[g]? = some (.cells #[.slice (some ⟨rb, 0, none⟩) n cap, .int .u64 (last + 1 - L.length), .int .u64 (last + 1)] tW (0, 0))) (hb : Below w2.heap.size w2 w3)
    (h4 : Kd.R kF eF w4 0 (fun k => S k ∧ k ≠ g) (.slice (some ⟨rb, 0, none⟩) n cap) (ring.set ((last + 1) % n).toNat f)) (hg : w3.grownBy w4 (some rb)) (hrb : rb ≠ g) (h5 : ring.length = n) (h6 : inRing ring last L) :
    Win w4 S g n (last + 1) (L ++ [f]) := by
  have h7 := h6.put (f := f) (by omega)
  rw [h5] at h7
  refine ⟨⟨hok.n1, hok.n64, by have := hok.le; simp; omega, by simp; omega, hbig, fun x hx => ?_⟩, hSg, _, rb, cap, ?_, h4, by simp [h5], h7⟩
  · rcases List.mem_append.1 hx with hx | hx
    · exact hok.fr x hx
    · rw [List.mem_singleton.1 hx]; exact hf
  · have e : last + 1 + 1 - ((L ++ [f]).length : Int) = last + 1 - L.length := by simp; omega
    rw [e]
    have hlt := blk_lt h3
    exact ((hg.block g (Nat.lt_of_lt_of_le hlt hb.size) (fun he => hrb (Option.some.inj he).symm)).trans (hb.block g hlt)).trans h3
/-- The worlds of one round, up to the call of own. -/
theorem put_w2 {wr w : World} {S : Nat → Prop} {g n rb cap : Nat} {m : Int} {L ring : List Fr} {cs cs' : Array Value} {w2 : World} {v v' : Value} (hB : Beside S w wr) (hSg : S g)
    (h3 : wr.heap[g]? = some (.cells #[.slice (some ⟨rb, 0, none⟩) n cap, .int .u64 (m + 1 - L.length), .int .u64 m] tW (0, 0)))
    (h4 : Kd.R kF eF wr 0 (fun k => (S k ∨ w.heap.size ≤ k) ∧ k ≠ g) (.slice (some ⟨rb, 0, none⟩) n cap) ring) (hv : v = .int .u64 (m + 1)) (hcs : cs.setIfInBounds 5 v' = cs')
    (hw : w2 = ((wr.alloc (.cells cs 36)).setCell ⟨g, 2, none⟩ v).setCell ⟨wr.heap.size, 5, none⟩ v') :
    w2.heap[wr.heap.size]? = some (.cells cs' 36 (0, 0)) ∧ w2.heap[g]? = some (.cells #[.slice (some ⟨rb, 0, none⟩) n cap, .int .u64 (m + 1 - L.length), .int .u64 (m + 1)] tW (0, 0)) ∧
      Beside S w w2 ∧ Kd.R kF eF w2 0 (fun k => (S k ∨ w.heap.size ≤ k) ∧ k ≠ g) (.slice (some ⟨rb, 0, none⟩) n cap) ring ∧ rb < wr.heap.size ∧ rb ≠ g ∧ wr.heap.size < w2.heap.size := by
  have glt := blk_lt h3
  have gne : g ≠ wr.heap.size := by omega
  have b1 : (wr.alloc (.cells cs 36)).heap[wr.heap.size]? = some (.cells cs 36 (0, 0)) := blk_new wr _
  subst hw hv
  have hrb := Kd.R_lt h4 rb (by simp [Value.ownBlock])
  have hrg := (h4.1 rb (by simp [Value.ownBlock])).2
  refine ⟨blk_put ((Below.heap_setCell _ ⟨g, 2, none⟩ _ _ gne.symm).trans b1) 5 _ hcs, (Below.heap_setCell _ ⟨wr.heap.size, 5, none⟩ _ _ gne).trans (blk_put (blk_alloc h3 _) 2 _ rfl), ?_, ?_, hrb, hrg, by simp [World.setCell]⟩
  · exact ((hB.alloc _).setCell (p := ⟨g, 2, none⟩) hSg _).then_ (S2 := fun b => b = wr.heap.size) (Beside.setCell (Beside.refl (fun b => b = wr.heap.size) _) (p := ⟨wr.heap.size, 5, none⟩) rfl _) (fun b hb => Or.inr (by rw [hb]; exact hB.size))
  · refine Kd.R_mono (Kd.R_far (p := ⟨wr.heap.size, 5, none⟩) (Kd.R_far (p := ⟨g, 2, none⟩) (Kd.R_alloc (Kd.R_bound h4) _) (fun k hk => hk.1.2) _) (fun k hk => by have := hk.2.2.1; simp; omega) _) (fun k hk => hk.1)
theorem put_own {w2 : World} {ok : Nat → Prop} {x : Fr} {v : Int} {A11 A12 A13 A14 A15 : Option Addr} {c11 c12 c13 c14 c15 : Nat} (h : Kd.FK kF w2 ok x [.int .u8 x.f0.f0, .int .u8 x.f0.f1, .int .u8 x.f0.f2, .int .u8 x.f1.f0, .int .u64 x.f1.f1, .int .u64 x.f2, .int .u32 x.f3, .int .u32 x.f4, .int .u32 x.f5, .int .u64 x.f6, .int .u64 x.f7, .slice A11 x.f8.length c11, .slice A12 x.f9.length c12, .slice A13 x.f10.length c13, .slice A14 x.f11.length c14, .slice A15 x.f12.length c15]) : kF.K w2 { x with f2 := v } [.int .u8 x.f0.f0, .int .u8 x.f0.f1, .int .u8 x.f0.f2, .int .u8 x.f1.f0, .int .u64 x.f1.f1, .int .u64 (v), .int .u32 x.f3, .int .u32 x.f4, .int .u32 x.f5, .int .u64 x.f6, .int .u64 x.f7, .slice A11 x.f8.length c11, .slice A12 x.f9.length c12, .slice A13 x.f10.length c13, .slice A14 x.f11.length c14, .slice A15 x.f12.length c15] := by
  obtain ⟨B11, d11, B12, d12, B13, d13, B14, d14, B15, d15, e, l11, g11, l12, g12, l13, g13, l14, g14, l15, g15⟩ := k36_open (Kd.FK_now h)
  simp only [List.cons.injEq, Value.slice.injEq, true_and, and_true] at e
  obtain ⟨⟨rfl, rfl⟩, ⟨rfl, rfl⟩, ⟨rfl, rfl⟩, ⟨rfl, rfl⟩, rfl, rfl⟩ := e
  exact k36_mk w2 { x with f2 := v } l11 g11 l12 g12 l13 g13 l14 g14 l15 g15

end Go.Proofs.Ytdeknknefjepnaa.Walk
