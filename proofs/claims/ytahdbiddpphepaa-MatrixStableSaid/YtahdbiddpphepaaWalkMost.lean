/- Most. Conditions: none beyond the statement's own. -/
import Derived.Test.YtahdbiddpphepaaWalkQs
import Derived.Test.YtahdbiddpphepaaF1
import Derived.Test.YtahdbiddpphepaaArgs
import Derived.Deep.QuietTactic
import Derived.BigQuiet
import Derived.Lib.QuietBelow
import Derived.Outline
import Derived.Deep.RegionHeld3
import Derived.Deep.CutRange
namespace Go.Proofs.Ytahdbiddpphepaa.Walk
open Go.RowKit Go.Proofs.Ytahdbiddpphepaa.F Go.Proofs.YtahdbiddpphepaaW.PrintWords Go.Proofs.YtahdbiddpphepaaW.PrintLast Go.Proofs.YtahdbiddpphepaaW.PrintMore Go.Proofs.Ytahdbiddpphepaa.Open
open Go.Sort (grow)
attribute [local go_sem] max2_int min2_int max_two min_two max_three min_three max_four min_four
set_option linter.unusedVariables false
set_option linter.unusedSimpArgs false

/-! ### Most -/
def most (L : List X) : List Int := foldAll mx (L.map (·.f2))
theorem most_max {L : List X} (h : mok L) : vec_Max.f (L.map (·.f2)) = some (most L) := by
  have h2 := h.n2
  refine if_pos ⟨by simp; omega, Nat.le_trans (longest_le (m := 64) _ (fun a ha => ?_)) (by decide)⟩
  obtain ⟨x, hx, rfl⟩ := List.mem_map.1 ha
  rw [(h.row x hx).l2]
  exact h2
section
variable {w : World} {S : Nat → Prop} {g rb cp : Nat} {L : List X}
set_option maxHeartbeats 4000000 in
theorem Most_calls (h : Mat w S g rb cp L) : Calls Try.prog 16 #[.pointer (some ⟨g, 0, none⟩)] w fun e w' => ∃ v, e = .returned v ∧ Kd.R kU tU w' w.heap.size (fun _ => True) v (most L) ∧ Below w.heap.size w w' := by
  obtain ⟨hcp, K, hK0, hC, hv⟩ := h.views
  have A1 := Aside0.mk (All2.of_get hK0 hv)
  have C1 := Aside0.mk hC
  have HK := Aside0.mk hK0
  have hn2 := h.ok.n2
  have SM := Aside0.mk (most_max h.ok)
  have c0 := h.cell
  clear h hv hC hK0
  go_enter Try.func16, Try.ntmps16
  go_wp2_with fail
  go_loopg [3, 13] L.length (fun gg s3 s13 wr => ∃ j : Nat, s13 = .int .i64 j ∧ j ≤ L.length ∧ L.length - j ≤ gg ∧ Aside0 (Below w.heap.size w wr) ∧ Aside0 (Kd.R kH tS wr w.heap.size (fun _ => True) s3 ((K.take j).map (·.h2))))
  case atStart => exact ⟨0, rfl, Nat.zero_le _, by omega, ⟨Below.refl _ _⟩, ⟨Kd.R_nil _ _ _ _ _⟩⟩
  case round =>
    obtain ⟨j, rfl, hj, hgg, HB, RO⟩ := hrel
    by_cases hlt : j < L.length
    · have hltz : (j : Int) < (L.length : Int) := by omega
      obtain ⟨ad, cc, e, hcl, hKK, hcc⟩ := Kd.C_get C1.out zV (j : Int) (by omega) hltz
      cases e
      have HX : Aside0 (K[j]? = some (K.getD ((j : Int)).toNat zV)) := ⟨by rw [Int.toNat_natCast, List.getD, List.getElem?_eq_getElem (by rw [HK.out]; exact hlt)]; rfl⟩
      generalize K.getD ((j : Int)).toNat zV = x at hKK HX
      obtain rfl := kV_open hKK
      rw [Int.toNat_natCast] at hcc
      have hcc : ∀ i u, (encV x)[i]? = some u → w.cell? ⟨rb, j * 4 + i, none⟩ = some u := fun i u hi => by
        have := hcc i u hi
        rwa [add_plain] at this
      have q0 : wr.cell? ⟨rb, j * 4, none⟩ = some (.int .u64 x.i) := pw_cell_below HB.out (hcc 0 _ rfl)
      have q1 : wr.cell? ⟨rb, j * 4 + 1, none⟩ = some (.slice x.h1.A x.h1.n x.h1.c) := pw_cell_below HB.out (hcc 1 _ rfl)
      have q2 : wr.cell? ⟨rb, j * 4 + 2, none⟩ = some (.slice x.h2.A x.h2.n x.h2.c) := pw_cell_below HB.out (hcc 2 _ rfl)
      have q3 : wr.cell? ⟨rb, j * 4 + 3, none⟩ = some (.bool x.g) := pw_cell_below HB.out (hcc 3 _ rfl)
      have hwj : IntKind.i64.wrap ((j : Int) + 1) = ((j + 1 : Nat) : Int) := by rw [IntKind.wrap_i64]; omega
      obtain ⟨Ao, co, rfl⟩ := Kd.R_slice RO.out
      have hlen : ((K.take j).map (·.h2)).length = j := by have := HK.out; simp; omega
      rw [hlen] at RO ⊢
      have EJ : Aside0 ((K.take (j + 1)).map (·.h2) = (K.take j).map (·.h2) ++ [x.h2]) := ⟨by rw [List.take_add_one, HX.out]; simp⟩
      have HL := Aside0.mk hlen
      clear hcc hcl hKK hlen
      go_upto_region 7 with (fail)
      have BXq : Aside0 ((wr.alloc (.cells #[.int .u64 x.i, .slice x.h1.A x.h1.n x.h1.c, .slice x.h2.A x.h2.n x.h2.c, .bool x.g] tX)).heap[wr.heap.size]? = some (.cells #[.int .u64 x.i, .slice x.h1.A x.h1.n x.h1.c, .slice x.h2.A x.h2.n x.h2.c, .bool x.g] tX (0, 0))) := ⟨blk_new wr _⟩
      have BQ : Aside0 (Below w.heap.size w (wr.alloc (.cells #[.int .u64 x.i, .slice x.h1.A x.h1.n x.h1.c, .slice x.h2.A x.h2.n x.h2.c, .bool x.g] tX))) := ⟨below_alloc HB.out _⟩
      have RQ := Aside0.mk (Kd.R_alloc RO.out (.cells #[.int .u64 x.i, .slice x.h1.A x.h1.n x.h1.c, .slice x.h2.A x.h2.n x.h2.c, .bool x.g] tX))
      generalize wr.alloc (.cells #[.int .u64 x.i, .slice x.h1.A x.h1.n x.h1.c, .slice x.h2.A x.h2.n x.h2.c, .bool x.g] tX) = wq at BXq BQ RQ ⊢
      have e2 : wq.cell? ⟨wr.heap.size, 2, none⟩ = some (.slice x.h2.A x.h2.n x.h2.c) := (blk_cell BXq.out 2).trans rfl
      clear q0 q1 q2 q3 RO
      go_wp2_with ((with_reducible refine gate_dst (N := 21) rfl ?_); refine Kd.R_append kH (w0 := w) w.heap.size rfl (.tmp 17) (.tmp 20) 66 tS (.slice none 0 0) 24 rfl Try.underlying66 infoS rfl (by decide) (by decide) (.slice Ao j co) ((K.take j).map (·.h2)) x.h2 [hv x.h2] (fun _ => True) (fun _ => False) rfl rfl rfl (fun _ hk => hk.elim) (fun _ _ => trivial) RQ.out BQ.out BQ.out.size (by rw [HL.out]; omega) ?_; intro v1 w6 ho hb hg hat; have RO6 := Aside0.mk ho; have B6 := Aside0.mk hb; clear ho hb hg hat)
      go_roundg (L.length - (j + 1))
      case measure => omega
      case rel => exact ⟨j + 1, by go_num, by omega, Nat.le_refl _, B6, ⟨by rw [EJ.out]; exact RO6.out⟩⟩
    · obtain rfl : j = L.length := by omega
      have hltz : ¬ (L.length : Int) < (L.length : Int) := by omega
      obtain ⟨Ao, co, rfl⟩ := Kd.R_slice RO.out
      have hlen : ((K.take L.length).map (·.h2)).length = L.length := by have := HK.out; simp; omega
      rw [hlen] at RO ⊢
      have hCD : Kd.C kSl wr Ao L.length (L.map (·.f2)) := heads_C (by
        have h3 := (Kd.R_reads' RO.out).2.2
        rwa [hlen, List.take_of_length_le (by rw [HK.out]; exact Nat.le_refl _)] at h3) (All2.map A1.out _ _ (fun v x hx => (VX.head2 (VX.step hx (w1 := wr) (fun k hk hlt => HB.out.block k hlt)))))
      have hco : L.length ≤ co := (Kd.R_reads' RO.out).2.1
      have el : (L.map (·.f2)).length = L.length := by rw [List.length_map]
      rw [← el] at hCD hco
      have VM := Aside0.mk (vec_Max.calls Ao co (L.map (·.f2)) _ wr hCD hco SM.out)
      rw [el] at VM
      clear hCD hco el hlen
      go_wp2_with fail
      refine VM.out.mono ?_
      rintro e w7 ⟨v, rfl, hR, hb⟩
      have R7 := Aside0.mk (Kd.R_lower hR HB.out.size)
      have B7 := Aside0.mk (below_step HB.out hb)
      clear hR hb
      go_wp2_with fail
      go_ret
      exact ⟨_, rfl, R7.out, B7.out⟩
end

end Go.Proofs.Ytahdbiddpphepaa.Walk
