/- Whether one of some runs has an id. Conditions: none beyond the statement's own. -/
import Derived.Test.YtgcnaebhmcggoaaWalkJoin
import Derived.Test.YtgcnaebhmcggoaaF26
import Derived.Test.YtgcnaebhmcggoaaArgs
import Derived.Deep.QuietTactic
import Derived.BigQuiet
import Derived.Lib.QuietBelow
import Derived.Outline
import Derived.Deep.RegionHeld3
import Derived.Deep.CutRange
namespace Go.Proofs.Ytgcnaebhmcggoaa.Walk
open Go.RowKit Go.Proofs.Ytgcnaebhmcggoaa.F Go.Proofs.YtgcnaebhmcggoaaW.PrintWords Go.Proofs.YtgcnaebhmcggoaaW.PrintLast Go.Proofs.YtgcnaebhmcggoaaW.PrintMore Go.Proofs.Ytgcnaebhmcggoaa.Open
open Go.Sort (grow)
attribute [local go_sem] max2_int min2_int max_two min_two max_three min_three max_four min_four
set_option linter.unusedVariables false
set_option linter.unusedSimpArgs false

/-! ### Has -/
def runI (x : Rn) : Bool := (ident_Run.f x.f0 x.f1 x.f2).getD false
theorem run_f (x : Rn) : ident_Run.f x.f0 x.f1 x.f2 = some (runI x) := by
  have : ∃ r, ident_Run.f x.f0 x.f1 x.f2 = some r := by
    unfold ident_Run.f
    repeat (first | exact ⟨_, rfl⟩ | split)
  obtain ⟨r, hr⟩ := this
  unfold runI
  rw [hr]
  rfl
def hasI (id : I) (x : Rn) : Bool := runI x && (decide (x.f0 = id.f0) && (decide (x.f1 ≤ id.f1) && decide (IntKind.u64.wrap (id.f1 - x.f1) < x.f2)))
set_option maxHeartbeats 2000000 in
theorem has_closure (id : I) (x : Rn) (B : Nat) (W : World) (hB : W.heap[B]? = some (.cells #[.int .u8 id.f0, .int .u64 id.f1] tI (0, 0))) :
    Calls Try.prog 37 #[.agg #[.int .u8 x.f0, .int .u64 x.f1, .int .u64 x.f2], .pointer (some ⟨B, 0, none⟩)] W fun e w' => e = .returned (.bool (hasI id x)) ∧ Below W.heap.size W w' := by
  have HM := Aside0.mk (run_f x)
  have hu := Try.underlying40
  have HBB := Aside0.mk hB
  have BX := Aside0.mk (blk_new W (.cells #[.int .u8 x.f0, .int .u64 x.f1, .int .u64 x.f2] tRn))
  obtain ⟨r0, h0⟩ : ∃ r, runI x = r := ⟨_, rfl⟩
  obtain ⟨r1, h1⟩ : ∃ r, decide (x.f0 = id.f0) = r := ⟨_, rfl⟩
  obtain ⟨r2, h2⟩ : ∃ r, decide (x.f1 ≤ id.f1) = r := ⟨_, rfl⟩
  obtain ⟨d, hd⟩ : ∃ d, IntKind.u64.wrap (id.f1 - x.f1) = d := ⟨_, rfl⟩
  obtain ⟨r3, h3⟩ : ∃ r, decide (d < x.f2) = r := ⟨_, rfl⟩
  have HH : Aside0 (hasI id x = (r0 && (r1 && (r2 && r3)))) := ⟨by unfold hasI; rw [h0, h1, h2, hd, h3]⟩
  rw [HH.out]
  rw [h0] at HM
  have h1' : (x.f0 == id.f0) = r1 := by rw [← h1]; rfl
  clear hB h0
  go_enter Try.func37, Try.ntmps37
  go_wp2_with fail
  refine (ident_Run.calls x.f0 x.f1 x.f2 _ _ HM.out).mono ?_
  rintro e w1 ⟨rfl, hb⟩
  have B1 : Aside0 (Below W.heap.size W w1) := ⟨below_step (below_alloc (Below.refl _ _) _) hb⟩
  have c := fun j => blk_cell (blk_below HBB.out B1.out) j
  have k := fun j => blk_cell (blk_below BX.out hb) j
  have c0 : w1.cell? ⟨B, 0, none⟩ = some (.int .u8 id.f0) := (c 0).trans rfl
  have c1 : w1.cell? ⟨B, 1, none⟩ = some (.int .u64 id.f1) := (c 1).trans rfl
  have k0 : w1.cell? ⟨W.heap.size, 0, none⟩ = some (.int .u8 x.f0) := (k 0).trans rfl
  have k1 : w1.cell? ⟨W.heap.size, 1, none⟩ = some (.int .u64 x.f1) := (k 1).trans rfl
  have k2 : w1.cell? ⟨W.heap.size, 2, none⟩ = some (.int .u64 x.f2) := (k 2).trans rfl
  clear c k hb
  cases r0 <;> cases r1 <;> cases r2 <;> (go_wp2_with fail; go_ret; exact ⟨rfl, B1.out⟩)
set_option maxHeartbeats 2000000 in
theorem IndexH_calls (id : I) (B : Nat) (A0 : Option Addr) (c0 : Nat) (L : List Rn) (w : World) (hl : L.length ≤ 1000000000000) (hr : Kd.C kRn w A0 L.length L) (hB : w.heap[B]? = some (.cells #[.int .u8 id.f0, .int .u64 id.f1] tI (0, 0))) :
    Calls Try.prog 44 #[.slice A0 L.length c0, .func (.func 37) #[] #[.pointer (some ⟨B, 0, none⟩)]] w fun e w' => (∃ i : Int, e = .returned (.int .i64 i) ∧ decide (0 ≤ i) = L.any (hasI id)) ∧ Below w.heap.size w w' := by
  have HR := Aside0.mk hr
  have HBB := Aside0.mk hB
  have hm := Kd.C_max hr
  have eg : ∀ args w, (callFunc 37 args).run Try.prog w = .ok (.enter 37 args) w := enters_of Try.func37 (by kernel_rfl) rfl
  clear hr hB
  go_enter Try.func44, Try.ntmps44
  go_wp2
  go_loopg [5, 8] L.length (fun gg _ s8 wr => ∃ k : Nat, k ≤ L.length ∧ L.length - k ≤ gg ∧ s8 = .int .i64 k ∧ Aside0 (Below w.heap.size w wr) ∧ Aside0 ((L.take k).any (hasI id) = false))
  case atStart => exact ⟨0, Nat.zero_le _, by omega, rfl, ⟨Below.refl _ w⟩, ⟨rfl⟩⟩
  case round =>
    obtain ⟨k, hk, hg, rfl, HB, HF⟩ := hrel
    by_cases hlt2 : k < L.length
    · have hltz : (k : Int) < (L.length : Int) := by omega
      obtain ⟨ad, cc, e, hcl, hK, hcc⟩ := Kd.C_get HR.out z40 (k : Int) (by omega) hltz
      cases e
      have HX : Aside0 (L[k]? = some (L.getD ((k : Int)).toNat z40)) := ⟨by rw [Int.toNat_natCast, List.getD, List.getElem?_eq_getElem hlt2]; rfl⟩
      generalize L.getD ((k : Int)).toNat z40 = x at hK HX
      obtain rfl := k40_open hK
      rw [Int.toNat_natCast] at hcc
      have q0 : wr.cell? (ad.add (k * 3)) = some (.int .u8 x.f0) := pw_cell_below HB.out (hcc 0 _ rfl)
      have q1 : wr.cell? ⟨(ad.add (k * 3)).block, (ad.add (k * 3)).off + 1, none⟩ = some (.int .u64 x.f1) := by
        rw [← add_field _ _ 1 (by omega)]
        exact pw_cell_below HB.out (hcc 1 _ rfl)
      have q2 : wr.cell? ⟨(ad.add (k * 3)).block, (ad.add (k * 3)).off + 2, none⟩ = some (.int .u64 x.f2) := by
        rw [← add_field _ _ 2 (by omega)]
        exact pw_cell_below HB.out (hcc 2 _ rfl)
      have HC := Aside0.mk (has_closure id x B wr (blk_below HBB.out HB.out))
      have hwk := wrapi (x := (k : Int) + 1) (by omega) (by omega)
      clear hcc hcl hK
      cases hm : hasI id x with
      | true =>
        go_wp2_with fail
        refine HC.out.mono ?_
        rintro e w1 ⟨rfl, hb⟩
        have HB2 := Aside0.mk (HB.out.trans (hb.mono HB.out.size))
        clear hb
        rw [hm]
        go_wp2_with fail
        go_ret
        refine ⟨⟨k, rfl, ?_⟩, HB2.out⟩
        rw [decide_eq_true (by omega)]
        exact (List.any_eq_true.2 ⟨x, List.mem_of_getElem? HX.out, hm⟩).symm
      | false =>
        go_wp2_with fail
        refine HC.out.mono ?_
        rintro e w1 ⟨rfl, hb⟩
        have HB2 := Aside0.mk (HB.out.trans (hb.mono HB.out.size))
        clear hb
        rw [hm]
        go_wp2_with fail
        go_roundg (L.length - (k + 1))
        case measure => omega
        case rel => exact ⟨k + 1, by omega, Nat.le_refl _, by go_num, HB2, ⟨by rw [List.take_add_one, HX.out]; simp only [Option.toList_some, List.any_append, HF.out, List.any_cons, List.any_nil, hm, Bool.or_false]⟩⟩
    · obtain rfl : k = L.length := by omega
      have hltz : ¬ (L.length : Int) < (L.length : Int) := by omega
      go_wp2_with fail
      go_ret
      refine ⟨⟨-1, rfl, ?_⟩, HB.out⟩
      have := HF.out
      rw [List.take_length] at this
      rw [this]
      rfl
theorem ContainsH_calls (id : I) (B : Nat) (A0 : Option Addr) (c0 : Nat) (L : List Rn) (w : World) (hl : L.length ≤ 1000000000000) (hr : Kd.C kRn w A0 L.length L) (hB : w.heap[B]? = some (.cells #[.int .u8 id.f0, .int .u64 id.f1] tI (0, 0))) :
    Calls Try.prog 36 #[.slice A0 L.length c0, .func (.func 37) #[] #[.pointer (some ⟨B, 0, none⟩)]] w fun e w' => e = .returned (.bool (L.any (hasI id))) ∧ Below w.heap.size w w' := by
  have HI := Aside0.mk (IndexH_calls id B A0 c0 L w hl hr hB)
  clear hr hB
  go_enter Try.func36, Try.ntmps36
  go_wp2_with fail
  refine HI.out.mono ?_
  rintro e w1 ⟨⟨i, rfl, hi⟩, hb⟩
  have HB := Aside0.mk hb
  clear hb
  go_wp2_with fail
  go_ret
  exact ⟨rfl, HB.out⟩
def hasF (id : I) (L : List Rn) : Bool := L.any (hasI id)
theorem Has_calls (a0 a1 : Int) (A0 : Option Addr) (c0 : Nat) (L : List Rn) (w : World) (hl : L.length ≤ 1000000000000) (hr : Kd.C kRn w A0 L.length L) :
    Calls Try.prog 23 #[.agg #[.int .u8 a0, .int .u64 a1], .slice A0 L.length c0] w fun e w' => e = .returned (.bool (hasF ⟨a0, a1⟩ L)) ∧ Below w.heap.size w w' := by
  have hu := Try.underlying33
  have HI := Aside0.mk (ContainsH_calls ⟨a0, a1⟩ w.heap.size A0 c0 L (w.alloc (.cells #[.int .u8 a0, .int .u64 a1] tI)) hl (Kd.C_alloc hr _) (blk_new w _))
  clear hr
  go_enter Try.func23, Try.ntmps23
  go_wp2_with fail
  refine HI.out.mono ?_
  rintro e w1 ⟨rfl, hb⟩
  have HB : Aside0 (Below w.heap.size w w1) := ⟨below_step (below_alloc (Below.refl _ _) _) hb⟩
  clear hb
  go_wp2_with fail
  go_ret
  exact ⟨rfl, HB.out⟩

end Go.Proofs.Ytgcnaebhmcggoaa.Walk
