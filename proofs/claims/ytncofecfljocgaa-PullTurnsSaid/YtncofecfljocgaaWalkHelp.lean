/- Whom to ask. Conditions: none beyond the statement's own. -/
import Derived.Test.YtncofecfljocgaaWalkRing
import Derived.Test.YtncofecfljocgaaArgs
import Derived.Deep.QuietTactic
import Derived.BigQuiet
import Derived.Lib.QuietBelow
import Derived.Outline
import Derived.Deep.RegionHeld3
import Derived.Deep.CutRange
namespace Go.Proofs.Ytncofecfljocgaa.Walk
open Go.RowKit Go.Proofs.Ytncofecfljocgaa.F Go.Proofs.YtncofecfljocgaaW.PrintWords Go.Proofs.YtncofecfljocgaaW.PrintLast Go.Proofs.YtncofecfljocgaaW.PrintMore Go.Proofs.Ytncofecfljocgaa.Open
open Go.Sort (grow)
attribute [local go_sem] max2_int min2_int max_two min_two max_three min_three max_four min_four
set_option linter.unusedVariables false
set_option linter.unusedSimpArgs false

/-! ### Whom to ask -/
def goes (n me : Int) (skip : List Int) (p : Int) : Bool := decide (p ≥ n) || decide (p = me) || decide (p ∈ skip)
def hpL (n me : Int) (skip H : List Int) : List Int := H.filter fun p => !goes n me skip p
abbrev tPu : Nat := 71
abbrev tWt : Nat := 74
abbrev tID : Nat := 33
/-- What is handed to the puller, as long as only the blocks of T are turned. -/
structure Env (w : World) (T : Nat → Prop) (mv : Value) (H : Int → Int → List Int) (Ah : Option Addr) (ch : Nat) (held : List Int) (As : Option Addr) (cs : Nat) (skip : List Int) : Prop where
  hold : ∀ W, Beside T w W → ∀ f s : Int, 0 ≤ f → f ≤ 255 → Calls Try.prog 15 #[mv, .agg #[.int .u8 f, .int .u64 s]] W fun e w' => ∃ v, e = .returned v ∧ Kd.R kI tI64 w' W.heap.size (fun _ => True) v (H f s) ∧ Below W.heap.size W w'
  hlen : ∀ f s, (H f s).length ≤ 64
  hC : ∀ W, Beside T w W → Kd.C kU W Ah held.length held
  hc : held.length ≤ ch
  sC : ∀ W, Beside T w W → Kd.C kI W As skip.length skip
  sc : skip.length ≤ cs
  sl : skip.length ≤ 100
section
variable {w w1 : World} {T : Nat → Prop} {mv : Value} {H : Int → Int → List Int} {Ah : Option Addr} {ch : Nat} {held : List Int} {As : Option Addr} {cs : Nat} {skip : List Int}
theorem Env.step (E : Env w T mv H Ah ch held As cs skip) (hb : Beside T w w1) : Env w1 T mv H Ah ch held As cs skip :=
  ⟨fun W hW => E.hold W (hb.trans hW), E.hlen, fun W hW => E.hC W (hb.trans hW), E.hc, fun W hW => E.sC W (hb.trans hW), E.sc, E.sl⟩
theorem Env.below (E : Env w T mv H Ah ch held As cs skip) (hb : Below w.heap.size w w1) : Env w1 T mv H Ah ch held As cs skip := E.step (Beside.of_below T hb)
theorem help1_calls {b1 b2 x : Nat} {n me p : Int} (h1 : w.cell? ⟨b1, 0, none⟩ = some (.pointer (some ⟨x, 0, none⟩))) (h2 : w.cell? ⟨b2, 0, none⟩ = some (.slice As skip.length cs)) (hn : w.cell? ⟨x, 0, none⟩ = some (.int .i64 n)) (hm : w.cell? ⟨x, 1, none⟩ = some (.int .i64 me))
    (hC : Kd.C kI w As skip.length skip) (hc : skip.length ≤ cs) (hl : skip.length ≤ 100) :
    Calls Try.prog fH #[.int .i64 p, .pointer (some ⟨b1, 0, none⟩), .pointer (some ⟨b2, 0, none⟩)] w fun e w' => e = .returned (.bool (goes n me skip p)) ∧ Below w.heap.size w w' := by
  have HC := Aside0.mk hC
  have HE := Aside0.mk (contains_ev skip p (by omega) (skip.length + 1) (by omega))
  clear hC
  by_cases c1 : p ≥ n
  · have G : Aside0 (goes n me skip p = true) := ⟨by unfold goes; simp [c1]⟩
    have _c := c1
    go_enter Try.func42, Try.ntmps42
    go_wp2_with fail
    go_ret
    rw [G.out]
    exact ⟨rfl, Below.refl _ _⟩
  · by_cases c2 : p = me
    · have G : Aside0 (goes n me skip p = true) := ⟨by unfold goes; simp [c2]⟩
      subst c2
      go_enter Try.func42, Try.ntmps42
      go_wp2_with fail
      go_ret
      rw [G.out]
      exact ⟨rfl, Below.refl _ _⟩
    · have G : Aside0 (goes n me skip p = decide (p ∈ skip)) := ⟨by unfold goes; rw [decide_eq_false c1, decide_eq_false c2]; simp⟩
      have c2' : (p == me) = false := beq_eq_false_iff_ne.2 c2
      go_enter Try.func42, Try.ntmps42
      go_wp2_with fail
      refine (slices_Contains_int_int.calls (skip.length + 1) As cs skip p _ _ HC.out hc HE.out).mono ?_
      rintro e w1 ⟨rfl, hd⟩
      have B1 := Aside0.mk hd.below
      clear hd
      go_wp2_with fail
      go_ret
      rw [G.out]
      exact ⟨rfl, B1.out⟩
set_option maxHeartbeats 2000000 in
theorem helpers_calls {x : Nat} {n me f s : Int} (E : Env w T mv H Ah ch held As cs skip) (hn : w.cell? ⟨x, 0, none⟩ = some (.int .i64 n)) (hm : w.cell? ⟨x, 1, none⟩ = some (.int .i64 me)) (hf : 0 ≤ f ∧ f ≤ 255) :
    Calls Try.prog 27 #[.pointer (some ⟨x, 0, none⟩), .agg #[.int .u8 f, .int .u64 s], mv, .slice As skip.length cs] w fun e w' => ∃ A c, e = .returned (.slice A (hpL n me skip (H f s)).length c) ∧ (hpL n me skip (H f s)).length ≤ c ∧ Kd.C kI w' A (hpL n me skip (H f s)).length (hpL n me skip (H f s)) ∧ Below w.heap.size w w' := by
  have EE := Aside0.mk E
  have N0 := Aside0.mk hn
  have M0 := Aside0.mk hm
  clear hn hm E
  have hu := Try.underlying33
  go_enter Try.func27, Try.ntmps27
  go_upto_region 1 with (fail)
  have X1 : Aside0 ((((w.alloc (.cells #[.pointer (some ⟨x, 0, none⟩)] 29)).alloc (.cells #[.int .u8 f, .int .u64 s] tID)).alloc (.cells #[.slice As skip.length cs] 31)).heap[w.heap.size]? = some (.cells #[.pointer (some ⟨x, 0, none⟩)] 29 (0, 0))) := ⟨blk_alloc (blk_alloc (blk_new w _) _) _⟩
  have X2 : Aside0 ((((w.alloc (.cells #[.pointer (some ⟨x, 0, none⟩)] 29)).alloc (.cells #[.int .u8 f, .int .u64 s] tID)).alloc (.cells #[.slice As skip.length cs] 31)).heap[w.heap.size + 1]? = some (.cells #[.int .u8 f, .int .u64 s] tID (0, 0))) := ⟨blk_alloc (by have := blk_new (w.alloc (.cells #[.pointer (some ⟨x, 0, none⟩)] 29)) (.cells #[.int .u8 f, .int .u64 s] tID); simpa using this) _⟩
  have X3 : Aside0 ((((w.alloc (.cells #[.pointer (some ⟨x, 0, none⟩)] 29)).alloc (.cells #[.int .u8 f, .int .u64 s] tID)).alloc (.cells #[.slice As skip.length cs] 31)).heap[w.heap.size + 1 + 1]? = some (.cells #[.slice As skip.length cs] 31 (0, 0))) := ⟨by have := blk_new ((w.alloc (.cells #[.pointer (some ⟨x, 0, none⟩)] 29)).alloc (.cells #[.int .u8 f, .int .u64 s] tID)) (.cells #[.slice As skip.length cs] 31); simpa using this⟩
  have B1 : Aside0 (Below w.heap.size w (((w.alloc (.cells #[.pointer (some ⟨x, 0, none⟩)] 29)).alloc (.cells #[.int .u8 f, .int .u64 s] tID)).alloc (.cells #[.slice As skip.length cs] 31))) := ⟨below_alloc (below_alloc (below_alloc (Below.refl _ _) _) _) _⟩
  generalize ((w.alloc (.cells #[.pointer (some ⟨x, 0, none⟩)] 29)).alloc (.cells #[.int .u8 f, .int .u64 s] tID)).alloc (.cells #[.slice As skip.length cs] 31) = w1 at X1 X2 X3 B1 ⊢
  have y0 : w1.cell? ⟨w.heap.size + 1, 0, none⟩ = some (.int .u8 f) := (blk_cell X2.out 0).trans rfl
  have y1 : w1.cell? ⟨w.heap.size + 1, 1, none⟩ = some (.int .u64 s) := (blk_cell X2.out 1).trans rfl
  go_wp2_with fail
  refine ((EE.out.below B1.out).hold _ (Beside.refl _ _) f s hf.1 hf.2).mono ?_
  rintro e w2 ⟨v, rfl, hR, hb⟩
  obtain ⟨A, c, rfl⟩ := Kd.R_slice hR
  have R2 := Aside0.mk hR
  have LC := Aside0.mk (Nat.le_trans (List.length_filter_le (fun p => !goes n me skip p) (H f s)) (Kd.R_reads' hR).2.1)
  have B2 := Aside0.mk hb
  have E2 := Aside0.mk (EE.out.below (below_step B1.out hb))
  have Z1 := Aside0.mk B1.out.size
  have CL : Aside0 (Clo (fun k => w1.heap.size ≤ k) w2 w.heap.size (w.heap.size + 1 + 1) (goes n me skip)) := ⟨fun W hW p => by
    have hB : Below w1.heap.size w1 W := Beside.below ((Beside.of_below (fun k => w1.heap.size ≤ k) B2.out).trans hW) (fun k hk => hk)
    have hBW := below_step B1.out hB
    exact help1_calls ((blk_cell (blk_below X1.out hB) 0).trans rfl) ((blk_cell (blk_below X3.out hB) 0).trans rfl) (pw_cell_below hBW N0.out) (pw_cell_below hBW M0.out) (EE.out.sC W (Beside.of_below T hBW)) EE.out.sc EE.out.sl⟩
  clear hR hb y0 y1 X1 X2 X3
  have DC := Aside0.mk (DeleteI_calls R2.out (EE.out.hlen f s) CL.out B2.out.size)
  clear CL R2
  go_wp2_with fail
  refine DC.out.mono ?_
  rintro e w3 ⟨rfl, hC, hB⟩
  have C3 := Aside0.mk hC
  have B3 := Aside0.mk (below_step B1.out (Beside.below ((Beside.of_below (fun k => w1.heap.size ≤ k) B2.out).trans hB) (fun k hk => hk)))
  clear hC hB DC
  go_wp2_with fail
  go_ret
  exact ⟨_, _, rfl, LC.out, C3.out, B3.out⟩
end

end Go.Proofs.Ytncofecfljocgaa.Walk
