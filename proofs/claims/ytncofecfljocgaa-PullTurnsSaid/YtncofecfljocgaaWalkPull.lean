/- The methods of the puller. Conditions: none beyond the statement's own. -/
import Derived.Test.YtncofecfljocgaaWalkNextB
import Derived.Test.YtncofecfljocgaaWalkNextC
import Derived.Test.YtncofecfljocgaaWalkTell
import Derived.Test.YtncofecfljocgaaArgs
import Derived.Deep.QuietTactic
import Derived.BigQuiet
import Derived.Lib.QuietBelow
import Derived.Outline
import Derived.Deep.RegionHeld3
import Derived.Deep.CutRange
namespace Go.Proofs.Ytncofecfljocgaa.Walk
open Go.RowKit Go.Proofs.Ytncofecfljocgaa.F Go.Proofs.YtncofecfljocgaaW.PrintWords Go.Proofs.YtncofecfljocgaaW.PrintLast Go.Proofs.YtncofecfljocgaaW.PrintMore Go.Proofs.Ytncofecfljocgaa.Open
open Go.Sort (grow)
attribute [local go_sem] max2_int min2_int max_two min_two max_three min_three max_four min_four
set_option linter.unusedVariables false
set_option linter.unusedSimpArgs false

/-! ### The puller's methods -/
section
variable {w w1 : World} {S : Nat → Prop} {x : Nat} {p : Pu} {mv : Value} {H : Int → Int → List Int} {Ah : Option Addr} {ch : Nat} {held : List Int} {As : Option Addr} {cs : Nat} {skip : List Int}
theorem Next_calls (h : Pul w S x p) (hsb : ∀ k, S k → k < w.heap.size) (E : Env w S mv H Ah ch held As cs skip) (now : Int) (hct : p.count < 1000000) :
    Calls Try.prog 11 #[.pointer (some ⟨x, 0, none⟩), .int .i64 now, .slice Ah held.length ch, mv, .slice As skip.length cs] w fun e w' => e = .returned (.tuple #[.agg #[.int .u8 (nextP p now held skip H).2.1, .int .u64 (nextP p now held skip H).2.2.1], .int .i64 (nextP p now held skip H).2.2.2.1, .bool (nextP p now held skip H).2.2.2.2]) ∧ Pul w' (fun k => S k ∨ w.heap.size ≤ k) x (nextP p now held skip H).1 ∧ Beside S w w' := by
  cases hw : p.want with
  | none => exact Next_none h hsb E now hct hw
  | some q =>
    obtain ⟨f, s, a, t⟩ := q
    cases hl : lacksB p.n p.me held skip H f s with
    | true => exact Next_some h hsb E now hct hw hl
    | false => exact Next_gone h hsb E now hct hw hl
theorem Asked_calls (h : Pul w S x p) : Calls Try.prog 12 #[.pointer (some ⟨x, 0, none⟩)] w fun e w' => e = .returned (.int .u64 p.count) ∧ w' = w := by
  obtain ⟨_, _, wp, hb, _⟩ := h
  have c6 : w.cell? ⟨x, 6, none⟩ = some (.int .u64 p.count) := (blk_cell hb 6).trans rfl
  clear hb
  go_enter Try.func12, Try.ntmps12
  go_wp2
  go_ret
  exact ⟨rfl, rfl⟩
end
theorem Asked_nil (w : World) : Calls Try.prog 12 #[.pointer none] w fun e w' => e = .returned (.int .u64 0) ∧ w' = w := by
  go_enter Try.func12, Try.ntmps12
  go_wp2
  go_ret
  exact ⟨rfl, rfl⟩
theorem Wanted_nil (w : World) : Calls Try.prog 17 #[.pointer none] w fun e w' => e = .returned (.tuple #[.agg #[.int .u8 0, .int .u64 0], .bool false]) ∧ Below w.heap.size w w' := by
  have RB := Aside0.mk (blk_new w (.cells #[.int .u8 0, .int .u64 0] tID))
  have BB := Aside0.mk (below_alloc (Below.refl w.heap.size w) (.cells #[.int .u8 0, .int .u64 0] tID))
  have hu := Try.underlying33
  go_enter Try.func17, Try.ntmps17
  go_wp2_with fail
  refine bodyPost_ret (results_ct rfl _ _ w.heap.size tID #[.int .u8 0, .int .u64 0] (0, 0) _ rfl RB.out Try.underlying33 rfl (by kernel_rfl)) rfl ?_
  exact ⟨rfl, BB.out⟩
set_option maxRecDepth 100000 in
theorem Next_nil (now : Int) (v1 v2 v3 : Value) (w : World) : Calls Try.prog 11 #[.pointer none, .int .i64 now, v1, v2, v3] w fun e w' => e = .returned (.tuple #[.agg #[.int .u8 0, .int .u64 0], .int .i64 (-1), .bool false]) ∧ Below w.heap.size w w' := by
  have RB := Aside0.mk (blk_new w (.cells #[.int .u8 0, .int .u64 0] tID))
  have BB := Aside0.mk (below_alloc (Below.refl w.heap.size w) (.cells #[.int .u8 0, .int .u64 0] tID))
  have hu := Try.underlying33
  go_enter Try.func11, Try.ntmps11
  go_wp2_with fail
  refine bodyPost_ret (results_ctt rfl _ _ w.heap.size tID #[.int .u8 0, .int .u64 0] (0, 0) _ rfl RB.out Try.underlying33 rfl (by kernel_rfl)) rfl ?_
  exact ⟨rfl, BB.out⟩
theorem Holders_nil (a0 a1 : Int) (w : World) : Calls Try.prog 15 #[.pointer none, .agg #[.int .u8 a0, .int .u64 a1]] w fun e w' => e = .returned (.slice none 0 0) ∧ Below w.heap.size w w' := by
  have hu := Try.underlying33
  go_enter Try.func15, Try.ntmps15
  go_wp2
  go_quiet (fail)
  go_wp2
  go_ret
  exact ⟨rfl, pw_below_drewN (below_alloc (Below.refl _ _) _) nq⟩
def clmp (lo hi a : Int) : Int := if lo < (if hi < a then hi else a) then (if hi < a then hi else a) else lo
theorem clmp_ok {lo hi : Int} (h : lo ≤ hi) (a : Int) : lo ≤ clmp lo hi a ∧ clmp lo hi a ≤ hi := by
  have hm : (if hi < a then hi else a) ≤ hi := by split <;> omega
  unfold clmp
  generalize (if hi < a then hi else a) = m at hm ⊢
  split <;> omega
def newP (n me again : Int) : Pu := ⟨clmp 1 64 n, clmp 0 (clmp 1 64 n - 1) me, clmp 1 1099511627776 again, none, clmp 1 64 n - 1, clmp 0 (clmp 1 64 n - 1) me, 0⟩
theorem newP_ok (n me again : Int) : pok (newP n me again) := by
  have h1 := clmp_ok (show (1 : Int) ≤ 64 by decide) n
  have h2 := clmp_ok (lo := 0) (hi := clmp 1 64 n - 1) (by omega) me
  have h3 := clmp_ok (show (1 : Int) ≤ 1099511627776 by decide) again
  exact ⟨h1, by show 0 ≤ clmp 0 (clmp 1 64 n - 1) me ∧ clmp 0 (clmp 1 64 n - 1) me < clmp 1 64 n; omega, h3, by show 0 ≤ clmp 1 64 n - 1 ∧ clmp 1 64 n - 1 < clmp 1 64 n; omega, by show 0 ≤ clmp 0 (clmp 1 64 n - 1) me ∧ clmp 0 (clmp 1 64 n - 1) me < clmp 1 64 n; omega, ⟨Int.le_refl _, by show (0 : Int) ≤ 1000000; decide⟩, fun q hq => by cases hq⟩
set_option maxRecDepth 100000 in
theorem NewP_calls (n me again : Int) (w : World) : Calls Try.prog 10 #[.int .i64 n, .int .i64 me, .int .i64 again] w fun e w' => ∃ x, e = .returned (.pointer (some ⟨x, 0, none⟩)) ∧ Pul w' (fun k => w.heap.size ≤ k) x (newP n me again) ∧ Below w.heap.size w w' := by
  have OK := Aside0.mk (newP_ok n me again)
  obtain ⟨N, hN⟩ : ∃ N, N = clmp 1 64 n := ⟨_, rfl⟩
  obtain ⟨M, hM⟩ : ∃ M, M = clmp 0 (N - 1) me := ⟨_, rfl⟩
  obtain ⟨G, hG⟩ : ∃ G, G = clmp 1 1099511627776 again := ⟨_, rfl⟩
  obtain ⟨n1, hn1⟩ : ∃ n1 : Int, n1 = if 64 < n then 64 else n := ⟨_, rfl⟩
  obtain ⟨m1, hm1⟩ : ∃ m1 : Int, m1 = if N - 1 < me then N - 1 else me := ⟨_, rfl⟩
  obtain ⟨g1, hg1⟩ : ∃ g1 : Int, g1 = if 1099511627776 < again then 1099511627776 else again := ⟨_, rfl⟩
  have hN0 := clmp_ok (show (1 : Int) ≤ 64 by decide) n
  rw [← hN] at hN0
  have a1 : Builtin.min2 (.int .i64 n) (.int .i64 64) = pure (.int .i64 n1) := by rw [min2_int]; congr 2; rw [hn1]
  have a2 : Builtin.max2 (.int .i64 1) (.int .i64 n1) = pure (.int .i64 N) := by rw [max2_int]; congr 2; rw [hn1, hN]; rfl
  have a3 : Builtin.min2 (.int .i64 me) (.int .i64 (N - 1)) = pure (.int .i64 m1) := by rw [min2_int]; congr 2; rw [hm1]
  have a4 : Builtin.max2 (.int .i64 0) (.int .i64 m1) = pure (.int .i64 M) := by rw [max2_int]; congr 2; rw [hm1, hM]; rfl
  have a5 : Builtin.min2 (.int .i64 again) (.int .i64 1099511627776) = pure (.int .i64 g1) := by rw [min2_int]; congr 2; rw [hg1]
  have a6 : Builtin.max2 (.int .i64 1) (.int .i64 g1) = pure (.int .i64 G) := by rw [max2_int]; congr 2; rw [hg1, hG]; rfl
  have hw1 : IntKind.i64.wrap (N - 1) = N - 1 := by rw [IntKind.wrap_i64]; omega
  have PE : Aside0 (newP n me again = ⟨N, M, G, none, N - 1, M, 0⟩) := ⟨by unfold newP; rw [hM, hG, hN]⟩
  clear hN hM hG hn1 hm1 hg1
  go_enter Try.func10, Try.ntmps10
  go_wp2_with fail
  go_ret
  refine ⟨w.heap.size, rfl, ?_, below_alloc (Below.refl _ _) _⟩
  rw [PE.out] at OK ⊢
  exact ⟨Nat.le_refl _, OK.out, .pointer none, blk_new w _, rfl⟩
section
variable {w : World} {T SM : Nat → Prop} {gm rb cp : Nat} {L : List X} {Ah : Option Addr} {ch : Nat} {held : List Int} {As : Option Addr} {cs : Nat} {skip : List Int}
theorem holders_len (L : List X) (h : L.length ≤ 64) (f s : Int) : (holders L f s).length ≤ 64 := by
  unfold holders
  split
  · exact Nat.le_trans (holdN_len f s L 0) h
  · simp
theorem env_of (h : Mat w SM gm rb cp L) (hd : ∀ k, SM k → ¬ T k) (hC : ∀ W, Beside T w W → Kd.C kU W Ah held.length held) (hc : held.length ≤ ch) (sC : ∀ W, Beside T w W → Kd.C kI W As skip.length skip) (sc : skip.length ≤ cs) (sl : skip.length ≤ 100) :
    Env w T (.pointer (some ⟨gm, 0, none⟩)) (holders L) Ah ch held As cs skip :=
  ⟨fun W hW f s h0 h1 => Holders_calls (h.beside hW hd) f s h0 h1, fun f s => holders_len L h.ok.n2 f s, hC, hc, sC, sc, sl⟩
theorem env_nil (hC : ∀ W, Beside T w W → Kd.C kU W Ah held.length held) (hc : held.length ≤ ch) : Env w T (.pointer none) (fun _ _ => []) Ah ch held none 0 [] :=
  ⟨fun W _ f s _ _ => (Holders_nil f s W).mono (by rintro e w' ⟨rfl, hb⟩; exact ⟨_, rfl, Kd.R_nil _ _ _ _ _, hb⟩), fun _ _ => by simp, hC, hc, fun _ _ => Kd.C_nil _ _, Nat.le_refl _, by simp⟩
end

end Go.Proofs.Ytncofecfljocgaa.Walk
