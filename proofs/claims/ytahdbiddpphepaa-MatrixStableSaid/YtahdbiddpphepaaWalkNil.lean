/- The nil matrix, the example. Conditions: none beyond the statement's own. -/
import Derived.Test.YtahdbiddpphepaaWalkTell
import Derived.Test.YtahdbiddpphepaaWalkMost
import Derived.Test.YtahdbiddpphepaaWalkLeast
import Derived.Test.YtahdbiddpphepaaWalkHolders
import Derived.Test.YtahdbiddpphepaaArgs
import Derived.Deep.QuietTactic
import Derived.BigQuiet
import Derived.Lib.QuietBelow
import Derived.Outline
import Derived.Deep.RegionHeld3
import Derived.Deep.CutRange
namespace Go.Proofs.Ytahdbiddpphepaa.Walk
open Go.RowKit Go.Proofs.Ytahdbiddpphepaa.F Go.Proofs.YtahdbiddpphepaaW.PrintWords Go.Proofs.YtahdbiddpphepaaW.PrintLast Go.Proofs.YtahdbiddpphepaaW.PrintMore Go.Proofs.Ytahdbiddpphepaa.Open
open Go.Sort (grow)
attribute [local go_sem] max2_int min2_int max_two min_two max_three min_three max_four min_four
set_option linter.unusedVariables false
set_option linter.unusedSimpArgs false

/-! ### the nil matrix -/
theorem Tell_nil (p i : Int) (v1 v2 : Value) (w : World) : Calls Try.prog 12 #[.pointer none, .int .i64 p, .int .u64 i, v1, v2] w fun e w' => e = .returned (.tuple #[]) ∧ w' = w := by
  go_enter Try.func12, Try.ntmps12
  go_wp2_with fail
  refine (of_nil p w).mono ?_
  rintro e w1 ⟨rfl, rfl⟩
  go_wp2_with fail
  go_end0
  exact ⟨rfl, rfl⟩
theorem Inst_nil (p : Int) (w : World) : Calls Try.prog 17 #[.pointer none, .int .i64 p] w fun e w' => e = .returned (.int .u64 0) ∧ w' = w := by
  go_enter Try.func17, Try.ntmps17
  go_wp2_with fail
  refine (of_nil p w).mono ?_
  rintro e w1 ⟨rfl, rfl⟩
  go_wp2_with fail
  go_ret
  exact ⟨rfl, rfl⟩
theorem Done_nil (p : Int) (w : World) : Calls Try.prog 18 #[.pointer none, .int .i64 p] w fun e w' => e = .returned (.slice none 0 0) ∧ w' = w := by
  go_enter Try.func18, Try.ntmps18
  go_wp2_with fail
  refine (of_nil p w).mono ?_
  rintro e w1 ⟨rfl, rfl⟩
  go_wp2_with fail
  go_ret
  exact ⟨rfl, rfl⟩
theorem Held_nil (p : Int) (w : World) : Calls Try.prog 19 #[.pointer none, .int .i64 p] w fun e w' => e = .returned (.slice none 0 0) ∧ w' = w := by
  go_enter Try.func19, Try.ntmps19
  go_wp2_with fail
  refine (of_nil p w).mono ?_
  rintro e w1 ⟨rfl, rfl⟩
  go_wp2_with fail
  go_ret
  exact ⟨rfl, rfl⟩
theorem Stable_nil (w : World) : Calls Try.prog 14 #[.pointer none] w fun e w' => e = .returned (.slice none 0 0) ∧ w' = w := by
  go_enter Try.func14, Try.ntmps14
  go_wp2
  go_ret
  exact ⟨rfl, rfl⟩
theorem Most_nil (w : World) : Calls Try.prog 16 #[.pointer none] w fun e w' => e = .returned (.slice none 0 0) ∧ w' = w := by
  go_enter Try.func16, Try.ntmps16
  go_wp2
  go_ret
  exact ⟨rfl, rfl⟩
theorem Least_nil (w : World) : Calls Try.prog 15 #[.pointer none] w fun e w' => e = .returned (.int .u64 0) ∧ w' = w := by
  go_enter Try.func15, Try.ntmps15
  go_wp2_with fail
  refine (left_nil w).mono ?_
  rintro e w1 ⟨rfl, rfl⟩
  go_wp2_with fail
  go_ret
  exact ⟨rfl, rfl⟩
theorem Holders_nil (a0 a1 : Int) (w : World) : Calls Try.prog 22 #[.pointer none, .agg #[.int .u8 a0, .int .u64 a1]] w fun e w' => e = .returned (.slice none 0 0) ∧ Below w.heap.size w w' := by
  have hu := Try.underlying40
  go_enter Try.func22, Try.ntmps22
  go_wp2
  go_quiet (fail)
  go_wp2
  go_ret
  exact ⟨rfl, pw_below_drewN (below_alloc (Below.refl _ _) _) nq⟩
theorem Gone_nil (p : Int) (b c : Nat) (w : World) (hc : w.cell? ⟨b, 0, none⟩ = some (.int .i64 p)) : Calls Try.prog 11 #[.pointer none, .slice (some ⟨b, 0, none⟩) 1 c] w fun e w' => e = .returned (.int .i64 0) ∧ w' = w := by
  have OF := Aside0.mk (of_nil p w)
  go_enter Try.func11, Try.ntmps11
  go_wp2_with fail
  go_loopg [5, 11] 1 (fun gg s5 s11 wr => ∃ i : Nat, s11 = .int .i64 i ∧ i ≤ 1 ∧ 1 - i ≤ gg ∧ s5 = .int .i64 0 ∧ wr = w)
  case atStart => exact ⟨0, rfl, by omega, by omega, rfl, rfl⟩
  case round =>
    obtain ⟨i, rfl, hi, hgg, rfl, rfl⟩ := hrel
    rcases Nat.lt_or_ge i 1 with hlt | hge
    · obtain rfl : i = 0 := by omega
      go_wp2_with fail
      refine OF.out.mono ?_
      rintro e w1 ⟨rfl, rfl⟩
      go_wp2_with fail
      go_roundg 0
      case measure => omega
      case rel => exact ⟨1, by go_num, by omega, by omega, rfl, rfl⟩
    · obtain rfl : i = 1 := by omega
      go_wp2_with fail
      go_ret
      exact ⟨rfl, rfl⟩
/-! ### the example -/
theorem one_C (W : World) (x : Int) : Kd.C kU (W.alloc (.cells #[.int .u64 x] tU)) (some ⟨W.heap.size, 0, none⟩) 1 [x] :=
  Kd.C_of_reads (d := (0 : Int)) (h1 := fun _ => rfl) (own_reads' (own_lit W 0 tU .u64 [x] (Nat.zero_le _) (by simp)))
theorem Tell_calls {w : World} {S : Nat → Prop} {g rb cp : Nat} {L : List X} (h : Mat w S g rb cp L) (p i : Int) {A B : Option Addr} {c d : Nat} {a b : List Int} (ha : Kd.C kU w A a.length a) (hb : Kd.C kU w B b.length b) (hc : a.length ≤ c) (hd : b.length ≤ d) (hal : a.length ≤ 100) (hbl : b.length ≤ 100)
    (hra : ∀ w', Beside S w w' → Kd.C kU w' A a.length a) (hrb : ∀ w', Beside S w w' → Kd.C kU w' B b.length b) (hi : 0 ≤ i ∧ i ≤ 18446744073709551615) (hua : u64s a) (hub : u64s b) :
    Calls Try.prog 12 #[.pointer (some ⟨g, 0, none⟩), .int .i64 p, .int .u64 i, .slice A a.length c, .slice B b.length d] w fun e w' => e = .returned (.tuple #[]) ∧ Mat w' (fun k => S k ∨ w.heap.size ≤ k) g rb cp (tellL L p i a b) ∧ Beside S w w' := by
  cases hx : at_ L p with
  | none =>
    rw [show tellL L p i a b = L by unfold tellL; rw [hx]]
    exact (Tell_none h p i _ _ hx).mono fun e w' ⟨he, hw⟩ => ⟨he, by rw [hw]; exact h.mono (fun k hk => .inl hk), by rw [hw]; exact Beside.refl _ _⟩
  | some x =>
    obtain ⟨q, rfl, hq, hL⟩ := at_some hx
    rw [show tellL L q i a b = L.set q (tellX x i a b) by unfold tellL; rw [hx]; rfl]
    exact Tell_some h q i hL ha hb hc hd hal hbl hra hrb hi hua hub
theorem C_beside {w w' : World} {S : Nat → Prop} {b x : Int} {a : Nat} (h : Kd.C kU w (some ⟨a, 0, none⟩) 1 [x]) (hb : Beside S w w') (hn : ¬ S a) (ha : a < w.heap.size) : Kd.C kU w' (some ⟨a, 0, none⟩) 1 [x] := by
  obtain ⟨h1, h2, h3⟩ := h
  refine ⟨h1, h2, fun hp => ?_⟩
  obtain ⟨ad, e, hc⟩ := h3 hp
  cases e
  refine ⟨_, rfl, fun j p hj => ?_⟩
  obtain ⟨c, hcl, hK, hcc⟩ := hc j p hj
  refine ⟨c, hcl, hK, fun i u hi => ?_⟩
  have := hcc i u hi
  rw [add_plain] at this ⊢
  exact (World.cell?_of_block (hb.block a ha hn)).trans this
def exL : List X := tellL (tellL (newL 2) 0 1 [3] [3]) 1 1 [1] [2]
set_option maxHeartbeats 4000000 in
theorem awake_calls (w : World) : Calls Try.prog 8 #[] w fun e w' => e = .returned (.bool true) ∧ Below w.heap.size w w' := by
  have NW := Aside0.mk (New_calls 2 w)
  go_enter Try.func8, Try.ntmps8
  go_wp2_with fail
  refine NW.out.mono ?_
  rintro e w1 ⟨g, rb, cp, rfl, hM, hb⟩
  have M1 := Aside0.mk hM.bound
  have B1 := Aside0.mk hb
  clear hM hb NW
  have hs1 : (w1.alloc (.cells #[.int .u64 3] tU)).heap.size = w1.heap.size + 1 := by simp
  have CA := Aside0.mk (Kd.C_alloc (one_C w1 3) (.cells #[.int .u64 3] tU))
  have CB : Aside0 (Kd.C kU ((w1.alloc (.cells #[.int .u64 3] tU)).alloc (.cells #[.int .u64 3] tU)) (some ⟨w1.heap.size + 1, 0, none⟩) 1 [3]) := ⟨by have := one_C (w1.alloc (.cells #[.int .u64 3] tU)) 3; rwa [hs1] at this⟩
  have hs2 : ((w1.alloc (.cells #[.int .u64 3] tU)).alloc (.cells #[.int .u64 3] tU)).heap.size = w1.heap.size + 2 := by simp
  have B2 : Aside0 (Below w.heap.size w ((w1.alloc (.cells #[.int .u64 3] tU)).alloc (.cells #[.int .u64 3] tU))) := ⟨below_alloc (below_alloc B1.out _) _⟩
  have M2 := Aside0.mk (M1.out.below (below_alloc (below_alloc (Below.refl w1.heap.size w1) (.cells #[.int .u64 3] tU)) (.cells #[.int .u64 3] tU)))
  go_wp2_with fail
  generalize (w1.alloc (.cells #[.int .u64 3] tU)).alloc (.cells #[.int .u64 3] tU) = w2 at CA CB B2 M2 hs2 ⊢
  have u3 : u64s [3] := by intro y hy; obtain rfl := List.mem_singleton.1 hy; omega
  refine (Tell_calls M2.out 0 1 CA.out CB.out (Nat.le_refl _) (Nat.le_refl _) (by decide) (by decide) (fun w' hb => C_beside (b := 0) CA.out hb (fun h => by omega) (by omega)) (fun w' hb => C_beside (b := 0) CB.out hb (fun h => by omega) (by omega)) (by omega) u3 u3).mono ?_
  rintro e w3 ⟨rfl, hM3, hb3⟩
  have B3 : Aside0 (Below w.heap.size w w3) := ⟨Beside.step B2.out hb3 (fun k hk => hk.1)⟩
  have M3 := Aside0.mk hM3.bound
  clear hM3 hb3 CA CB M1 M2 B1 hs1 hs2
  have hs1 : (w3.alloc (.cells #[.int .u64 1] tU)).heap.size = w3.heap.size + 1 := by simp
  have CA := Aside0.mk (Kd.C_alloc (one_C w3 1) (.cells #[.int .u64 2] tU))
  have CB : Aside0 (Kd.C kU ((w3.alloc (.cells #[.int .u64 1] tU)).alloc (.cells #[.int .u64 2] tU)) (some ⟨w3.heap.size + 1, 0, none⟩) 1 [2]) := ⟨by have := one_C (w3.alloc (.cells #[.int .u64 1] tU)) 2; rwa [hs1] at this⟩
  have hs2 : ((w3.alloc (.cells #[.int .u64 1] tU)).alloc (.cells #[.int .u64 2] tU)).heap.size = w3.heap.size + 2 := by simp
  have B4 : Aside0 (Below w.heap.size w ((w3.alloc (.cells #[.int .u64 1] tU)).alloc (.cells #[.int .u64 2] tU))) := ⟨below_alloc (below_alloc B3.out _) _⟩
  have M4 := Aside0.mk (M3.out.below (below_alloc (below_alloc (Below.refl w3.heap.size w3) (.cells #[.int .u64 1] tU)) (.cells #[.int .u64 2] tU)))
  go_wp2_with fail
  generalize (w3.alloc (.cells #[.int .u64 1] tU)).alloc (.cells #[.int .u64 2] tU) = w4 at CA CB B4 M4 hs2 ⊢
  have u1 : u64s [1] := by intro y hy; obtain rfl := List.mem_singleton.1 hy; omega
  have u2 : u64s [2] := by intro y hy; obtain rfl := List.mem_singleton.1 hy; omega
  have hw24 : w2.heap.size ≤ w3.heap.size ∨ True := .inr trivial
  refine (Tell_calls M4.out 1 1 CA.out CB.out (Nat.le_refl _) (Nat.le_refl _) (by decide) (by decide) (fun w' hb => C_beside (b := 0) CA.out hb (fun h => by omega) (by omega)) (fun w' hb => C_beside (b := 0) CB.out hb (fun h => by omega) (by omega)) (by omega) u1 u2).mono ?_
  rintro e w5 ⟨rfl, hM5, hb5⟩
  have B5 : Aside0 (Below w.heap.size w w5) := ⟨Beside.step B4.out hb5 (fun k hk => hk.1.elim (fun h => h.1) (fun h => Nat.le_trans B2.out.size h))⟩
  have hE : tellL (tellL (newL (nn 2)) 0 1 [3] [3]) 1 1 [1] [2] = exL := rfl
  rw [hE] at hM5
  have M5 := Aside0.mk hM5
  clear hM5 hb5 CA CB M3 M4 B2 B3 B4 hs1 hs2 hE
  go_wp2_with fail
  refine (Stable_calls M5.out).mono ?_
  rintro e w6 ⟨v, rfl, hR, hb6⟩
  have eS : stable exL = [1, 0] := by decide
  have eL : least exL = 1 := by decide
  rw [eS] at hR
  obtain ⟨As, cs, rfl⟩ := Kd.R_slice hR
  have M6 := Aside0.mk (M5.out.below hb6)
  have B6 := Aside0.mk (below_step B5.out hb6)
  have C6 := Aside0.mk (Kd.R_reads' hR).2.2
  clear hR hb6
  obtain ⟨ad, c0, e0, _, hK0, hc0⟩ := Kd.C_get C6.out 0 0 (by omega) (by decide)
  obtain ⟨ad', c1, e1, _, hK1, hc1⟩ := Kd.C_get C6.out 0 1 (by omega) (by decide)
  cases e0
  cases e1
  obtain rfl : c0 = [.int .u64 1] := hK0
  obtain rfl : c1 = [.int .u64 0] := hK1
  have p0 : w6.cell? ad = some (.int .u64 1) := by
    have := hc0 0 _ rfl
    rwa [show ad.add ((0 : Int).toNat * (Kd.int .u64).sz + 0) = ad from addA ad] at this
  have p1 : w6.cell? ⟨ad.block, ad.off + 1, none⟩ = some (.int .u64 0) := by
    have h := hc1 0 _ rfl
    have e := add_field ad 0 1 (by decide)
    rw [addA] at e
    rw [← e]
    exact h
  have LC := Aside0.mk (Least_calls M6.out)
  clear hc0 hc1
  go_wp2_with fail
  refine LC.out.mono ?_
  rintro e w7 ⟨rfl, hb7⟩
  rw [eL]
  have B7 := Aside0.mk (below_step B6.out hb7)
  clear hb7
  go_wp2_with fail
  go_ret
  exact ⟨rfl, B7.out⟩

end Go.Proofs.Ytahdbiddpphepaa.Walk
