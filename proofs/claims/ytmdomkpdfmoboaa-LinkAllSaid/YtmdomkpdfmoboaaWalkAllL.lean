/- Two links of which all that goes out comes, in plain Lean. Conditions: none beyond the statement's own. -/
import Derived.Test.YtmdomkpdfmoboaaWalkFifoL
import Derived.Test.YtmdomkpdfmoboaaArgs
import Derived.Deep.QuietTactic
import Derived.BigQuiet
import Derived.Lib.QuietBelow
import Derived.Outline
import Derived.Deep.RegionHeld3
import Derived.Deep.CutRange
namespace Go.Proofs.Ytmdomkpdfmoboaa.Walk
open Go.RowKit Go.Proofs.Ytmdomkpdfmoboaa.F Go.Proofs.YtmdomkpdfmoboaaW.PrintWords Go.Proofs.YtmdomkpdfmoboaaW.PrintLast Go.Proofs.YtmdomkpdfmoboaaW.PrintMore Go.Proofs.Ytmdomkpdfmoboaa.Open
open Go.Sort (grow)
attribute [local go_sem] max2_int min2_int max_two min_two max_three min_three max_four min_four
set_option linter.unusedVariables false
set_option linter.unusedSimpArgs false

/-! ### Two links of which all that goes out comes -/
structure AQ (ag nw : Int) (sa sb : LS) : Prop where
  fp : FP sa.last sb.gs.u sa sb
  sq : sq sa.L (sa.last + 1 - sa.L.length)
  fst : sa.last - sa.L.length ≤ sb.gs.u
  tick : sa.tick ≤ nw
  ag : sa.again = ag
  ln : (sa.L.length : Int) ≤ sa.last
  snt : 0 ≤ sa.sent ∧ sa.sent ≤ sa.last
def PHi (T0 ag t N n snt tick u : Int) (o : Bool) : Prop :=
  (1 ≤ t → snt = N) ∧ (2 ≤ t → (o = false ∧ tick ≤ T0 + 2 ∧ (0 < n → T0 + t < tick + ag)) ∨ (u = N ∧ (o = true ∨ n = 0))) ∧ (ag + 3 ≤ t → u = N ∧ n = 0)
theorem PHi_step {T0 ag t N n snt tick u D tick1 u2 k tick2 : Int} {o o2 : Bool} (h : PHi T0 ag t N n snt tick u o) (ht : 0 ≤ t) (ht2 : t ≤ ag + 2) (hag : 1 ≤ ag) (hn0 : 0 ≤ n) (hnN : n ≤ N) (hf : N - n ≤ u) (hu : u ≤ N) (htk : tick ≤ T0 + t) (hs0 : 0 ≤ snt) (hs : snt ≤ N)
    (hD : (N + 1 - n ≤ snt ∧ ag ≤ T0 + t + 1 - tick ∧ D = 0 ∧ tick1 = T0 + t + 1) ∨ (N + 1 - n ≤ snt ∧ ¬ ag ≤ T0 + t + 1 - tick ∧ D = snt + 1 - (N + 1 - n) ∧ tick1 = tick) ∨ (¬ N + 1 - n ≤ snt ∧ D = 0 ∧ (snt < N ∧ tick1 = T0 + t + 1 ∨ ¬ snt < N ∧ tick1 = tick)))
    (hu2 : (N + 1 - n + D ≤ u + 1 ∧ ((N ≤ u ∧ u2 = u) ∨ (u ≤ N ∧ u2 = N))) ∨ (¬ N + 1 - n + D ≤ u + 1 ∧ u2 = u)) (ho2 : o2 = decide (0 < n - D))
    (hk : (o = true ∧ k = u - (N - n)) ∨ (o = false ∧ k = 0)) (ht2' : (0 < k ∧ tick2 = T0 + t + 1) ∨ (¬ 0 < k ∧ tick2 = tick1)) : PHi T0 ag (t + 1) N (n - k) N tick2 u2 o2 := by
  obtain ⟨h1, h2, h3⟩ := h
  refine ⟨fun _ => rfl, fun h2t => ?_, fun h3t => ?_⟩
  · have e1 : snt = N := h1 (by omega)
    subst e1
    by_cases hfull : 0 < n - D
    · -- all goes out again
      right
      have hDz : D = 0 := by omega
      refine ⟨by omega, Or.inl (by rw [ho2]; exact decide_eq_true hfull)⟩
    · have ho2f : o2 = false := by rw [ho2]; exact decide_eq_false hfull
      by_cases h2' : 2 ≤ t
      · rcases h2 h2' with ⟨ho, htk2, hw⟩ | ⟨hun, hor⟩
        · left
          have hk0 : k = 0 := by rcases hk with ⟨hk, _⟩ | ⟨_, hk⟩; rw [ho] at hk; cases hk; exact hk
          refine ⟨ho2f, by omega, fun hpos => by omega⟩
        · right
          refine ⟨by omega, Or.inr ?_⟩
          rcases hk with ⟨ho, hk⟩ | ⟨ho, hk⟩
          · omega
          · rcases hor with ho' | hn
            · rw [ho] at ho'; cases ho'
            · omega
      · left
        refine ⟨ho2f, by omega, fun hpos => by omega⟩
  · have e1 : snt = N := h1 (by omega)
    subst e1
    rcases h2 (by omega) with ⟨ho, htk2, hw⟩ | ⟨hun, hor⟩
    · have hk0 : k = 0 := by rcases hk with ⟨hk, _⟩ | ⟨_, hk⟩; rw [ho] at hk; cases hk; exact hk
      by_cases hn : 0 < n
      · have := hw hn
        omega
      · omega
    · rcases hk with ⟨ho, hk⟩ | ⟨ho, hk⟩
      · omega
      · rcases hor with ho' | hn
        · rw [ho] at ho'; cases ho'
        · omega
/-- What a side has let in, of j frames that begin with the number p. -/
structure DB (s s' : LS) (p : Int) (j : Nat) : Prop where
  u : s'.gs.u = if p ≤ s.gs.u + 1 then max s.gs.u (p + j - 1) else s.gs.u
  o : s'.gs.o = (s.gs.o || decide (0 < j))
def tookS (s : LS) (n : Int) : LS := { s with gs := (Acc.took s.gs n).1 }
theorem took_o1 (s : Acc.GS) (n : Int) : (Acc.took s n).1.o = true := by
  unfold Acc.took
  split
  · rfl
  · split <;> rfl
theorem took_u (s : Acc.GS) (n : Int) : (Acc.took s n).1.u = if n = s.u + 1 then n else s.u := by
  unfold Acc.took
  by_cases h1 : n ≤ s.u
  · rw [if_pos h1, if_neg (by omega)]
  · rw [if_neg h1]
    by_cases h2 : n = s.u + 1
    · rw [if_pos h2, if_pos h2]
    · rw [if_neg h2, if_neg h2]
theorem DB.zero (s : LS) (p : Int) : DB s s p 0 := ⟨by split <;> (try rfl); simp; omega, by simp⟩
theorem DB.succ {s s' : LS} {p : Int} {j : Nat} (h : DB s s' p j) : DB s (tookS s' (p + j)) p (j + 1) := by
  refine ⟨?_, ?_⟩
  · show (Acc.took s'.gs (p + j)).1.u = _
    rw [took_u, h.u]
    push_cast
    by_cases h1 : p ≤ s.gs.u + 1
    · rw [if_pos h1, if_pos h1]
      split <;> omega
    · rw [if_neg h1, if_neg h1, if_neg (by omega)]
  · show (Acc.took s'.gs (p + j)).1.o = _
    rw [took_o1]
    simp
theorem AQ.out {ag n0 nw : Int} {sa sb : LS} (h : AQ ag n0 sa sb) (hn : n0 ≤ nw) : AQ ag nw (outS sa nw) (outS sb nw) := by
  refine ⟨⟨h.fp.ame, h.fp.apeer, h.fp.bme, h.fp.bpeer, rfl, h.fp.bL, rfl, rfl, h.fp.let0, h.fp.le, h.fp.L⟩, h.sq, h.fst, ?_, h.ag, h.ln, ?_⟩
  · show outTick sa nw ≤ nw
    have := h.tick
    unfold outTick
    split <;> split <;> omega
  · have := h.snt
    have := h.ln
    exact ⟨by show (0 : Int) ≤ sa.last; omega, Int.le_refl _⟩
theorem AQ.come {ag nw : Int} {sa sb : LS} {n : Int} (h : AQ ag nw sa sb) (hn : n ≤ sa.last) : AQ ag nw sa (tookS sb n) := by
  have hu : (tookS sb n).gs.u = if n = sb.gs.u + 1 then n else sb.gs.u := took_u _ _
  have h0 := h.fp.let0
  have h1 := h.fp.le
  have h2 := h.fst
  refine ⟨⟨h.fp.ame, h.fp.apeer, h.fp.bme, h.fp.bpeer, h.fp.ao, h.fp.bL, rfl, rfl, ?_, ?_, h.fp.L⟩, h.sq, ?_, h.tick, h.ag, h.ln, h.snt⟩ <;> (rw [hu]; split <;> omega)
theorem ackd_eq {s : LS} {u : Int} (hu : u ≤ s.last) (h : s.last - s.L.length ≤ u) : (ackd s u : Int) = u - (s.last - s.L.length) := by
  unfold ackd
  rw [if_neg (by omega)]
  omega
theorem AQ_ack {ag nw u : Int} {sa sb : LS} (h : AQ ag nw sa sb) (h0 : 0 ≤ u) (hu : u ≤ sb.gs.u) (hnow : sa.now = nw) : AQ ag nw (ackS sa (ackd sa u)) sb := by
  have h1 := h.fp.le
  have h2 := h.fst
  have hl : ((sa.L.drop (ackd sa u)).length : Int) = sa.L.length - (ackd sa u : Int) ∨ ((sa.L.drop (ackd sa u)).length : Int) = 0 ∧ (sa.L.length : Int) ≤ ackd sa u := by simp; omega
  have hk : (ackd sa u : Int) ≤ sa.L.length := by unfold ackd; rw [if_neg (by omega)]; omega
  have hk2 : (ackd sa u : Int) = 0 ∨ (ackd sa u : Int) = u - (sa.last - sa.L.length) := by unfold ackd; rw [if_neg (by omega)]; omega
  refine ⟨⟨h.fp.ame, h.fp.apeer, h.fp.bme, h.fp.bpeer, h.fp.ao, h.fp.bL, rfl, rfl, h.fp.let0, h.fp.le, fun x hx => h.fp.L x (List.mem_of_mem_drop hx)⟩, ?_, ?_, ?_, h.ag, ?_, h.snt⟩
  · show sq (sa.L.drop (ackd sa u)) (sa.last + 1 - ((sa.L.drop (ackd sa u)).length : Int))
    rw [show sa.last + 1 - ((sa.L.drop (ackd sa u)).length : Int) = sa.last + 1 - sa.L.length + (ackd sa u : Nat) by omega]
    exact sq_drop h.sq _
  · show sa.last - ((sa.L.drop (ackd sa u)).length : Int) ≤ sb.gs.u
    omega
  · show (if 0 < ackd sa u then sa.now else sa.tick) ≤ nw
    have := h.tick
    split <;> omega
  · show ((sa.L.drop (ackd sa u)).length : Int) ≤ sa.last
    have := h.ln
    omega
theorem AQ.send {ag nw v : Int} {sa sb : LS} {k : Nat} (h : AQ ag nw sa sb) (hk : k ≤ 1) (hv : v = sa.last) : AQ ag nw (sentS sa (pf 0 0 0 0 0 0 v 0 0 0 0) k) sb := by
  have hl0 := h.ln
  have hf := h.fst
  have hle := h.fp.le
  have hs := h.snt
  have h00 := h.fp.let0
  rcases Nat.le_one_iff_eq_zero_or_eq_one.1 hk with rfl | rfl
  · have e : sentS sa (pf 0 0 0 0 0 0 v 0 0 0 0) 0 = sa := by simp [sentS, numb]
    rw [e]
    exact h
  · have e1 : (sentS sa (pf 0 0 0 0 0 0 v 0 0 0 0) 1).last = sa.last + 1 := rfl
    have e2 : (sentS sa (pf 0 0 0 0 0 0 v 0 0 0 0) 1).L = sa.L ++ [{ hd 1 sa.me sa.peer (pf 0 0 0 0 0 0 v 0 0 0 0) with f2 := sa.last + 1 }] := rfl
    have e3 : ((sentS sa (pf 0 0 0 0 0 0 v 0 0 0 0) 1).L.length : Int) = sa.L.length + 1 := by rw [e2]; simp
    refine ⟨⟨h.fp.ame, h.fp.apeer, h.fp.bme, h.fp.bpeer, h.fp.ao, h.fp.bL, rfl, rfl, h.fp.let0, by rw [e1]; omega, ?_⟩, ?_, by rw [e1, e3]; omega, h.tick, h.ag, by rw [e1, e3]; omega, ⟨hs.1, by rw [e1]; have : (sentS sa (pf 0 0 0 0 0 0 v 0 0 0 0) 1).sent = sa.sent := rfl; omega⟩⟩
    · intro x hx
      rw [e1]
      rw [e2] at hx
      rcases List.mem_append.1 hx with h1 | h1
      · exact (h.fp.L x h1).mono (by omega)
      · rw [List.mem_singleton.1 h1]
        refine ⟨rfl, h.fp.ame, h.fp.apeer, ?_, ?_, ?_⟩
        · show 1 ≤ sa.last + 1
          omega
        · show sa.last + 1 ≤ sa.last + 1
          omega
        · show v = sa.last + 1 - 1
          omega
    · rw [e1, e3, e2, show sa.last + 1 + 1 - ((sa.L.length : Int) + 1) = sa.last + 1 - sa.L.length by omega]
      exact sq_snoc h.sq (by show sa.last + 1 = _; omega)
/-- The phase of a pair of links, t ticks behind T0. -/
def PH (T0 ag : Int) (t : Nat) (sa sb : LS) : Prop := PHi T0 ag t sa.last sa.L.length sa.sent sa.tick sb.gs.u sb.gs.o
/-- What a side is behind the word of what came. -/
def ackT (sa sb : LS) : LS := if sb.gs.o = true then ackS sa (ackd sa sb.gs.u) else sa
theorem outD_cases (s : LS) (nw : Int) (hs : 0 ≤ s.sent) (h2 : s.sent ≤ s.last) (hl : (s.L.length : Int) ≤ s.last) :
    (s.last + 1 - s.L.length ≤ s.sent ∧ s.again ≤ nw - s.tick ∧ (outD s nw : Int) = 0 ∧ outTick s nw = nw) ∨ (s.last + 1 - s.L.length ≤ s.sent ∧ ¬ s.again ≤ nw - s.tick ∧ (outD s nw : Int) = s.sent + 1 - (s.last + 1 - s.L.length) ∧ outTick s nw = s.tick) ∨ (¬ s.last + 1 - s.L.length ≤ s.sent ∧ (outD s nw : Int) = 0 ∧ (s.sent < s.last ∧ outTick s nw = nw ∨ ¬ s.sent < s.last ∧ outTick s nw = s.tick)) := by
  unfold outD outTick fst_
  by_cases h1 : s.last + 1 - (s.L.length : Int) ≤ s.sent
  · by_cases h3 : s.again ≤ nw - s.tick
    · left
      rw [if_pos h1, if_pos h3, if_pos h1, if_pos h3]
      exact ⟨h1, h3, rfl, rfl⟩
    · right; left
      rw [if_pos h1, if_neg h3, if_pos h1, if_neg h3]
      exact ⟨h1, h3, by omega, rfl⟩
  · right; right
    rw [if_neg h1, if_neg h1]
    refine ⟨h1, ?_, ?_⟩
    · omega
    · by_cases h4 : s.sent < s.last
      · rw [if_pos h4]
        exact Or.inl ⟨h4, rfl⟩
      · rw [if_neg h4]
        exact Or.inr ⟨h4, rfl⟩
theorem PH_step {T0 ag : Int} {t : Nat} {sa sb sb2 : LS} (hq : AQ ag (T0 + t) sa sb) (hp : PH T0 ag t sa sb) (ht : (t : Int) ≤ ag + 2) (hag : 1 ≤ ag) (j : Nat) (hj : (j : Int) = sa.L.length - (outD sa (T0 + t + 1) : Int))
    (hd : DB (outS sb (T0 + t + 1)) sb2 (sa.last + 1 - sa.L.length + (outD sa (T0 + t + 1) : Nat)) j) : PH T0 ag (t + 1) (if sb.gs.o = true then ackS (outS sa (T0 + t + 1)) (ackd (outS sa (T0 + t + 1)) sb.gs.u) else outS sa (T0 + t + 1)) sb2 := by
  have h1 := hq.fst
  have h2 := hq.fp.le
  have h3 := hq.ln
  have h4 := hq.snt
  have h5 := hq.tick
  have h6 := hq.fp.let0
  have hc := outD_cases sa (T0 + t + 1) h4.1 h4.2 h3
  rw [hq.ag] at hc
  have hdu : sb2.gs.u = if sa.last + 1 - sa.L.length + (outD sa (T0 + t + 1) : Nat) ≤ sb.gs.u + 1 then max sb.gs.u (sa.last + 1 - sa.L.length + (outD sa (T0 + t + 1) : Nat) + j - 1) else sb.gs.u := hd.u
  have hdo : sb2.gs.o = decide (0 < j) := by rw [hd.o]; show (false || decide (0 < j)) = _; simp
  have key : ∀ k : Int, ((sb.gs.o = true ∧ k = sb.gs.u - (sa.last - sa.L.length)) ∨ (sb.gs.o = false ∧ k = 0)) → ∀ tick2 : Int, ((0 < k ∧ tick2 = T0 + t + 1) ∨ (¬ 0 < k ∧ tick2 = outTick sa (T0 + t + 1))) → PHi T0 ag (t + 1) sa.last (sa.L.length - k) sa.last tick2 sb2.gs.u sb2.gs.o := by
    intro k hk tick2 htk
    refine PHi_step (D := (outD sa (T0 + t + 1) : Int)) hp (by omega) ht hag (by omega) h3 h1 h2 h5 h4.1 h4.2 hc ?_ ?_ hk htk
    · rw [hdu]
      by_cases hpu : sa.last + 1 - sa.L.length + ((outD sa (T0 + t + 1) : Nat) : Int) ≤ sb.gs.u + 1
      · rw [if_pos hpu]
        exact Or.inl ⟨hpu, by omega⟩
      · rw [if_neg hpu]
        exact Or.inr ⟨hpu, rfl⟩
    · rw [hdo]
      exact decide_eq_decide.2 (by omega)
  cases hob : sb.gs.o
  · have := key 0 (Or.inr ⟨hob, rfl⟩) (outTick sa (T0 + t + 1)) (Or.inr ⟨by omega, rfl⟩)
    rw [if_neg (by decide)]
    show PHi T0 ag ((t + 1 : Nat) : Int) sa.last (sa.L.length) sa.last (outTick sa (T0 + t + 1)) sb2.gs.u sb2.gs.o
    rw [show ((sa.L.length : Int)) = sa.L.length - 0 by omega]
    exact_mod_cast this
  · rw [if_pos rfl]
    have ek : (ackd (outS sa (T0 + t + 1)) sb.gs.u : Int) = sb.gs.u - (sa.last - sa.L.length) := ackd_eq (s := outS sa (T0 + t + 1)) h2 h1
    have := key _ (Or.inl ⟨hob, ek⟩) (if 0 < ackd (outS sa (T0 + t + 1)) sb.gs.u then T0 + t + 1 else outTick sa (T0 + t + 1)) (by split <;> omega)
    show PHi T0 ag ((t + 1 : Nat) : Int) sa.last ((sa.L.drop (ackd (outS sa (T0 + t + 1)) sb.gs.u)).length) sa.last (if 0 < ackd (outS sa (T0 + t + 1)) sb.gs.u then T0 + t + 1 else outTick sa (T0 + t + 1)) sb2.gs.u sb2.gs.o
    rw [show (((sa.L.drop (ackd (outS sa (T0 + t + 1)) sb.gs.u)).length : Nat) : Int) = sa.L.length - (ackd (outS sa (T0 + t + 1)) sb.gs.u : Int) by rw [List.length_drop]; omega]
    exact_mod_cast this

end Go.Proofs.Ytmdomkpdfmoboaa.Walk
