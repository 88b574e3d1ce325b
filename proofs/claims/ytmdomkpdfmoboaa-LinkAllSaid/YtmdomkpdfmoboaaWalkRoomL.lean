/- A link whose waiting frames follow each other. Conditions: none beyond the statement's own. -/
import Derived.Test.YtmdomkpdfmoboaaWalkLinkIdle
import Derived.Test.YtmdomkpdfmoboaaArgs
import Derived.Deep.QuietTactic
import Derived.BigQuiet
import Derived.Lib.QuietBelow
import Derived.Outline
import Derived.Deep.RegionHeld3
import Derived.Deep.CutRange
namespace Go.Proofs.Ytmdomkpdfmoboaa.Walk
open Go.RowKit Go.Proofs.Ytmdomkpdfmoboaa.F Go.Proofs.YtmdomkpdfmoboaaW.PrintWords Go.Proofs.YtmdomkpdfmoboaaW.PrintLast Go.Proofs.YtmdomkpdfmoboaaW.PrintMore Go.Proofs.Ytmdomkpdfmoboaa.Open
open Go.Sort (grow)
attribute [local go_sem] max2_int min2_int max_two min_two max_three min_three max_four min_four
set_option linter.unusedVariables false
set_option linter.unusedSimpArgs false

/-! ### A link whose waiting frames follow each other -/
def sq (L : List Fr) (a : Int) : Prop := ∀ (k : Nat) (x : Fr), L[k]? = some x → x.f2 = a + k
theorem sq_drop {L : List Fr} {a : Int} (h : sq L a) (d : Nat) : sq (L.drop d) (a + d) := by
  intro k x hx
  rw [List.getElem?_drop] at hx
  have := h (d + k) x hx
  rw [this]
  push_cast
  omega
theorem sq_nil (a : Int) : sq [] a := by intro k x hx; simp at hx
theorem sq_snoc {L : List Fr} {a : Int} {f : Fr} (h : sq L a) (hf : f.f2 = a + L.length) : sq (L ++ [f]) a := by
  intro k x hx
  by_cases hk : k < L.length
  · rw [List.getElem?_append_left hk] at hx
    exact h k x hx
  · have hk2 : k < (L ++ [f]).length := (List.getElem?_eq_some_iff.1 hx).1
    have hk3 : k = L.length := by simp at hk2; omega
    subst hk3
    simp at hx
    subst hx
    exact hf
structure RM (w0 w' : World) (g gw gg n : Nat) (m : Int) (s : LS) : Prop where
  lk : LkB w' (fun k => w0.heap.size ≤ k) g gw gg s
  n : s.n = n
  o : s.gs.o = false
  me : s.me = 0
  peer : s.peer = 1
  sq : sq s.L (s.last + 1 - s.L.length)
  last : s.last ≤ m
  below : Below w0.heap.size w0 w'
theorem RM.fit {w0 w' : World} {g gw gg n : Nat} {m : Int} {s : LS} (h : RM w0 w' g gw gg n m s) : s.L.length ≤ n := by rw [← h.n]; exact h.lk.win.ok.fit
theorem RM.le {w0 w' : World} {g gw gg n : Nat} {m : Int} {s : LS} (h : RM w0 w' g gw gg n m s) : (s.L.length : Int) ≤ s.last := h.lk.win.ok.le
theorem RM.drew {w0 w' : World} {g gw gg n : Nat} {m : Int} {s : LS} (h : RM w0 w' g gw gg n m s) (q : Nat) : RM w0 (w'.drewN q) g gw gg n m s :=
  ⟨h.lk.below (pw_below_drewN (Below.refl _ _) q), h.n, h.o, h.me, h.peer, h.sq, h.last, pw_below_drewN h.below q⟩
theorem sent_sq {s : LS} {x : Fr} {k : Nat} (h : sq s.L (s.last + 1 - s.L.length)) (hk : k ≤ 1) : sq (sentS s x k).L ((sentS s x k).last + 1 - (sentS s x k).L.length) := by
  rcases Nat.le_one_iff_eq_zero_or_eq_one.1 hk with rfl | rfl
  · simpa [sentS, numb] using h
  · have e : (s.last + (1 : Nat) + 1 - ((s.L ++ [({ hd 1 s.me s.peer x with f2 := s.last + 1 } : Fr)]).length : Int)) = s.last + 1 - s.L.length := by simp; omega
    show sq (s.L ++ [({ hd 1 s.me s.peer x with f2 := s.last + 1 } : Fr)]) _
    rw [show ((sentS s x 1).last + 1 - ((sentS s x 1).L.length : Int)) = s.last + 1 - s.L.length from e]
    refine sq_snoc h ?_
    show s.last + 1 = _
    omega
theorem RM_Send {w0 : World} {g gw gg n : Nat} {m : Int} {s : LS} (v : Int) (wr : World) (h : RM w0 wr g gw gg n m s) (hm : m + 1 ≤ 1000000) :
    Calls Try.prog 11 #[.pointer (some ⟨g, 0, none⟩), .slice (some ⟨wr.heap.size, 0, none⟩) 1 1] (wr.alloc (.cells #[.int .u8 0, .int .u8 0, .int .u8 0, .int .u8 0, .int .u64 0, .int .u64 0, .int .u32 v, .int .u32 0, .int .u32 0, .int .u64 0, .int .u64 0, .slice none 0 0, .slice none 0 0, .slice none 0 0, .slice none 0 0, .slice none 0 0] 39)) fun e w' => (∃ q, e = .returned q) ∧ ∃ s', RM w0 w' g gw gg n (m + 1) s' := by
  obtain ⟨w2, hw2⟩ : ∃ w2, w2 = wr.alloc (.cells #[.int .u8 0, .int .u8 0, .int .u8 0, .int .u8 0, .int .u64 0, .int .u64 0, .int .u32 v, .int .u32 0, .int .u32 0, .int .u64 0, .int .u64 0, .slice none 0 0, .slice none 0 0, .slice none 0 0, .slice none 0 0, .slice none 0 0] 39) := ⟨_, rfl⟩
  rw [← hw2]
  have hF : Kd.F kF w2 (fun b => b = wr.heap.size) (some ⟨wr.heap.size, 0, none⟩) 1 [pf 0 0 0 0 0 0 v 0 0 0 0] := by
    refine Kd.F_mono (F_lit (t := 39) (g := wr.heap.size) (ok := fun _ => False) (d := kF) [(pf 0 0 0 0 0 0 v 0 0 0 0, pcells 0 0 0 0 0 0 v 0 0 0 0)] (by rw [hw2]; exact blk_new wr _) (by simp) ?_) (fun k hk => by rcases hk with h | h; exact h.elim; exact h)
    intro r hr
    rw [List.mem_singleton.1 hr]
    exact pf_FK _ _ _ _ _ _ _ _ _ _ _ _
  have hb2 : Below wr.heap.size wr w2 := by rw [hw2]; exact below_alloc (Below.refl _ _) _
  have L2 := h.lk.bound.below hb2
  have hk1 : min 1 (s.n - s.L.length) ≤ 1 := Nat.min_le_left _ _
  refine (Send1_calls (pf 0 0 0 0 0 0 v 0 0 0 0) (min 1 (s.n - s.L.length)) w2 L2 hF (fun b hb hS => by have := hS.2; have h9 : b = wr.heap.size := hb; omega) (Nat.le_refl _) (pf_fok _ _ _ _ _ _ _ _ _ _ _) (by have := h.last; omega) rfl).mono ?_
  rintro e w3 ⟨rfl, hL, hb⟩
  have hz := h.below.size
  have hz2 := hb2.size
  refine ⟨⟨_, rfl⟩, _, ⟨hL.mono (fun k hk => ?_), h.n, h.o, h.me, h.peer, sent_sq h.sq hk1, ?_, ?_⟩⟩
  · rcases hk with hk | hk
    · exact hk.1
    · show w0.heap.size ≤ k; omega
  · show s.last + ((min 1 (s.n - s.L.length) : Nat) : Int) ≤ m + 1
    have := h.last
    omega
  · exact Beside.step (below_step h.below hb2) hb (fun k hk => hk.1)
theorem outD_le (s : LS) (nw : Int) (h : s.sent ≤ s.last) (h2 : (s.L.length : Int) ≤ s.last) : outD s nw ≤ s.L.length := by
  unfold outD fst_
  split
  · split
    · exact Nat.zero_le _
    · omega
  · omega
theorem RM_Ack {w0 : World} {g gw gg n : Nat} {m : Int} {s : LS} (u : Int) (wr : World) (h : RM w0 wr g gw gg n m s) (h0 : 0 ≤ u) (h1 : u < 18446744073709551616) :
    Calls Try.prog 13 #[.pointer (some ⟨g, 0, none⟩), .agg #[.int .u8 2, .int .u8 1, .int .u8 0, .int .u8 0, .int .u64 0, .int .u64 u, .int .u32 0, .int .u32 0, .int .u32 0, .int .u64 0, .int .u64 0, .slice none 0 0, .slice none 0 0, .slice none 0 0, .slice none 0 0, .slice none 0 0]] wr fun e w' => (∃ v, e = .returned v) ∧ ∃ s', RM w0 w' g gw gg n m s' := by
  refine (Come_ack (A11 := none) (A12 := none) (A13 := none) (A14 := none) (A15 := none) (c11 := 0) (c12 := 0) (c13 := 0) (c14 := 0) (c15 := 0) (pf 2 1 0 0 0 u 0 0 0 0 0) (ackd s u) wr h.lk h.peer.symm h.me.symm rfl h0 h1 rfl).mono ?_
  rintro e w' ⟨rfl, hL, hb⟩
  refine ⟨⟨_, rfl⟩, ackS s (ackd s u), ⟨hL, h.n, h.o, h.me, h.peer, ?_, h.last, Beside.step h.below hb (fun k hk => hk)⟩⟩
  have hle := h.le
  have hd : ackd s u ≤ s.L.length ∨ s.L.length < ackd s u := by omega
  rcases hd with hd | hd
  · have := sq_drop h.sq (ackd s u)
    show sq (s.L.drop (ackd s u)) (s.last + 1 - ((s.L.drop (ackd s u)).length : Int))
    rw [show s.last + 1 - ((s.L.drop (ackd s u)).length : Int) = s.last + 1 - s.L.length + (ackd s u : Nat) by simp; omega]
    exact this
  · show sq (s.L.drop (ackd s u)) (s.last + 1 - ((s.L.drop (ackd s u)).length : Int))
    rw [List.drop_eq_nil_of_le (by omega)]
    exact sq_nil _
theorem RM_Out {w0 : World} {g gw gg n : Nat} {m : Int} {s : LS} (a : Int) (wr : World) (h : RM w0 wr g gw gg n m s) :
    Calls Try.prog 12 #[.pointer (some ⟨g, 0, none⟩), .int .i64 a] wr fun e w' => ∃ v s' L b, e = .returned v ∧ Kd.R kF eF w' wr.heap.size (fun _ => True) v L ∧ sq L b ∧ L.length ≤ n ∧ 1 ≤ b ∧ b + L.length ≤ m + 1 ∧ RM w0 w' g gw gg n m s' := by
  refine (Out_calls a (clt a) wr h.lk.bound rfl (fun k hk => hk.2)).mono ?_
  rintro e w' ⟨v, rfl, ho, hL, hb⟩
  have e1 : outL s (clt a) = s.L.drop (outD s (clt a)) := by simp [outL, h.o]
  rw [e1] at ho
  refine ⟨v, outS s (clt a), s.L.drop (outD s (clt a)), s.last + 1 - s.L.length + (outD s (clt a) : Nat), rfl, ho, sq_drop h.sq _, ?_, ?_, ?_, ⟨hL.mono (fun k hk => hk.1), h.n, rfl, h.me, h.peer, h.sq, h.last, Beside.step h.below hb (fun k hk => hk.1)⟩⟩
  · have := h.fit; simp; omega
  · have := h.le; omega
  · have hd := outD_le s (clt a) h.lk.ok.sent.2 h.le
    have := h.last
    simp
    omega

end Go.Proofs.Ytmdomkpdfmoboaa.Walk
