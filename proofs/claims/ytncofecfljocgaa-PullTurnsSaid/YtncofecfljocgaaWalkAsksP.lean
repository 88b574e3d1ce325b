/- Whoever is asked, in plain Lean. Conditions: none beyond the statement's own. -/
import Derived.Test.YtncofecfljocgaaWalkPullNil
import Derived.Test.YtncofecfljocgaaArgs
import Derived.Deep.QuietTactic
import Derived.BigQuiet
import Derived.Lib.QuietBelow
import Derived.Outline
import Derived.Deep.RegionHeld3
import Derived.Deep.CutRange
namespace Go.Proofs.Ytncofecfljocgaa.Walk
open Go.RowKit Go.Proofs.Ytncofecfljocgaa.F Go.Proofs.YtncofecfljocgaaW.PrintWords Go.Proofs.YtncofecfljocgaaW.PrintLast Go.Proofs.YtncofecfljocgaaW.PrintMore Go.Proofs.Ytncofecfljocgaa.Open
open Go.Sort (grow)
attribute [local go_sem] max2_int min2_int max_two min_two max_three min_three max_four min_four
set_option linter.unusedVariables false
set_option linter.unusedSimpArgs false

/-! ### Whoever is asked, in plain Lean -/
theorem js_mem (n me : Int) : ∀ (d : Nat) (i j : Int), j ∈ js n me [] d i ↔ i ≤ j ∧ j < i + d
  | 0, i, j => by simp only [js, List.not_mem_nil, false_iff]; omega
  | d + 1, i, j => by
    unfold js
    rw [if_neg (by simp), List.mem_cons, js_mem n me d (i + 1) j]
    omega
theorem way_mem {n s q : Int} (h : inR n s) (h0 : 0 ≤ q) (h1 : q < n) : q ∈ wayL n s := by
  obtain ⟨n1, n2, s1, s2⟩ := h
  unfold wayL
  rw [List.mem_append, List.mem_singleton]
  by_cases e : q = s
  · exact .inr e
  · refine .inl ?_
    unfold way
    rw [List.mem_map]
    by_cases hc : s < q
    · refine ⟨q - s, (js_mem n s _ _ _).2 ⟨by omega, by omega⟩, ?_⟩
      unfold md
      rw [if_pos (by omega)]
      omega
    · refine ⟨q - s + n, (js_mem n s _ _ _).2 ⟨by omega, by omega⟩, ?_⟩
      unfold md
      rw [if_neg (by omega)]
      omega
theorem hpL_mem {n me q : Int} {skip Hl : List Int} : q ∈ hpL n me skip Hl ↔ q ∈ Hl ∧ q < n ∧ q ≠ me ∧ q ∉ skip := by
  unfold hpL goes
  rw [List.mem_filter]
  simp only [Bool.not_or, Bool.and_eq_true, Bool.not_eq_true', decide_eq_false_iff_not, ge_iff_le, Int.not_le]
  constructor
  · rintro ⟨a, ⟨b, c⟩, d⟩; exact ⟨a, b, c, d⟩
  · rintro ⟨a, b, c, d⟩; exact ⟨a, ⟨b, c⟩, d⟩
theorem lacksB_true {n me : Int} {held skip : List Int} {H : Int → Int → List Int} {f s : Int} (h : lacksB n me held skip H f s = true) : f < n ∧ nextS held f = s ∧ 0 < (hpL n me skip (H f s)).length := by
  unfold lacksB at h
  simpa using h
theorem last_in {p : Pu} (ok : pok p) {f s : Int} {skip : List Int} {H : Int → Int → List Int} (hH : ∀ q ∈ H f s, 0 ≤ q) (hp : 0 < (hpL p.n p.me skip (H f s)).length) : lastOf p f s skip H ∈ hpL p.n p.me skip (H f s) := by
  obtain ⟨q, hq⟩ := List.exists_mem_of_length_pos hp
  have hq2 := hpL_mem.1 hq
  have hw := way_mem (n := p.n) (s := p.last) ⟨ok.n.1, ok.n.2, ok.last.1, ok.last.2⟩ (hH q hq2.1) hq2.2.1
  unfold lastOf
  cases hf : (wayL p.n p.last).find? (fun y => decide (y ∈ hpL p.n p.me skip (H f s))) with
  | none =>
    rw [List.find?_eq_none] at hf
    exact absurd (decide_eq_true hq) (hf q hw)
  | some y =>
    have := List.find?_some hf
    simpa using this
theorem sel_same (p : Pu) (held skip : List Int) (H : Int → Int → List Int) : (selP p held skip H).n = p.n ∧ (selP p held skip H).me = p.me ∧ (selP p held skip H).last = p.last ∧ (selP p held skip H).again = p.again ∧ (selP p held skip H).count = p.count := by
  have hk : (keepP p held skip H).n = p.n ∧ (keepP p held skip H).me = p.me ∧ (keepP p held skip H).last = p.last ∧ (keepP p held skip H).again = p.again ∧ (keepP p held skip H).count = p.count := by
    unfold keepP
    split
    · split <;> exact ⟨rfl, rfl, rfl, rfl, rfl⟩
    · exact ⟨rfl, rfl, rfl, rfl, rfl⟩
  unfold selP
  split
  · exact hk
  · unfold choP
    split
    · exact hk
    · exact hk
theorem sel_want {p : Pu} {held skip : List Int} {H : Int → Int → List Int} {q : Int × Int × Bool × Int} (h : (selP p held skip H).want = some q) : lacksB p.n p.me held skip H q.1 q.2.1 = true := by
  have hk : ∀ q, (keepP p held skip H).want = some q → lacksB p.n p.me held skip H q.1 q.2.1 = true := by
    intro q hq
    unfold keepP at hq
    split at hq
    · rename_i r hr
      split at hq
      · rename_i hl
        rw [hr] at hq
        cases hq
        exact hl
      · cases hq
    · rename_i hn
      rw [hn] at hq
      cases hq
  have hkn : (keepP p held skip H).n = p.n ∧ (keepP p held skip H).me = p.me := by
    unfold keepP
    split
    · split <;> exact ⟨rfl, rfl⟩
    · exact ⟨rfl, rfl⟩
  unfold selP at h
  split at h
  · exact hk q h
  · rename_i hn
    unfold choP at h
    split at h
    · rw [hn] at h
      cases h
    · rename_i y hy
      cases h
      unfold pickS at hy
      have := List.find?_some hy
      rw [hkn.1, hkn.2] at this
      exact this
theorem next_same (p : Pu) (now : Int) (held skip : List Int) (H : Int → Int → List Int) : (nextP p now held skip H).1.n = p.n ∧ (nextP p now held skip H).1.me = p.me ∧ (nextP p now held skip H).1.count ≤ p.count + 1 := by
  have h := sel_same p held skip H
  unfold nextP
  split
  · exact ⟨h.1, h.2.1, by rw [h.2.2.2.2]; omega⟩
  · split
    · exact ⟨h.1, h.2.1, by rw [h.2.2.2.2]; omega⟩
    · exact ⟨h.1, h.2.1, by show (selP p held skip H).count + 1 ≤ _; rw [h.2.2.2.2]; exact Int.le_refl _⟩
theorem next_ok {p : Pu} (ok : pok p) {now : Int} {held skip : List Int} {H : Int → Int → List Int} (hH : ∀ f s, ∀ q ∈ H f s, 0 ≤ q) (h : (nextP p now held skip H).2.2.2.2 = true) :
    (nextP p now held skip H).2.2.2.1 ∈ H (nextP p now held skip H).2.1 (nextP p now held skip H).2.2.1 ∧ (nextP p now held skip H).2.2.2.1 ∉ skip ∧ (nextP p now held skip H).2.2.2.1 ≠ p.me ∧ nextS held (nextP p now held skip H).2.1 = (nextP p now held skip H).2.2.1 ∧ (nextP p now held skip H).1.want = some ((nextP p now held skip H).2.1, (nextP p now held skip H).2.2.1, true, clN now) := by
  have hs := sel_same p held skip H
  cases hw : (selP p held skip H).want with
  | none =>
    have e : nextP p now held skip H = (selP p held skip H, 0, 0, -1, false) := by unfold nextP; rw [hw]
    rw [e] at h
    cases h
  | some q =>
    by_cases hc : q.2.2.1 = true ∧ clN now - q.2.2.2 < p.again
    · have e : nextP p now held skip H = (selP p held skip H, 0, 0, -1, false) := by unfold nextP; rw [hw]; dsimp only; rw [if_pos hc]
      rw [e] at h
      cases h
    · have e : nextP p now held skip H = (askP (selP p held skip H) q.1 q.2.1 (clN now) skip H, q.1, q.2.1, lastOf (selP p held skip H) q.1 q.2.1 skip H, true) := by unfold nextP; rw [hw]; dsimp only; rw [if_neg hc]
      rw [e]
      dsimp only
      obtain ⟨l1, l2, l3⟩ := lacksB_true (sel_want hw)
      have hl : lastOf (selP p held skip H) q.1 q.2.1 skip H = lastOf p q.1 q.2.1 skip H := by
        unfold lastOf
        rw [hs.1, hs.2.1, hs.2.2.1]
      rw [hl]
      have hm := hpL_mem.1 (last_in ok (fun y hy => hH _ _ y hy) l3)
      exact ⟨hm.1, hm.2.2.2, hm.2.2.1, l2, rfl⟩
theorem holders_pos (L : List X) (f s : Int) : ∀ q ∈ holders L f s, 0 ≤ q := by
  have : ∀ (l : List X) (p : Nat), ∀ q ∈ holdN f s p l, 0 ≤ q := by
    intro l
    induction l with
    | nil => intro p q hq; simp [holdN] at hq
    | cons x l ih =>
      intro p q hq
      unfold holdN at hq
      rcases List.mem_append.1 hq with hq | hq
      · split at hq
        · rw [List.mem_singleton.1 hq]; omega
        · cases hq
      · exact ih (p + 1) q hq
  intro q hq
  unfold holders at hq
  split at hq
  · exact this _ _ q hq
  · cases hq
/-! ### The matrix and the puller under a row of acts -/
theorem Tell_calls {w : World} {S : Nat → Prop} {g rb cp : Nat} {L : List X} (h : Mat w S g rb cp L) (p i : Int) {A B : Option Addr} {c d : Nat} {a b : List Int} (ha : Kd.C kU w A a.length a) (hb : Kd.C kU w B b.length b) (hc : a.length ≤ c) (hd : b.length ≤ d) (hal : a.length ≤ 100) (hbl : b.length ≤ 100)
    (hra : ∀ w', Beside S w w' → Kd.C kU w' A a.length a) (hrb : ∀ w', Beside S w w' → Kd.C kU w' B b.length b) (hi : 0 ≤ i ∧ i ≤ 18446744073709551615) (hua : u64s a) (hub : u64s b) :
    Calls Try.prog 9 #[.pointer (some ⟨g, 0, none⟩), .int .i64 p, .int .u64 i, .slice A a.length c, .slice B b.length d] w fun e w' => e = .returned (.tuple #[]) ∧ Mat w' (fun k => S k ∨ w.heap.size ≤ k) g rb cp (tellL L p i a b) ∧ Beside S w w' := by
  cases hx : at_ L p with
  | none =>
    rw [show tellL L p i a b = L by unfold tellL; rw [hx]]
    exact (Tell_none h p i _ _ hx).mono fun e w' ⟨he, hw⟩ => ⟨he, by rw [hw]; exact h.mono (fun k hk => .inl hk), by rw [hw]; exact Beside.refl _ _⟩
  | some x =>
    obtain ⟨q, rfl, hq, hL⟩ := at_some hx
    rw [show tellL L q i a b = L.set q (tellX x i a b) by unfold tellL; rw [hx]; rfl]
    exact Tell_some h q i hL ha hb hc hd hal hbl hra hrb hi hua hub
structure LW (w0 w : World) (SM SP : Nat → Prop) (gm rb cp x : Nat) (L : List X) (p : Pu) : Prop where
  m : Mat w SM gm rb cp L
  p : Pul w SP x p
  d : ∀ k, SM k → ¬ SP k
  sm : ∀ k, SM k → w0.heap.size ≤ k ∧ k < w.heap.size
  sp : ∀ k, SP k → w0.heap.size ≤ k ∧ k < w.heap.size
  below : Below w0.heap.size w0 w
section
variable {w0 w w1 : World} {SM SP : Nat → Prop} {gm rb cp x : Nat} {L L' : List X} {p p' : Pu}
theorem LW.step (h : LW w0 w SM SP gm rb cp x L p) (hb : Below w.heap.size w w1) : LW w0 w1 SM SP gm rb cp x L p :=
  ⟨h.m.below hb, h.p.below hb, h.d, fun k hk => ⟨(h.sm k hk).1, Nat.lt_of_lt_of_le (h.sm k hk).2 hb.size⟩, fun k hk => ⟨(h.sp k hk).1, Nat.lt_of_lt_of_le (h.sp k hk).2 hb.size⟩, below_step h.below hb⟩
theorem LW.mat (h : LW w0 w SM SP gm rb cp x L p) (hm : Mat w1 (fun k => SM k ∨ w.heap.size ≤ k) gm rb cp L') (hb : Beside SM w w1) : ∃ SM', LW w0 w1 SM' SP gm rb cp x L' p :=
  ⟨fun k => (SM k ∨ w.heap.size ≤ k) ∧ k < w1.heap.size, hm.bound, h.p.beside hb (fun k hk hk2 => h.d k hk2 hk), fun k hk hk2 => by
    rcases hk.1 with h1 | h1
    · exact h.d k h1 hk2
    · have := (h.sp k hk2).2; omega, fun k hk => ⟨hk.1.elim (fun h1 => (h.sm k h1).1) (fun h1 => Nat.le_trans h.below.size h1), hk.2⟩, fun k hk => ⟨(h.sp k hk).1, Nat.lt_of_lt_of_le (h.sp k hk).2 hb.size⟩, Beside.step h.below hb (fun k hk => (h.sm k hk).1)⟩
theorem LW.pul (h : LW w0 w SM SP gm rb cp x L p) (hp : Pul w1 (fun k => SP k ∨ w.heap.size ≤ k) x p') (hb : Beside SP w w1) : ∃ SP', LW w0 w1 SM SP' gm rb cp x L p' :=
  ⟨fun k => (SP k ∨ w.heap.size ≤ k) ∧ k < w1.heap.size, h.m.beside hb h.d, hp.bound, fun k hk hk2 => by
    rcases hk2.1 with h1 | h1
    · exact h.d k hk h1
    · have := (h.sm k hk).2; omega, fun k hk => ⟨(h.sm k hk).1, Nat.lt_of_lt_of_le (h.sm k hk).2 hb.size⟩, fun k hk => ⟨hk.1.elim (fun h1 => (h.sp k h1).1) (fun h1 => Nat.le_trans h.below.size h1), hk.2⟩, Beside.step h.below hb (fun k hk => (h.sp k hk).1)⟩
theorem LW.make {gm rb cp x : Nat} (hm : Mat w (fun k => w0.heap.size ≤ k) gm rb cp L) (b1 : Below w0.heap.size w0 w) (hp : Pul w1 (fun k => w.heap.size ≤ k) x p) (b2 : Below w.heap.size w w1) : LW w0 w1 (fun k => w0.heap.size ≤ k ∧ k < w.heap.size) (fun k => w.heap.size ≤ k ∧ k < w1.heap.size) gm rb cp x L p :=
  ⟨hm.bound.below b2, hp.bound, fun k h1 h2 => by omega, fun k hk => ⟨hk.1, Nat.lt_of_lt_of_le hk.2 b2.size⟩, fun k hk => ⟨Nat.le_trans b1.size hk.1, hk.2⟩, below_step b1 b2⟩
/-- Next, of rows that were there ahead of all. -/
theorem LW.next (h : LW w0 w SM SP gm rb cp x L p) {Ah As : Option Addr} {ch cs : Nat} {held skip : List Int} (hH : Kd.C kU w0 Ah held.length held) (hc : held.length ≤ ch) (hS : Kd.C kI w0 As skip.length skip) (sc : skip.length ≤ cs) (sl : skip.length ≤ 100) (now : Int) (hct : p.count < 1000000) :
    Calls Try.prog 11 #[.pointer (some ⟨x, 0, none⟩), .int .i64 now, .slice Ah held.length ch, .pointer (some ⟨gm, 0, none⟩), .slice As skip.length cs] w fun e w' => e = .returned (.tuple #[.agg #[.int .u8 (nextP p now held skip (holders L)).2.1, .int .u64 (nextP p now held skip (holders L)).2.2.1], .int .i64 (nextP p now held skip (holders L)).2.2.2.1, .bool (nextP p now held skip (holders L)).2.2.2.2]) ∧ (∃ SP', LW w0 w' SM SP' gm rb cp x L (nextP p now held skip (holders L)).1) ∧ Beside SP w w' :=
  (Next_calls h.p (fun k hk => (h.sp k hk).2) (env_of h.m h.d (fun W hW => Kd.C_below hH (Beside.step h.below hW (fun k hk => (h.sp k hk).1))) hc (fun W hW => Kd.C_below hS (Beside.step h.below hW (fun k hk => (h.sp k hk).1))) sc sl) now hct).mono fun e w' ⟨he, hp, hb⟩ => ⟨he, h.pul hp hb, hb⟩
end

end Go.Proofs.Ytncofecfljocgaa.Walk
