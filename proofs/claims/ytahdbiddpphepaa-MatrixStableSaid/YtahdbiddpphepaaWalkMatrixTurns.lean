/- In which order processes tell, and are gone, plays no part. Conditions: none beyond the statement's own. -/
import Derived.Test.YtahdbiddpphepaaWalkP
import Derived.Test.YtahdbiddpphepaaF2
import Derived.Test.YtahdbiddpphepaaArgs
import Derived.Deep.QuietTactic
import Derived.BigQuiet
import Derived.Lib.QuietBelow
import Derived.Outline
import Derived.Deep.RegionHeld3
import Derived.Deep.CutRange
namespace Go.Proofs.Ytahdbiddpphepaa.Walk
open Go.RowKit Go.Proofs.Ytahdbiddpphepaa.F Go.Proofs.YtahdbiddpphepaaW.PrintWords Go.Proofs.YtahdbiddpphepaaW.PrintLast Go.Proofs.YtahdbiddpphepaaW.PrintMore Go.Proofs.Ytahdbiddpphepaa.Open
open Go.Sort (grow)
attribute [local go_sem] max2_int min2_int max_two min_two max_three min_three max_four min_four
set_option linter.unusedVariables false
set_option linter.unusedSimpArgs false

/-! ### two matrices -/
abbrev tAc : Nat := 29
abbrev kAc : Kd Ac := k29
structure TW (w0 wr : World) (ga ra ca gb rb cb : Nat) (La Lb : List X) : Prop where
  below : Below w0.heap.size w0 wr
  ex : ∃ Sa Sb : Nat → Prop, Mat wr Sa ga ra ca La ∧ Mat wr Sb gb rb cb Lb ∧ (∀ k, Sa k → w0.heap.size ≤ k ∧ k < wr.heap.size) ∧ (∀ k, Sb k → w0.heap.size ≤ k ∧ k < wr.heap.size) ∧ ∀ k, Sa k → ¬ Sb k
section
variable {w0 wr w1 : World} {ga ra ca gb rb cb : Nat} {La Lb L' : List X}
theorem TW.step (h : TW w0 wr ga ra ca gb rb cb La Lb) (hb : Below wr.heap.size wr w1) : TW w0 w1 ga ra ca gb rb cb La Lb := by
  obtain ⟨h1, Sa, Sb, hA, hB, s1, s2, s3⟩ := h
  exact ⟨below_step h1 hb, Sa, Sb, hA.below hb, hB.below hb, fun k hk => ⟨(s1 k hk).1, Nat.lt_of_lt_of_le (s1 k hk).2 hb.size⟩, fun k hk => ⟨(s2 k hk).1, Nat.lt_of_lt_of_le (s2 k hk).2 hb.size⟩, s3⟩
theorem TW.a {Sa Sb : Nat → Prop} (h1 : Below w0.heap.size w0 wr) (hB : Mat wr Sb gb rb cb Lb) (s1 : ∀ k, Sa k → w0.heap.size ≤ k ∧ k < wr.heap.size) (s2 : ∀ k, Sb k → w0.heap.size ≤ k ∧ k < wr.heap.size) (s3 : ∀ k, Sa k → ¬ Sb k)
    (hA' : Mat w1 (fun k => Sa k ∨ wr.heap.size ≤ k) ga ra ca L') (hb : Beside Sa wr w1) : TW w0 w1 ga ra ca gb rb cb L' Lb := by
  refine ⟨Beside.step h1 hb (fun k hk => (s1 k hk).1), fun k => (Sa k ∨ wr.heap.size ≤ k) ∧ k < w1.heap.size, Sb, hA'.bound, hB.beside hb (fun k hk hk2 => s3 k hk2 hk), fun k hk => ⟨hk.1.elim (fun h => (s1 k h).1) (fun h => Nat.le_trans h1.size h), hk.2⟩, fun k hk => ⟨(s2 k hk).1, Nat.lt_of_lt_of_le (s2 k hk).2 hb.size⟩, fun k hk hk2 => ?_⟩
  rcases hk.1 with h | h
  · exact s3 k h hk2
  · have := (s2 k hk2).2
    omega
theorem TW.b {Sa Sb : Nat → Prop} (h1 : Below w0.heap.size w0 wr) (hA : Mat wr Sa ga ra ca La) (s1 : ∀ k, Sa k → w0.heap.size ≤ k ∧ k < wr.heap.size) (s2 : ∀ k, Sb k → w0.heap.size ≤ k ∧ k < wr.heap.size) (s3 : ∀ k, Sa k → ¬ Sb k)
    (hB' : Mat w1 (fun k => Sb k ∨ wr.heap.size ≤ k) gb rb cb L') (hb : Beside Sb wr w1) : TW w0 w1 ga ra ca gb rb cb La L' := by
  refine ⟨Beside.step h1 hb (fun k hk => (s2 k hk).1), Sa, fun k => (Sb k ∨ wr.heap.size ≤ k) ∧ k < w1.heap.size, hA.beside hb (fun k hk hk2 => s3 k hk hk2), hB'.bound, fun k hk => ⟨(s1 k hk).1, Nat.lt_of_lt_of_le (s1 k hk).2 hb.size⟩, fun k hk => ⟨hk.1.elim (fun h => (s2 k h).1) (fun h => Nat.le_trans h1.size h), hk.2⟩, fun k hk hk2 => ?_⟩
  rcases hk2.1 with h | h
  · exact s3 k hk h
  · have := (s1 k hk).2
    omega
end
/-- The calls of an act on the first matrix, and on the second one. -/
theorem TW.gone_a {w0 wr : World} {ga ra ca gb rb cb : Nat} {La Lb : List X} (h : TW w0 wr ga ra ca gb rb cb La Lb) (p : Int) : Calls Try.prog 11 #[.pointer (some ⟨ga, 0, none⟩), .slice (some ⟨wr.heap.size, 0, none⟩) 1 1] (wr.alloc (.cells #[.int .i64 p] tI64)) fun e w' => e = .returned (.int .i64 (goneK La p)) ∧ TW w0 w' ga ra ca gb rb cb (goneL La p) Lb := by
  obtain ⟨h1, Sa, Sb, hA, hB, s1, s2, s3⟩ := h.step (below_alloc (Below.refl wr.heap.size wr) (.cells #[.int .i64 p] tI64))
  exact (Gone_calls hA p wr.heap.size 1 ((blk_cell (blk_new wr _) 0).trans rfl)).mono fun e w' ⟨he, hM, hb⟩ => ⟨he, TW.a h1 hB s1 s2 s3 (hM.mono fun k hk => .inl hk) hb⟩
theorem TW.gone_b {w0 wr : World} {ga ra ca gb rb cb : Nat} {La Lb : List X} (h : TW w0 wr ga ra ca gb rb cb La Lb) (p : Int) : Calls Try.prog 11 #[.pointer (some ⟨gb, 0, none⟩), .slice (some ⟨wr.heap.size, 0, none⟩) 1 1] (wr.alloc (.cells #[.int .i64 p] tI64)) fun e w' => e = .returned (.int .i64 (goneK Lb p)) ∧ TW w0 w' ga ra ca gb rb cb La (goneL Lb p) := by
  obtain ⟨h1, Sa, Sb, hA, hB, s1, s2, s3⟩ := h.step (below_alloc (Below.refl wr.heap.size wr) (.cells #[.int .i64 p] tI64))
  exact (Gone_calls hB p wr.heap.size 1 ((blk_cell (blk_new wr _) 0).trans rfl)).mono fun e w' ⟨he, hM, hb⟩ => ⟨he, TW.b h1 hA s1 s2 s3 (hM.mono fun k hk => .inl hk) hb⟩
theorem TW.tell_a {w0 wr : World} {ga ra ca gb rb cb : Nat} {La Lb : List X} (h : TW w0 wr ga ra ca gb rb cb La Lb) (p i : Int) {A B : Option Addr} {c d : Nat} {a b : List Int} (ha : Kd.C kU w0 A a.length a) (hb : Kd.C kU w0 B b.length b) (hc : a.length ≤ c) (hd : b.length ≤ d) (hal : a.length ≤ 100) (hbl : b.length ≤ 100) (hi : 0 ≤ i ∧ i ≤ 18446744073709551615) (hua : u64s a) (hub : u64s b) :
    Calls Try.prog 12 #[.pointer (some ⟨ga, 0, none⟩), .int .i64 p, .int .u64 i, .slice A a.length c, .slice B b.length d] wr fun e w' => e = .returned (.tuple #[]) ∧ TW w0 w' ga ra ca gb rb cb (tellL La p i a b) Lb := by
  obtain ⟨h1, Sa, Sb, hA, hB, s1, s2, s3⟩ := h
  exact (Tell_calls hA p i (Kd.C_below ha h1) (Kd.C_below hb h1) hc hd hal hbl (fun w' hw => Kd.C_below ha (Beside.step h1 hw (fun k hk => (s1 k hk).1))) (fun w' hw => Kd.C_below hb (Beside.step h1 hw (fun k hk => (s1 k hk).1))) hi hua hub).mono fun e w' ⟨he, hM, hw⟩ => ⟨he, TW.a h1 hB s1 s2 s3 hM hw⟩
theorem TW.tell_b {w0 wr : World} {ga ra ca gb rb cb : Nat} {La Lb : List X} (h : TW w0 wr ga ra ca gb rb cb La Lb) (p i : Int) {A B : Option Addr} {c d : Nat} {a b : List Int} (ha : Kd.C kU w0 A a.length a) (hb : Kd.C kU w0 B b.length b) (hc : a.length ≤ c) (hd : b.length ≤ d) (hal : a.length ≤ 100) (hbl : b.length ≤ 100) (hi : 0 ≤ i ∧ i ≤ 18446744073709551615) (hua : u64s a) (hub : u64s b) :
    Calls Try.prog 12 #[.pointer (some ⟨gb, 0, none⟩), .int .i64 p, .int .u64 i, .slice A a.length c, .slice B b.length d] wr fun e w' => e = .returned (.tuple #[]) ∧ TW w0 w' ga ra ca gb rb cb La (tellL Lb p i a b) := by
  obtain ⟨h1, Sa, Sb, hA, hB, s1, s2, s3⟩ := h
  exact (Tell_calls hB p i (Kd.C_below ha h1) (Kd.C_below hb h1) hc hd hal hbl (fun w' hw => Kd.C_below ha (Beside.step h1 hw (fun k hk => (s2 k hk).1))) (fun w' hw => Kd.C_below hb (Beside.step h1 hw (fun k hk => (s2 k hk).1))) hi hua hub).mono fun e w' ⟨he, hM, hw⟩ => ⟨he, TW.b h1 hA s1 s2 s3 hM hw⟩
theorem TW.two {w w1 w2 : World} {ga ra ca gb rb cb : Nat} {L : List X} (h1 : Mat w1 (fun k => w.heap.size ≤ k) ga ra ca L) (b1 : Below w.heap.size w w1) (h2 : Mat w2 (fun k => w1.heap.size ≤ k) gb rb cb L) (b2 : Below w1.heap.size w1 w2) : TW w w2 ga ra ca gb rb cb L L :=
  ⟨below_step b1 b2, fun k => w.heap.size ≤ k ∧ k < w1.heap.size, fun k => w1.heap.size ≤ k ∧ k < w2.heap.size, h1.bound.below b2, h2.bound, fun k hk => ⟨hk.1, Nat.lt_of_lt_of_le hk.2 b2.size⟩, fun k hk => ⟨Nat.le_trans b1.size hk.1, hk.2⟩, fun k hk hk2 => by omega⟩
/-- Two matrices and a block that is in neither. -/
structure TX (b : Nat) (o : Array Value) (w0 wr : World) (ga ra ca gb rb cb : Nat) (La Lb : List X) : Prop where
  below : Below w0.heap.size w0 wr
  ex : ∃ Sa Sb : Nat → Prop, Mat wr Sa ga ra ca La ∧ Mat wr Sb gb rb cb Lb ∧ (∀ k, Sa k → w0.heap.size ≤ k ∧ k < wr.heap.size) ∧ (∀ k, Sb k → w0.heap.size ≤ k ∧ k < wr.heap.size) ∧ (∀ k, Sa k → ¬ Sb k) ∧ ¬ Sa b ∧ ¬ Sb b
  blk : wr.heap[b]? = some (.cells o tAc (0, 0))
section
variable {b : Nat} {o : Array Value} {w0 wr w1 : World} {ga ra ca gb rb cb : Nat} {La Lb L' : List X}
theorem TX.make (h : TW w0 wr ga ra ca gb rb cb La Lb) (hb : Below wr.heap.size wr w1) (hn : wr.heap.size ≤ b) (ho : w1.heap[b]? = some (.cells o tAc (0, 0))) : TX b o w0 w1 ga ra ca gb rb cb La Lb := by
  obtain ⟨h1, Sa, Sb, hA, hB, s1, s2, s3⟩ := h
  exact ⟨below_step h1 hb, ⟨Sa, Sb, hA.below hb, hB.below hb, fun k hk => ⟨(s1 k hk).1, Nat.lt_of_lt_of_le (s1 k hk).2 hb.size⟩, fun k hk => ⟨(s2 k hk).1, Nat.lt_of_lt_of_le (s2 k hk).2 hb.size⟩, s3, fun hk => by have := (s1 b hk).2; omega, fun hk => by have := (s2 b hk).2; omega⟩, ho⟩
theorem TX.step (h : TX b o w0 wr ga ra ca gb rb cb La Lb) (hb : Below wr.heap.size wr w1) : TX b o w0 w1 ga ra ca gb rb cb La Lb := by
  obtain ⟨h1, ⟨Sa, Sb, hA, hB, s1, s2, s3, s4, s5⟩, ho⟩ := h
  exact ⟨below_step h1 hb, ⟨Sa, Sb, hA.below hb, hB.below hb, fun k hk => ⟨(s1 k hk).1, Nat.lt_of_lt_of_le (s1 k hk).2 hb.size⟩, fun k hk => ⟨(s2 k hk).1, Nat.lt_of_lt_of_le (s2 k hk).2 hb.size⟩, s3, s4, s5⟩, blk_below ho hb⟩
theorem TX.tw (h : TX b o w0 wr ga ra ca gb rb cb La Lb) : TW w0 wr ga ra ca gb rb cb La Lb := by
  obtain ⟨h1, ⟨Sa, Sb, hA, hB, s1, s2, s3, _⟩, _⟩ := h
  exact ⟨h1, Sa, Sb, hA, hB, s1, s2, s3⟩
theorem TX.a {Sa Sb : Nat → Prop} (h1 : Below w0.heap.size w0 wr) (hB : Mat wr Sb gb rb cb Lb) (s1 : ∀ k, Sa k → w0.heap.size ≤ k ∧ k < wr.heap.size) (s2 : ∀ k, Sb k → w0.heap.size ≤ k ∧ k < wr.heap.size) (s3 : ∀ k, Sa k → ¬ Sb k) (s4 : ¬ Sa b) (s5 : ¬ Sb b) (ho : wr.heap[b]? = some (.cells o tAc (0, 0)))
    (hA' : Mat w1 (fun k => Sa k ∨ wr.heap.size ≤ k) ga ra ca L') (hb : Beside Sa wr w1) : TX b o w0 w1 ga ra ca gb rb cb L' Lb := by
  refine ⟨Beside.step h1 hb (fun k hk => (s1 k hk).1), ⟨fun k => (Sa k ∨ wr.heap.size ≤ k) ∧ k < w1.heap.size, Sb, hA'.bound, hB.beside hb (fun k hk hk2 => s3 k hk2 hk), fun k hk => ⟨hk.1.elim (fun h => (s1 k h).1) (fun h => Nat.le_trans h1.size h), hk.2⟩, fun k hk => ⟨(s2 k hk).1, Nat.lt_of_lt_of_le (s2 k hk).2 hb.size⟩, fun k hk hk2 => ?_, fun hk => ?_, s5⟩, (hb.block b (blk_lt ho) s4).trans ho⟩
  · rcases hk.1 with h | h
    · exact s3 k h hk2
    · have := (s2 k hk2).2
      omega
  · rcases hk.1 with h | h
    · exact s4 h
    · have := blk_lt ho
      omega
theorem TX.gone_a (h : TX b o w0 wr ga ra ca gb rb cb La Lb) (p : Int) : Calls Try.prog 11 #[.pointer (some ⟨ga, 0, none⟩), .slice (some ⟨wr.heap.size, 0, none⟩) 1 1] (wr.alloc (.cells #[.int .i64 p] tI64)) fun e w' => e = .returned (.int .i64 (goneK La p)) ∧ TX b o w0 w' ga ra ca gb rb cb (goneL La p) Lb := by
  obtain ⟨h1, ⟨Sa, Sb, hA, hB, s1, s2, s3, s4, s5⟩, ho⟩ := h.step (below_alloc (Below.refl wr.heap.size wr) (.cells #[.int .i64 p] tI64))
  exact (Gone_calls hA p wr.heap.size 1 ((blk_cell (blk_new wr _) 0).trans rfl)).mono fun e w' ⟨he, hM, hb⟩ => ⟨he, TX.a h1 hB s1 s2 s3 s4 s5 ho (hM.mono fun k hk => .inl hk) hb⟩
theorem TX.tell_a (h : TX b o w0 wr ga ra ca gb rb cb La Lb) (p i : Int) {A B : Option Addr} {c d : Nat} {x y : List Int} (ha : Kd.C kU w0 A x.length x) (hb : Kd.C kU w0 B y.length y) (hc : x.length ≤ c) (hd : y.length ≤ d) (hal : x.length ≤ 100) (hbl : y.length ≤ 100) (hi : 0 ≤ i ∧ i ≤ 18446744073709551615) (hua : u64s x) (hub : u64s y) :
    Calls Try.prog 12 #[.pointer (some ⟨ga, 0, none⟩), .int .i64 p, .int .u64 i, .slice A x.length c, .slice B y.length d] wr fun e w' => e = .returned (.tuple #[]) ∧ TX b o w0 w' ga ra ca gb rb cb (tellL La p i x y) Lb := by
  obtain ⟨h1, ⟨Sa, Sb, hA, hB, s1, s2, s3, s4, s5⟩, ho⟩ := h
  exact (Tell_calls hA p i (Kd.C_below ha h1) (Kd.C_below hb h1) hc hd hal hbl (fun w' hw => Kd.C_below ha (Beside.step h1 hw (fun k hk => (s1 k hk).1))) (fun w' hw => Kd.C_below hb (Beside.step h1 hw (fun k hk => (s1 k hk).1))) hi hua hub).mono fun e w' ⟨he, hM, hw⟩ => ⟨he, TX.a h1 hB s1 s2 s3 s4 s5 ho hM hw⟩
end
/-- What an act's words say. -/
theorem act_wf {x : Ac} (h : wf29 x) : (0 ≤ x.f2 ∧ x.f2 ≤ 18446744073709551615) ∧ u64s x.f3 ∧ u64s x.f4 := by
  obtain ⟨_, _, h2, h3, h4⟩ := h
  have e : ∀ y : Int, (Lit.int .u64 y).wf = true → 0 ≤ y ∧ y ≤ 18446744073709551615 := fun y hy => by
    simp only [Lit.wf, Bool.and_eq_true, decide_eq_true_eq, show IntKind.u64.min = 0 from rfl, show IntKind.u64.max = 18446744073709551615 from rfl] at hy
    exact hy
  exact ⟨e _ h2, fun y hy => e y (h3.2 y hy), fun y hy => e y (h4.2 y hy)⟩
def grt (x : Ac) : Bool := decide (100 < x.f3.length) || decide (100 < x.f4.length)
theorem grt_le {x : Ac} (h : grt x = false) : x.f3.length ≤ 100 ∧ x.f4.length ≤ 100 := by
  unfold grt at h
  simp only [Bool.or_eq_false_iff, decide_eq_false_iff_not] at h
  omega
theorem great_f (x : Ac) : unisonlaw18_great.f x.f0 x.f1 x.f2 x.f3 x.f4 = some (grt x) := by
  unfold unisonlaw18_great.f grt
  by_cases h : 100 < x.f3.length
  · rw [if_pos (by omega)]
    simp [h]
  · rw [if_neg (by omega)]
    simp only [h, decide_false, Bool.false_or]
    congr 1
    exact decide_eq_decide.2 (by omega)
theorem stable_len {L : List X} (h : mok L) : (stable L).length ≤ 64 := by
  have h2 := h.n2
  unfold stable
  split
  · simpa using h2
  · rw [foldAll_len]
    refine longest_le _ (fun a ha => ?_)
    obtain ⟨x, hx, rfl⟩ := List.mem_map.1 ha
    rw [(h.row x (left_mem hx)).l1]
    exact h2
theorem most_len {L : List X} (h : mok L) : (most L).length ≤ 64 := by
  have h2 := h.n2
  unfold most
  rw [foldAll_len]
  refine longest_le _ (fun a ha => ?_)
  obtain ⟨x, hx, rfl⟩ := List.mem_map.1 ha
  rw [(h.row x hx).l2]
  exact h2
section
variable {w0 wr : World} {ga ra ca gb rb cb : Nat} {La Lb : List X}
theorem TW.stable_a (h : TW w0 wr ga ra ca gb rb cb La Lb) : Calls Try.prog 14 #[.pointer (some ⟨ga, 0, none⟩)] wr fun e w' => ∃ v, e = .returned v ∧ Kd.R kU tU w' wr.heap.size (fun _ => True) v (stable La) ∧ Below wr.heap.size wr w' := by
  obtain ⟨_, Sa, Sb, hA, _⟩ := h
  exact Stable_calls hA
theorem TW.stable_b (h : TW w0 wr ga ra ca gb rb cb La Lb) : Calls Try.prog 14 #[.pointer (some ⟨gb, 0, none⟩)] wr fun e w' => ∃ v, e = .returned v ∧ Kd.R kU tU w' wr.heap.size (fun _ => True) v (stable Lb) ∧ Below wr.heap.size wr w' := by
  obtain ⟨_, Sa, Sb, _, hB, _⟩ := h
  exact Stable_calls hB
theorem TW.most_a (h : TW w0 wr ga ra ca gb rb cb La Lb) : Calls Try.prog 16 #[.pointer (some ⟨ga, 0, none⟩)] wr fun e w' => ∃ v, e = .returned v ∧ Kd.R kU tU w' wr.heap.size (fun _ => True) v (most La) ∧ Below wr.heap.size wr w' := by
  obtain ⟨_, Sa, Sb, hA, _⟩ := h
  exact Most_calls hA
theorem TW.most_b (h : TW w0 wr ga ra ca gb rb cb La Lb) : Calls Try.prog 16 #[.pointer (some ⟨gb, 0, none⟩)] wr fun e w' => ∃ v, e = .returned v ∧ Kd.R kU tU w' wr.heap.size (fun _ => True) v (most Lb) ∧ Below wr.heap.size wr w' := by
  obtain ⟨_, Sa, Sb, _, hB, _⟩ := h
  exact Most_calls hB
theorem TW.least_a (h : TW w0 wr ga ra ca gb rb cb La Lb) : Calls Try.prog 15 #[.pointer (some ⟨ga, 0, none⟩)] wr fun e w' => e = .returned (.int .u64 (least La)) ∧ Below wr.heap.size wr w' := by
  obtain ⟨_, Sa, Sb, hA, _⟩ := h
  exact Least_calls hA
theorem TW.least_b (h : TW w0 wr ga ra ca gb rb cb La Lb) : Calls Try.prog 15 #[.pointer (some ⟨gb, 0, none⟩)] wr fun e w' => e = .returned (.int .u64 (least Lb)) ∧ Below wr.heap.size wr w' := by
  obtain ⟨_, Sa, Sb, _, hB, _⟩ := h
  exact Least_calls hB
end
theorem act_at {w : World} {A : Option Addr} {l : List Ac} (h : Kd.C kAc w A l.length l) {i : Nat} {x : Ac} (hx : l[i]? = some x) : ∃ ad A3 c3 A4 c4, A = some ad ∧ (w.cell? (ad.add (i * 5)) = some (.bool x.f0) ∧ w.cell? ⟨(ad.add (i * 5)).block, (ad.add (i * 5)).off + 1, none⟩ = some (.int .i64 x.f1) ∧ w.cell? ⟨(ad.add (i * 5)).block, (ad.add (i * 5)).off + 2, none⟩ = some (.int .u64 x.f2) ∧ w.cell? ⟨(ad.add (i * 5)).block, (ad.add (i * 5)).off + 3, none⟩ = some (.slice A3 x.f3.length c3) ∧ w.cell? ⟨(ad.add (i * 5)).block, (ad.add (i * 5)).off + 4, none⟩ = some (.slice A4 x.f4.length c4)) ∧ x.f3.length ≤ c3 ∧ Kd.C kU w A3 x.f3.length x.f3 ∧ x.f4.length ≤ c4 ∧ Kd.C kU w A4 x.f4.length x.f4 := by
  have hi : i < l.length := (List.getElem?_eq_some_iff.1 hx).1
  obtain ⟨ad, cc, e, hcl, hK, hcc⟩ := Kd.C_get h z29 (i : Int) (by omega) (by omega)
  have e2 : l.getD ((i : Int)).toNat z29 = x := by simp [List.getD, hx]
  rw [e2] at hK
  obtain ⟨A3, c3, A4, c4, rfl, l3, g3, l4, g4⟩ := k29_open hK
  rw [Int.toNat_natCast] at hcc
  exact ⟨ad, A3, c3, A4, c4, e, ⟨hcc 0 _ rfl, by rw [← add_field _ _ 1 (by omega)]; exact hcc 1 _ rfl, by rw [← add_field _ _ 2 (by omega)]; exact hcc 2 _ rfl, by rw [← add_field _ _ 3 (by omega)]; exact hcc 3 _ rfl, by rw [← add_field _ _ 4 (by omega)]; exact hcc 4 _ rfl⟩, l3, g3, l4, g4⟩
set_option maxRecDepth 4000 in
set_option maxHeartbeats 8000000 in
theorem MatrixTurns (n : Int) (A1 : Option Addr) (c1 : Nat) (l1 : List Ac) (w : World) (hr : Kd.C kAc w A1 l1.length l1) (hc : l1.length ≤ c1) (_ : (Lit.int .i64 n).wf = true) (hw : l1.length ≤ maxLen ∧ ∀ x ∈ l1, wf29 x) :
    Calls Try.prog 3 #[.int .i64 n, .slice A1 l1.length c1] w fun e w' => e = .returned (.bool true) ∧ Below w.heap.size w w' := by
  have HR := Aside0.mk hr
  have HW := Aside0.mk hw.2
  have AW : Aside0 (∀ W, Calls Try.prog 8 #[] W fun e w' => e = .returned (.bool true) ∧ Below W.heap.size W w') := ⟨awake_calls⟩
  clear hr hw
  by_cases hl : l1.length ≤ 100
  · have hlz : ¬ ((l1.length : Int) > 100) := by omega
    have hlz2 : decide ((l1.length : Int) > 100) = false := decide_eq_false hlz
    by_cases hn : n ≤ 20
    · have hnz : ¬ (n > 20) := by omega
      have hnz2 : decide (n > 20) = false := decide_eq_false hnz
      go_enter Try.func3, Try.ntmps3
      go_wp2_with fail
      refine (New_calls n w).mono ?_
      rintro e w1 ⟨ga, ra, ca, rfl, hM1, hb1⟩
      have M1 := Aside0.mk hM1
      have B1 := Aside0.mk hb1
      clear hM1 hb1
      go_wp2_with fail
      refine (New_calls n w1).mono ?_
      rintro e w2 ⟨gb, rb, cb, rfl, hM2, hb2⟩
      have T2 := Aside0.mk (TW.two M1.out B1.out hM2 hb2)
      clear hM2 hb2 M1 B1
      go_wp2_with fail
      go_loopg [7] l1.length (fun gg s7 wr => ∃ i : Nat, s7 = .int .i64 i ∧ i ≤ l1.length ∧ l1.length - i ≤ gg ∧ Aside0 (TW w wr ga ra ca gb rb cb ((l1.take i).foldl actL (newL (nn n))) ((l1.reverse.take i).foldl actL (newL (nn n)))))
      case atStart => exact ⟨0, rfl, Nat.zero_le _, by omega, T2⟩
      case round =>
        clear T2
        obtain ⟨i, rfl, hi, hgg, TR⟩ := hrel
        by_cases hlt : i < l1.length
        · have hltz : (i : Int) < (l1.length : Int) := by omega
          have hlt2 : l1.length - 1 - i < l1.length := by omega
          have HX : Aside0 (l1[i]? = some l1[i]) := ⟨List.getElem?_eq_getElem hlt⟩
          have HY : Aside0 (l1[l1.length - 1 - i]? = some l1[l1.length - 1 - i]) := ⟨List.getElem?_eq_getElem hlt2⟩
          have EX : Aside0 ((l1.take (i + 1)).foldl actL (newL (nn n)) = actL ((l1.take i).foldl actL (newL (nn n))) l1[i]) := ⟨by rw [List.take_add_one, HX.out, Option.toList_some, List.foldl_append]; rfl⟩
          have EY : Aside0 ((l1.reverse.take (i + 1)).foldl actL (newL (nn n)) = actL ((l1.reverse.take i).foldl actL (newL (nn n))) l1[l1.length - 1 - i]) := ⟨by rw [List.take_add_one, List.getElem?_reverse hlt, HY.out, Option.toList_some, List.foldl_append]; rfl⟩
          have WX := Aside0.mk (act_wf (HW.out _ (List.mem_of_getElem? HX.out)))
          have WY := Aside0.mk (act_wf (HW.out _ (List.mem_of_getElem? HY.out)))
          obtain ⟨ad, A3, c3, A4, c4, e, ⟨k0, k1, k2, k3, k4⟩, l3, g3, l4, g4⟩ := act_at HR.out HX.out
          cases e
          obtain ⟨ad', B3, d3, B4, d4, e, ⟨q0, q1, q2, q3, q4⟩, m3, p3, m4, p4⟩ := act_at HR.out HY.out
          cases e
          generalize l1[i] = x at HX EX WX k0 k1 k2 k3 k4 l3 g3 l4 g4
          generalize l1[l1.length - 1 - i] = y at HY EY WY q0 q1 q2 q3 q4 m3 p3 m4 p4
          generalize (l1.take i).foldl actL (newL (nn n)) = La at TR EX
          generalize (l1.reverse.take i).foldl actL (newL (nn n)) = Lb at TR EY
          have G3 := Aside0.mk g3
          have G4 := Aside0.mk g4
          have P3 := Aside0.mk p3
          have P4 := Aside0.mk p4
          have BR := Aside0.mk TR.out.below
          have k0 := pw_cell_below BR.out k0
          have k1 := pw_cell_below BR.out k1
          have k2 := pw_cell_below BR.out k2
          have k3 := pw_cell_below BR.out k3
          have k4 := pw_cell_below BR.out k4
          have q0 := pw_cell_below BR.out q0
          have q1 := pw_cell_below BR.out q1
          have q2 := pw_cell_below BR.out q2
          have q3 := pw_cell_below BR.out q3
          have q4 := pw_cell_below BR.out q4
          clear g3 g4 p3 p4
          have hwi : IntKind.i64.wrap ((i : Int) + 1) = ((i + 1 : Nat) : Int) := by rw [IntKind.wrap_i64]; omega
          have hw1 : IntKind.i64.wrap ((l1.length : Int) - 1) = ((l1.length - 1 : Nat) : Int) := by rw [IntKind.wrap_i64]; omega
          have hw2 : IntKind.i64.wrap (((l1.length - 1 : Nat) : Int) - (i : Int)) = ((l1.length - 1 - i : Nat) : Int) := by rw [IntKind.wrap_i64]; omega
          have hz1 : ((l1.length - 1 - i : Nat) : Int) < (l1.length : Int) := by omega
          go_upto_region 7 with (fail)
          go_cut [8, 9] (fun v8 v9 w' => ∃ b8 b9 : Nat, v8 = .pointer (some ⟨b8, 0, none⟩) ∧ v9 = .pointer (some ⟨b9, 0, none⟩) ∧ Aside0 (w'.heap[b8]? = some (.cells #[.bool x.f0, .int .i64 x.f1, .int .u64 x.f2, .slice A3 x.f3.length c3, .slice A4 x.f4.length c4] tAc (0, 0))) ∧ Aside0 (w'.heap[b9]? = some (.cells #[.bool y.f0, .int .i64 y.f1, .int .u64 y.f2, .slice B3 y.f3.length d3, .slice B4 y.f4.length d4] tAc (0, 0))) ∧ wr.heap.size ≤ b9 ∧ Aside0 (Below wr.heap.size wr w'))
          case first =>
            go_region_held3 (fun w' => w'.cell? (ad.add (i * 5)) = some (.bool x.f0) ∧ w'.cell? ⟨(ad.add (i * 5)).block, (ad.add (i * 5)).off + 1, none⟩ = some (.int .i64 x.f1) ∧ w'.cell? ⟨(ad.add (i * 5)).block, (ad.add (i * 5)).off + 2, none⟩ = some (.int .u64 x.f2) ∧ w'.cell? ⟨(ad.add (i * 5)).block, (ad.add (i * 5)).off + 3, none⟩ = some (.slice A3 x.f3.length c3) ∧ w'.cell? ⟨(ad.add (i * 5)).block, (ad.add (i * 5)).off + 4, none⟩ = some (.slice A4 x.f4.length c4) ∧ w'.cell? (ad.add ((l1.length - 1 - i) * 5)) = some (.bool y.f0) ∧ w'.cell? ⟨(ad.add ((l1.length - 1 - i) * 5)).block, (ad.add ((l1.length - 1 - i) * 5)).off + 1, none⟩ = some (.int .i64 y.f1) ∧ w'.cell? ⟨(ad.add ((l1.length - 1 - i) * 5)).block, (ad.add ((l1.length - 1 - i) * 5)).off + 2, none⟩ = some (.int .u64 y.f2) ∧ w'.cell? ⟨(ad.add ((l1.length - 1 - i) * 5)).block, (ad.add ((l1.length - 1 - i) * 5)).off + 3, none⟩ = some (.slice B3 y.f3.length d3) ∧ w'.cell? ⟨(ad.add ((l1.length - 1 - i) * 5)).block, (ad.add ((l1.length - 1 - i) * 5)).off + 4, none⟩ = some (.slice B4 y.f4.length d4)) (go_keep) (fail)
            · go_wp2
              go_meet
              case rel => exact ⟨wr.heap.size, wr.heap.size + 1, rfl, rfl, ⟨blk_drew (blk_alloc (blk_new wr (.cells #[.bool x.f0, .int .i64 x.f1, .int .u64 x.f2, .slice A3 x.f3.length c3, .slice A4 x.f4.length c4] tAc)) _)⟩, ⟨blk_drew (by have h := blk_new (wr.alloc (.cells #[.bool x.f0, .int .i64 x.f1, .int .u64 x.f2, .slice A3 x.f3.length c3, .slice A4 x.f4.length c4] tAc)) (.cells #[.bool y.f0, .int .i64 y.f1, .int .u64 y.f2, .slice B3 y.f3.length d3, .slice B4 y.f4.length d4] tAc); rwa [show (wr.alloc (.cells #[.bool x.f0, .int .i64 x.f1, .int .u64 x.f2, .slice A3 x.f3.length c3, .slice A4 x.f4.length c4] tAc)).heap.size = wr.heap.size + 1 by simp] at h)⟩, by omega, ⟨below_drew (below_alloc (below_alloc (Below.refl _ _) _) _)⟩⟩
            · go_wp2
              go_meet
              case rel => exact ⟨wr.heap.size + 1, wr.heap.size, rfl, rfl, ⟨blk_drew (by have h := blk_new (wr.alloc (.cells #[.bool y.f0, .int .i64 y.f1, .int .u64 y.f2, .slice B3 y.f3.length d3, .slice B4 y.f4.length d4] tAc)) (.cells #[.bool x.f0, .int .i64 x.f1, .int .u64 x.f2, .slice A3 x.f3.length c3, .slice A4 x.f4.length c4] tAc); rwa [show (wr.alloc (.cells #[.bool y.f0, .int .i64 y.f1, .int .u64 y.f2, .slice B3 y.f3.length d3, .slice B4 y.f4.length d4] tAc)).heap.size = wr.heap.size + 1 by simp] at h)⟩, ⟨blk_drew (blk_alloc (blk_new wr (.cells #[.bool y.f0, .int .i64 y.f1, .int .u64 y.f2, .slice B3 y.f3.length d3, .slice B4 y.f4.length d4] tAc)) _)⟩, by omega, ⟨below_drew (below_alloc (below_alloc (Below.refl _ _) _) _)⟩⟩
          case rest =>
            clear k0 k1 k2 k3 k4 q0 q1 q2 q3 q4 hw1 hw2 hz1
            obtain ⟨b8, b9, rfl, rfl, X8, Y9, hb9, BC⟩ := hcut
            have TC := Aside0.mk (TX.make TR.out BC.out hb9 Y9.out)
            have x0 : wc.cell? ⟨b8, 0, none⟩ = some (.bool x.f0) := (blk_cell X8.out 0).trans rfl
            have x1 : wc.cell? ⟨b8, 1, none⟩ = some (.int .i64 x.f1) := (blk_cell X8.out 1).trans rfl
            have x2 : wc.cell? ⟨b8, 2, none⟩ = some (.int .u64 x.f2) := (blk_cell X8.out 2).trans rfl
            have x3 : wc.cell? ⟨b8, 3, none⟩ = some (.slice A3 x.f3.length c3) := (blk_cell X8.out 3).trans rfl
            have x4 : wc.cell? ⟨b8, 4, none⟩ = some (.slice A4 x.f4.length c4) := (blk_cell X8.out 4).trans rfl
            have GX := Aside0.mk (unisonlaw18_great.calls x.f0 x.f1 x.f2 A3 c3 x.f3 A4 c4 x.f4 (grt x) wc (Kd.C_below G3.out TC.out.below) l3 (Kd.C_below G4.out TC.out.below) l4 (great_f x))
            clear TR BR
            go_wp2_with fail
            refine GX.out.mono ?_
            rintro e w3 ⟨rfl, hb3⟩
            have T3 := Aside0.mk (TC.out.step hb3)
            have X3 := Aside0.mk (blk_below X8.out hb3)
            have Y3 := Aside0.mk (blk_below Y9.out hb3)
            clear hb3 GX TC X8 Y9 BC x0 x1 x2 x3 x4 hb9
            obtain ⟨rx, hrx⟩ : ∃ rx, grt x = rx := ⟨_, rfl⟩
            rw [hrx]
            cases rx with
            | true =>
              clear hrx
              go_wp2_with fail
              refine (AW.out _).mono ?_
              rintro e w4 ⟨rfl, hb⟩
              have B4 := Aside0.mk (below_step T3.out.below hb)
              clear hb
              go_wp2_with fail
              go_ret
              exact ⟨rfl, B4.out⟩
            | false =>
              have LX := Aside0.mk (grt_le hrx)
              clear hrx
              have y0 : w3.cell? ⟨b9, 0, none⟩ = some (.bool y.f0) := (blk_cell Y3.out 0).trans rfl
              have y1 : w3.cell? ⟨b9, 1, none⟩ = some (.int .i64 y.f1) := (blk_cell Y3.out 1).trans rfl
              have y2 : w3.cell? ⟨b9, 2, none⟩ = some (.int .u64 y.f2) := (blk_cell Y3.out 2).trans rfl
              have y3 : w3.cell? ⟨b9, 3, none⟩ = some (.slice B3 y.f3.length d3) := (blk_cell Y3.out 3).trans rfl
              have y4 : w3.cell? ⟨b9, 4, none⟩ = some (.slice B4 y.f4.length d4) := (blk_cell Y3.out 4).trans rfl
              have GY := Aside0.mk (unisonlaw18_great.calls y.f0 y.f1 y.f2 B3 d3 y.f3 B4 d4 y.f4 (grt y) w3 (Kd.C_below P3.out T3.out.below) m3 (Kd.C_below P4.out T3.out.below) m4 (great_f y))
              go_wp2_with fail
              refine GY.out.mono ?_
              rintro e w4 ⟨rfl, hb4⟩
              have T4 := Aside0.mk (T3.out.step hb4)
              have X4 := Aside0.mk (blk_below X3.out hb4)
              clear hb4 GY T3 X3 Y3 y0 y1 y2 y3 y4
              obtain ⟨ry, hry⟩ : ∃ ry, grt y = ry := ⟨_, rfl⟩
              rw [hry]
              cases ry with
              | true =>
                clear hry
                go_wp2_with fail
                refine (AW.out _).mono ?_
                rintro e w5 ⟨rfl, hb⟩
                have B5 := Aside0.mk (below_step T4.out.below hb)
                clear hb
                go_wp2_with fail
                go_ret
                exact ⟨rfl, B5.out⟩
              | false =>
                have LY := Aside0.mk (grt_le hry)
                clear hry
                have x0 : w4.cell? ⟨b8, 0, none⟩ = some (.bool x.f0) := (blk_cell X4.out 0).trans rfl
                have x1 : w4.cell? ⟨b8, 1, none⟩ = some (.int .i64 x.f1) := (blk_cell X4.out 1).trans rfl
                have x2 : w4.cell? ⟨b8, 2, none⟩ = some (.int .u64 x.f2) := (blk_cell X4.out 2).trans rfl
                have x3 : w4.cell? ⟨b8, 3, none⟩ = some (.slice A3 x.f3.length c3) := (blk_cell X4.out 3).trans rfl
                have x4 : w4.cell? ⟨b8, 4, none⟩ = some (.slice A4 x.f4.length c4) := (blk_cell X4.out 4).trans rfl
                cases hx0 : x.f0 with
                | true =>
                  rw [hx0] at x0
                  have AX : Aside0 (actL La x = goneL La x.f1) := ⟨by unfold actL; rw [if_pos hx0]⟩
                  clear hx0 x2 x3 x4
                  have CA := Aside0.mk (T4.out.gone_a x.f1)
                  go_wp2_with fail
                  refine CA.out.mono ?_
                  rintro e w5 ⟨rfl, h5⟩
                  have T5 : Aside0 (TX b9 #[.bool y.f0, .int .i64 y.f1, .int .u64 y.f2, .slice B3 y.f3.length d3, .slice B4 y.f4.length d4] w w5 ga ra ca gb rb cb ((l1.take (i + 1)).foldl actL (newL (nn n))) Lb) := ⟨by rw [EX.out, AX.out]; exact h5⟩
                  clear x0 x1 CA h5 T4 X4 AX
                  have Y5 := Aside0.mk T5.out.blk
                  have y0 : w5.cell? ⟨b9, 0, none⟩ = some (.bool y.f0) := (blk_cell Y5.out 0).trans rfl
                  have y1 : w5.cell? ⟨b9, 1, none⟩ = some (.int .i64 y.f1) := (blk_cell Y5.out 1).trans rfl
                  have y2 : w5.cell? ⟨b9, 2, none⟩ = some (.int .u64 y.f2) := (blk_cell Y5.out 2).trans rfl
                  have y3 : w5.cell? ⟨b9, 3, none⟩ = some (.slice B3 y.f3.length d3) := (blk_cell Y5.out 3).trans rfl
                  have y4 : w5.cell? ⟨b9, 4, none⟩ = some (.slice B4 y.f4.length d4) := (blk_cell Y5.out 4).trans rfl
                  cases hy0 : y.f0 with
                  | true =>
                    rw [hy0] at y0
                    have AY : Aside0 (actL Lb y = goneL Lb y.f1) := ⟨by unfold actL; rw [if_pos hy0]⟩
                    clear hy0 y2 y3 y4
                    have CB := Aside0.mk (T5.out.tw.gone_b y.f1)
                    go_wp2_with fail
                    refine CB.out.mono ?_
                    rintro e w6 ⟨rfl, h6⟩
                    have T6 : Aside0 (TW w w6 ga ra ca gb rb cb ((l1.take (i + 1)).foldl actL (newL (nn n))) ((l1.reverse.take (i + 1)).foldl actL (newL (nn n)))) := ⟨by rw [EY.out, AY.out]; exact h6⟩
                    clear y0 y1 CB h6 T5 Y5 AY
                    go_wp2_with fail
                    go_roundg (l1.length - (i + 1))
                    case measure => omega
                    case rel => exact ⟨i + 1, by go_num, by omega, by omega, T6⟩
                  | false =>
                    rw [hy0] at y0
                    have AY : Aside0 (actL Lb y = tellL Lb y.f1 y.f2 y.f3 y.f4) := ⟨by unfold actL; rw [if_neg (by simp [hy0])]⟩
                    clear hy0
                    have CB := Aside0.mk (T5.out.tw.tell_b y.f1 y.f2 P3.out P4.out m3 m4 LY.out.1 LY.out.2 WY.out.1 WY.out.2.1 WY.out.2.2)
                    go_wp2_with fail
                    refine CB.out.mono ?_
                    rintro e w6 ⟨rfl, h6⟩
                    have T6 : Aside0 (TW w w6 ga ra ca gb rb cb ((l1.take (i + 1)).foldl actL (newL (nn n))) ((l1.reverse.take (i + 1)).foldl actL (newL (nn n)))) := ⟨by rw [EY.out, AY.out]; exact h6⟩
                    clear y0 y1 y2 y3 y4 CB h6 T5 Y5 AY
                    go_wp2_with fail
                    go_roundg (l1.length - (i + 1))
                    case measure => omega
                    case rel => exact ⟨i + 1, by go_num, by omega, by omega, T6⟩
                | false =>
                  rw [hx0] at x0
                  have AX : Aside0 (actL La x = tellL La x.f1 x.f2 x.f3 x.f4) := ⟨by unfold actL; rw [if_neg (by simp [hx0])]⟩
                  clear hx0
                  have CA := Aside0.mk (T4.out.tell_a x.f1 x.f2 G3.out G4.out l3 l4 LX.out.1 LX.out.2 WX.out.1 WX.out.2.1 WX.out.2.2)
                  go_wp2_with fail
                  refine CA.out.mono ?_
                  rintro e w5 ⟨rfl, h5⟩
                  have T5 : Aside0 (TX b9 #[.bool y.f0, .int .i64 y.f1, .int .u64 y.f2, .slice B3 y.f3.length d3, .slice B4 y.f4.length d4] w w5 ga ra ca gb rb cb ((l1.take (i + 1)).foldl actL (newL (nn n))) Lb) := ⟨by rw [EX.out, AX.out]; exact h5⟩
                  clear x0 x1 x2 x3 x4 CA h5 T4 X4 AX
                  have Y5 := Aside0.mk T5.out.blk
                  have y0 : w5.cell? ⟨b9, 0, none⟩ = some (.bool y.f0) := (blk_cell Y5.out 0).trans rfl
                  have y1 : w5.cell? ⟨b9, 1, none⟩ = some (.int .i64 y.f1) := (blk_cell Y5.out 1).trans rfl
                  have y2 : w5.cell? ⟨b9, 2, none⟩ = some (.int .u64 y.f2) := (blk_cell Y5.out 2).trans rfl
                  have y3 : w5.cell? ⟨b9, 3, none⟩ = some (.slice B3 y.f3.length d3) := (blk_cell Y5.out 3).trans rfl
                  have y4 : w5.cell? ⟨b9, 4, none⟩ = some (.slice B4 y.f4.length d4) := (blk_cell Y5.out 4).trans rfl
                  cases hy0 : y.f0 with
                  | true =>
                    rw [hy0] at y0
                    have AY : Aside0 (actL Lb y = goneL Lb y.f1) := ⟨by unfold actL; rw [if_pos hy0]⟩
                    clear hy0 y2 y3 y4
                    have CB := Aside0.mk (T5.out.tw.gone_b y.f1)
                    go_wp2_with fail
                    refine CB.out.mono ?_
                    rintro e w6 ⟨rfl, h6⟩
                    have T6 : Aside0 (TW w w6 ga ra ca gb rb cb ((l1.take (i + 1)).foldl actL (newL (nn n))) ((l1.reverse.take (i + 1)).foldl actL (newL (nn n)))) := ⟨by rw [EY.out, AY.out]; exact h6⟩
                    clear y0 y1 CB h6 T5 Y5 AY
                    go_wp2_with fail
                    go_roundg (l1.length - (i + 1))
                    case measure => omega
                    case rel => exact ⟨i + 1, by go_num, by omega, by omega, T6⟩
                  | false =>
                    rw [hy0] at y0
                    have AY : Aside0 (actL Lb y = tellL Lb y.f1 y.f2 y.f3 y.f4) := ⟨by unfold actL; rw [if_neg (by simp [hy0])]⟩
                    clear hy0
                    have CB := Aside0.mk (T5.out.tw.tell_b y.f1 y.f2 P3.out P4.out m3 m4 LY.out.1 LY.out.2 WY.out.1 WY.out.2.1 WY.out.2.2)
                    go_wp2_with fail
                    refine CB.out.mono ?_
                    rintro e w6 ⟨rfl, h6⟩
                    have T6 : Aside0 (TW w w6 ga ra ca gb rb cb ((l1.take (i + 1)).foldl actL (newL (nn n))) ((l1.reverse.take (i + 1)).foldl actL (newL (nn n)))) := ⟨by rw [EY.out, AY.out]; exact h6⟩
                    clear y0 y1 y2 y3 y4 CB h6 T5 Y5 AY
                    go_wp2_with fail
                    go_roundg (l1.length - (i + 1))
                    case measure => omega
                    case rel => exact ⟨i + 1, by go_num, by omega, by omega, T6⟩
        · obtain rfl : i = l1.length := by omega
          have hltz : ¬ (l1.length : Int) < (l1.length : Int) := by omega
          have EL : Aside0 ((l1.reverse.take l1.length).foldl actL (newL (nn n)) = (l1.take l1.length).foldl actL (newL (nn n))) := ⟨by rw [List.take_length, List.take_of_length_le (by simp), acts_rev]⟩
          rw [EL.out] at TR
          generalize (l1.take l1.length).foldl actL (newL (nn n)) = L at TR
          have hmk : mok L := by
            obtain ⟨_, Sa, Sb, hA, _⟩ := TR.out
            exact hA.ok
          have ES : Aside0 (∀ W A c, Kd.C kU W A (stable L).length (stable L) → (stable L).length ≤ c → ∀ B d, Kd.C kU W B (stable L).length (stable L) → (stable L).length ≤ d → Calls Try.prog 13 #[.slice A (stable L).length c, .slice B (stable L).length d] W fun e w' => e = .returned (.bool true) ∧ Below W.heap.size W w') := ⟨fun W A c h1 h2 B d h3 h4 => (unisonref04_Equal.calls 1000 A c (stable L) B d (stable L) true W h1 h2 h3 h4 (equal_self (by have := stable_len hmk; omega) (by have := stable_len hmk; omega))).mono fun e w' ⟨he, hd⟩ => ⟨he, hd.below⟩⟩
          have EM : Aside0 (∀ W A c, Kd.C kU W A (most L).length (most L) → (most L).length ≤ c → ∀ B d, Kd.C kU W B (most L).length (most L) → (most L).length ≤ d → Calls Try.prog 13 #[.slice A (most L).length c, .slice B (most L).length d] W fun e w' => e = .returned (.bool true) ∧ Below W.heap.size W w') := ⟨fun W A c h1 h2 B d h3 h4 => (unisonref04_Equal.calls 1000 A c (most L) B d (most L) true W h1 h2 h3 h4 (equal_self (by have := most_len hmk; omega) (by have := most_len hmk; omega))).mono fun e w' ⟨he, hd⟩ => ⟨he, hd.below⟩⟩
          go_wp2_with fail
          refine (TR.out.stable_a).mono ?_
          rintro e w3 ⟨v, rfl, hR, hb⟩
          obtain ⟨A5, c5, rfl⟩ := Kd.R_slice hR
          obtain ⟨_, hc5, hC5⟩ := Kd.R_reads' hR
          have T3 := Aside0.mk (TR.out.step hb)
          go_wp2_with fail
          refine (T3.out.stable_b).mono ?_
          rintro e w4 ⟨v, rfl, hR6, hb6⟩
          obtain ⟨A6, c6, rfl⟩ := Kd.R_slice hR6
          obtain ⟨_, hc6, hC6⟩ := Kd.R_reads' hR6
          have T4 := Aside0.mk (T3.out.step hb6)
          have CC := Aside0.mk (ES.out w4 A5 c5 (Kd.C_below hC5 hb6) hc5 A6 c6 hC6 hc6)
          clear hR hb hC5 hc5 hR6 hb6 hC6 hc6 TR ES
          go_wp2_with fail
          refine CC.out.mono ?_
          rintro e w5 ⟨rfl, hb⟩
          have T5 := Aside0.mk (T4.out.step hb)
          clear hb T3 T4 CC
          go_wp2_with fail
          refine (T5.out.least_a).mono ?_
          rintro e w6 ⟨rfl, hb⟩
          have T6 := Aside0.mk (T5.out.step hb)
          clear hb T5
          go_wp2_with fail
          refine (T6.out.least_b).mono ?_
          rintro e w7 ⟨rfl, hb⟩
          have T7 := Aside0.mk (T6.out.step hb)
          clear hb T6
          go_wp2_with fail
          refine (T7.out.most_a).mono ?_
          rintro e w8 ⟨v, rfl, hR, hb⟩
          obtain ⟨A5, c5, rfl⟩ := Kd.R_slice hR
          obtain ⟨_, hc5, hC5⟩ := Kd.R_reads' hR
          have T8 := Aside0.mk (T7.out.step hb)
          go_wp2_with fail
          refine (T8.out.most_b).mono ?_
          rintro e w9 ⟨v, rfl, hR6, hb6⟩
          obtain ⟨A6, c6, rfl⟩ := Kd.R_slice hR6
          obtain ⟨_, hc6, hC6⟩ := Kd.R_reads' hR6
          have T9 := Aside0.mk (T8.out.step hb6)
          have CC := Aside0.mk (EM.out w9 A5 c5 (Kd.C_below hC5 hb6) hc5 A6 c6 hC6 hc6)
          clear hR hb hC5 hc5 hR6 hb6 hC6 hc6 T7 T8 EM
          go_wp2_with fail
          refine CC.out.mono ?_
          rintro e w10 ⟨rfl, hb⟩
          have T10 := Aside0.mk (T9.out.step hb)
          clear hb T9 CC
          go_wp2_with fail
          refine (AW.out _).mono ?_
          rintro e w11 ⟨rfl, hb⟩
          have B11 := Aside0.mk (below_step T10.out.below hb)
          clear hb T10
          go_wp2_with fail
          go_ret
          exact ⟨rfl, B11.out⟩
    · have hnz : (n > 20) := by omega
      have hnz2 : decide (n > 20) = true := decide_eq_true hnz
      go_enter Try.func3, Try.ntmps3
      go_wp2_with fail
      refine (AW.out _).mono ?_
      rintro e w1 ⟨rfl, hb⟩
      have B1 := Aside0.mk hb
      clear hb
      go_wp2_with fail
      go_ret
      exact ⟨rfl, B1.out⟩
  · have hlz : ((l1.length : Int) > 100) := by omega
    have hlz2 : decide ((l1.length : Int) > 100) = true := decide_eq_true hlz
    go_enter Try.func3, Try.ntmps3
    go_wp2_with fail
    refine (AW.out _).mono ?_
    rintro e w1 ⟨rfl, hb⟩
    have B1 := Aside0.mk hb
    clear hb
    go_wp2_with fail
    go_ret
    exact ⟨rfl, B1.out⟩

end Go.Proofs.Ytahdbiddpphepaa.Walk
