/- What is known rises; answers that were drawn. Conditions: none beyond the statement's own. -/
import Derived.Test.YtahdbiddpphepaaWalkMatrixTurns
import Derived.Test.YtahdbiddpphepaaArgs
import Derived.Deep.QuietTactic
import Derived.BigQuiet
import Derived.Lib.QuietBelow
import Derived.Outline
import Derived.Deep.RegionHeld3
import Derived.Deep.CutRange
namespace Go.Proofs.Ytahdbiddpphepaa.Walk
open Go.RowKit Go.Proofs.Ytahdbiddpphepaa.F Go.Proofs.YtahdbiddpphepaaW.PrintWords Go.Proofs.YtahdbiddpphepaaW.PrintLast Go.Proofs.YtahdbiddpphepaaW.PrintMore Go.Proofs.Ytahdbiddpphepaa.Open
open Go.Sort (grow)
attribute [local go_sem] max2_int min2_int max_two min_two max_three min_three max_four min_four
set_option linter.unusedVariables false
set_option linter.unusedSimpArgs false

/-! ### what is known rises, in plain Lean -/
structure xle (x y : X) : Prop where
  i : x.f0 ≤ y.f0
  d : ∀ i : Nat, rd x.f1 i ≤ rd y.f1 i
  h : ∀ i : Nat, rd x.f2 i ≤ rd y.f2 i
  g : x.f3 = true → y.f3 = true
theorem xle.refl (x : X) : xle x x := ⟨Int.le_refl _, fun _ => Int.le_refl _, fun _ => Int.le_refl _, id⟩
theorem riseL_le (a b : List Int) (i : Nat) : rd a i ≤ rd (riseL a b) i := by
  by_cases hi : i < a.length
  · have e : rd (riseL a b) (i : Int) = mx (rd a i) (rd b i) := by
      have := riseL_get (b := b) hi
      unfold rd
      rw [Int.toNat_natCast, List.getD, this]
      rfl
    rw [e]
    unfold mx
    split <;> omega
  · rw [rd_over (by omega), rd_over (by rw [riseL_len]; omega)]
    exact Int.le_refl _
theorem actF_ge (a : Ac) (x : X) : xle x (actF a x) := by
  unfold actF
  split
  · exact ⟨Int.le_refl _, fun _ => Int.le_refl _, fun _ => Int.le_refl _, fun _ => rfl⟩
  · exact ⟨by show x.f0 ≤ mx x.f0 a.f2; unfold mx; split <;> omega, fun i => riseL_le _ _ i, fun i => riseL_le _ _ i, id⟩
theorem act_len (L : List X) (a : Ac) : (actL L a).length = L.length := by
  rw [actL_mod]
  split <;> simp
theorem act_get {L : List X} {a : Ac} {j : Nat} {x : X} (hx : L[j]? = some x) : ∃ y, (actL L a)[j]? = some y ∧ xle x y := by
  rw [actL_mod]
  split
  · rw [List.getElem?_modify, hx]
    by_cases e : a.f1.toNat = j
    · exact ⟨actF a x, by simp [e], actF_ge a x⟩
    · exact ⟨x, by simp [e], xle.refl x⟩
  · exact ⟨x, hx, xle.refl x⟩
theorem act_back {L : List X} {a : Ac} {j : Nat} {y : X} (hy : (actL L a)[j]? = some y) : ∃ x, L[j]? = some x ∧ xle x y := by
  have hj : j < L.length := by
    have := (List.getElem?_eq_some_iff.1 hy).1
    rwa [act_len] at this
  obtain ⟨y', hy', hxy⟩ := act_get (a := a) (List.getElem?_eq_getElem hj)
  rw [hy] at hy'
  cases hy'
  exact ⟨_, List.getElem?_eq_getElem hj, hxy⟩
theorem at_act {L : List X} (a : Ac) {p : Int} {x : X} (hx : at_ L p = some x) : ∃ y, at_ (actL L a) p = some y ∧ xle x y := by
  unfold at_ at hx ⊢
  by_cases h0 : 0 ≤ p
  · rw [if_pos h0] at hx ⊢
    exact act_get hx
  · rw [if_neg h0] at hx
    cases hx
theorem at_act_none {L : List X} (a : Ac) {p : Int} (hx : at_ L p = none) : at_ (actL L a) p = none := by
  have := at_none hx
  unfold at_
  by_cases h0 : 0 ≤ p
  · rw [if_pos h0, List.getElem?_eq_none_iff, act_len]
    omega
  · rw [if_neg h0]
theorem inst_mono (L : List X) (a : Ac) (p : Int) : instOf L p ≤ instOf (actL L a) p := by
  unfold instOf
  cases hx : at_ L p with
  | none =>
    rw [at_act_none a hx]
    exact Int.le_refl _
  | some x =>
    obtain ⟨y, hy, hxy⟩ := at_act a hx
    rw [hy]
    exact hxy.i
theorem done_mono (L : List X) (a : Ac) (p : Int) : covv (doneOf (actL L a) p) (doneOf L p) := by
  unfold doneOf
  cases hx : at_ L p with
  | none =>
    rw [at_act_none a hx]
    exact covv.refl _
  | some x =>
    obtain ⟨y, hy, hxy⟩ := at_act a hx
    rw [hy]
    exact fun i _ => hxy.d i
theorem held_mono (L : List X) (a : Ac) (p : Int) : covv (heldOf (actL L a) p) (heldOf L p) := by
  unfold heldOf
  cases hx : at_ L p with
  | none =>
    rw [at_act_none a hx]
    exact covv.refl _
  | some x =>
    obtain ⟨y, hy, hxy⟩ := at_act a hx
    rw [hy]
    exact fun i _ => hxy.h i
theorem left_back {L : List X} {a : Ac} {y : X} (hy : y ∈ left (actL L a)) : ∃ x, x ∈ left L ∧ xle x y := by
  obtain ⟨h1, h2⟩ := List.mem_filter.1 hy
  obtain ⟨j, hj⟩ := List.mem_iff_getElem?.1 h1
  obtain ⟨x, hx, hxy⟩ := act_back hj
  refine ⟨x, List.mem_filter.2 ⟨List.mem_of_getElem? hx, ?_⟩, hxy⟩
  cases hg : x.f3 with
  | false => rfl
  | true =>
    rw [hxy.g hg] at h2
    exact h2
theorem left_pos {L : List X} {a : Ac} (h : 0 < (left (actL L a)).length) : 0 < (left L).length := by
  obtain ⟨x, hx, _⟩ := left_back (List.getElem_mem h)
  exact List.length_pos_of_mem hx
theorem stable_mono {L : List X} {a : Ac} (h : 0 < (left (actL L a)).length) : covv (stable (actL L a)) (stable L) := by
  intro i _
  have hp := left_pos h
  unfold stable
  rw [if_neg (by omega), if_neg (by omega)]
  refine least_ge (by rw [List.length_map]; exact h) i _ (fun b hb => ?_)
  obtain ⟨y, hy, rfl⟩ := List.mem_map.1 hb
  obtain ⟨x, hx, hxy⟩ := left_back hy
  exact Int.le_trans (least_le (List.mem_map.2 ⟨x, hx, rfl⟩) i) (hxy.d i)
theorem most_mono {L : List X} (h : mok L) (a : Ac) : covv (most (actL L a)) (most L) := by
  intro i _
  unfold most
  refine most_le (by rw [List.length_map]; exact h.n1) i _ (fun b hb => ?_)
  obtain ⟨x, hx, rfl⟩ := List.mem_map.1 hb
  obtain ⟨j, hj⟩ := List.mem_iff_getElem?.1 hx
  obtain ⟨y, hy, hxy⟩ := act_get (a := a) hj
  exact Int.le_trans (hxy.h i) (most_ge (List.mem_map.2 ⟨y, List.mem_of_getElem? hy, rfl⟩) i)
theorem foldl_mnf : ∀ (l : List X) (v : Int), l.foldl (fun a y => mn a y.f0) v ≤ v ∧ (∀ a ∈ l, l.foldl (fun a y => mn a y.f0) v ≤ a.f0) ∧ ∀ u, u ≤ v → (∀ a ∈ l, u ≤ a.f0) → u ≤ l.foldl (fun a y => mn a y.f0) v
  | [], v => ⟨Int.le_refl _, by simp, fun u h _ => h⟩
  | b :: l, v => by
    obtain ⟨h1, h2, h3⟩ := foldl_mnf l (mn v b.f0)
    have e1 : mn v b.f0 ≤ v := by unfold mn; split <;> omega
    have e2 : mn v b.f0 ≤ b.f0 := by unfold mn; split <;> omega
    rw [List.foldl_cons]
    refine ⟨by omega, fun a ha => ?_, fun u hv hu => h3 u ?_ (fun a ha => hu a (List.mem_cons_of_mem _ ha))⟩
    · rcases List.mem_cons.1 ha with rfl | ha
      · omega
      · exact h2 a ha
    · have := hu b (List.mem_cons_self)
      unfold mn
      split <;> omega
theorem leastL_le {L : List X} {x : X} (hx : x ∈ left L) : least L ≤ x.f0 := by
  unfold least
  cases hl : left L with
  | nil => rw [hl] at hx; cases hx
  | cons y l =>
    rw [hl] at hx
    exact (foldl_mnf (y :: l) y.f0).2.1 x hx
theorem leastL_ge {L : List X} (h : 0 < (left L).length) (u : Int) (hu : ∀ x ∈ left L, u ≤ x.f0) : u ≤ least L := by
  unfold least
  cases hl : left L with
  | nil => rw [hl] at h; simp at h
  | cons y l =>
    rw [hl] at hu
    exact (foldl_mnf (y :: l) y.f0).2.2 u (hu y List.mem_cons_self) hu
theorem least_mono {L : List X} {a : Ac} (h : 0 < (left (actL L a)).length) : least L ≤ least (actL L a) := by
  refine leastL_ge h _ (fun y hy => ?_)
  obtain ⟨x, hx, hxy⟩ := left_back hy
  exact Int.le_trans (leastL_le hx) hxy.i
theorem least_none {L : List X} (h : (left L).length = 0) : least L = 0 := by
  unfold least
  rw [List.length_eq_zero_iff.1 h]
theorem stable_none {L : List X} (h : (left L).length = 0) : stable L = List.replicate L.length 0 := if_pos h
theorem rd_zero (n i : Nat) : rd (List.replicate n 0) (i : Int) ≤ 0 := by
  unfold rd
  rw [Int.toNat_natCast, List.getD, List.getElem?_replicate]
  split <;> exact Int.le_refl _
theorem cov_zeros (n : Nat) (a : List Int) (ha : u64s a) : covv a (List.replicate n 0) := by
  intro i hi
  have : rd (List.replicate n 0) (i : Int) = 0 := by
    unfold rd
    rw [Int.toNat_natCast, List.getD, List.getElem?_replicate]
    split <;> rfl
  rw [this]
  exact (rd_u64 ha i).1
theorem left_set : ∀ (L : List X) (q : Nat) (x y : X), L[q]? = some x → ((left (L.set q y)).length : Int) + (if x.f3 = true then 0 else 1) = (left L).length + (if y.f3 = true then 0 else 1)
  | [], _, _, _, h => by simp at h
  | z :: L, 0, x, y, h => by
    obtain rfl : z = x := by simpa using h
    unfold left
    rw [List.set_cons_zero, List.filter_cons, List.filter_cons]
    cases z.f3 <;> cases y.f3 <;> simp
  | z :: L, q + 1, x, y, h => by
    have ih := left_set L q x y (by simpa using h)
    unfold left at ih ⊢
    rw [List.set_cons_succ, List.filter_cons, List.filter_cons]
    cases z.f3 <;> simp only [Bool.not_true, Bool.not_false, Bool.false_eq_true, if_true, if_false, List.length_cons] <;> omega
theorem left_gone (L : List X) (p : Int) : ((left (goneL L p)).length : Int) = (left L).length - goneK L p := by
  unfold goneL goneK
  cases hx : at_ L p with
  | none => simp
  | some x =>
    obtain ⟨q, rfl, _, hq⟩ := at_some hx
    dsimp only
    by_cases hg : x.f3 = true
    · rw [if_pos hg, if_pos hg]
      omega
    · rw [if_neg hg, if_neg hg]
      have := left_set L q x (goneX x) hq
      rw [if_neg hg, if_pos (show (goneX x).f3 = true from rfl)] at this
      rw [Int.toNat_natCast]
      omega
theorem left_tell (L : List X) (p i : Int) (d h : List Int) : (left (tellL L p i d h)).length = (left L).length := by
  unfold tellL
  cases hx : at_ L p with
  | none => rfl
  | some x =>
    obtain ⟨q, rfl, _, hq⟩ := at_some hx
    dsimp only
    have := left_set L q x (tellX x i d h) hq
    rw [show (tellX x i d h).f3 = x.f3 from rfl] at this
    rw [Int.toNat_natCast]
    omega
theorem left_new (n : Nat) : (left (newL n)).length = n := by
  unfold left newL
  rw [List.filter_eq_self.2 (fun x hx => by obtain rfl := List.eq_of_mem_replicate hx; rfl), List.length_replicate]
theorem act_gone {a : Ac} (h : a.f0 = true) (L : List X) : actL L a = goneL L a.f1 := by unfold actL; rw [if_pos h]
theorem act_tell {a : Ac} (h : a.f0 = false) (L : List X) : actL L a = tellL L a.f1 a.f2 a.f3 a.f4 := by unfold actL; rw [if_neg (by simp [h])]
/-! ### a matrix, and answers that were drawn from it -/
structure MS (w0 wr : World) (g rb cp : Nat) (L : List X) (P : List (Option Addr × Nat × List Int)) (B : List (Nat × Nat × Array Value)) : Prop where
  below : Below w0.heap.size w0 wr
  ex : ∃ S : Nat → Prop, Mat wr S g rb cp L ∧ (∀ k, S k → w0.heap.size ≤ k ∧ k < wr.heap.size) ∧ (∀ p ∈ P, Kd.R kU tU wr 0 (fun k => ¬ S k ∧ k < wr.heap.size) (.slice p.1 p.2.2.length p.2.1) p.2.2) ∧ ∀ q ∈ B, ¬ S q.1 ∧ wr.heap[q.1]? = some (.cells q.2.2 q.2.1 (0, 0))
section
variable {w0 wr w1 : World} {g rb cp : Nat} {L L' : List X} {P P' : List (Option Addr × Nat × List Int)} {Q Q' : List (Nat × Nat × Array Value)}
theorem MS.mok (h : MS w0 wr g rb cp L P Q) : mok L := by
  obtain ⟨_, S, hM, _⟩ := h
  exact hM.ok
theorem MS.step (h : MS w0 wr g rb cp L P Q) (hb : Below wr.heap.size wr w1) : MS w0 w1 g rb cp L P Q := by
  obtain ⟨h1, S, hM, s, hP, hB⟩ := h
  exact ⟨below_step h1 hb, S, hM.below hb, fun k hk => ⟨(s k hk).1, Nat.lt_of_lt_of_le (s k hk).2 hb.size⟩, fun p hp => Kd.R_mono (Kd.R_below (hP p hp) hb) (fun k hk => ⟨hk.1, Nat.lt_of_lt_of_le hk.2 hb.size⟩), fun q hq => ⟨(hB q hq).1, blk_below (hB q hq).2 hb⟩⟩
theorem MS.sub (h : MS w0 wr g rb cp L P Q) (hs : ∀ p ∈ P', p ∈ P) (hs2 : ∀ q ∈ Q', q ∈ Q) : MS w0 wr g rb cp L P' Q' := by
  obtain ⟨h1, S, hM, s, hP, hB⟩ := h
  exact ⟨h1, S, hM, s, fun p hp => hP p (hs p hp), fun q hq => hB q (hs2 q hq)⟩
theorem MS.put {b t : Nat} {o : Array Value} (h : MS w0 wr g rb cp L P Q) (hb : Below wr.heap.size wr w1) (hn : wr.heap.size ≤ b) (ho : w1.heap[b]? = some (.cells o t (0, 0))) : MS w0 w1 g rb cp L P ((b, t, o) :: Q) := by
  obtain ⟨h1, S, hM, s, hP, hB⟩ := h.step hb
  obtain ⟨_, S', hM', s', hP', hB'⟩ := h
  refine ⟨h1, S', hM'.below hb, fun k hk => ⟨(s' k hk).1, Nat.lt_of_lt_of_le (s' k hk).2 hb.size⟩, fun p hp => Kd.R_mono (Kd.R_below (hP' p hp) hb) (fun k hk => ⟨hk.1, Nat.lt_of_lt_of_le hk.2 hb.size⟩), fun q hq => ?_⟩
  rcases List.mem_cons.1 hq with rfl | hq
  · exact ⟨fun hs => by have := (s' b hs).2; omega, ho⟩
  · exact ⟨(hB' q hq).1, blk_below (hB' q hq).2 hb⟩
theorem MS.blk {b t : Nat} {o : Array Value} (h : MS w0 wr g rb cp L P Q) (hq : (b, t, o) ∈ Q) : wr.heap[b]? = some (.cells o t (0, 0)) := by
  obtain ⟨_, S, _, _, _, hB⟩ := h
  exact (hB _ hq).2
theorem MS.add {A : Option Addr} {c : Nat} {l : List Int} (h : MS w0 wr g rb cp L P Q) (hR : Kd.R kU tU w1 wr.heap.size (fun _ => True) (.slice A l.length c) l) (hb : Below wr.heap.size wr w1) : MS w0 w1 g rb cp L ((A, c, l) :: P) Q := by
  obtain ⟨h1, S, hM, s, hP, hB⟩ := h
  refine ⟨below_step h1 hb, S, hM.below hb, fun k hk => ⟨(s k hk).1, Nat.lt_of_lt_of_le (s k hk).2 hb.size⟩, fun p hp => ?_, fun q hq => ⟨(hB q hq).1, blk_below (hB q hq).2 hb⟩⟩
  rcases List.mem_cons.1 hp with rfl | hp
  · exact Kd.R_lower (Kd.R_mono (Kd.R_bound hR) (fun k hk => ⟨fun hs => by have := (s k hs).2; have := hk.2.1; omega, hk.2.2.1⟩)) (Nat.zero_le _)
  · exact Kd.R_mono (Kd.R_below (hP p hp) hb) (fun k hk => ⟨hk.1, Nat.lt_of_lt_of_le hk.2 hb.size⟩)
theorem MS.C (h : MS w0 wr g rb cp L P Q) {A : Option Addr} {c : Nat} {l : List Int} (hp : (A, c, l) ∈ P) : l.length ≤ c ∧ Kd.C kU wr A l.length l := by
  obtain ⟨h1, S, hM, s, hP, hB⟩ := h
  exact (Kd.R_reads' (hP _ hp)).2
theorem MS.act {S : Nat → Prop} (h1 : Below w0.heap.size w0 wr) (s : ∀ k, S k → w0.heap.size ≤ k ∧ k < wr.heap.size) (hP : ∀ p ∈ P, Kd.R kU tU wr 0 (fun k => ¬ S k ∧ k < wr.heap.size) (.slice p.1 p.2.2.length p.2.1) p.2.2) (hB : ∀ q ∈ Q, ¬ S q.1 ∧ wr.heap[q.1]? = some (.cells q.2.2 q.2.1 (0, 0)))
    (hM : Mat w1 (fun k => S k ∨ wr.heap.size ≤ k) g rb cp L') (hb : Beside S wr w1) : MS w0 w1 g rb cp L' P Q :=
  ⟨Beside.step h1 hb (fun k hk => (s k hk).1), fun k => (S k ∨ wr.heap.size ≤ k) ∧ k < w1.heap.size, hM.bound, fun k hk => ⟨hk.1.elim (fun h => (s k h).1) (fun h => Nat.le_trans h1.size h), hk.2⟩, fun p hp => Kd.R_mono (Kd.R_step (hP p hp) (fun k hk hlt => hb.block k hlt hk.1)) (fun k hk => ⟨fun h => h.1.elim hk.1 (fun h => by have := hk.2; omega), Nat.lt_of_lt_of_le hk.2 hb.size⟩), fun q hq => ⟨fun h => h.1.elim (hB q hq).1 (fun h => by have := blk_lt (hB q hq).2; omega), (hb.block q.1 (blk_lt (hB q hq).2) (hB q hq).1).trans (hB q hq).2⟩⟩
theorem MS.make {w : World} (hM : Mat w1 (fun k => w.heap.size ≤ k) g rb cp L) (hb : Below w.heap.size w w1) : MS w w1 g rb cp L [] [] :=
  ⟨hb, fun k => w.heap.size ≤ k ∧ k < w1.heap.size, hM.bound, fun k hk => hk, by simp, by simp⟩
theorem MS.gone (h : MS w0 wr g rb cp L P Q) (p : Int) : Calls Try.prog 11 #[.pointer (some ⟨g, 0, none⟩), .slice (some ⟨wr.heap.size, 0, none⟩) 1 1] (wr.alloc (.cells #[.int .i64 p] tI64)) fun e w' => e = .returned (.int .i64 (goneK L p)) ∧ MS w0 w' g rb cp (goneL L p) P Q := by
  obtain ⟨h1, S, hM, s, hP, hB⟩ := h.step (below_alloc (Below.refl wr.heap.size wr) (.cells #[.int .i64 p] tI64))
  exact (Gone_calls hM p wr.heap.size 1 ((blk_cell (blk_new wr _) 0).trans rfl)).mono fun e w' ⟨he, hM', hb⟩ => ⟨he, MS.act h1 s hP hB (hM'.mono fun k hk => .inl hk) hb⟩
theorem MS.tell (h : MS w0 wr g rb cp L P Q) (p i : Int) {A B : Option Addr} {c d : Nat} {a b : List Int} (ha : Kd.C kU w0 A a.length a) (hb : Kd.C kU w0 B b.length b) (hc : a.length ≤ c) (hd : b.length ≤ d) (hal : a.length ≤ 100) (hbl : b.length ≤ 100) (hi : 0 ≤ i ∧ i ≤ 18446744073709551615) (hua : u64s a) (hub : u64s b) :
    Calls Try.prog 12 #[.pointer (some ⟨g, 0, none⟩), .int .i64 p, .int .u64 i, .slice A a.length c, .slice B b.length d] wr fun e w' => e = .returned (.tuple #[]) ∧ MS w0 w' g rb cp (tellL L p i a b) P Q := by
  obtain ⟨h1, S, hM, s, hP, hB⟩ := h
  exact (Tell_calls hM p i (Kd.C_below ha h1) (Kd.C_below hb h1) hc hd hal hbl (fun w' hw => Kd.C_below ha (Beside.step h1 hw (fun k hk => (s k hk).1))) (fun w' hw => Kd.C_below hb (Beside.step h1 hw (fun k hk => (s k hk).1))) hi hua hub).mono fun e w' ⟨he, hM', hw⟩ => ⟨he, MS.act h1 s hP hB hM' hw⟩
theorem MS.answer {f : FuncId} {args : Array Value} {l : List Int} (h : MS w0 wr g rb cp L P Q) (hc : Calls Try.prog f args wr fun e w' => ∃ v, e = .returned v ∧ Kd.R kU tU w' wr.heap.size (fun _ => True) v l ∧ Below wr.heap.size wr w') :
    Calls Try.prog f args wr fun e w' => ∃ A c, e = .returned (.slice A l.length c) ∧ MS w0 w' g rb cp L ((A, c, l) :: P) Q := by
  refine hc.mono ?_
  rintro e w' ⟨v, rfl, hR, hb⟩
  obtain ⟨A, c, rfl⟩ := Kd.R_slice hR
  exact ⟨A, c, rfl, h.add hR hb⟩
theorem MS.stable (h : MS w0 wr g rb cp L P Q) : Calls Try.prog 14 #[.pointer (some ⟨g, 0, none⟩)] wr fun e w' => ∃ A c, e = .returned (.slice A (Walk.stable L).length c) ∧ MS w0 w' g rb cp L ((A, c, Walk.stable L) :: P) Q :=
  h.answer (by obtain ⟨_, S, hM, _⟩ := h; exact Stable_calls hM)
theorem MS.most (h : MS w0 wr g rb cp L P Q) : Calls Try.prog 16 #[.pointer (some ⟨g, 0, none⟩)] wr fun e w' => ∃ A c, e = .returned (.slice A (Walk.most L).length c) ∧ MS w0 w' g rb cp L ((A, c, Walk.most L) :: P) Q :=
  h.answer (by obtain ⟨_, S, hM, _⟩ := h; exact Most_calls hM)
theorem MS.done (h : MS w0 wr g rb cp L P Q) (p : Int) : Calls Try.prog 18 #[.pointer (some ⟨g, 0, none⟩), .int .i64 p] wr fun e w' => ∃ A c, e = .returned (.slice A (doneOf L p).length c) ∧ MS w0 w' g rb cp L ((A, c, doneOf L p) :: P) Q :=
  h.answer (by obtain ⟨_, S, hM, _⟩ := h; exact Done_calls hM p)
theorem MS.held (h : MS w0 wr g rb cp L P Q) (p : Int) : Calls Try.prog 19 #[.pointer (some ⟨g, 0, none⟩), .int .i64 p] wr fun e w' => ∃ A c, e = .returned (.slice A (heldOf L p).length c) ∧ MS w0 w' g rb cp L ((A, c, heldOf L p) :: P) Q :=
  h.answer (by obtain ⟨_, S, hM, _⟩ := h; exact Held_calls hM p)
theorem MS.inst (h : MS w0 wr g rb cp L P Q) (p : Int) : Calls Try.prog 17 #[.pointer (some ⟨g, 0, none⟩), .int .i64 p] wr fun e w' => e = .returned (.int .u64 (instOf L p)) ∧ w' = wr := by
  obtain ⟨_, S, hM, _⟩ := h
  exact Inst_calls hM p
theorem MS.least (h : MS w0 wr g rb cp L P Q) : Calls Try.prog 15 #[.pointer (some ⟨g, 0, none⟩)] wr fun e w' => e = .returned (.int .u64 (Walk.least L)) ∧ MS w0 w' g rb cp L P Q := by
  have h' := h
  obtain ⟨_, S, hM, _⟩ := h
  exact (Least_calls hM).mono fun e w' ⟨he, hb⟩ => ⟨he, h'.step hb⟩
theorem MS.covers (h : MS w0 wr g rb cp L P Q) {A B : Option Addr} {c d : Nat} {a b : List Int} (ha : (A, c, a) ∈ P) (hb : (B, d, b) ∈ P) (hc : covv a b) (hl : b.length ≤ 100) : Calls Try.prog 21 #[.slice A a.length c, .slice B b.length d] wr fun e w' => e = .returned (.bool true) ∧ MS w0 w' g rb cp L P Q :=
  (unisonref04_Covers.calls 1000 A c a B d b true wr (h.C ha).2 (h.C ha).1 (h.C hb).2 (h.C hb).1 (covers_f hc (by omega) (by omega))).mono fun e w' ⟨he, hd⟩ => ⟨he, h.step hd.below⟩
end
theorem doneOf_len {L : List X} (h : mok L) (p : Int) : (doneOf L p).length ≤ 64 := by
  unfold doneOf
  cases hx : at_ L p with
  | none => simp
  | some x =>
    obtain ⟨q, rfl, _, hq⟩ := at_some hx
    show x.f1.length ≤ 64
    rw [(h.row x (List.mem_of_getElem? hq)).l1]
    exact h.n2
theorem heldOf_len {L : List X} (h : mok L) (p : Int) : (heldOf L p).length ≤ 64 := by
  unfold heldOf
  cases hx : at_ L p with
  | none => simp
  | some x =>
    obtain ⟨q, rfl, _, hq⟩ := at_some hx
    show x.f2.length ≤ 64
    rw [(h.row x (List.mem_of_getElem? hq)).l2]
    exact h.n2

end Go.Proofs.Ytahdbiddpphepaa.Walk
