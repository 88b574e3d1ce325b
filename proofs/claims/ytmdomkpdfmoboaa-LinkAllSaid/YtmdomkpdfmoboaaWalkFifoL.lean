/- Two links that speak to each other, and the rows of what is on its way. Conditions: none beyond the statement's own. -/
import Derived.Test.YtmdomkpdfmoboaaWalkRoomL
import Derived.Test.YtmdomkpdfmoboaaArgs
import Derived.Deep.QuietTactic
import Derived.BigQuiet
import Derived.Lib.QuietBelow
import Derived.Outline
import Derived.Deep.RegionHeld3
import Derived.Deep.CutRange
namespace Go.Proofs.Ytmdomkpdfmoboaa.Walk
open Go.RowKit Go.Proofs.Ytmdomkpdfmoboaa.F Go.Proofs.YtmdomkpdfmoboaaW.PrintWords Go.Proofs.YtmdomkpdfmoboaaW.PrintLast Go.Proofs.YtmdomkpdfmoboaaW.PrintMore Go.Proofs.Ytmdomkpdfmoboaa.Open
open Go.Sort (grow)
attribute [local go_sem] max2_int min2_int max_two min_two max_three min_three max_four min_four
set_option linter.unusedVariables false
set_option linter.unusedSimpArgs false

/-! ### Two links and two rows of frames, and whose each block is -/
def owns (ow : Nat → Nat) (n i : Nat) : Nat → Nat := fun k => if k < n then ow k else i
theorem owns_old {ow : Nat → Nat} {n i j k : Nat} (hk : k < n) (h : ow k = j) : owns ow n i k = j := by simp [owns, hk, h]
theorem owns_new {ow : Nat → Nat} {n i k : Nat} (hk : n ≤ k) : owns ow n i k = i := by simp [owns, Nat.not_lt.2 hk]
theorem rows_take {α : Type} {R : α → List Value → Prop} {size m : Nat} {w : World} {A : Option Addr} {xs : List α} (h : ReadsRow R size w A xs.length xs) (hm : m ≤ xs.length) : ReadsRow R size w A m (xs.take m) := by
  have hl : (xs.take m).length = m := by rw [List.length_take]; omega
  refine ⟨hl, by have := h.2.1; omega, fun hp => ?_⟩
  obtain ⟨ad, e, hc⟩ := h.2.2 (by omega)
  refine ⟨ad, e, fun j p hj => hc j p ?_⟩
  rw [List.getElem?_take] at hj
  split at hj
  · exact hj
  · cases hj
theorem rows_drop {α : Type} {R : α → List Value → Prop} {size m c : Nat} {w : World} {A : Option Addr} {xs : List α} (h : ReadsRow R size w A xs.length xs) (hm : m ≤ xs.length) (hc : xs.length ≤ c) : ReadsRow R size w (if c = m then A else A.map (·.add (m * size))) (xs.length - m) (xs.drop m) := by
  have hl : (xs.drop m).length = xs.length - m := List.length_drop
  refine ⟨hl, by have := h.2.1; omega, fun hp => ?_⟩
  obtain ⟨ad, rfl, hcell⟩ := h.2.2 (by omega)
  rw [if_neg (by omega)]
  refine ⟨ad.add (m * size), rfl, fun j p hj => ?_⟩
  rw [List.getElem?_drop] at hj
  obtain ⟨cs, h1, h2, h3⟩ := hcell (m + j) p hj
  refine ⟨cs, h1, h2, fun i u hu => ?_⟩
  rw [add_add, show m * size + (j * size + i) = (m + j) * size + i by rw [Nat.add_mul]; omega]
  exact h3 i u hu
structure F4 (w0 w : World) (ow : Nat → Nat) (ga gwa gga gb gwb ggb : Nat) (sa sb : LS) (vF vK : Value) (F K : List Fr) (X : List (Nat × Obj)) : Prop where
  a : LkB w (fun k => ow k = 1) ga gwa gga sa
  b : LkB w (fun k => ow k = 2) gb gwb ggb sb
  f : Kd.R kF eF w w0.heap.size (fun k => ow k = 3) vF F
  k : Kd.R kF eF w w0.heap.size (fun k => ow k = 4) vK K
  x : ∀ b o, (b, o) ∈ X → ow b = 5 ∧ w.heap[b]? = some o
  old : ∀ k, k < w0.heap.size → ow k = 0
  below : Below w0.heap.size w0 w
section
variable {w0 w w' : World} {ow : Nat → Nat} {ga gwa gga gb gwb ggb : Nat} {sa sb : LS} {vF vK : Value} {F K : List Fr} {X : List (Nat × Obj)}
theorem F4.step (h : F4 w0 w ow ga gwa gga gb gwb ggb sa sb vF vK F K X) (hb : Below w.heap.size w w') : F4 w0 w' ow ga gwa gga gb gwb ggb sa sb vF vK F K X :=
  ⟨h.a.below hb, h.b.below hb, Kd.R_below h.f hb, Kd.R_below h.k hb, (fun b o hx => ⟨(h.x b o hx).1, blk_below (h.x b o hx).2 hb⟩), h.old, below_step h.below hb⟩
theorem F4.drew (h : F4 w0 w ow ga gwa gga gb gwb ggb sa sb vF vK F K X) (q : Nat) : F4 w0 (w.drewN q) ow ga gwa gga gb gwb ggb sa sb vF vK F K X := h.step (pw_below_drewN (Below.refl _ _) q)
theorem F4.keepA {i : Nat} (h : F4 w0 w ow ga gwa gga gb gwb ggb sa sb vF vK F K X) (hB : Beside (fun k => ow k = i) w w') (hi : i ≠ 1) (j : Nat) : LkB w' (fun k => owns ow w.heap.size j k = 1) ga gwa gga sa :=
  (h.a.bound.step (fun k hk hlt => hB.block k hlt (fun e => hi (e.symm.trans hk.1)))).mono (fun _ hk => owns_old hk.2 hk.1)
theorem F4.keepB {i : Nat} (h : F4 w0 w ow ga gwa gga gb gwb ggb sa sb vF vK F K X) (hB : Beside (fun k => ow k = i) w w') (hi : i ≠ 2) (j : Nat) : LkB w' (fun k => owns ow w.heap.size j k = 2) gb gwb ggb sb :=
  (h.b.bound.step (fun k hk hlt => hB.block k hlt (fun e => hi (e.symm.trans hk.1)))).mono (fun _ hk => owns_old hk.2 hk.1)
theorem F4.keepF {i : Nat} (h : F4 w0 w ow ga gwa gga gb gwb ggb sa sb vF vK F K X) (hB : Beside (fun k => ow k = i) w w') (hi : i ≠ 3) (j : Nat) : Kd.R kF eF w' w0.heap.size (fun k => owns ow w.heap.size j k = 3) vF F :=
  Kd.R_mono (Kd.R_step (Kd.R_bound h.f) (fun k hk hlt => hB.block k hlt (fun e => hi (e.symm.trans hk.1)))) (fun _ hk => owns_old hk.2.2.1 hk.1)
theorem F4.keepK {i : Nat} (h : F4 w0 w ow ga gwa gga gb gwb ggb sa sb vF vK F K X) (hB : Beside (fun k => ow k = i) w w') (hi : i ≠ 4) (j : Nat) : Kd.R kF eF w' w0.heap.size (fun k => owns ow w.heap.size j k = 4) vK K :=
  Kd.R_mono (Kd.R_step (Kd.R_bound h.k) (fun k hk hlt => hB.block k hlt (fun e => hi (e.symm.trans hk.1)))) (fun _ hk => owns_old hk.2.2.1 hk.1)
theorem F4.keepX {i : Nat} (h : F4 w0 w ow ga gwa gga gb gwb ggb sa sb vF vK F K X) (hB : Beside (fun k => ow k = i) w w') (hi : i ≠ 5) (j : Nat) : ∀ b o, (b, o) ∈ X → owns ow w.heap.size j b = 5 ∧ w'.heap[b]? = some o :=
  fun b o hx => ⟨owns_old (blk_lt (h.x b o hx).2) (h.x b o hx).1, hB.blk (h.x b o hx).2 (fun e => hi (e.symm.trans (h.x b o hx).1))⟩
theorem F4.keepO (h : F4 w0 w ow ga gwa gga gb gwb ggb sa sb vF vK F K X) (j : Nat) : ∀ k, k < w0.heap.size → owns ow w.heap.size j k = 0 := fun k hk => owns_old (by have := h.below.size; omega) (h.old k hk)
theorem F4.keepW {i : Nat} (h : F4 w0 w ow ga gwa gga gb gwb ggb sa sb vF vK F K X) (hB : Beside (fun k => ow k = i) w w') (hi : i ≠ 0) : Below w0.heap.size w0 w' :=
  Beside.step h.below hB (fun k hk => Nat.le_of_not_lt (fun hlt => hi (hk.symm.trans (h.old k hlt))))
theorem F4.inA {S' : Nat → Prop} {sa' : LS} (h : F4 w0 w ow ga gwa gga gb gwb ggb sa sb vF vK F K X) (hL : LkB w' S' ga gwa gga sa') (hS : ∀ k, S' k → ow k = 1 ∨ w.heap.size ≤ k) (hB : Beside (fun k => ow k = 1) w w') : F4 w0 w' (owns ow w.heap.size 1) ga gwa gga gb gwb ggb sa' sb vF vK F K X :=
  ⟨hL.mono (fun k hk => (Nat.lt_or_ge k w.heap.size).elim (fun hlt => owns_old hlt ((hS k hk).elim id (fun h9 => absurd hlt (Nat.not_lt.2 h9)))) (fun hge => owns_new hge)), h.keepB hB (by decide) 1, h.keepF hB (by decide) 1, h.keepK hB (by decide) 1, h.keepX hB (by decide) 1, h.keepO 1, h.keepW hB (by decide)⟩
theorem F4.inB {S' : Nat → Prop} {sb' : LS} (h : F4 w0 w ow ga gwa gga gb gwb ggb sa sb vF vK F K X) (hL : LkB w' S' gb gwb ggb sb') (hS : ∀ k, S' k → ow k = 2 ∨ w.heap.size ≤ k) (hB : Beside (fun k => ow k = 2) w w') : F4 w0 w' (owns ow w.heap.size 2) ga gwa gga gb gwb ggb sa sb' vF vK F K X :=
  ⟨h.keepA hB (by decide) 2, hL.mono (fun k hk => (Nat.lt_or_ge k w.heap.size).elim (fun hlt => owns_old hlt ((hS k hk).elim id (fun h9 => absurd hlt (Nat.not_lt.2 h9)))) (fun hge => owns_new hge)), h.keepF hB (by decide) 2, h.keepK hB (by decide) 2, h.keepX hB (by decide) 2, h.keepO 2, h.keepW hB (by decide)⟩
/-- What went out of a link: a row of its own, for owner j. -/
theorem F4.outA {sa' : LS} {vO : Value} {O : List Fr} (j : Nat) (hj : j ≠ 0) (h : F4 w0 w ow ga gwa gga gb gwb ggb sa sb vF vK F K X) (hL : LkB w' (fun k => ow k = 1 ∧ k < w.heap.size) ga gwa gga sa') (hB : Beside (fun k => ow k = 1 ∧ k < w.heap.size) w w') (ho : Kd.R kF eF w' w.heap.size (fun _ => True) vO O) :
    F4 w0 w' (owns ow w.heap.size j) ga gwa gga gb gwb ggb sa' sb vF vK F K X ∧ Kd.R kF eF w' w.heap.size (fun k => owns ow w.heap.size j k = j) vO O :=
  have hB' : Beside (fun k => ow k = 1) w w' := hB.mono (fun _ hk => hk.1)
  ⟨⟨hL.mono (fun _ hk => owns_old hk.2 hk.1), h.keepB hB' (by decide) j, h.keepF hB' (by decide) j, h.keepK hB' (by decide) j, h.keepX hB' (by decide) j, h.keepO j, h.keepW hB' (by decide)⟩, Kd.R_mono (Kd.R_bound ho) (fun _ hk => owns_new hk.2.1)⟩
theorem F4.outB {sb' : LS} {vO : Value} {O : List Fr} (j : Nat) (hj : j ≠ 0) (h : F4 w0 w ow ga gwa gga gb gwb ggb sa sb vF vK F K X) (hL : LkB w' (fun k => ow k = 2 ∧ k < w.heap.size) gb gwb ggb sb') (hB : Beside (fun k => ow k = 2 ∧ k < w.heap.size) w w') (ho : Kd.R kF eF w' w.heap.size (fun _ => True) vO O) :
    F4 w0 w' (owns ow w.heap.size j) ga gwa gga gb gwb ggb sa sb' vF vK F K X ∧ Kd.R kF eF w' w.heap.size (fun k => owns ow w.heap.size j k = j) vO O :=
  have hB' : Beside (fun k => ow k = 2) w w' := hB.mono (fun _ hk => hk.1)
  ⟨⟨h.keepA hB' (by decide) j, hL.mono (fun _ hk => owns_old hk.2 hk.1), h.keepF hB' (by decide) j, h.keepK hB' (by decide) j, h.keepX hB' (by decide) j, h.keepO j, h.keepW hB' (by decide)⟩, Kd.R_mono (Kd.R_bound ho) (fun _ hk => owns_new hk.2.1)⟩
/-- A row has been written, or is new. -/
theorem F4.setF {v1 : Value} {F' : List Fr} (h : F4 w0 w ow ga gwa gga gb gwb ggb sa sb vF vK F K X) (hr : Kd.R kF eF w' w0.heap.size (fun k => ow k = 3) v1 F') (hg : w.grownBy w' vF.ownBlock) : F4 w0 w' ow ga gwa gga gb gwb ggb sa sb v1 vK F' K X :=
  have hne : ∀ k j, j ≠ 3 → ow k = j → some k ≠ vF.ownBlock := fun k j hj hk e => hj (hk.symm.trans (h.f.1 k e.symm))
  ⟨h.a.step (fun k hk hlt => hg.block k hlt (hne k 1 (by decide) hk)), h.b.step (fun k hk hlt => hg.block k hlt (hne k 2 (by decide) hk)), hr, Kd.R_step h.k (fun k hk hlt => hg.block k hlt (hne k 4 (by decide) hk)), (fun b o hx => ⟨(h.x b o hx).1, (hg.block b (blk_lt (h.x b o hx).2) (hne b 5 (by decide) (h.x b o hx).1)).trans (h.x b o hx).2⟩), h.old, h.below.grown hg h.below.size (Kd.R_base h.f)⟩
theorem F4.setK {v1 : Value} {K' : List Fr} (h : F4 w0 w ow ga gwa gga gb gwb ggb sa sb vF vK F K X) (hr : Kd.R kF eF w' w0.heap.size (fun k => ow k = 4) v1 K') (hg : w.grownBy w' vK.ownBlock) : F4 w0 w' ow ga gwa gga gb gwb ggb sa sb vF v1 F K' X :=
  have hne : ∀ k j, j ≠ 4 → ow k = j → some k ≠ vK.ownBlock := fun k j hj hk e => hj (hk.symm.trans (h.k.1 k e.symm))
  ⟨h.a.step (fun k hk hlt => hg.block k hlt (hne k 1 (by decide) hk)), h.b.step (fun k hk hlt => hg.block k hlt (hne k 2 (by decide) hk)), Kd.R_step h.f (fun k hk hlt => hg.block k hlt (hne k 3 (by decide) hk)), hr, (fun b o hx => ⟨(h.x b o hx).1, (hg.block b (blk_lt (h.x b o hx).2) (hne b 5 (by decide) (h.x b o hx).1)).trans (h.x b o hx).2⟩), h.old, h.below.grown hg h.below.size (Kd.R_base h.k)⟩
/-- A new row in the place of the old one. -/
theorem F4.reF {v1 : Value} {F' : List Fr} (h : F4 w0 w ow ga gwa gga gb gwb ggb sa sb vF vK F K X) (hb : Below w.heap.size w w') (hr : Kd.R kF eF w' w0.heap.size (fun k => owns ow w.heap.size 3 k = 3) v1 F') : F4 w0 w' (owns ow w.heap.size 3) ga gwa gga gb gwb ggb sa sb v1 vK F' K X :=
  have hB : Beside (fun k => ow k = 0) w w' := Beside.of_below _ hb
  ⟨h.keepA hB (by decide) 3, h.keepB hB (by decide) 3, hr, h.keepK hB (by decide) 3, h.keepX hB (by decide) 3, h.keepO 3, below_step h.below hb⟩
theorem F4.reK {v1 : Value} {K' : List Fr} (h : F4 w0 w ow ga gwa gga gb gwb ggb sa sb vF vK F K X) (hb : Below w.heap.size w w') (hr : Kd.R kF eF w' w0.heap.size (fun k => owns ow w.heap.size 4 k = 4) v1 K') : F4 w0 w' (owns ow w.heap.size 4) ga gwa gga gb gwb ggb sa sb vF v1 F K' X :=
  have hB : Beside (fun k => ow k = 0) w w' := Beside.of_below _ hb
  ⟨h.keepA hB (by decide) 4, h.keepB hB (by decide) 4, h.keepF hB (by decide) 4, hr, h.keepX hB (by decide) 4, h.keepO 4, below_step h.below hb⟩
theorem F4.addX (h : F4 w0 w ow ga gwa gga gb gwb ggb sa sb vF vK F K X) (o : Obj) (hb : (w.alloc o).heap[w.heap.size]? = some o) : F4 w0 (w.alloc o) (owns ow w.heap.size 5) ga gwa gga gb gwb ggb sa sb vF vK F K ((w.heap.size, o) :: X) :=
  have hB : Beside (fun k => ow k = 0) w (w.alloc o) := Beside.of_below _ (below_alloc (Below.refl _ _) o)
  ⟨h.keepA hB (by decide) 5, h.keepB hB (by decide) 5, h.keepF hB (by decide) 5, h.keepK hB (by decide) 5, (fun b o' hx => by
    rcases List.mem_cons.1 hx with e | hx
    · cases e
      exact ⟨owns_new (Nat.le_refl _), hb⟩
    · exact h.keepX hB (by decide) 5 b o' hx), h.keepO 5, below_step h.below (below_alloc (Below.refl _ _) o)⟩
theorem F4_start {w1 w2 : World} {s1 s2 : LS} (hL : LkB w1 (fun k => w0.heap.size ≤ k) ga gwa gga s1) (hb : Below w0.heap.size w0 w1) (hL2 : LkB w2 (fun k => w1.heap.size ≤ k) gb gwb ggb s2) (hb2 : Below w1.heap.size w1 w2) :
    F4 w0 w2 (owns (owns (fun _ => 0) w0.heap.size 1) w1.heap.size 2) ga gwa gga gb gwb ggb s1 s2 (.slice none 0 0) (.slice none 0 0) [] [] [] :=
  ⟨(hL.bound.below hb2).mono (fun k hk => owns_old hk.2 (owns_new hk.1)), hL2.mono (fun k hk => owns_new hk), Kd.R_nil _ _ _ _ _, Kd.R_nil _ _ _ _ _, (fun b o hx => absurd hx List.not_mem_nil), (fun k hk => owns_old (by have := hb.size; omega) (owns_old hk rfl)), below_step hb hb2⟩
end
/-! ### What two links say to each other -/
def chk (x : Fr) (n : Int) : Prop := x.f0.f0 = 1 ∧ x.f0.f1 = 0 ∧ x.f0.f2 = 1 ∧ 1 ≤ x.f2 ∧ x.f2 ≤ n ∧ x.f3 = x.f2 - 1
def ack1 (x : Fr) (n : Int) : Prop := x.f0.f0 = 2 ∧ x.f0.f1 = 1 ∧ x.f0.f2 = 0 ∧ 0 ≤ x.f2 ∧ x.f2 ≤ n
theorem chk.mono {x : Fr} {n m : Int} (h : chk x n) (hm : n ≤ m) : chk x m := ⟨h.1, h.2.1, h.2.2.1, h.2.2.2.1, by have := h.2.2.2.2.1; omega, h.2.2.2.2.2⟩
theorem ack1.mono {x : Fr} {n m : Int} (h : ack1 x n) (hm : n ≤ m) : ack1 x m := ⟨h.1, h.2.1, h.2.2.1, h.2.2.2.1, by have := h.2.2.2.2; omega⟩
structure FP (sent let_ : Int) (sa sb : LS) : Prop where
  ame : sa.me = 0
  apeer : sa.peer = 1
  bme : sb.me = 1
  bpeer : sb.peer = 0
  ao : sa.gs.o = false
  bL : sb.L = []
  bu : sb.gs.u = let_
  al : sa.last = sent
  let0 : 0 ≤ let_
  le : let_ ≤ sent
  L : ∀ x ∈ sa.L, chk x sent
theorem took_1 {s : Acc.GS} {n : Int} (h : (Acc.took s n).2 = 1) : n = s.u + 1 ∧ (Acc.took s n).1.u = n := by
  unfold Acc.took at h ⊢
  by_cases h1 : n ≤ s.u
  · rw [if_pos h1] at h
    exact absurd (show (2 : Int) = 1 from h) (by decide)
  · rw [if_neg h1] at h ⊢
    by_cases h2 : n = s.u + 1
    · rw [if_pos h2]
      exact ⟨h2, rfl⟩
    · rw [if_neg h2] at h
      exact absurd (show (3 : Int) = 1 from h) (by decide)
theorem took_n {s : Acc.GS} {n : Int} (h : ¬ (Acc.took s n).2 = 1) : ¬ n = s.u + 1 ∧ (Acc.took s n).1.u = s.u := by
  unfold Acc.took at h ⊢
  by_cases h1 : n ≤ s.u
  · rw [if_pos h1]
    exact ⟨by omega, rfl⟩
  · rw [if_neg h1] at h ⊢
    by_cases h2 : n = s.u + 1
    · rw [if_pos h2] at h
      exact absurd rfl h
    · rw [if_neg h2]
      exact ⟨h2, rfl⟩
theorem took_y {s : Acc.GS} {n : Int} (h : n = s.u + 1) : (Acc.took s n).2 = 1 := by
  unfold Acc.took
  rw [if_neg (by omega), if_pos h]
structure FW (w0 w : World) (ga gwa gga gb gwb ggb : Nat) (sent let_ : Int) (vF vK : Value) (F K : List Fr) (X : List (Nat × Obj)) : Prop where
  ex : ∃ ow sa sb, F4 w0 w ow ga gwa gga gb gwb ggb sa sb vF vK F K X ∧ FP sent let_ sa sb
  F : ∀ x ∈ F, chk x sent
  K : ∀ x ∈ K, ack1 x let_
section
variable {w0 w : World} {ga gwa gga gb gwb ggb : Nat} {sent let_ : Int} {vF vK : Value} {F K : List Fr} {X : List (Nat × Obj)}
theorem FW.step {w' : World} (h : FW w0 w ga gwa gga gb gwb ggb sent let_ vF vK F K X) (hb : Below w.heap.size w w') : FW w0 w' ga gwa gga gb gwb ggb sent let_ vF vK F K X := by
  obtain ⟨⟨ow, sa, sb, h4, hp⟩, hF, hK⟩ := h
  exact ⟨⟨ow, sa, sb, h4.step hb, hp⟩, hF, hK⟩
theorem FW.addX (h : FW w0 w ga gwa gga gb gwb ggb sent let_ vF vK F K X) (o : Obj) (hb : (w.alloc o).heap[w.heap.size]? = some o) : FW w0 (w.alloc o) ga gwa gga gb gwb ggb sent let_ vF vK F K ((w.heap.size, o) :: X) := by
  obtain ⟨⟨ow, sa, sb, h4, hp⟩, hF, hK⟩ := h
  exact ⟨⟨_, sa, sb, h4.addX o hb, hp⟩, hF, hK⟩
theorem FW.getX (h : FW w0 w ga gwa gga gb gwb ggb sent let_ vF vK F K X) {b : Nat} {o : Obj} (hx : (b, o) ∈ X) : w.heap[b]? = some o := by
  obtain ⟨⟨ow, sa, sb, h4, hp⟩, hF, hK⟩ := h
  exact (h4.x b o hx).2
theorem FW.dropX (h : FW w0 w ga gwa gga gb gwb ggb sent let_ vF vK F K X) : FW w0 w ga gwa gga gb gwb ggb sent let_ vF vK F K [] := by
  obtain ⟨⟨ow, sa, sb, h4, hp⟩, hF, hK⟩ := h
  exact ⟨⟨ow, sa, sb, ⟨h4.a, h4.b, h4.f, h4.k, fun b o hx => absurd hx List.not_mem_nil, h4.old, h4.below⟩, hp⟩, hF, hK⟩
theorem FW.R (h : FW w0 w ga gwa gga gb gwb ggb sent let_ vF vK F K X) : Kd.R kF eF w w0.heap.size (fun _ => True) vF F ∧ Kd.R kF eF w w0.heap.size (fun _ => True) vK K := by
  obtain ⟨⟨ow, sa, sb, h4, hp⟩, hF, hK⟩ := h
  exact ⟨Kd.R_mono h4.f (fun _ _ => trivial), Kd.R_mono h4.k (fun _ _ => trivial)⟩
theorem FW.below (h : FW w0 w ga gwa gga gb gwb ggb sent let_ vF vK F K X) : Below w0.heap.size w0 w := by
  obtain ⟨⟨ow, sa, sb, h4, hp⟩, hF, hK⟩ := h
  exact h4.below
theorem FW.num (h : FW w0 w ga gwa gga gb gwb ggb sent let_ vF vK F K X) : 0 ≤ let_ ∧ let_ ≤ sent := by
  obtain ⟨⟨ow, sa, sb, h4, hp⟩, hF, hK⟩ := h
  exact ⟨hp.let0, hp.le⟩
theorem FW_Send (v : Int) (hv : v = sent) (h : FW w0 w ga gwa gga gb gwb ggb sent let_ vF vK F K X) (hm : sent ≤ 1000000) :
    Calls Try.prog 11 #[.pointer (some ⟨ga, 0, none⟩), .slice (some ⟨w.heap.size, 0, none⟩) 1 1] (w.alloc (.cells #[.int .u8 0, .int .u8 0, .int .u8 0, .int .u8 0, .int .u64 0, .int .u64 0, .int .u32 v, .int .u32 0, .int .u32 0, .int .u64 0, .int .u64 0, .slice none 0 0, .slice none 0 0, .slice none 0 0, .slice none 0 0, .slice none 0 0] 39)) fun e w' => ∃ k : Nat, e = .returned (.int .i64 k) ∧ k ≤ 1 ∧ FW w0 w' ga gwa gga gb gwb ggb (sent + k) let_ vF vK F K X := by
  obtain ⟨w2, hw2⟩ : ∃ w2, w2 = w.alloc (.cells #[.int .u8 0, .int .u8 0, .int .u8 0, .int .u8 0, .int .u64 0, .int .u64 0, .int .u32 v, .int .u32 0, .int .u32 0, .int .u64 0, .int .u64 0, .slice none 0 0, .slice none 0 0, .slice none 0 0, .slice none 0 0, .slice none 0 0] 39) := ⟨_, rfl⟩
  rw [← hw2]
  have hF : Kd.F kF w2 (fun b => b = w.heap.size) (some ⟨w.heap.size, 0, none⟩) 1 [pf 0 0 0 0 0 0 v 0 0 0 0] := by
    refine Kd.F_mono (F_lit (t := 39) (g := w.heap.size) (ok := fun _ => False) (d := kF) [(pf 0 0 0 0 0 0 v 0 0 0 0, pcells 0 0 0 0 0 0 v 0 0 0 0)] (by rw [hw2]; exact blk_new w _) (by simp) ?_) (fun k hk => by rcases hk with h | h; exact h.elim; exact h)
    intro r hr
    rw [List.mem_singleton.1 hr]
    exact pf_FK _ _ _ _ _ _ _ _ _ _ _ _
  have hb2 : Below w.heap.size w w2 := by rw [hw2]; exact below_alloc (Below.refl _ _) _
  have hsz : w2.heap.size = w.heap.size + 1 := by rw [hw2]; simp
  obtain ⟨⟨ow, sa, sb, h4, hp⟩, hFF, hKK⟩ := h
  have h4' : F4 w0 w2 (owns ow w.heap.size 0) ga gwa gga gb gwb ggb sa sb vF vK F K X :=
    have hB : Beside (fun k => ow k = 0) w w2 := Beside.of_below _ hb2
    ⟨h4.keepA hB (by decide) 0, h4.keepB hB (by decide) 0, h4.keepF hB (by decide) 0, h4.keepK hB (by decide) 0, h4.keepX hB (by decide) 0, h4.keepO 0, below_step h4.below hb2⟩
  have hal := hp.al
  refine (Send1_calls (pf 0 0 0 0 0 0 v 0 0 0 0) (min 1 (sa.n - sa.L.length)) w2 h4'.a hF (fun b hb hS => by have h9 : b = w.heap.size := hb; rw [h9, owns_new (Nat.le_refl _)] at hS; exact absurd hS (by decide)) (Nat.le_refl _) (pf_fok _ _ _ _ _ _ _ _ _ _ _) (by omega) rfl).mono ?_
  rintro e w3 ⟨rfl, hL, hb⟩
  have hk1 : min 1 (sa.n - sa.L.length) ≤ 1 := Nat.min_le_left _ _
  generalize min 1 (sa.n - sa.L.length) = k at *
  refine ⟨k, rfl, hk1, ⟨_, _, _, h4'.inA hL (fun q hq => hq) hb, ⟨hp.ame, hp.apeer, hp.bme, hp.bpeer, hp.ao, hp.bL, hp.bu, ?_, hp.let0, by have := hp.le; omega, ?_⟩⟩, fun x hx => (hFF x hx).mono (by omega), hKK⟩
  · show sa.last + (k : Int) = sent + k
    omega
  · intro x hx
    have hx' : x ∈ sa.L ++ numb sa.last (([hd 1 sa.me sa.peer (pf 0 0 0 0 0 0 v 0 0 0 0)] : List Fr).take k) := hx
    rcases List.mem_append.1 hx' with h1 | h1
    · exact (hp.L x h1).mono (by omega)
    · rcases Nat.le_one_iff_eq_zero_or_eq_one.1 hk1 with rfl | rfl
      · simp [numb] at h1
      · simp [numb] at h1
        subst h1
        have h0 := hp.let0
        have h00 := hp.le
        refine ⟨rfl, hp.ame, hp.apeer, ?_, ?_, ?_⟩
        · show 1 ≤ sa.last + 1
          omega
        · show sa.last + 1 ≤ _
          simp; omega
        · show v = sa.last + 1 - 1
          omega
theorem FW_OutA (a : Int) (h : FW w0 w ga gwa gga gb gwb ggb sent let_ vF vK F K X) :
    Calls Try.prog 12 #[.pointer (some ⟨ga, 0, none⟩), .int .i64 a] w fun e w' => ∃ A c O, e = .returned (.slice A (O : List Fr).length c) ∧ O.length ≤ 64 ∧ (∀ x ∈ O, chk x sent) ∧ FW w0 w' ga gwa gga gb gwb ggb sent let_ vF vK F K X ∧ ∃ ow sa sb, F4 w0 w' ow ga gwa gga gb gwb ggb sa sb vF vK F K X ∧ FP sent let_ sa sb ∧ Kd.R kF eF w' w.heap.size (fun k => ow k = 3) (.slice A O.length c) O ∧ (∀ k, w.heap.size ≤ k → ow k = 3) ∧ (∀ k, vF.ownBlock = some k → k < w.heap.size) ∧ w.heap.size ≤ w'.heap.size := by
  obtain ⟨⟨ow, sa, sb, h4, hp⟩, hFF, hKK⟩ := h
  refine (Out_calls a (clt a) w h4.a.bound rfl (fun k hk => hk.2)).mono ?_
  rintro e w' ⟨v, rfl, ho, hL, hb⟩
  have e1 : outL sa (clt a) = sa.L.drop (outD sa (clt a)) := by simp [outL, hp.ao]
  rw [e1] at ho
  obtain ⟨h5, hR⟩ := h4.outA 3 (by decide) hL hb ho
  obtain ⟨A, c, rfl⟩ := Kd.R_slice ho
  have hp' : FP sent let_ (outS sa (clt a)) sb := ⟨hp.ame, hp.apeer, hp.bme, hp.bpeer, rfl, hp.bL, hp.bu, hp.al, hp.let0, hp.le, hp.L⟩
  refine ⟨A, c, _, rfl, ?_, fun x hx => hp.L x (List.mem_of_mem_drop hx), ⟨⟨_, _, _, h5, hp'⟩, hFF, hKK⟩, _, _, _, h5, hp', hR, fun k hk => owns_new hk, fun k hk => Kd.R_lt h4.f k hk, hb.size⟩
  have h1 := h4.a.win.ok.fit
  have h2 := h4.a.win.ok.n64
  simp
  omega
theorem FW_OutB (a : Int) (h : FW w0 w ga gwa gga gb gwb ggb sent let_ vF vK F K X) :
    Calls Try.prog 12 #[.pointer (some ⟨gb, 0, none⟩), .int .i64 a] w fun e w' => ∃ A c O, e = .returned (.slice A (O : List Fr).length c) ∧ O.length ≤ 64 ∧ (∀ x ∈ O, ack1 x let_) ∧ FW w0 w' ga gwa gga gb gwb ggb sent let_ vF vK F K X ∧ ∃ ow sa sb, F4 w0 w' ow ga gwa gga gb gwb ggb sa sb vF vK F K X ∧ FP sent let_ sa sb ∧ Kd.R kF eF w' w.heap.size (fun k => ow k = 4) (.slice A O.length c) O ∧ (∀ k, w.heap.size ≤ k → ow k = 4) ∧ (∀ k, vK.ownBlock = some k → k < w.heap.size) ∧ w.heap.size ≤ w'.heap.size := by
  obtain ⟨⟨ow, sa, sb, h4, hp⟩, hFF, hKK⟩ := h
  refine (Out_calls a (clt a) w h4.b.bound rfl (fun k hk => hk.2)).mono ?_
  rintro e w' ⟨v, rfl, ho, hL, hb⟩
  have e1 : outL sb (clt a) = if sb.gs.o = true then [ackf sb] else [] := by simp [outL, hp.bL]
  have e2 : (outL sb (clt a)).length ≤ 64 := by rw [e1]; split <;> simp
  have e3 : ∀ x ∈ outL sb (clt a), ack1 x let_ := by
    intro x hx
    rw [e1] at hx
    split at hx
    · rw [List.mem_singleton.1 hx]
      exact ⟨rfl, hp.bme, hp.bpeer, by show 0 ≤ sb.gs.u; rw [hp.bu]; exact hp.let0, by show sb.gs.u ≤ let_; rw [hp.bu]; exact Int.le_refl _⟩
    · simp at hx
  obtain ⟨h5, hR⟩ := h4.outB 4 (by decide) hL hb ho
  obtain ⟨A, c, rfl⟩ := Kd.R_slice ho
  have hp' : FP sent let_ sa (outS sb (clt a)) := ⟨hp.ame, hp.apeer, hp.bme, hp.bpeer, hp.ao, hp.bL, hp.bu, hp.al, hp.let0, hp.le, hp.L⟩
  exact ⟨A, c, _, rfl, e2, e3, ⟨⟨_, _, _, h5, hp'⟩, hFF, hKK⟩, _, _, _, h5, hp', hR, fun k hk => owns_new hk, fun k hk => Kd.R_lt h4.k k hk, hb.size⟩
end
section
variable {w0 w : World} {ga gwa gga gb gwb ggb : Nat} {sent let_ : Int} {vF vK : Value} {F K : List Fr} {X : List (Nat × Obj)}
theorem FW_ComeA (x : Fr) {A11 A12 A13 A14 A15 : Option Addr} {c11 c12 c13 c14 c15 : Nat} (h : FW w0 w ga gwa gga gb gwb ggb sent let_ vF vK F K X) (hx : ack1 x let_) (hm : sent ≤ 1000000) :
    Calls Try.prog 13 #[.pointer (some ⟨ga, 0, none⟩), .agg #[.int .u8 x.f0.f0, .int .u8 x.f0.f1, .int .u8 x.f0.f2, .int .u8 x.f1.f0, .int .u64 x.f1.f1, .int .u64 x.f2, .int .u32 x.f3, .int .u32 x.f4, .int .u32 x.f5, .int .u64 x.f6, .int .u64 x.f7, .slice A11 x.f8.length c11, .slice A12 x.f9.length c12, .slice A13 x.f10.length c13, .slice A14 x.f11.length c14, .slice A15 x.f12.length c15]] w fun e w' => (∃ v, e = .returned v) ∧ FW w0 w' ga gwa gga gb gwb ggb sent let_ vF vK F K X := by
  obtain ⟨⟨ow, sa, sb, h4, hp⟩, hFF, hKK⟩ := h
  obtain ⟨x1, x2, x3, x4, x5⟩ := hx
  have hle := hp.le
  refine (Come_ack x (ackd sa x.f2) w h4.a (x2.trans hp.apeer.symm) (x3.trans hp.ame.symm) x1 x4 (by omega) rfl).mono ?_
  rintro e w' ⟨rfl, hL, hb⟩
  exact ⟨⟨_, rfl⟩, ⟨_, _, _, h4.inA hL (fun k hk => Or.inl hk) hb, ⟨hp.ame, hp.apeer, hp.bme, hp.bpeer, hp.ao, hp.bL, hp.bu, hp.al, hp.let0, hp.le, fun y hy => hp.L y (List.mem_of_mem_drop hy)⟩⟩, hFF, hKK⟩
theorem FW_ComeB_yes (x : Fr) {A11 A12 A13 A14 A15 : Option Addr} {c11 c12 c13 c14 c15 : Nat} (h : FW w0 w ga gwa gga gb gwb ggb sent let_ vF vK F K X) (hx : chk x sent) (hm : sent ≤ 1000000) (hy : x.f3 = let_) :
    Calls Try.prog 13 #[.pointer (some ⟨gb, 0, none⟩), .agg #[.int .u8 x.f0.f0, .int .u8 x.f0.f1, .int .u8 x.f0.f2, .int .u8 x.f1.f0, .int .u64 x.f1.f1, .int .u64 x.f2, .int .u32 x.f3, .int .u32 x.f4, .int .u32 x.f5, .int .u64 x.f6, .int .u64 x.f7, .slice A11 x.f8.length c11, .slice A12 x.f9.length c12, .slice A13 x.f10.length c13, .slice A14 x.f11.length c14, .slice A15 x.f12.length c15]] w fun e w' => e = .returned (.tuple #[.agg #[.int .u8 x.f0.f0, .int .u8 x.f0.f1, .int .u8 x.f0.f2, .int .u8 x.f1.f0, .int .u64 x.f1.f1, .int .u64 x.f2, .int .u32 x.f3, .int .u32 x.f4, .int .u32 x.f5, .int .u64 x.f6, .int .u64 x.f7, .slice A11 x.f8.length c11, .slice A12 x.f9.length c12, .slice A13 x.f10.length c13, .slice A14 x.f11.length c14, .slice A15 x.f12.length c15], .bool true]) ∧ FW w0 w' ga gwa gga gb gwb ggb sent (let_ + 1) vF vK F K X := by
  obtain ⟨⟨ow, sa, sb, h4, hp⟩, hFF, hKK⟩ := h
  obtain ⟨x1, x2, x3, x4, x5, x6⟩ := hx
  have hle := hp.le
  have hbu := hp.bu
  have hl0 := hp.let0
  have hq : (Acc.took sb.gs x.f2).2 = 1 := took_y (by omega)
  refine (Come_take x w h4.b (x2.trans hp.bpeer.symm) (x3.trans hp.bme.symm) x1 (by omega) (by omega) hq).mono ?_
  rintro e w' ⟨rfl, hL, hb⟩
  exact ⟨rfl, ⟨_, _, _, h4.inB hL (fun k hk => Or.inl hk) hb, ⟨hp.ame, hp.apeer, hp.bme, hp.bpeer, hp.ao, hp.bL, by show (Acc.took sb.gs x.f2).1.u = let_ + 1; rw [(took_1 hq).2]; omega, hp.al, by omega, by omega, hp.L⟩⟩, hFF, fun y hy => (hKK y hy).mono (by omega)⟩
theorem FW_ComeB_no (x : Fr) {A11 A12 A13 A14 A15 : Option Addr} {c11 c12 c13 c14 c15 : Nat} (h : FW w0 w ga gwa gga gb gwb ggb sent let_ vF vK F K X) (hx : chk x sent) (hm : sent ≤ 1000000) (hy : ¬ x.f3 = let_) :
    Calls Try.prog 13 #[.pointer (some ⟨gb, 0, none⟩), .agg #[.int .u8 x.f0.f0, .int .u8 x.f0.f1, .int .u8 x.f0.f2, .int .u8 x.f1.f0, .int .u64 x.f1.f1, .int .u64 x.f2, .int .u32 x.f3, .int .u32 x.f4, .int .u32 x.f5, .int .u64 x.f6, .int .u64 x.f7, .slice A11 x.f8.length c11, .slice A12 x.f9.length c12, .slice A13 x.f10.length c13, .slice A14 x.f11.length c14, .slice A15 x.f12.length c15]] w fun e w' => e = .returned (.tuple #[.agg #[.int .u8 0, .int .u8 0, .int .u8 0, .int .u8 0, .int .u64 0, .int .u64 0, .int .u32 0, .int .u32 0, .int .u32 0, .int .u64 0, .int .u64 0, .slice none 0 0, .slice none 0 0, .slice none 0 0, .slice none 0 0, .slice none 0 0], .bool false]) ∧ FW w0 w' ga gwa gga gb gwb ggb sent let_ vF vK F K X := by
  obtain ⟨⟨ow, sa, sb, h4, hp⟩, hFF, hKK⟩ := h
  obtain ⟨x1, x2, x3, x4, x5, x6⟩ := hx
  have hle := hp.le
  have hbu := hp.bu
  have hl0 := hp.let0
  have hq : ¬ (Acc.took sb.gs x.f2).2 = 1 := fun e => by
    have := (took_1 e).1
    omega
  refine (Come_shut x w h4.b (x2.trans hp.bpeer.symm) (x3.trans hp.bme.symm) x1 (by omega) (by omega) hq).mono ?_
  rintro e w' ⟨rfl, hL, hb⟩
  exact ⟨rfl, ⟨_, _, _, h4.inB hL (fun k hk => Or.inl hk) hb, ⟨hp.ame, hp.apeer, hp.bme, hp.bpeer, hp.ao, hp.bL, by show (Acc.took sb.gs x.f2).1.u = let_; rw [(took_n hq).2]; exact hbu, hp.al, hp.let0, hp.le, hp.L⟩⟩, hFF, hKK⟩
theorem FW_UptoB (h : FW w0 w ga gwa gga gb gwb ggb sent let_ vF vK F K X) :
    Calls Try.prog 15 #[.pointer (some ⟨gb, 0, none⟩)] w fun e w' => e = .returned (.int .u64 let_) ∧ w' = w := by
  obtain ⟨⟨ow, sa, sb, h4, hp⟩, hFF, hKK⟩ := h
  rw [← hp.bu]
  exact LUpto_calls h4.b
theorem FW_WaitsA (h : FW w0 w ga gwa gga gb gwb ggb sent let_ vF vK F K X) :
    ∃ k : Nat, (k : Int) ≤ sent ∧ Calls Try.prog 14 #[.pointer (some ⟨ga, 0, none⟩)] w fun e w' => e = .returned (.int .i64 k) ∧ ∃ q, w' = w.drewN q := by
  obtain ⟨⟨ow, sa, sb, h4, hp⟩, hFF, hKK⟩ := h
  exact ⟨sa.L.length, by have := h4.a.win.ok.le; have := hp.al; omega, LWaits_calls h4.a⟩
end
/-- What stands ahead of a place in a row, and what stands behind it. -/
theorem R_cuts {W : World} {base : Nat} {ok : Nat → Prop} {A : Option Addr} {c : Nat} {xs : List Fr} (h : Kd.R kF eF W base ok (.slice A xs.length c) xs) (ix : Nat) (hx : ix < xs.length) :
    ∃ (A1 A2 : Option Addr) (c2 : Nat), (∀ W', (Instr.slice 40 (.slice A xs.length c) none (some (.int .i64 (ix : Int))) none).run Try.prog W' = .ok (.slice A1 ix c) W') ∧
      (∀ W', (Instr.slice 40 (.slice A xs.length c) (some (.int .i64 ((ix : Int) + 1))) none none).run Try.prog W' = .ok (.slice A2 (xs.length - (ix + 1)) c2) W') ∧
      (∀ W', Below W.heap.size W W' → ReadsRow (fun x cs => kF.M W' base (fun k => ok k ∧ k < W.heap.size) x cs) 16 W' A1 ix (xs.take ix) ∧ ReadsRow (fun x cs => kF.M W' base (fun k => ok k ∧ k < W.heap.size) x cs) 16 W' A2 (xs.length - (ix + 1)) (xs.drop (ix + 1))) := by
  obtain ⟨i, hi, hsz⟩ := Option.map_eq_some_iff.1 (show (Try.prog.info? eF).map (fun i => i.size) = some 16 by kernel_rfl)
  have hlc : xs.length ≤ c := (Kd.R_reads' h).2.1
  have h1 := cut_to (P := Try.prog) 40 eF .i64 Try.underlying40 hi A xs.length c (ix : Int) (by omega) (by omega) hlc
  have h2 := cut_from (P := Try.prog) 40 eF .i64 Try.underlying40 hi 16 hsz A xs.length c ((ix : Int) + 1) (by omega) (by omega)
  have e2 : ((ix : Int) + 1).toNat = ix + 1 := by omega
  rw [Int.toNat_natCast] at h1
  rw [e2] at h2
  refine ⟨A, _, _, h1, h2, fun W' hb => ?_⟩
  have h3 := Kd.R_below (Kd.R_mono (Kd.R_bound h) (ok' := fun k => ok k ∧ k < W.heap.size) (fun k hk => ⟨hk.1, hk.2.2.1⟩)) hb
  obtain ⟨A9, c9, hv9, _, hrd⟩ := OwnRow.reads h3.2
  cases hv9
  have h4 := ReadsRow.imp_ hrd (Below.refl _ _) (fun x cs hx => kF.M_mono (ok' := fun k => ok k ∧ k < W.heap.size) (fun k hk => hk.1) hx)
  exact ⟨rows_take h4 (by omega), rows_drop h4 (by omega) hlc⟩
theorem wrap_ix {ix n : Nat} (h : ix < n) (hn : n ≤ 1000000) : wrap64 ((ix : Int) + 1) = (ix : Int) + 1 ∧ IntKind.i64.wrap ((ix : Int) + 1) = (ix : Int) + 1 ∧ (0 ≤ (ix : Int) + 1) = True ∧ ((ix : Int) + 1 ≤ (n : Int)) = True := by
  have h1 : wrap64 ((ix : Int) + 1) = (ix : Int) + 1 := w64 (by omega) (by omega)
  exact ⟨h1, (i64_w _).trans h1, eq_true (by omega), eq_true (by omega)⟩
theorem len_ok1 {ix n : Nat} (h : ix < n) (hn : n ≤ 1000000) : (([] : List Fr).length + ix) * 184 ≤ 140737488355328 := by
  rw [List.length_nil]
  omega
theorem len_ok2 {ix : Nat} {xs : List Fr} (h : ix < xs.length) (hn : xs.length ≤ 1000000) : (([] ++ xs.take ix : List Fr).length + (xs.length - (ix + 1))) * 184 ≤ 140737488355328 := by
  rw [List.nil_append, List.length_take]
  omega
theorem len_ok3 {ix n : Nat} {xs : List Fr} (h : ix < xs.length) (hn : xs.length ≤ n) : ([] ++ xs.take ix ++ xs.drop (ix + 1) : List Fr).length ≤ n := by
  rw [List.nil_append, List.length_append, List.length_take, List.length_drop]
  omega
theorem mem_cut {ix : Nat} {xs : List Fr} {y : Fr} (h : y ∈ ([] ++ xs.take ix ++ xs.drop (ix + 1) : List Fr)) : y ∈ xs := by
  rw [List.nil_append] at h
  exact (List.mem_append.1 h).elim List.mem_of_mem_take List.mem_of_mem_drop
theorem FW_ComeB {w0 w : World} {ga gwa gga gb gwb ggb : Nat} {sent let_ : Int} {vF vK : Value} {F K : List Fr} {X : List (Nat × Obj)} (x : Fr) {A11 A12 A13 A14 A15 : Option Addr} {c11 c12 c13 c14 c15 : Nat} (h : FW w0 w ga gwa gga gb gwb ggb sent let_ vF vK F K X) (hx : chk x sent) (hm : sent ≤ 1000000) :
    Calls Try.prog 13 #[.pointer (some ⟨gb, 0, none⟩), .agg #[.int .u8 x.f0.f0, .int .u8 x.f0.f1, .int .u8 x.f0.f2, .int .u8 x.f1.f0, .int .u64 x.f1.f1, .int .u64 x.f2, .int .u32 x.f3, .int .u32 x.f4, .int .u32 x.f5, .int .u64 x.f6, .int .u64 x.f7, .slice A11 x.f8.length c11, .slice A12 x.f9.length c12, .slice A13 x.f10.length c13, .slice A14 x.f11.length c14, .slice A15 x.f12.length c15]] w fun e w' => ∃ (y : Fr) (B11 B12 B13 B14 B15 : Option Addr) (d11 d12 d13 d14 d15 : Nat) (b : Bool), e = .returned (.tuple #[.agg #[.int .u8 y.f0.f0, .int .u8 y.f0.f1, .int .u8 y.f0.f2, .int .u8 y.f1.f0, .int .u64 y.f1.f1, .int .u64 y.f2, .int .u32 y.f3, .int .u32 y.f4, .int .u32 y.f5, .int .u64 y.f6, .int .u64 y.f7, .slice B11 y.f8.length d11, .slice B12 y.f9.length d12, .slice B13 y.f10.length d13, .slice B14 y.f11.length d14, .slice B15 y.f12.length d15], .bool b]) ∧ (b = true → y.f3 = let_) ∧ FW w0 w' ga gwa gga gb gwb ggb sent (if b = true then let_ + 1 else let_) vF vK F K X := by
  by_cases hy : x.f3 = let_
  · refine (FW_ComeB_yes x h hx hm hy).mono ?_
    rintro e w' ⟨rfl, hw⟩
    exact ⟨x, A11, A12, A13, A14, A15, c11, c12, c13, c14, c15, true, rfl, fun _ => hy, hw⟩
  · refine (FW_ComeB_no x h hx hm hy).mono ?_
    rintro e w' ⟨rfl, hw⟩
    exact ⟨pf 0 0 0 0 0 0 0 0 0 0 0, none, none, none, none, none, 0, 0, 0, 0, 0, false, rfl, fun h => (by cases h), hw⟩

end Go.Proofs.Ytmdomkpdfmoboaa.Walk
