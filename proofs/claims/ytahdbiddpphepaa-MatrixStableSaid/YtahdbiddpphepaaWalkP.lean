/- The matrix laws, in plain Lean. Conditions: none beyond the statement's own. -/
import Derived.Test.YtahdbiddpphepaaWalkNil
import Derived.Test.YtahdbiddpphepaaF3
import Derived.Test.YtahdbiddpphepaaF2
import Derived.Test.YtahdbiddpphepaaArgs
import Derived.Deep.QuietTactic
import Derived.BigQuiet
import Derived.Lib.QuietBelow
import Derived.Outline
import Derived.Deep.RegionHeld3
import Derived.Deep.CutRange
namespace Go.Proofs.Ytahdbiddpphepaa.Walk
open Go.RowKit Go.Proofs.Ytahdbiddpphepaa.F Go.Proofs.YtahdbiddpphepaaW.PrintWords Go.Proofs.YtahdbiddpphepaaW.PrintLast Go.Proofs.YtahdbiddpphepaaW.PrintMore Go.Proofs.Ytahdbiddpphepaa.Open
open Go.Sort (grow)
attribute [local go_sem] max2_int min2_int max_two min_two max_three min_three max_four min_four
set_option linter.unusedVariables false
set_option linter.unusedSimpArgs false

/-! ### what covers, in plain Lean -/
theorem foldAll_len (op : Int → Int → Int) (l : List (List Int)) : (foldAll op l).length = longest l := by simp [foldAll]
theorem foldAll_rd (op : Int → Int → Int) (l : List (List Int)) (i : Nat) (h : i < longest l) : rd (foldAll op l) (i : Int) = foldv op l (i : Int) := by
  unfold rd foldAll
  rw [Int.toNat_natCast, List.getD, List.getElem?_map, List.getElem?_range h]
  rfl
def covv (a b : List Int) : Prop := ∀ i : Nat, i < b.length → rd b (i : Int) ≤ rd a (i : Int)
theorem foldl_zeros (op : Int → Int → Int) (h : op 0 0 = 0) (i : Int) : ∀ (l : List (List Int)), (∀ a ∈ l, rd a i = 0) → l.foldl (fun n a => op n (rd a i)) 0 = 0
  | [], _ => rfl
  | a :: l, hl => by
    rw [List.foldl_cons, hl a (List.mem_cons_self), h]
    exact foldl_zeros op h i l (fun b hb => hl b (List.mem_cons_of_mem _ hb))
theorem foldAll_rdz (op : Int → Int → Int) (h : op 0 0 = 0) (l : List (List Int)) (i : Nat) : rd (foldAll op l) (i : Int) = foldv op l (i : Int) := by
  by_cases hi : i < longest l
  · exact foldAll_rd op l i hi
  · rw [rd_over (by rw [foldAll_len]; omega)]
    have hz : ∀ a ∈ l, rd a (i : Int) = 0 := fun a ha => rd_over (by have := longest_mem ha; omega)
    unfold foldv
    cases l with
    | nil => rfl
    | cons a l =>
      show 0 = l.foldl _ (rd a (i : Int))
      rw [hz a (List.mem_cons_self), foldl_zeros op h _ l (fun b hb => hz b (List.mem_cons_of_mem _ hb))]
theorem foldl_mx (i : Int) : ∀ (l : List (List Int)) (v : Int), v ≤ l.foldl (fun n a => mx n (rd a i)) v ∧ (∀ a ∈ l, rd a i ≤ l.foldl (fun n a => mx n (rd a i)) v) ∧ ∀ u, v ≤ u → (∀ a ∈ l, rd a i ≤ u) → l.foldl (fun n a => mx n (rd a i)) v ≤ u
  | [], v => ⟨Int.le_refl _, by simp, fun u h _ => h⟩
  | b :: l, v => by
    obtain ⟨h1, h2, h3⟩ := foldl_mx i l (mx v (rd b i))
    have e1 : v ≤ mx v (rd b i) := by unfold mx; split <;> omega
    have e2 : rd b i ≤ mx v (rd b i) := by unfold mx; split <;> omega
    rw [List.foldl_cons]
    refine ⟨by omega, fun a ha => ?_, fun u hv hu => h3 u ?_ (fun a ha => hu a (List.mem_cons_of_mem _ ha))⟩
    · rcases List.mem_cons.1 ha with rfl | ha
      · omega
      · exact h2 a ha
    · have := hu b (List.mem_cons_self)
      unfold mx
      split <;> omega
theorem foldl_mn (i : Int) : ∀ (l : List (List Int)) (v : Int), l.foldl (fun n a => mn n (rd a i)) v ≤ v ∧ (∀ a ∈ l, l.foldl (fun n a => mn n (rd a i)) v ≤ rd a i) ∧ ∀ u, u ≤ v → (∀ a ∈ l, u ≤ rd a i) → u ≤ l.foldl (fun n a => mn n (rd a i)) v
  | [], v => ⟨Int.le_refl _, by simp, fun u h _ => h⟩
  | b :: l, v => by
    obtain ⟨h1, h2, h3⟩ := foldl_mn i l (mn v (rd b i))
    have e1 : mn v (rd b i) ≤ v := by unfold mn; split <;> omega
    have e2 : mn v (rd b i) ≤ rd b i := by unfold mn; split <;> omega
    rw [List.foldl_cons]
    refine ⟨by omega, fun a ha => ?_, fun u hv hu => h3 u ?_ (fun a ha => hu a (List.mem_cons_of_mem _ ha))⟩
    · rcases List.mem_cons.1 ha with rfl | ha
      · omega
      · exact h2 a ha
    · have := hu b (List.mem_cons_self)
      unfold mn
      split <;> omega
theorem most_ge {l : List (List Int)} {b : List Int} (hb : b ∈ l) (i : Nat) : rd b (i : Int) ≤ rd (foldAll mx l) (i : Int) := by
  rw [foldAll_rdz mx rfl]
  cases l with
  | nil => simp at hb
  | cons a l =>
    obtain ⟨h1, h2, _⟩ := foldl_mx (i : Int) l (rd a (i : Int))
    rcases List.mem_cons.1 hb with rfl | hb
    · exact h1
    · exact h2 b hb
theorem most_le {l : List (List Int)} (hl : 0 < l.length) (i : Nat) (u : Int) (h : ∀ b ∈ l, rd b (i : Int) ≤ u) : rd (foldAll mx l) (i : Int) ≤ u := by
  rw [foldAll_rdz mx rfl]
  cases l with
  | nil => simp at hl
  | cons a l => exact (foldl_mx (i : Int) l (rd a (i : Int))).2.2 u (h a (List.mem_cons_self)) (fun b hb => h b (List.mem_cons_of_mem _ hb))
theorem least_le {l : List (List Int)} {b : List Int} (hb : b ∈ l) (i : Nat) : rd (foldAll mn l) (i : Int) ≤ rd b (i : Int) := by
  rw [foldAll_rdz mn rfl]
  cases l with
  | nil => simp at hb
  | cons a l =>
    obtain ⟨h1, h2, _⟩ := foldl_mn (i : Int) l (rd a (i : Int))
    rcases List.mem_cons.1 hb with rfl | hb
    · exact h1
    · exact h2 b hb
theorem least_ge {l : List (List Int)} (hl : 0 < l.length) (i : Nat) (u : Int) (h : ∀ b ∈ l, u ≤ rd b (i : Int)) : u ≤ rd (foldAll mn l) (i : Int) := by
  rw [foldAll_rdz mn rfl]
  cases l with
  | nil => simp at hl
  | cons a l => exact (foldl_mn (i : Int) l (rd a (i : Int))).2.2 u (h a (List.mem_cons_self)) (fun b hb => h b (List.mem_cons_of_mem _ hb))
theorem most_cov {l : List (List Int)} {b : List Int} (hb : b ∈ l) : covv (foldAll mx l) b := fun i _ => most_ge hb i
theorem cov_least {l : List (List Int)} {b : List Int} (hb : b ∈ l) : covv b (foldAll mn l) := fun i _ => least_le hb i
theorem covv.refl (a : List Int) : covv a a := fun _ _ => Int.le_refl _
theorem i64w {x : Int} (h0 : -9223372036854775808 ≤ x) (h1 : x ≤ 9223372036854775807) : wrap64 x = x := by unfold wrap64; omega
theorem at_f (a : List Int) (i : Nat) : unisonref04_At.f a (i : Int) = some (rd a i) := by
  unfold unisonref04_At.f
  rw [if_pos (by omega)]
  by_cases h : i < a.length
  · rw [if_pos (by omega), if_pos (by omega)]
  · rw [if_neg (by omega), rd_over (by omega)]
theorem covers_f {a b : List Int} (h : covv a b) (hl : b.length ≤ 100000) {k : Nat} (hk : b.length < k) : unisonref04_Covers.f k a b = some true := by
  have loop : ∀ d i k, i + d = b.length → d < k → unisonref04_Covers.l0 k a b (b.length : Int) (i : Int) = some true := by
    intro d
    induction d with
    | zero =>
      intro i k hi hk
      obtain ⟨k, rfl⟩ : ∃ m, k = m + 1 := ⟨k - 1, by omega⟩
      simp only [unisonref04_Covers.l0]
      rw [if_neg (by omega)]
    | succ d ih =>
      intro i k hid hk
      obtain ⟨k, rfl⟩ : ∃ m, k = m + 1 := ⟨k - 1, by omega⟩
      have hw : wrap64 ((i : Int) + 1) = ((i + 1 : Nat) : Int) := by rw [i64w (by omega) (by omega)]; omega
      have := h i (by omega)
      simp only [unisonref04_Covers.l0]
      rw [if_pos (by omega), at_f]
      simp only [Option.bind_some]
      rw [if_pos (by omega), if_pos (by omega), if_neg (by omega), hw, ih (i + 1) k (by omega) (by omega)]
  exact loop b.length 0 k (by omega) hk
theorem same_f {a b : List Int} (h : covv a b) (h' : covv b a) (hl : a.length ≤ 100000) (hl' : b.length ≤ 100000) {k : Nat} (hk : a.length < k) (hk' : b.length < k) : unisonref04_Same.f k a b = some true := by
  unfold unisonref04_Same.f
  rw [covers_f h hl' hk', covers_f h' hl hk]
  rfl
theorem equal_self {a : List Int} (hl : a.length ≤ 100000) {k : Nat} (hk : a.length < k) : unisonref04_Equal.f k a a = some true := by
  unfold unisonref04_Equal.f
  rw [if_pos rfl, same_f (covv.refl a) (covv.refl a) hl hl hk hk]
  rfl
/-! ### acts -/
abbrev Ac := S29
def actF (a : Ac) (x : X) : X := if a.f0 = true then goneX x else tellX x a.f2 a.f3 a.f4
def actL (L : List X) (a : Ac) : List X := if a.f0 = true then goneL L a.f1 else tellL L a.f1 a.f2 a.f3 a.f4
theorem goneX_gone {x : X} (h : x.f3 = true) : goneX x = x := by
  cases x
  simp only at h
  subst h
  rfl
theorem actL_mod (L : List X) (a : Ac) : actL L a = if 0 ≤ a.f1 then L.modify a.f1.toNat (actF a) else L := by
  unfold actL goneL tellL at_
  by_cases h0 : 0 ≤ a.f1
  · simp only [h0, if_true]
    generalize a.f1.toNat = q
    cases hx : L[q]? with
    | none =>
      have hq : L.length ≤ q := List.getElem?_eq_none_iff.1 hx
      have : L.modify q (actF a) = L := by
        apply List.ext_getElem?
        intro j
        rw [List.getElem?_modify]
        by_cases e : q = j
        · subst e
          rw [hx]
          rfl
        · simp [e]
      rw [this]
      simp
    | some x =>
      have hs : ∀ y, y = actF a x → L.set q y = L.modify q (actF a) := by
        rintro y rfl
        apply List.ext_getElem?
        intro j
        rw [List.getElem?_modify, List.getElem?_set]
        by_cases e : q = j
        · subst e
          have hq : q < L.length := (List.getElem?_eq_some_iff.1 hx).1
          rw [hx]
          simp [hq]
        · simp [e]
      dsimp only
      cases ha : a.f0 with
      | true =>
        simp only [if_true]
        by_cases hg : x.f3 = true
        · rw [if_pos hg]
          have := hs x (by unfold actF; rw [ha, if_pos rfl, goneX_gone hg])
          rw [← this]
          apply List.ext_getElem?
          intro j
          rw [List.getElem?_set]
          by_cases e : q = j
          · subst e
            have hq : q < L.length := (List.getElem?_eq_some_iff.1 hx).1
            rw [if_pos rfl, if_pos hq, hx]
          · rw [if_neg e]
        · rw [if_neg hg]
          exact hs _ (by unfold actF; rw [ha, if_pos rfl])
      | false =>
        simp only [Bool.false_eq_true, if_false]
        exact hs _ (by unfold actF; rw [ha]; rfl)
  · simp only [h0, if_false]
    simp
theorem riseL_comm (a d e : List Int) : riseL (riseL a d) e = riseL (riseL a e) d := by
  apply List.ext_getElem?
  intro j
  by_cases hj : j < a.length
  · rw [riseL_get (by rw [riseL_len]; exact hj), riseL_get (by rw [riseL_len]; exact hj)]
    have h1 : ∀ c, rd (riseL a c) j = mx (rd a j) (rd c j) := fun c => by
      have := riseL_get (b := c) hj
      unfold rd
      rw [Int.toNat_natCast, List.getD, this]
      rfl
    rw [h1, h1]
    congr 1
    unfold mx
    repeat (first | rfl | omega | split)
  · rw [List.getElem?_eq_none (by rw [riseL_len, riseL_len]; omega), List.getElem?_eq_none (by rw [riseL_len, riseL_len]; omega)]
theorem mx_comm3 (x i j : Int) : mx (mx x i) j = mx (mx x j) i := by
  unfold mx
  repeat (first | rfl | omega | split)
theorem actF_comm (a b : Ac) (x : X) : actF b (actF a x) = actF a (actF b x) := by
  unfold actF
  cases a.f0 <;> cases b.f0 <;> simp [goneX, tellX, riseL_comm x.f1 a.f3 b.f3, riseL_comm x.f2 a.f4 b.f4, mx_comm3 x.f0 a.f2 b.f2]
theorem actL_comm (L : List X) (a b : Ac) : actL (actL L a) b = actL (actL L b) a := by
  simp only [actL_mod]
  by_cases ha : 0 ≤ a.f1
  · by_cases hb : 0 ≤ b.f1
    · simp only [ha, hb, if_true]
      apply List.ext_getElem?
      intro j
      simp only [List.getElem?_modify]
      cases L[j]? with
      | none => rfl
      | some x =>
        by_cases e1 : a.f1.toNat = j <;> by_cases e2 : b.f1.toNat = j <;> simp [e1, e2, actF_comm]
    · simp only [ha, hb, if_true, if_false]
  · by_cases hb : 0 ≤ b.f1
    · simp only [ha, hb, if_true, if_false]
    · simp only [ha, hb, if_false]
theorem acts_rev (l : List Ac) (L : List X) : l.reverse.foldl actL L = l.foldl actL L :=
  List.Perm.foldl_eq' (List.reverse_perm l) (fun a _ b _ L => actL_comm L a b) L
theorem mok_act {L : List X} (h : mok L) {a : Ac} (h3 : u64s a.f3) (h4 : u64s a.f4) (h2 : 0 ≤ a.f2 ∧ a.f2 ≤ 18446744073709551615) : mok (actL L a) := by
  have hl : (actL L a).length = L.length := by
    rw [actL_mod]
    split <;> simp
  refine ⟨by rw [hl]; exact h.n1, by rw [hl]; exact h.n2, fun x hx => ?_⟩
  rw [hl]
  obtain ⟨j, hj, rfl⟩ := List.getElem_of_mem hx
  have hjL : j < L.length := by omega
  have hr := h.row L[j] (List.getElem_mem hjL)
  have hg : (actL L a)[j]? = some L[j] ∨ (actL L a)[j]? = some (actF a L[j]) := by
    rw [actL_mod]
    split
    · rw [List.getElem?_modify, List.getElem?_eq_getElem hjL]
      by_cases e : a.f1.toNat = j
      · exact .inr (by simp [e])
      · exact .inl (by simp [e])
    · exact .inl (List.getElem?_eq_getElem hjL)
  rw [List.getElem?_eq_getElem hj] at hg
  rcases hg with hg | hg
  · rw [Option.some.inj hg]
    exact hr
  · rw [Option.some.inj hg]
    unfold actF
    split
    · exact ⟨hr.l1, hr.l2, hr.u0, hr.u1, hr.u2⟩
    · exact ⟨(riseL_len _ _).trans hr.l1, (riseL_len _ _).trans hr.l2, by show 0 ≤ mx _ _ ∧ mx _ _ ≤ _; unfold mx; have := hr.u0; split <;> omega, riseL_u64 hr.u1 h3, riseL_u64 hr.u2 h4⟩

end Go.Proofs.Ytahdbiddpphepaa.Walk
