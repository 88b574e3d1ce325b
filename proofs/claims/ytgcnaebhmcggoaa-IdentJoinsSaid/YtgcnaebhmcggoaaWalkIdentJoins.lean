/- The rows of any ids are rows, and list just these ids, each once, in order; what is handed in stays. Conditions: none beyond the statement's own. -/
import Derived.Test.YtgcnaebhmcggoaaWalkP4
import Derived.Test.YtgcnaebhmcggoaaWalkRr
import Derived.Test.YtgcnaebhmcggoaaWalkLr
import Derived.Test.YtgcnaebhmcggoaaF22
import Derived.Test.YtgcnaebhmcggoaaF19
import Derived.Test.YtgcnaebhmcggoaaF20
import Derived.Test.YtgcnaebhmcggoaaF21
import Derived.Test.YtgcnaebhmcggoaaF23
import Derived.Test.YtgcnaebhmcggoaaArgs
import Derived.Deep.QuietTactic
import Derived.BigQuiet
import Derived.Lib.QuietBelow
import Derived.Outline
import Derived.Deep.RegionHeld3
import Derived.Deep.CutRange
namespace Go.Proofs.Ytgcnaebhmcggoaa.Walk
open Go.RowKit Go.Proofs.Ytgcnaebhmcggoaa.F Go.Proofs.YtgcnaebhmcggoaaW.PrintWords Go.Proofs.YtgcnaebhmcggoaaW.PrintLast Go.Proofs.YtgcnaebhmcggoaaW.PrintMore Go.Proofs.Ytgcnaebhmcggoaa.Open
open Go.Sort (grow)
attribute [local go_sem] max2_int min2_int max_two min_two max_three min_three max_four min_four
set_option linter.unusedVariables false
set_option linter.unusedSimpArgs false

/-! ### what Join makes are rows, and list the ids -/
/-- Runs that list P, the last one ending there. -/
structure Mk (out : List Rn) (P : List I) : Prop where
  rows : rowsF out = true
  run : ∀ r ∈ out, isR r
  ids : listF out = P
theorem rowsA_append : ∀ {l : List Rn} {q : Option Rn} {s : Rn}, rowsA q (l ++ [s]) = (rowsA q l && rowsA ((l.getLast?).or q) [s])
  | [], q, s => by cases q <;> simp [rowsA]
  | r :: l, q, s => by
    have e : ((r :: l).getLast?).or q = (l.getLast?).or (some r) := by
      cases l with
      | nil => simp
      | cons a l => simp [List.getLast?_cons]
    rw [e]
    cases q with
    | none => simp only [List.cons_append, rowsA, rowsA_append (l := l) (q := some r), Bool.and_assoc]
    | some p => simp only [List.cons_append, rowsA, rowsA_append (l := l) (q := some r), Bool.and_assoc]
theorem listF_append : ∀ (a b : List Rn), listF (a ++ b) = listF a ++ listF b
  | [], b => rfl
  | r :: a, b => by simp [listF, listF_append a b]
theorem rowsF_snoc {l : List Rn} {s : Rn} : rowsF (l ++ [s]) = (rowsF l && (runI s && (match l.getLast? with | none => true | some p => after p s))) := by
  rw [rowsF, rowsA_append]
  cases l.getLast? with
  | none => simp [rowsA, rowsF]
  | some p => simp [rowsA, rowsF]
theorem isR_ok {r : Rn} (h : isR r) : okR r := by unfold isR at h; unfold okR; omega
theorem idsN_snoc (f0 : Int) : ∀ (n : Nat) (f1 : Int), idsN f0 f1 (n + 1) = idsN f0 f1 n ++ [⟨f0, f1 + n⟩]
  | 0, f1 => by simp [idsN]
  | n + 1, f1 => by
    rw [idsN, idsN_snoc f0 n (f1 + 1), idsN]
    simp only [List.cons_append]
    congr 4
    push_cast
    omega
theorem mk_step {out : List Rn} {P : List I} {x : I} (h : Mk out P) (hx : okI x) (hm : mayI x = true) (hlt : ∀ y ∈ P, ltI y x = true) : Mk (stepJ out x) (P ++ [x]) := by
  obtain ⟨x1, x2, x3, x4⟩ := hx
  obtain ⟨m1, m2, m3⟩ := (may_iff ⟨x1, x2, x3, x4⟩).1 hm
  have hnew : isR ⟨x.f0, x.f1, 1⟩ := ⟨x1, m1, m2, by simp, by show x.f1 + 1 ≤ 4611686018427387905; omega⟩
  have hrun1 : runI ⟨x.f0, x.f1, 1⟩ = true := (run_iff (isR_ok hnew)).2 hnew
  have hids1 : idsR ⟨x.f0, x.f1, 1⟩ = [x] := by simp [idsR, idsN]
  rcases List.eq_nil_or_concat out with hout | ⟨out', r, hout0⟩
  · subst hout
    have hP : P = [] := by rw [← h.ids]; rfl
    subst hP
    refine ⟨by simp [stepJ, rowsF, rowsA, hrun1], fun r hr => ?_, by simp [stepJ, listF, hids1]⟩
    obtain rfl : r = ⟨x.f0, x.f1, 1⟩ := by simpa [stepJ] using hr
    exact hnew
  · have hout : out = out' ++ [r] := by rw [hout0, List.concat_eq_append]
    subst hout
    clear hout0
    have hr := h.run r (by simp)
    have hr' := hr
    unfold isR at hr'
    have hlast : ltI ⟨r.f0, r.f1 + r.f2 - 1⟩ x = true := by
      apply hlt
      rw [← h.ids, listF_append, List.mem_append]
      refine .inr ?_
      simp only [listF, List.append_nil]
      rw [idsR_mem hr]
      exact ⟨rfl, by show r.f1 ≤ r.f1 + r.f2 - 1; omega, by show r.f1 + r.f2 - 1 < r.f1 + r.f2; omega⟩
    rw [lt_iff] at hlast
    dsimp only at hlast
    have hrows := h.rows
    rw [rowsF_snoc] at hrows
    simp only [Bool.and_eq_true] at hrows
    have hids := h.ids
    rw [listF_append] at hids
    simp only [listF, List.append_nil] at hids
    unfold stepJ
    simp only [List.getLast?_append, List.getLast?_singleton, Option.some_or, List.dropLast_concat]
    rw [u64w (x := r.f1 + r.f2) (by omega) (by omega)]
    by_cases hc : r.f0 = x.f0 ∧ r.f1 + r.f2 = x.f1
    · rw [if_pos hc, u64w (by omega) (by omega)]
      have hnr : isR ⟨r.f0, r.f1, r.f2 + 1⟩ := ⟨hr'.1, hr'.2.1, hr'.2.2.1, by show 1 ≤ r.f2 + 1; omega, by show r.f1 + (r.f2 + 1) ≤ 4611686018427387905; omega⟩
      refine ⟨?_, fun s hs => ?_, ?_⟩
      · rw [rowsF_snoc, hrows.1, (run_iff (isR_ok hnr)).2 hnr]
        have h3 := hrows.2.2
        cases hgl : out'.getLast? with
        | none => rfl
        | some p =>
          rw [hgl] at h3
          exact h3
      · rcases List.mem_append.1 hs with hs | hs
        · exact h.run s (by simp [hs])
        · obtain rfl := List.mem_singleton.1 hs
          exact hnr
      · rw [listF_append]
        simp only [listF, List.append_nil]
        rw [← hids, List.append_assoc]
        congr 1
        unfold idsR
        dsimp only
        have e : (r.f2 + 1).toNat = r.f2.toNat + 1 := by omega
        rw [e, idsN_snoc]
        congr 2
        refine I_ext hc.1 ?_
        show r.f1 + ((r.f2.toNat : Nat) : Int) = x.f1
        omega
    · rw [if_neg hc]
      refine ⟨?_, fun s hs => ?_, ?_⟩
      · rw [rowsF_snoc, h.rows, hrun1]
        simp only [List.getLast?_append, List.getLast?_singleton, Option.some_or, Bool.true_and, after, decide_eq_true_eq]
        omega
      · rcases List.mem_append.1 hs with hs | hs
        · exact h.run s hs
        · obtain rfl := List.mem_singleton.1 hs
          exact hnew
      · rw [listF_append, h.ids]
        simp only [listF, List.append_nil, hids1]
theorem mk_fold : ∀ {D : List I} {out : List Rn} {P : List I}, Mk out P → (∀ x ∈ D, okI x ∧ mayI x = true) → Up (P ++ D) → Mk (D.foldl stepJ out) (P ++ D)
  | [], out, P, h, _, _ => by simpa using h
  | x :: D, out, P, h, hm, hu => by
    rw [List.foldl_cons]
    have h1 := hm x List.mem_cons_self
    have h2 : ∀ y ∈ P, ltI y x = true := by
      intro y hy
      rw [Up, List.pairwise_append] at hu
      exact hu.2.2 y hy x List.mem_cons_self
    have h3 := mk_fold (mk_step h h1.1 h1.2 h2) (fun y hy => hm y (List.mem_cons_of_mem _ hy)) (by simpa using hu)
    simpa using h3
theorem join_mk {l : List I} (ho : ∀ x ∈ l, okI x) : Mk (joinF l) (idsJ l) := by
  have h := mk_fold (D := idsJ l) (out := []) (P := []) ⟨rfl, (fun r hr => by cases hr), rfl⟩ (fun x hx => ⟨ho x ((ids_mem l x).1 hx).1, ((ids_mem l x).1 hx).2⟩) (by simpa using ids_up l)
  simpa [joinF] using h
/-! ### the document's Sort -/
theorem refMay {x : I} (h : okI x) : unisonref03_May.f x.f0 x.f1 64 = some (mayI x) := by
  have hm := may_iff h
  obtain ⟨h0, h1, h2, h3⟩ := h
  unfold unisonref03_May.f
  rw [i64w (x := x.f0) (by omega) (by omega)]
  by_cases c1 : x.f0 < 64
  · rw [if_pos c1, if_pos c1]
    by_cases c2 : x.f1 > 0
    · rw [if_pos c2]
      congr 1
      cases hh : mayI x with
      | true => exact decide_eq_true ((hm.1 hh).2.2)
      | false => exact decide_eq_false (fun h => by rw [hm.2 ⟨c1, by omega, h⟩] at hh; cases hh)
    · rw [if_neg c2]
      congr 1
      cases hh : mayI x with
      | true => have := hm.1 hh; omega
      | false => rfl
  · rw [if_neg c1]
    congr 1
    cases hh : mayI x with
    | true => have := hm.1 hh; omega
    | false => rfl
theorem refLess (x y : I) : unisonref03_Less.f x.f0 x.f1 y.f0 y.f1 = some (ltI x y) := by
  unfold unisonref03_Less.f ltI
  by_cases h : x.f0 = y.f0
  · rw [if_pos h]
    congr 1
    simp [h]
  · rw [if_neg h]
    congr 1
    simp [h]
theorem refIn {L : List I} (x : I) (hm : L.length ≤ 1000000) {k : Nat} (hk : L.length < k) : unisonref03_in.f k L x.f0 x.f1 = some (decide (x ∈ L)) := by
  have loop : ∀ d i k, i + d = L.length → d < k → unisonref03_in.l0 k L (L.length : Int) (i : Int) x.f0 x.f1 = some (decide (x ∈ L.drop i)) := by
    intro d
    induction d with
    | zero =>
      intro i k hi hk
      obtain ⟨k, rfl⟩ : ∃ m, k = m + 1 := ⟨k - 1, by omega⟩
      simp only [unisonref03_in.l0]
      rw [if_neg (by omega), List.drop_of_length_le (by omega)]
      simp
    | succ d ih =>
      intro i k hid hk
      obtain ⟨k, rfl⟩ : ∃ m, k = m + 1 := ⟨k - 1, by omega⟩
      have hlt : i < L.length := by omega
      have hx : L[i]? = some L[i] := List.getElem?_eq_getElem hlt
      have hw : wrap64 ((i : Int) + 1) = ((i + 1 : Nat) : Int) := by rw [i64w (by omega) (by omega)]; omega
      rw [List.drop_eq_getElem_cons hlt]
      generalize L[i] = y at hx ⊢
      simp only [unisonref03_in.l0]
      rw [if_pos (by omega), if_pos (by omega), if_pos (by omega), rdI hx, I_eqb, hw, ih (i + 1) k (by omega) (by omega)]
      by_cases he : y = x
      · subst he
        simp
      · have he' : ¬ x = y := fun h => he h.symm
        simp [he, he']
  exact loop L.length 0 k (by omega) hk
def cand (out : List I) (x : I) : Prop := mayI x = true ∧ x ∉ out
/-- b is the least one of the front of l that may be, and isn't in out. -/
def Best (l out : List I) (i : Nat) (b : Int) : Prop :=
  (b = -1 ∧ ∀ x ∈ l.take i, ¬ cand out x) ∨ ∃ (q : Nat) (x : I), b = q ∧ q < i ∧ l[q]? = some x ∧ cand out x ∧ ∀ y ∈ l.take i, cand out y → ltI y x = false
theorem sort_inner {l out : List I} (ho : ∀ x ∈ l, okI x) (hm : l.length ≤ 1000) (hm2 : out.length ≤ 1000) : ∀ (d i : Nat) (k' : Nat) (b : Int), i + d = l.length → out.length < k' → Best l out i b →
    ∃ b', Best l out l.length b' ∧ unisonref03_Sort.l1 (d + 1 + k') l out b (l.length : Int) (i : Int) = if b' < 0 then some out else unisonref03_Sort.l0 k' l (out ++ [l.getD b'.toNat ⟨0, 0⟩]) := by
  intro d
  induction d with
  | zero =>
    intro i k' b hi hk hb
    obtain rfl : i = l.length := by omega
    refine ⟨b, hb, ?_⟩
    rw [show 0 + 1 + k' = k' + 1 by omega]
    simp only [unisonref03_Sort.l1]
    rw [if_neg (by omega)]
    rcases hb with ⟨rfl, _⟩ | ⟨q, x, rfl, hq, hx, _⟩
    · simp
    · have hq' : q < l.length := hq
      have n0 : ¬ ((q : Int) < 0) := by omega
      have p0 : (0 : Int) ≤ (q : Int) := by omega
      have p1 : (q : Int) < (l.length : Int) := by omega
      have p2 : out.length < 8796093022208 := by omega
      simp only [n0, p0, p1, p2, if_true, if_false, rdI hx]
      simp [List.getD, hx]
  | succ d ih =>
    intro i k' b hid hk hb
    have hlt : i < l.length := by omega
    have hx : l[i]? = some l[i] := List.getElem?_eq_getElem hlt
    have hok := ho l[i] (List.getElem_mem hlt)
    generalize l[i] = x at hx hok
    have hw : wrap64 ((i : Int) + 1) = ((i + 1 : Nat) : Int) := by rw [i64w (by omega) (by omega)]; omega
    have ht : ∀ y, y ∈ l.take (i + 1) ↔ y ∈ l.take i ∨ y = x := by
      intro y
      rw [List.take_add_one, hx, List.mem_append]
      simp
    have keep : ¬ cand out x → Best l out (i + 1) b := by
      intro hn
      rcases hb with ⟨h1, h2⟩ | ⟨q, z, h1, h2, h3, h4, h5⟩
      · exact .inl ⟨h1, fun y hy => ((ht y).1 hy).elim (fun hy => h2 y hy) (fun e => e ▸ hn)⟩
      · exact .inr ⟨q, z, h1, by omega, h3, h4, fun y hy hc => by
          rcases (ht y).1 hy with hy | rfl
          · exact h5 y hy hc
          · exact absurd hc hn⟩
    rw [show d + 1 + 1 + k' = (d + 1 + k') + 1 by omega, unisonref03_Sort.l1]
    rw [if_pos (by omega), if_pos (by omega), if_pos (by omega), rdI hx, refMay hok, hw]
    simp only [Option.bind_some]
    cases hmx : mayI x with
    | false =>
      simp only [Bool.false_eq_true, if_false]
      exact ih (i + 1) k' b (by omega) hk (keep (fun h => by have := h.1; rw [hmx] at this; cases this))
    | true =>
      simp only [if_true]
      rw [refIn x (by omega) (by omega)]
      simp only [Option.bind_some]
      by_cases hin : x ∈ out
      · rw [decide_eq_true hin]
        simp only [if_true]
        exact ih (i + 1) k' b (by omega) hk (keep (fun h => h.2 hin))
      · rw [decide_eq_false hin]
        simp only [Bool.false_eq_true, if_false]
        rcases hb with ⟨rfl, h2⟩ | ⟨q, z, rfl, hq, hz, hc, h5⟩
        · rw [if_pos (by omega)]
          exact ih (i + 1) k' (i : Int) (by omega) hk (.inr ⟨i, x, rfl, by omega, hx, ⟨hmx, hin⟩, fun y hy hcy => by
            rcases (ht y).1 hy with hy | rfl
            · exact absurd hcy (h2 y hy)
            · exact ltI_irrefl _⟩)
        · rw [if_neg (by omega), if_pos (by omega), if_pos (by omega), rdI hz, refLess]
          simp only [Option.bind_some]
          cases hlx : ltI x z with
          | true =>
            simp only [if_true]
            exact ih (i + 1) k' (i : Int) (by omega) hk (.inr ⟨i, x, rfl, by omega, hx, ⟨hmx, hin⟩, fun y hy hcy => by
              rcases (ht y).1 hy with hy | rfl
              · cases hyx : ltI y x with
                | false => rfl
                | true => have := h5 y hy hcy; rw [ltI_trans hyx hlx] at this; cases this
              · exact ltI_irrefl _⟩)
          | false =>
            simp only [Bool.false_eq_true, if_false]
            exact ih (i + 1) k' (q : Int) (by omega) hk (.inr ⟨q, z, rfl, by omega, hz, hc, fun y hy hcy => by
              rcases (ht y).1 hy with hy | rfl
              · exact h5 y hy hcy
              · exact hlx⟩)
theorem sort_outer {l : List I} (ho : ∀ x ∈ l, okI x) (hm : l.length ≤ 1000) : ∀ (d j k : Nat), j + d = (idsJ l).length → (d + 1) * (l.length + 2) + 2000 < k → unisonref03_Sort.l0 k l ((idsJ l).take j) = some (idsJ l) := by
  have hlen := ids_len l
  have hup := ids_up l
  have hmem := ids_mem l
  generalize idsJ l = D at hlen hup hmem ⊢
  intro d
  induction d with
  | zero =>
    intro j k hj hk
    obtain ⟨k', rfl⟩ : ∃ k', k = (l.length + 1 + k') + 1 := ⟨k - (l.length + 2), by omega⟩
    rw [List.take_of_length_le (by omega), unisonref03_Sort.l0, if_pos (by omega)]
    obtain ⟨b, hb, he⟩ := sort_inner (out := D) ho hm (by omega) l.length 0 k' (-1) (by omega) (by omega) (.inl ⟨rfl, by simp⟩)
    rw [show ((0 : Nat) : Int) = 0 from rfl] at he
    rw [he]
    rcases hb with ⟨rfl, _⟩ | ⟨q, x, rfl, hq, hx, hc, _⟩
    · simp
    · exact absurd ((hmem x).2 ⟨List.mem_of_getElem? hx, hc.1⟩) hc.2
  | succ d ih =>
    intro j k hj hk
    have hjD : j < D.length := by omega
    rw [Nat.succ_mul] at hk
    obtain ⟨k', rfl⟩ : ∃ k', k = (l.length + 1 + k') + 1 := ⟨k - (l.length + 2), by omega⟩
    have htl : (D.take j).length = j := by rw [List.length_take]; omega
    rw [unisonref03_Sort.l0, if_pos (by omega)]
    obtain ⟨b, hb, he⟩ := sort_inner (out := D.take j) ho hm (by omega) l.length 0 k' (-1) (by omega) (by omega) (.inl ⟨rfl, by simp⟩)
    rw [show ((0 : Nat) : Int) = 0 from rfl] at he
    rw [he]
    have hDj : D[j]? = some D[j] := List.getElem?_eq_getElem hjD
    have hDm := (hmem D[j]).1 (List.getElem_mem hjD)
    have hnot : D[j] ∉ D.take j := by
      intro h
      obtain ⟨i, hi, e⟩ := List.getElem_of_mem h
      have hij : i < j := by omega
      rw [List.getElem_take] at e
      have := List.pairwise_iff_getElem.1 hup i j (by omega) hjD hij
      rw [e, ltI_irrefl] at this
      cases this
    rcases hb with ⟨rfl, h2⟩ | ⟨q, x, rfl, hq, hx, hc, h5⟩
    · exact absurd ⟨hDm.2, hnot⟩ (h2 D[j] (by rw [List.take_length]; exact hDm.1))
    · have hxD : x ∈ D := (hmem x).2 ⟨List.mem_of_getElem? hx, hc.1⟩
      have hle : ltI D[j] x = false := h5 D[j] (by rw [List.take_length]; exact hDm.1) ⟨hDm.2, hnot⟩
      obtain ⟨i, hi, e⟩ := List.getElem_of_mem hxD
      have hji : i = j := by
        rcases Nat.lt_trichotomy i j with h | h | h
        · exfalso
          apply hc.2
          rw [← e]
          refine List.mem_of_getElem? (i := i) ?_
          rw [List.getElem?_take_of_lt h]
          exact List.getElem?_eq_getElem hi
        · exact h
        · have := List.pairwise_iff_getElem.1 hup j i hjD hi h
          rw [e, hle] at this
          cases this
      subst hji
      rw [if_neg (by omega)]
      have e2 : l.getD ((q : Int)).toNat ⟨0, 0⟩ = D[i] := by simp [List.getD, hx, e]
      have e3 : D.take i ++ [D[i]] = D.take (i + 1) := by rw [List.take_add_one, hDj]; rfl
      rw [e2, e3]
      exact ih (i + 1) k' (by omega) (by omega)
theorem refSort_eq {l : List I} (ho : ∀ x ∈ l, okI x) (hm : l.length ≤ 100) {k : Nat} (hk : 20000 < k) : unisonref03_Sort.f k l = some (idsJ l) := by
  have hlen := ids_len l
  have hb : ((idsJ l).length + 1) * (l.length + 2) ≤ 101 * 102 := Nat.mul_le_mul (by omega) (by omega)
  have h := sort_outer ho (by omega) (idsJ l).length 0 k (by omega) (by omega)
  rw [List.take_zero] at h
  exact h
/-! ### the laws -/
theorem joins_eq {l : List I} (ho : ∀ x ∈ l, okI x) : ∃ k, unisonlaw03_IdentJoins.f k l = some true := by
  refine ⟨100000, ?_⟩
  unfold unisonlaw03_IdentJoins.f
  rw [awake_eq]
  simp only [Option.bind_some, List.nil_append]
  by_cases hl : (l.length : Int) > 100
  · rw [if_pos hl]
  · rw [if_neg hl, if_pos (by simp; omega)]
    have hj : ident_Join.f l = some (joinF l) := by unfold ident_Join.f; rw [if_pos (by omega)]
    rw [hj]
    simp only [Option.bind_some]
    have hmk := join_mk ho
    have hok : ∀ r ∈ joinF l, okR r := fun r hr => isR_ok (hmk.run r hr)
    have hlen := ids_len l
    have hjl : (joinF l).length ≤ (idsJ l).length := by
      unfold joinF
      have := step_len (idsJ l) []
      simpa using this
    rw [refRows_eq hok (by omega) (by omega), hmk.rows]
    simp only [Option.bind_some, if_true]
    have hall : (joinF l).all runI = true := List.all_eq_true.2 (fun r hr => (run_iff (hok r hr)).2 (hmk.run r hr))
    have hcnt : cntF (joinF l) = (idsJ l).length := by
      have e := cntA_tot (joinF l) 0 hok (by omega) (by omega)
      have ht : tot (joinF l) = (idsJ l).length := by
        rw [← hmk.ids]
        have : ∀ L : List Rn, L.all runI = true → tot L = (listF L).length := by
          intro L
          induction L with
          | nil => intro _; rfl
          | cons r L ih =>
            intro h
            simp only [List.all_cons, Bool.and_eq_true] at h
            rw [tot, listF, List.length_append, ih h.2, h.1, if_pos rfl]
            unfold idsR
            rw [idsN_len]
        exact this _ hall
      unfold cntF
      rw [e, ht, if_pos (by omega)]
      omega
    have hlist : listA 100 (joinF l) = idsJ l := by
      unfold listA
      rw [if_neg (by decide), if_neg (by omega), if_pos hall, hmk.ids]
    rw [refList_eq hok (by omega) (by decide) (by decide), hlist, refSort_eq ho (by omega) (by decide)]
    simp only [Option.bind_some]
    rw [sameIDs_self (by omega) (by omega), sameIDs_self (by omega) (by omega)]
    rfl
theorem IdentJoins (A0 : Option Addr) (c0 : Nat) (l0 : List I) (w : World) (hr : Kd.C kI w A0 l0.length l0) (hc : l0.length ≤ c0) (hw : l0.length ≤ maxLen ∧ ∀ x ∈ l0, wf33 x) :
    Calls Try.prog 3 #[.slice A0 l0.length c0] w fun e w' => e = .returned (.bool true) ∧ Below w.heap.size w w' := by
  obtain ⟨k, hk⟩ := joins_eq (l := l0) (fun x hx => okI_of (hw.2 x hx))
  exact unisonlaw03_IdentJoins.calls k A0 c0 l0 true w hr hc hk

end Go.Proofs.Ytgcnaebhmcggoaa.Walk
