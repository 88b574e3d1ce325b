/- Runs and ids, in plain Lean. Conditions: none beyond the statement's own. -/
import Derived.Test.YtgcnaebhmcggoaaWalkP1
import Derived.Test.YtgcnaebhmcggoaaF27
import Derived.Test.YtgcnaebhmcggoaaF17
import Derived.Test.YtgcnaebhmcggoaaF13
import Derived.Test.YtgcnaebhmcggoaaF14
import Derived.Test.YtgcnaebhmcggoaaArgs
import Derived.Deep.QuietTactic
import Derived.BigQuiet
import Derived.Lib.QuietBelow
import Derived.Outline
import Derived.Deep.RegionHeld3
import Derived.Deep.CutRange
namespace Go.Proofs.Ytgcnaebhmcggoaa.Walk
open Go.RowKit Go.Proofs.Ytgcnaebhmcggoaa.F Go.Proofs.YtgcnaebhmcggoaaW.PrintWords Go.Proofs.YtgcnaebhmcggoaaW.PrintLast Go.Proofs.YtgcnaebhmcggoaaW.PrintMore Go.Proofs.Ytgcnaebhmcggoaa.Open
open Go.Sort (grow)
attribute [local go_sem] max2_int min2_int max_two min_two max_three min_three max_four min_four
set_option linter.unusedVariables false
set_option linter.unusedSimpArgs false

/-! ### runs and ids, in plain Lean -/
def okR (r : Rn) : Prop := 0 ≤ r.f0 ∧ r.f0 ≤ 255 ∧ 0 ≤ r.f1 ∧ r.f1 ≤ 18446744073709551615 ∧ 0 ≤ r.f2 ∧ r.f2 ≤ 18446744073709551615
theorem u64w {x : Int} (h0 : 0 ≤ x) (h1 : x ≤ 18446744073709551615) : IntKind.u64.wrap x = x := by rw [IntKind.wrap_u64]; omega
theorem i64w {x : Int} (h0 : -9223372036854775808 ≤ x) (h1 : x ≤ 9223372036854775807) : wrap64 x = x := by unfold wrap64; omega
/-- A run that may be. -/
def isR (r : Rn) : Prop := 0 ≤ r.f0 ∧ r.f0 < 64 ∧ 1 ≤ r.f1 ∧ 1 ≤ r.f2 ∧ r.f1 + r.f2 ≤ 4611686018427387905
theorem run_iff {r : Rn} (h : okR r) : runI r = true ↔ isR r := by
  obtain ⟨h0, h1, h2, h3, h4, h5⟩ := h
  unfold runI ident_Run.f isR
  by_cases c1 : r.f0 < 64
  · by_cases c2 : r.f1 ≥ 1
    · by_cases c3 : r.f2 ≥ 1
      · by_cases c4 : r.f1 ≤ 4611686018427387904
        · rw [if_pos c1, if_pos c2, if_pos c3, if_pos c4, u64w (x := 4611686018427387904 - r.f1) (by omega) (by omega), u64w (by omega) (by omega)]
          simp only [Option.getD_some, decide_eq_true_eq]
          omega
        · rw [if_pos c1, if_pos c2, if_pos c3, if_neg c4]
          simp only [Option.getD_some, Bool.false_eq_true, false_iff]
          omega
      · rw [if_pos c1, if_pos c2, if_neg c3]
        simp only [Option.getD_some, Bool.false_eq_true, false_iff]
        omega
    · rw [if_pos c1, if_neg c2]
      simp only [Option.getD_some, Bool.false_eq_true, false_iff]
      omega
  · rw [if_neg c1]
    simp only [Option.getD_some, Bool.false_eq_true, false_iff]
    omega
theorem runI_dec {r : Rn} (h : okR r) {b : Bool} (hb : b = true ↔ isR r) : runI r = b := by
  rw [← run_iff h] at hb
  cases h1 : runI r <;> cases b <;> simp_all
theorem refRun {r : Rn} (h : okR r) : unisonref03_Run.f r.f0 r.f1 r.f2 = some (runI r) := by
  have hh := h
  obtain ⟨h0, h1, h2, h3, h4, h5⟩ := h
  unfold unisonref03_Run.f
  by_cases c1 : r.f0 > 63
  · rw [if_pos c1, runI_dec hh (b := false)]
    simp only [Bool.false_eq_true, false_iff, isR]
    omega
  · by_cases c2 : r.f1 = 0
    · rw [if_neg c1, if_pos c2, runI_dec hh (b := false)]
      simp only [Bool.false_eq_true, false_iff, isR]
      omega
    · by_cases c3 : r.f2 = 0
      · rw [if_neg c1, if_neg c2, if_pos c3, runI_dec hh (b := false)]
        simp only [Bool.false_eq_true, false_iff, isR]
        omega
      · by_cases c4 : r.f1 > 4611686018427387904
        · rw [if_neg c1, if_neg c2, if_neg c3, if_pos c4, runI_dec hh (b := false)]
          simp only [Bool.false_eq_true, false_iff, isR]
          omega
        · rw [if_neg c1, if_neg c2, if_neg c3, if_neg c4, u64w (by omega) (by omega), u64w (by omega) (by omega)]
          rw [runI_dec hh]
          simp only [decide_eq_true_eq, isR]
          omega
theorem refLast {r : Rn} (h : isR r) : unisonref03_Last.f r.f0 r.f1 r.f2 = some (r.f1 + r.f2 - 1) := by
  obtain ⟨h0, h1, h2, h3, h4⟩ := h
  unfold unisonref03_Last.f
  rw [u64w (x := r.f2 - 1) (by omega) (by omega), u64w (by omega) (by omega)]
  congr 1
  omega
theorem rdR {L : List Rn} {i : Nat} {x : Rn} (h : L[i]? = some x) : rd_T40 L (i : Int) = x := by simp [rd_T40, List.getD, h]
theorem rdI {L : List I} {i : Nat} {x : I} (h : L[i]? = some x) : rd_T33 L (i : Int) = x := by simp [rd_T33, List.getD, h]
/-! rows -/
def after (p r : Rn) : Bool := decide (p.f0 < r.f0 ∨ (p.f0 = r.f0 ∧ p.f1 + p.f2 < r.f1))
def rowsA : Option Rn → List Rn → Bool
  | _, [] => true
  | none, r :: l => runI r && rowsA (some r) l
  | some p, r :: l => runI r && (after p r && rowsA (some r) l)
def rowsF (l : List Rn) : Bool := rowsA none l
def prev (L : List Rn) (i : Nat) : Option Rn := if i = 0 then none else L[i - 1]?
/-! how many -/
def cntA : Int → List Rn → Int
  | n, [] => n
  | n, r :: l => if runI r = true then cntA (if n + r.f2 < 4611686018427387904 then n + r.f2 else 4611686018427387904) l else cntA n l
theorem cntA_full : ∀ l : List Rn, (∀ r ∈ l, okR r) → cntA 4611686018427387904 l = 4611686018427387904
  | [], _ => rfl
  | r :: l, h => by
    have := h r List.mem_cons_self
    unfold okR at this
    rw [cntA, if_neg (show ¬ ((4611686018427387904 : Int) + r.f2 < 4611686018427387904) by omega), ite_self]
    exact cntA_full l (fun r hr => h r (List.mem_cons_of_mem _ hr))
theorem identCount_loop {L : List Rn} (hL : ∀ r ∈ L, okR r) (hm : L.length ≤ 1000000) : ∀ d i k (n : Int), i + d = L.length → d < k → 0 ≤ n → n ≤ 4611686018427387904 → ident_Count.l0 k n L (L.length : Int) (i : Int) = some (cntA n (L.drop i)) := by
  intro d
  induction d with
  | zero =>
    intro i k n hi hk _ _
    obtain ⟨k, rfl⟩ : ∃ m, k = m + 1 := ⟨k - 1, by omega⟩
    simp only [ident_Count.l0]
    rw [if_neg (by omega), List.drop_of_length_le (by omega)]
    rfl
  | succ d ih =>
    intro i k n hi hk hn0 hn1
    obtain ⟨k, rfl⟩ : ∃ m, k = m + 1 := ⟨k - 1, by omega⟩
    have hlt : i < L.length := by omega
    have hx : L[i]? = some L[i] := List.getElem?_eq_getElem hlt
    have hok := hL L[i] (List.getElem_mem hlt)
    rw [List.drop_eq_getElem_cons hlt]
    have hst := rdR hx
    generalize L[i] = x at hx hok hst ⊢
    have hw : wrap64 ((i : Int) + 1) = ((i + 1 : Nat) : Int) := by rw [i64w (by omega) (by omega)]; omega
    simp only [ident_Count.l0]
    rw [if_pos (by omega), if_pos (by omega), if_pos (by omega), hst, run_f, hw]
    simp only [Option.bind_some, cntA]
    cases hr : runI x with
    | false => simpa using ih (i + 1) k n (by omega) (by omega) hn0 hn1
    | true =>
      obtain ⟨p0, p1, p2, p3, p4⟩ := (run_iff hok).1 hr
      rw [if_pos rfl, if_pos rfl, u64w (by omega) (by omega)]
      have e : mn (n + x.f2) 4611686018427387904 = if n + x.f2 < 4611686018427387904 then n + x.f2 else 4611686018427387904 := by
        unfold mn
        split <;> split <;> omega
      rw [e]
      exact ih (i + 1) k _ (by omega) (by omega) (by split <;> omega) (by split <;> omega)
def cntF (l : List Rn) : Int := cntA 0 l
theorem identCount_eq {L : List Rn} (hL : ∀ r ∈ L, okR r) (hm : L.length ≤ 1000000) {k : Nat} (hk : L.length < k) : ident_Count.f k L = some (cntF L) :=
  identCount_loop hL hm L.length 0 k 0 (by omega) hk (by omega) (by omega)
theorem refCount_loop {L : List Rn} (hL : ∀ r ∈ L, okR r) (hm : L.length ≤ 1000000) : ∀ d i k (n : Int), i + d = L.length → d < k → 0 ≤ n → n ≤ 4611686018427387904 → unisonref03_Count.l0 k L n (L.length : Int) (i : Int) = some (cntA n (L.drop i)) := by
  intro d
  induction d with
  | zero =>
    intro i k n hi hk _ _
    obtain ⟨k, rfl⟩ : ∃ m, k = m + 1 := ⟨k - 1, by omega⟩
    simp only [unisonref03_Count.l0]
    rw [if_neg (by omega), List.drop_of_length_le (by omega)]
    rfl
  | succ d ih =>
    intro i k n hi hk hn0 hn1
    obtain ⟨k, rfl⟩ : ∃ m, k = m + 1 := ⟨k - 1, by omega⟩
    have hlt : i < L.length := by omega
    have hx : L[i]? = some L[i] := List.getElem?_eq_getElem hlt
    have hok := hL L[i] (List.getElem_mem hlt)
    rw [List.drop_eq_getElem_cons hlt]
    have hst := rdR hx
    generalize L[i] = x at hx hok hst ⊢
    have hw : wrap64 ((i : Int) + 1) = ((i + 1 : Nat) : Int) := by rw [i64w (by omega) (by omega)]; omega
    simp only [unisonref03_Count.l0]
    rw [if_pos (by omega), if_pos (by omega), if_pos (by omega), hst, refRun hok, hw]
    simp only [Option.bind_some, cntA]
    cases hr : runI x with
    | false => simpa using ih (i + 1) k n (by omega) (by omega) hn0 hn1
    | true =>
      obtain ⟨p0, p1, p2, p3, p4⟩ := (run_iff hok).1 hr
      rw [if_pos rfl, if_pos rfl, u64w (x := 4611686018427387904 - n) (by omega) (by omega)]
      by_cases hc : x.f2 > 4611686018427387904 - n
      · rw [if_pos hc, if_neg (by omega), cntA_full _ (fun r hr => hL r (List.mem_of_mem_drop hr))]
      · rw [if_neg hc, u64w (by omega) (by omega)]
        rw [ih (i + 1) k _ (by omega) (by omega) (by omega) (by omega)]
        by_cases he : n + x.f2 < 4611686018427387904
        · rw [if_pos he]
        · rw [if_neg he, show n + x.f2 = 4611686018427387904 by omega]
theorem refCount_eq {L : List Rn} (hL : ∀ r ∈ L, okR r) (hm : L.length ≤ 1000000) {k : Nat} (hk : L.length < k) : unisonref03_Count.f k L = some (cntF L) :=
  refCount_loop hL hm L.length 0 k 0 (by omega) hk (by omega) (by omega)
/-! whether one has an id -/
theorem has_dec {id : I} {r : Rn} (hi : okI id) (h : okR r) : hasI id r = true ↔ isR r ∧ r.f0 = id.f0 ∧ r.f1 ≤ id.f1 ∧ id.f1 ≤ r.f1 + r.f2 - 1 := by
  unfold hasI
  unfold okI at hi
  have h5 := h
  unfold okR at h5
  simp only [Bool.and_eq_true, decide_eq_true_eq, run_iff h]
  constructor
  · rintro ⟨h1, h2, h3, h4⟩
    rw [u64w (by omega) (by omega)] at h4
    exact ⟨h1, h2, h3, by omega⟩
  · rintro ⟨h1, h2, h3, h4⟩
    refine ⟨h1, h2, h3, ?_⟩
    rw [u64w (by omega) (by omega)]
    omega
/-! ### lists of ids, in plain Lean -/
def idsN (f0 f1 : Int) : Nat → List I
  | 0 => []
  | n + 1 => ⟨f0, f1⟩ :: idsN f0 (f1 + 1) n
def idsR (r : Rn) : List I := idsN r.f0 r.f1 r.f2.toNat
def listF : List Rn → List I
  | [] => []
  | r :: l => idsR r ++ listF l
def tot : List Rn → Nat
  | [] => 0
  | r :: l => (if runI r = true then r.f2.toNat else 0) + tot l
theorem idsN_len (f0 : Int) : ∀ (n : Nat) (f1 : Int), (idsN f0 f1 n).length = n
  | 0, _ => rfl
  | n + 1, f1 => by simp [idsN, idsN_len f0 n (f1 + 1)]
theorem cntA_tot : ∀ (l : List Rn) (n : Int), (∀ r ∈ l, okR r) → 0 ≤ n → n ≤ 4611686018427387904 → cntA n l = if n + tot l < 4611686018427387904 then n + tot l else 4611686018427387904
  | [], n, _, _, hn => by
    rw [cntA, tot]
    by_cases h : n + ((0 : Nat) : Int) < 4611686018427387904
    · rw [if_pos h]
      omega
    · rw [if_neg h]
      omega
  | r :: l, n, h, h0, hn => by
    have hok := h r List.mem_cons_self
    have hl : ∀ r ∈ l, okR r := fun r hr => h r (List.mem_cons_of_mem _ hr)
    rw [cntA, tot]
    cases hr : runI r with
    | false =>
      simp only [Bool.false_eq_true, if_false, Nat.zero_add]
      exact cntA_tot l n hl h0 hn
    | true =>
      have hi := (run_iff hok).1 hr
      unfold isR at hi
      simp only [if_true]
      rw [cntA_tot l _ hl (by split <;> omega) (by split <;> omega)]
      push_cast
      rw [Int.toNat_of_nonneg (by omega)]
      split <;> split <;> (try split) <;> omega
theorem cntF_tot {l : List Rn} (h : ∀ r ∈ l, okR r) {m : Int} (hm : cntF l ≤ m) (hm2 : m ≤ 1000000) : cntF l = tot l := by
  have e := cntA_tot l 0 h (by omega) (by omega)
  unfold cntF at *
  rw [e] at hm ⊢
  split at hm
  · rw [if_pos (by omega)]
    omega
  · omega
/-- All ids of runs, or none. -/
def listA (most : Int) (l : List Rn) : List I := if most < 0 then [] else if cntF l > most then [] else if l.all runI = true then listF l else []
theorem okI_of {x : I} (h : wf33 x) : okI x := by
  obtain ⟨h0, h1⟩ := h
  simp only [Lit.wf, Bool.and_eq_true, decide_eq_true_eq, show IntKind.u8.min = 0 from rfl, show IntKind.u8.max = 255 from rfl, show IntKind.u64.min = 0 from rfl, show IntKind.u64.max = 18446744073709551615 from rfl] at h0 h1
  unfold okI
  omega
theorem okR_of {x : Rn} (h : wf40 x) : okR x := by
  obtain ⟨h0, h1, h2⟩ := h
  simp only [Lit.wf, Bool.and_eq_true, decide_eq_true_eq, show IntKind.u8.min = 0 from rfl, show IntKind.u8.max = 255 from rfl, show IntKind.u64.min = 0 from rfl, show IntKind.u64.max = 18446744073709551615 from rfl] at h0 h1 h2
  unfold okR
  omega

end Go.Proofs.Ytgcnaebhmcggoaa.Walk
