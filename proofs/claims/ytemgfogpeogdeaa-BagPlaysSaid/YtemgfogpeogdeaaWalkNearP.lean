/- Bits that differ, in plain Lean. Conditions: none beyond the statement's own. -/
import Derived.Test.YtemgfogpeogdeaaWalkTurn
import Derived.Test.YtemgfogpeogdeaaF2
import Derived.Test.YtemgfogpeogdeaaArgs
import Derived.Deep.QuietTactic
import Derived.BigQuiet
import Derived.Lib.QuietBelow
import Derived.Outline
import Derived.Deep.RegionHeld3
import Derived.Deep.CutRange
namespace Go.Proofs.Ytemgfogpeogdeaa.Walk
open Go.RowKit Go.Proofs.Ytemgfogpeogdeaa.F Go.Proofs.YtemgfogpeogdeaaW.PrintWords Go.Proofs.YtemgfogpeogdeaaW.PrintLast Go.Proofs.YtemgfogpeogdeaaW.PrintMore Go.Proofs.Ytemgfogpeogdeaa.Open
open Go.Sort (grow)
attribute [local go_sem] max2_int min2_int max_two min_two max_three min_three max_four min_four
set_option linter.unusedVariables false
set_option linter.unusedSimpArgs false

/-! ### Bits that differ, in plain Lean -/
def bitAt (xs : List Int) (i : Nat) : Int := (xs.getD (i / 8) 0) / 2 ^ (i % 8) % 2
def u8s (xs : List Int) : Prop := ∀ y ∈ xs, 0 ≤ y ∧ y < 256
theorem u8s.get {xs : List Int} (h : u8s xs) (i : Nat) : ∃ n : Nat, xs.getD i 0 = (n : Int) ∧ n < 256 := by
  rw [List.getD_eq_getElem?_getD]
  cases hx : xs[i]? with
  | none => exact ⟨0, rfl, by omega⟩
  | some y =>
    have := h y (List.mem_of_getElem? hx)
    exact ⟨y.toNat, by simp; omega, by omega⟩
theorem xor_nat (a b : Nat) (ha : a < 256) (hb : b < 256) : Go.bits .xor .u8 (a : Int) (b : Int) = ((a ^^^ b : Nat) : Int) := by
  have ha' : a % 2 ^ IntKind.u8.bits = a := Nat.mod_eq_of_lt ha
  have hb' : b % 2 ^ IntKind.u8.bits = b := Nat.mod_eq_of_lt hb
  simp only [Go.bits, BitVec.ofInt_natCast, BitVec.toNat_xor, BitVec.toNat_ofNat, ha', hb']
  exact wraps_u8 _ (Int.natCast_nonneg _) (by have := Nat.xor_lt_two_pow (n := 8) ha hb; exact_mod_cast this)
theorem bit_nat (n r : Nat) : ((n : Int) / 2 ^ r % 2) = if n.testBit r = true then 1 else 0 := by
  have e : ((n : Int) / 2 ^ r % 2) = ((n / 2 ^ r % 2 : Nat) : Int) := by simp
  rw [e, Nat.testBit_eq_decide_div_mod_eq]
  by_cases h : n / 2 ^ r % 2 = 1
  · simp [h]
  · have : n / 2 ^ r % 2 = 0 := by omega
    simp [this]
theorem flip_u8s {b : List Int} (h : u8s b) (j : Nat) : u8s (flip j b) := by
  intro y hy
  unfold flip at hy
  rcases List.mem_or_eq_of_mem_set hy with h1 | h1
  · exact h y h1
  · obtain ⟨n, hn, hlt⟩ := h.get (j / 8)
    have hp : (2 : Int) ^ (j % 8) = ((2 ^ (j % 8) : Nat) : Int) := by simp
    have hp2 : 2 ^ (j % 8) < 2 ^ 8 := Nat.pow_lt_pow_right (by decide) (by omega)
    rw [h1, hn, hp, xor_nat n _ hlt hp2]
    have := Nat.xor_lt_two_pow (n := 8) (x := n) (y := 2 ^ (j % 8)) hlt hp2
    omega
theorem flip_bit {b : List Int} (h : u8s b) (j i : Nat) (hij : i ≠ j) : bitAt (flip j b) i = bitAt b i := by
  unfold bitAt flip
  by_cases hd : i / 8 = j / 8
  · by_cases hl : j / 8 < b.length
    · have e : (b.set (j / 8) (Go.bits .xor .u8 (b.getD (j / 8) 0) (2 ^ (j % 8)))).getD (i / 8) 0 = Go.bits .xor .u8 (b.getD (j / 8) 0) (2 ^ (j % 8)) := by
        rw [hd, List.getD_eq_getElem?_getD, List.getElem?_set_self hl]
        rfl
      obtain ⟨n, hn, hlt⟩ := h.get (j / 8)
      have hp : (2 : Int) ^ (j % 8) = ((2 ^ (j % 8) : Nat) : Int) := by simp
      have hp2 : 2 ^ (j % 8) < 2 ^ 8 := Nat.pow_lt_pow_right (by decide) (by omega)
      rw [e, hd, hn, hp, xor_nat n _ hlt hp2, bit_nat, bit_nat, Nat.testBit_xor, Nat.testBit_two_pow_of_ne (by omega)]
      simp
    · rw [List.set_eq_of_length_le (by omega)]
  · have e : (b.set (j / 8) (Go.bits .xor .u8 (b.getD (j / 8) 0) (2 ^ (j % 8)))).getD (i / 8) 0 = b.getD (i / 8) 0 := by
      rw [List.getD_eq_getElem?_getD, List.getElem?_set_ne (fun h => hd h.symm), ← List.getD_eq_getElem?_getD]
    rw [e]
theorem turnN_u8s {b : List Int} (h : u8s b) (bits : Int) (a : Nat) : ∀ k, u8s (turnN bits a b k)
  | 0 => h
  | k + 1 => by
    unfold turnN
    split
    · exact flip_u8s (turnN_u8s h bits a k) _
    · exact turnN_u8s h bits a k
theorem turnN_bit {b : List Int} (h : u8s b) (bits : Int) (a : Nat) : ∀ k i, (i < a ∨ a + k ≤ i) → bitAt (turnN bits a b k) i = bitAt b i
  | 0, _, _ => rfl
  | k + 1, i, hi => by
    unfold turnN
    split
    · rw [flip_bit (turnN_u8s h bits a k) _ _ (by omega)]
      exact turnN_bit h bits a k i (by omega)
    · exact turnN_bit h bits a k i (by omega)
theorem bt_str {p : List Int} (h : u8s p) (j : Nat) : bt (strOfNums p) (j : Int) = p.getD j 0 := by
  unfold bt
  rw [Int.toNat_natCast, List.getD_eq_getElem?_getD]
  by_cases hj : j < p.length
  · rw [dif_pos (by rw [strOfNums_size]; exact hj), List.getElem?_eq_getElem hj]
    have hy := h _ (List.getElem_mem hj)
    have e : (strOfNums p)[j]'(by rw [strOfNums_size]; exact hj) = UInt8.ofNat (p[j]).toNat := by
      show (strOfNums p).data[j]'_ = _
      simp [strOfNums]
    rw [e, UInt8.toNat_ofNat']
    simp only [Option.getD_some]
    omega
  · rw [dif_neg (by rw [strOfNums_size]; exact hj), List.getElem?_eq_none (by omega)]
    rfl
theorem near_test {p t : List Int} (hp : u8s p) (ht : u8s t) (i : Nat) (h : bitAt p i = bitAt t i) : ¬ Int.tmod (shr .u8 (Go.bits .xor .u8 (p.getD (i / 8) 0) (t.getD (i / 8) 0)) ((i % 8 : Nat) : Int)) 2 = 1 := by
  unfold bitAt at h
  obtain ⟨x, hx, hxl⟩ := hp.get (i / 8)
  obtain ⟨y, hy, hyl⟩ := ht.get (i / 8)
  rw [hx, hy, bit_nat, bit_nat] at h
  rw [hx, hy, xor_nat x y hxl hyl]
  unfold shr
  rw [Int.toNat_natCast, Nat.min_eq_left (by show i % 8 ≤ 8; omega), Int.tmod_eq_emod_of_nonneg (Int.ediv_nonneg (Int.natCast_nonneg _) (Int.le_of_lt (Int.pow_pos (by decide)))), bit_nat, Nat.testBit_xor]
  cases h1 : x.testBit (i % 8) <;> cases h2 : y.testBit (i % 8) <;> simp [h1, h2] at h ⊢
set_option maxHeartbeats 1000000 in
theorem near_l0 {p t : List Int} (hp : u8s p) (ht : u8s t) (hl : t.length = p.length) (hn : p.length ≤ 1000000) (a : Nat) (hag : ∀ i, (i < a ∨ a + 32 ≤ i) → bitAt p i = bitAt t i) :
    ∀ (m i : Nat) (f l : Int), 8 * p.length - i < m → i ≤ 8 * p.length → ((f = -1 ∧ l = -1) ∨ ((a : Int) ≤ f ∧ f ≤ l ∧ l < i ∧ l < a + 32)) → unisonlaw07_near.l0 m (strOfNums p) (strOfNums t) f l (i : Int) = some true
  | 0, i, f, l, h, _, _ => absurd h (Nat.not_lt_zero _)
  | m + 1, i, f, l, h, hi, hinv => by
    have s1 : (strOfNums p).size = p.length := strOfNums_size p
    have s2 : (strOfNums t).size = p.length := (strOfNums_size t).trans hl
    have E0 : Aside0 (wrap64 (8 * (p.length : Int)) = 8 * p.length) := ⟨w64 (by omega) (by omega)⟩
    have E1 : Aside0 (wrap64 (Int.tdiv (i : Int) 8) = ((i / 8 : Nat) : Int)) := ⟨by
      rw [Int.tdiv_eq_ediv_of_nonneg (by omega), show (i : Int) / 8 = ((i / 8 : Nat) : Int) by simp]
      exact w64 (by omega) (by omega)⟩
    have E2 : Aside0 (Int.tmod (i : Int) 8 = ((i % 8 : Nat) : Int)) := ⟨by
      rw [Int.tmod_eq_emod_of_nonneg (by omega)]
      simp⟩
    have E3 : Aside0 (wrap64 ((i : Int) + 1) = ((i + 1 : Nat) : Int)) := ⟨by rw [w64 (by omega) (by omega)]; simp⟩
    unfold unisonlaw07_near.l0
    rw [s1, s2, E0.out, E1.out, E2.out, E3.out]
    clear E0 E1 E2 E3 s1 s2
    by_cases hlt : i < 8 * p.length
    · rw [if_pos (by omega), if_pos (by omega), if_pos (by omega), if_pos (by omega), if_pos (by omega), bt_str hp, bt_str ht]
      split
      · have hin : a ≤ i ∧ i < a + 32 := by
          apply Classical.byContradiction
          intro hc
          exact near_test hp ht i (hag i (by omega)) ‹_›
        split
        · exact near_l0 hp ht hl hn a hag m (i + 1) i i (by omega) (by omega) (Or.inr (by omega))
        · exact near_l0 hp ht hl hn a hag m (i + 1) f i (by omega) (by omega) (Or.inr (by omega))
      · exact near_l0 hp ht hl hn a hag m (i + 1) f l (by omega) (by omega) (by omega)
    · have hw : Aside0 (wrap64 (l - f) = l - f) := ⟨w64 (by omega) (by omega)⟩
      rw [if_neg (by omega), hw.out]
      congr 1
      exact decide_eq_true (by omega)
/-- Bytes that differ within 32 bits are near. -/
theorem near_of {p t : List Int} (hp : u8s p) (ht : u8s t) (hl : t.length = p.length) (hn : p.length ≤ 1000000) (a : Nat) (hag : ∀ i, (i < a ∨ a + 32 ≤ i) → bitAt p i = bitAt t i) : unisonlaw07_near.f (8 * p.length + 1) (strOfNums p) (strOfNums t) = some true :=
  near_l0 hp ht hl hn a hag (8 * p.length + 1) 0 (-1) (-1) (by omega) (by omega) (Or.inl ⟨rfl, rfl⟩)
/-- A thing that came out of what was put in. -/
def cameOf (p : List Int) (x : Th) : Prop := x.f0.length = p.length ∧ (x.f1 = false → x.f0 = p) ∧ ∃ (a : Nat) (bits : Int), x.f0 = p ∨ x.f0 = turnN bits a p 32
theorem cameOf.near {p : List Int} {x : Th} (h : cameOf p x) (hp : u8s p) (hn : p.length ≤ 1000000) : unisonlaw07_near.f (8 * p.length + 1) (strOfNums p) (strOfNums x.f0) = some true := by
  obtain ⟨hl, _, a, bits, h | h⟩ := h
  · rw [h]
    exact near_of hp hp rfl hn a (fun _ _ => rfl)
  · rw [h]
    exact near_of hp (turnN_u8s hp bits a 32) (turnN_length bits a p 32) hn a (fun i hi => (turnN_bit hp bits a 32 i hi).symm)

end Go.Proofs.Ytemgfogpeogdeaa.Walk
