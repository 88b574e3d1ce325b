/- How many chunks any payload has by any size, and how many bytes each has, are what the reference tells. Conditions: none beyond the statement's own. -/
import Derived.Test.YthgpocefiaklkaaF4
namespace Go.Proofs.Ythgpocefiaklkaa.Pure
open Go.RowKit Go.Proofs.Ythgpocefiaklkaa.F Go.Proofs.YthgpocefiaklkaaW.PrintWords Go.Proofs.YthgpocefiaklkaaW.PrintLast Go.Proofs.YthgpocefiaklkaaW.PrintMore

theorem w64 {x : Int} (h0 : -9223372036854775808 ≤ x) (h1 : x ≤ 9223372036854775807) : wrap64 x = x := by unfold wrap64; omega
theorem wf_i64 {x : Int} (h : (Lit.int .i64 x).wf = true) : -9223372036854775808 ≤ x ∧ x ≤ 9223372036854775807 := by
  simp [Lit.wf, IntKind.min, IntKind.max, IntKind.signed, IntKind.bits] at h
  omega
theorem within_eq (n a b : Int) : chunk_within.f n a b = some (decide (a ≤ n ∧ n ≤ b)) := by
  unfold chunk_within.f
  by_cases h : n ≥ a <;> simp [h] <;> omega

/-- How many chunks, where there are any. -/
def c (size chunk : Int) : Int := if size ≤ chunk then 1 else (size + chunk - 1) / chunk
theorem c_step {size chunk : Int} (hc : 1 ≤ chunk) (h : chunk < size) : c size chunk = c (size - chunk) chunk + 1 := by
  unfold c
  rw [if_neg (by omega)]
  have e : (size + chunk - 1) / chunk = (size - chunk + chunk - 1) / chunk + 1 := by
    rw [show size + chunk - 1 = (size - chunk + chunk - 1) + chunk * 1 by omega, Int.add_mul_ediv_left _ _ (by omega)]
  rw [e]
  split
  · rename_i h2
    have : (size - chunk + chunk - 1) / chunk = 1 := by
      rw [show size - chunk + chunk - 1 = (size - chunk - 1) + chunk * 1 by omega, Int.add_mul_ediv_left _ _ (by omega), Int.ediv_eq_zero_of_lt (by omega) (by omega)]
      rfl
    omega
  · rfl
theorem c_pos {size chunk : Int} (hc : 1 ≤ chunk) (h : 0 ≤ size) : 1 ≤ c size chunk := by
  unfold c
  split
  · omega
  · exact Int.le_ediv_of_mul_le (by omega) (by omega)
theorem c_spec {chunk : Int} (hc : 1 ≤ chunk) : ∀ (d : Nat) (size : Int), 0 ≤ size → size.toNat ≤ d → size ≤ c size chunk * chunk ∧ (2 ≤ c size chunk → (c size chunk - 1) * chunk < size) ∧ (c size chunk ≤ size ∨ c size chunk = 1) := by
  intro d
  induction d with
  | zero =>
    intro size h0 hd
    have e : c size chunk = 1 := by unfold c; rw [if_pos (by omega)]
    rw [e]; exact ⟨by omega, by omega, by omega⟩
  | succ d ih =>
    intro size h0 hd
    by_cases h : size ≤ chunk
    · have e : c size chunk = 1 := by unfold c; rw [if_pos h]
      rw [e]; exact ⟨by omega, by omega, by omega⟩
    · obtain ⟨h1, h2, h3⟩ := ih (size - chunk) (by omega) (by omega)
      have e := c_step hc (show chunk < size by omega)
      have hp := c_pos hc (show 0 ≤ size - chunk by omega)
      rw [e]
      have e2 : (c (size - chunk) chunk + 1) * chunk = c (size - chunk) chunk * chunk + chunk := by rw [Int.add_mul]; omega
      have e3 : (c (size - chunk) chunk + 1 - 1) * chunk = (c (size - chunk) chunk - 1) * chunk + chunk := by rw [show c (size - chunk) chunk + 1 - 1 = (c (size - chunk) chunk - 1) + 1 by omega, Int.add_mul]; omega
      refine ⟨by omega, fun _ => ?_, by omega⟩
      rw [e3]
      by_cases hq : 2 ≤ c (size - chunk) chunk
      · have := h2 hq; omega
      · have hq1 : c (size - chunk) chunk = 1 := by omega
        rw [hq1]; omega

def okC (size chunk : Int) : Prop := (0 ≤ size ∧ size ≤ 1048576) ∧ 1 ≤ chunk ∧ chunk ≤ 65536
instance (size chunk : Int) : Decidable (okC size chunk) := inferInstanceAs (Decidable (_ ∧ _))
def cnt (size chunk : Int) : Int := if okC size chunk then c size chunk else 0

theorem mx_c {size chunk : Int} (hc : 1 ≤ chunk) : mx 1 ((size + chunk - 1) / chunk) = c size chunk := by
  unfold mx c
  by_cases h : size ≤ chunk
  · rw [if_pos h]
    have h1 : (size + chunk - 1) / chunk < 2 := Int.ediv_lt_of_lt_mul (by omega) (by omega)
    split <;> omega
  · rw [if_neg h]
    have h1 : 1 ≤ (size + chunk - 1) / chunk := Int.le_ediv_of_mul_le (by omega) (by omega)
    split <;> omega

theorem count_eq (size chunk : Int) : chunk_Count.f size chunk = some (cnt size chunk) := by
  unfold chunk_Count.f cnt
  rw [within_eq, within_eq]
  simp only [Option.bind_some, decide_eq_true_eq]
  by_cases h1 : 0 ≤ size ∧ size ≤ 1048576
  · by_cases h2 : 1 ≤ chunk ∧ chunk ≤ 65536
    · rw [if_pos h1, if_pos h2, if_neg (by omega), if_pos (show okC size chunk from ⟨h1, h2⟩), w64 (x := size + chunk) (by omega) (by omega), w64 (x := size + chunk - 1) (by omega) (by omega), Int.tdiv_eq_ediv_of_nonneg (by omega)]
      have h3 : 0 ≤ (size + chunk - 1) / chunk := Int.ediv_nonneg (by omega) (by omega)
      have h4 : (size + chunk - 1) / chunk ≤ size + chunk - 1 := Int.ediv_le_self _ (by omega)
      rw [w64 (by omega) (by omega), mx_c h2.1]
    · rw [if_pos h1, if_neg h2, if_neg (fun h : okC size chunk => h2 h.2)]
  · rw [if_neg h1, if_neg (fun h : okC size chunk => h1 h.1)]

theorem cnt_bound (size chunk : Int) : 0 ≤ cnt size chunk ∧ cnt size chunk ≤ 1048576 := by
  unfold cnt
  split
  · rename_i h
    obtain ⟨h1, h2⟩ := h
    have := c_pos h2.1 h1.1
    have := (c_spec h2.1 size.toNat size h1.1 (Nat.le_refl _)).2.2
    omega
  · omega

def len (size chunk at_ : Int) : Int := if 0 ≤ at_ ∧ at_ < cnt size chunk then (if at_ < cnt size chunk - 1 then chunk else size - chunk * (cnt size chunk - 1)) else 0

theorem mn_len {size chunk at_ : Int} (h : okC size chunk) (h0 : 0 ≤ at_) (h1 : at_ < cnt size chunk) :
    mn chunk (size - at_ * chunk) = (if at_ < cnt size chunk - 1 then chunk else size - chunk * (cnt size chunk - 1)) ∧ 0 ≤ at_ * chunk ∧ at_ * chunk ≤ size ∧ 0 ≤ mn chunk (size - at_ * chunk) ∧ at_ * chunk + mn chunk (size - at_ * chunk) ≤ size := by
  have e : cnt size chunk = c size chunk := by unfold cnt; rw [if_pos h]
  rw [e] at h1 ⊢
  obtain ⟨hs, hc⟩ := h
  obtain ⟨s1, s2, _⟩ := c_spec hc.1 size.toNat size hs.1 (Nat.le_refl _)
  have hm0 : 0 ≤ at_ * chunk := Int.mul_nonneg h0 (by omega)
  by_cases hlast : at_ < c size chunk - 1
  · rw [if_pos hlast]
    have h2 := s2 (by omega)
    have hm : (at_ + 1) * chunk ≤ (c size chunk - 1) * chunk := Int.mul_le_mul_of_nonneg_right (by omega) (by omega)
    rw [Int.add_mul] at hm
    unfold mn
    rw [if_neg (by omega)]
    omega
  · rw [if_neg hlast]
    obtain rfl : at_ = c size chunk - 1 := by omega
    have e4 : c size chunk * chunk = (c size chunk - 1) * chunk + chunk := by
      have : c size chunk * chunk = (c size chunk - 1 + 1) * chunk := by congr 1; omega
      rw [this, Int.add_mul]; omega
    have h5 : (c size chunk - 1) * chunk ≤ size := by
      by_cases h6 : 2 ≤ c size chunk
      · have := s2 h6; omega
      · have : c size chunk = 1 := by omega
        rw [this]; omega
    rw [Int.mul_comm chunk]
    unfold mn
    split <;> omega

theorem length_eq (size chunk at_ : Int) : chunk_Length.f size chunk at_ = some (len size chunk at_) := by
  unfold chunk_Length.f len
  have hb := cnt_bound size chunk
  rw [count_eq]
  simp only [Option.bind_some]
  rw [w64 (by omega) (by omega), within_eq]
  simp only [Option.bind_some, decide_eq_true_eq]
  by_cases h : 0 ≤ at_ ∧ at_ ≤ cnt size chunk - 1
  · have hk : okC size chunk := by
      by_cases hk : okC size chunk
      · exact hk
      · have : cnt size chunk = 0 := by unfold cnt; rw [if_neg hk]
        omega
    obtain ⟨m1, m2, m3, _⟩ := mn_len hk h.1 (by omega)
    obtain ⟨hs, hc⟩ := hk
    rw [if_pos h, if_pos (by omega), w64 (x := at_ * chunk) (by omega) (by omega), w64 (x := size - at_ * chunk) (by omega) (by omega), m1]
  · rw [if_neg h, if_neg (by omega)]

theorem awake_eq : unisonlaw12_awake.f = some true := by
  unfold unisonlaw12_awake.f
  rw [count_eq, length_eq, length_eq, count_eq]
  decide

theorem refcount_loop (chunk : Int) (hc : 1 ≤ chunk) (hc2 : chunk ≤ 65536) : ∀ (d k : Nat) (size n : Int), 0 ≤ size → size.toNat ≤ d → size ≤ 1048576 → 0 ≤ n → n + size ≤ 2000000 → d < k →
    unisonref12_Count.l0 k size chunk n = some (n + c size chunk - 1) := by
  intro d
  induction d with
  | zero =>
    intro k size n h0 hd hs hn hns hk
    obtain ⟨k, rfl⟩ : ∃ m, k = m + 1 := ⟨k - 1, by omega⟩
    simp only [unisonref12_Count.l0]
    rw [if_neg (by omega)]
    unfold c
    rw [if_pos (by omega)]
    congr 1; omega
  | succ d ih =>
    intro k size n h0 hd hs hn hns hk
    obtain ⟨k, rfl⟩ : ∃ m, k = m + 1 := ⟨k - 1, by omega⟩
    simp only [unisonref12_Count.l0]
    by_cases h : size > chunk
    · rw [if_pos h, w64 (x := size - chunk) (by omega) (by omega), w64 (x := n + 1) (by omega) (by omega), ih k (size - chunk) (n + 1) (by omega) (by omega) (by omega) (by omega) (by omega) (by omega), c_step (size := size) hc (by omega)]
      congr 1; omega
    · rw [if_neg h]
      unfold c
      rw [if_pos (by omega)]
      congr 1; omega

theorem refcount_eq (size chunk : Int) (k : Nat) (hs : size ≤ 5000 ∨ 1048576 < size) (hk : 5010 ≤ k) : unisonref12_Count.f k size chunk = some (cnt size chunk) := by
  obtain ⟨k, rfl⟩ : ∃ m, k = m + 1 := ⟨k - 1, by omega⟩
  unfold unisonref12_Count.f cnt
  by_cases h1 : size < 0
  · rw [if_pos h1, if_neg (fun h => by have := h.1; omega)]
    simp [unisonref12_Count.j0]
  · rw [if_neg h1]
    by_cases h2 : size > 1048576
    · rw [if_pos h2, if_neg (fun h => by have := h.1; omega)]
      simp [unisonref12_Count.j0]
    · rw [if_neg h2]
      by_cases h3 : chunk < 1
      · rw [if_pos h3, if_neg (fun h => by have := h.2; omega)]
        simp [unisonref12_Count.j0]
      · rw [if_neg h3]
        by_cases h4 : chunk > 65536
        · rw [if_neg (fun h => by have := h.2; omega)]
          simp [unisonref12_Count.j0, h4]
        · have h5 : decide (chunk > 65536) = false := by simp; omega
          rw [if_pos ⟨⟨by omega, by omega⟩, by omega, by omega⟩, h5]
          simp only [unisonref12_Count.j0, Bool.false_eq_true, if_false]
          rw [refcount_loop chunk (by omega) (by omega) 5000 k size 1 (by omega) (by omega) (by omega) (by omega) (by omega) (by omega)]
          congr 1; omega

theorem reflength_eq (size chunk at_ : Int) (k : Nat) (hs : size ≤ 5000 ∨ 1048576 < size) (hk : 5010 ≤ k) : unisonref12_Length.f k size chunk at_ = some (len size chunk at_) := by
  obtain ⟨k, rfl⟩ : ∃ m, k = m + 1 := ⟨k - 1, by omega⟩
  have hb := cnt_bound size chunk
  unfold unisonref12_Length.f len
  rw [refcount_eq size chunk (k + 1) hs hk]
  simp only [Option.bind_some]
  by_cases h1 : at_ < 0
  · rw [if_pos h1, if_neg (by omega)]
    simp [unisonref12_Length.j0]
  · rw [if_neg h1]
    by_cases h2 : at_ ≥ cnt size chunk
    · rw [if_neg (by omega)]
      simp [unisonref12_Length.j0, h2]
    · have h3 : decide (at_ ≥ cnt size chunk) = false := by simp; omega
      rw [if_pos ⟨by omega, by omega⟩, h3]
      simp only [unisonref12_Length.j0, Bool.false_eq_true, if_false]
      rw [w64 (x := cnt size chunk - 1) (by omega) (by omega)]
      split
      · rfl
      · have hk2 : okC size chunk := by
          by_cases hk : okC size chunk
          · exact hk
          · have : cnt size chunk = 0 := by unfold cnt; rw [if_neg hk]
            omega
        obtain ⟨m1, m2, m3, _⟩ := mn_len (at_ := cnt size chunk - 1) hk2 (by omega) (by omega)
        obtain ⟨hs, hc⟩ := hk2
        rw [Int.mul_comm chunk, w64 (x := (cnt size chunk - 1) * chunk) (by omega) (by omega), w64 (by omega) (by omega)]

theorem ChunkCounts : unisonlaw12_ChunkCounts.Pure := by
  intro a0 a1 a2 w0 w1 w2
  obtain ⟨K, hK⟩ : ∃ K : Nat, 6000 ≤ K := ⟨6000, Nat.le_refl _⟩
  refine ⟨K + 1, ?_⟩
  have next : (a0 ≤ 5000 ∨ 1048576 < a0) → unisonlaw12_ChunkCounts.j0 (K + 1) a0 a1 a2 false = some true := by
    intro h
    simp only [unisonlaw12_ChunkCounts.j0, Bool.false_eq_true, if_false]
    rw [count_eq, refcount_eq a0 a1 K h (by omega)]
    simp only [Option.bind_some, if_true]
    rw [length_eq, reflength_eq a0 a1 a2 K h (by omega), awake_eq]
    simp
  unfold unisonlaw12_ChunkCounts.f
  by_cases h : a0 > 5000
  · rw [if_pos h]
    by_cases h2 : a0 ≤ 1048576
    · simp only [h2, decide_true, unisonlaw12_ChunkCounts.j0, if_true]
      rw [awake_eq]; rfl
    · simp only [h2, decide_false]
      exact next (by omega)
  · rw [if_neg h]
    exact next (by omega)

end Go.Proofs.Ythgpocefiaklkaa.Pure
