/- Whether any frame's chunk can be one is what the reference tells. Conditions: none beyond the statement's own. -/
import Derived.Test.YthgpocefiaklkaaF7
import Derived.Test.YthgpocefiaklkaaArgs
namespace Go.Proofs.Ythgpocefiaklkaa.Pure
open Go.RowKit Go.Proofs.Ythgpocefiaklkaa.F Go.Proofs.YthgpocefiaklkaaW.PrintWords Go.Proofs.YthgpocefiaklkaaW.PrintLast Go.Proofs.YthgpocefiaklkaaW.PrintMore Go.Proofs.Ythgpocefiaklkaa.Open

theorem w64 {x : Int} (h0 : -9223372036854775808 ≤ x) (h1 : x ≤ 9223372036854775807) : wrap64 x = x := by unfold wrap64; omega
theorem wf_i64 {x : Int} (h : (Lit.int .i64 x).wf = true) : -9223372036854775808 ≤ x ∧ x ≤ 9223372036854775807 := by
  simp [Lit.wf, IntKind.min, IntKind.max, IntKind.signed, IntKind.bits] at h
  omega
theorem within_eq (n a b : Int) : chunk_within.f n a b = some (decide (a ≤ n ∧ n ≤ b)) := by
  unfold chunk_within.f
  by_cases h : n ≥ a <;> simp [h] <;> omega

/-- How many chunks, where there are any. -/
def c (size chunk : Int) : Int := if size ≤ chunk then 1 else (size + chunk - 1) / chunk
theorem c_step {size chunk : Int} (hc : 1 ≤ chunk) (h : chunk < size) : c size chunk = c (size - chunk) chunk + 1 := by
  unfold c
  rw [if_neg (by omega)]
  have e : (size + chunk - 1) / chunk = (size - chunk + chunk - 1) / chunk + 1 := by
    rw [show size + chunk - 1 = (size - chunk + chunk - 1) + chunk * 1 by omega, Int.add_mul_ediv_left _ _ (by omega)]
  rw [e]
  split
  · rename_i h2
    have : (size - chunk + chunk - 1) / chunk = 1 := by
      rw [show size - chunk + chunk - 1 = (size - chunk - 1) + chunk * 1 by omega, Int.add_mul_ediv_left _ _ (by omega), Int.ediv_eq_zero_of_lt (by omega) (by omega)]
      rfl
    omega
  · rfl
theorem c_pos {size chunk : Int} (hc : 1 ≤ chunk) (h : 0 ≤ size) : 1 ≤ c size chunk := by
  unfold c
  split
  · omega
  · exact Int.le_ediv_of_mul_le (by omega) (by omega)
theorem c_spec {chunk : Int} (hc : 1 ≤ chunk) : ∀ (d : Nat) (size : Int), 0 ≤ size → size.toNat ≤ d → size ≤ c size chunk * chunk ∧ (2 ≤ c size chunk → (c size chunk - 1) * chunk < size) ∧ (c size chunk ≤ size ∨ c size chunk = 1) := by
  intro d
  induction d with
  | zero =>
    intro size h0 hd
    have e : c size chunk = 1 := by unfold c; rw [if_pos (by omega)]
    rw [e]; exact ⟨by omega, by omega, by omega⟩
  | succ d ih =>
    intro size h0 hd
    by_cases h : size ≤ chunk
    · have e : c size chunk = 1 := by unfold c; rw [if_pos h]
      rw [e]; exact ⟨by omega, by omega, by omega⟩
    · obtain ⟨h1, h2, h3⟩ := ih (size - chunk) (by omega) (by omega)
      have e := c_step hc (show chunk < size by omega)
      have hp := c_pos hc (show 0 ≤ size - chunk by omega)
      rw [e]
      have e2 : (c (size - chunk) chunk + 1) * chunk = c (size - chunk) chunk * chunk + chunk := by rw [Int.add_mul]; omega
      have e3 : (c (size - chunk) chunk + 1 - 1) * chunk = (c (size - chunk) chunk - 1) * chunk + chunk := by rw [show c (size - chunk) chunk + 1 - 1 = (c (size - chunk) chunk - 1) + 1 by omega, Int.add_mul]; omega
      refine ⟨by omega, fun _ => ?_, by omega⟩
      rw [e3]
      by_cases hq : 2 ≤ c (size - chunk) chunk
      · have := h2 hq; omega
      · have hq1 : c (size - chunk) chunk = 1 := by omega
        rw [hq1]; omega

def okC (size chunk : Int) : Prop := (0 ≤ size ∧ size ≤ 1048576) ∧ 1 ≤ chunk ∧ chunk ≤ 65536
instance (size chunk : Int) : Decidable (okC size chunk) := inferInstanceAs (Decidable (_ ∧ _))
def cnt (size chunk : Int) : Int := if okC size chunk then c size chunk else 0

theorem mx_c {size chunk : Int} (hc : 1 ≤ chunk) : mx 1 ((size + chunk - 1) / chunk) = c size chunk := by
  unfold mx c
  by_cases h : size ≤ chunk
  · rw [if_pos h]
    have h1 : (size + chunk - 1) / chunk < 2 := Int.ediv_lt_of_lt_mul (by omega) (by omega)
    split <;> omega
  · rw [if_neg h]
    have h1 : 1 ≤ (size + chunk - 1) / chunk := Int.le_ediv_of_mul_le (by omega) (by omega)
    split <;> omega

theorem count_eq (size chunk : Int) : chunk_Count.f size chunk = some (cnt size chunk) := by
  unfold chunk_Count.f cnt
  rw [within_eq, within_eq]
  simp only [Option.bind_some, decide_eq_true_eq]
  by_cases h1 : 0 ≤ size ∧ size ≤ 1048576
  · by_cases h2 : 1 ≤ chunk ∧ chunk ≤ 65536
    · rw [if_pos h1, if_pos h2, if_neg (by omega), if_pos (show okC size chunk from ⟨h1, h2⟩), w64 (x := size + chunk) (by omega) (by omega), w64 (x := size + chunk - 1) (by omega) (by omega), Int.tdiv_eq_ediv_of_nonneg (by omega)]
      have h3 : 0 ≤ (size + chunk - 1) / chunk := Int.ediv_nonneg (by omega) (by omega)
      have h4 : (size + chunk - 1) / chunk ≤ size + chunk - 1 := Int.ediv_le_self _ (by omega)
      rw [w64 (by omega) (by omega), mx_c h2.1]
    · rw [if_pos h1, if_neg h2, if_neg (fun h : okC size chunk => h2 h.2)]
  · rw [if_neg h1, if_neg (fun h : okC size chunk => h1 h.1)]

theorem cnt_bound (size chunk : Int) : 0 ≤ cnt size chunk ∧ cnt size chunk ≤ 1048576 := by
  unfold cnt
  split
  · rename_i h
    obtain ⟨h1, h2⟩ := h
    have := c_pos h2.1 h1.1
    have := (c_spec h2.1 size.toNat size h1.1 (Nat.le_refl _)).2.2
    omega
  · omega

def len (size chunk at_ : Int) : Int := if 0 ≤ at_ ∧ at_ < cnt size chunk then (if at_ < cnt size chunk - 1 then chunk else size - chunk * (cnt size chunk - 1)) else 0

theorem mn_len {size chunk at_ : Int} (h : okC size chunk) (h0 : 0 ≤ at_) (h1 : at_ < cnt size chunk) :
    mn chunk (size - at_ * chunk) = (if at_ < cnt size chunk - 1 then chunk else size - chunk * (cnt size chunk - 1)) ∧ 0 ≤ at_ * chunk ∧ at_ * chunk ≤ size ∧ 0 ≤ mn chunk (size - at_ * chunk) ∧ at_ * chunk + mn chunk (size - at_ * chunk) ≤ size := by
  have e : cnt size chunk = c size chunk := by unfold cnt; rw [if_pos h]
  rw [e] at h1 ⊢
  obtain ⟨hs, hc⟩ := h
  obtain ⟨s1, s2, _⟩ := c_spec hc.1 size.toNat size hs.1 (Nat.le_refl _)
  have hm0 : 0 ≤ at_ * chunk := Int.mul_nonneg h0 (by omega)
  by_cases hlast : at_ < c size chunk - 1
  · rw [if_pos hlast]
    have h2 := s2 (by omega)
    have hm : (at_ + 1) * chunk ≤ (c size chunk - 1) * chunk := Int.mul_le_mul_of_nonneg_right (by omega) (by omega)
    rw [Int.add_mul] at hm
    unfold mn
    rw [if_neg (by omega)]
    omega
  · rw [if_neg hlast]
    obtain rfl : at_ = c size chunk - 1 := by omega
    have e4 : c size chunk * chunk = (c size chunk - 1) * chunk + chunk := by
      have : c size chunk * chunk = (c size chunk - 1 + 1) * chunk := by congr 1; omega
      rw [this, Int.add_mul]; omega
    have h5 : (c size chunk - 1) * chunk ≤ size := by
      by_cases h6 : 2 ≤ c size chunk
      · have := s2 h6; omega
      · have : c size chunk = 1 := by omega
        rw [this]; omega
    rw [Int.mul_comm chunk]
    unfold mn
    split <;> omega

theorem length_eq (size chunk at_ : Int) : chunk_Length.f size chunk at_ = some (len size chunk at_) := by
  unfold chunk_Length.f len
  have hb := cnt_bound size chunk
  rw [count_eq]
  simp only [Option.bind_some]
  rw [w64 (by omega) (by omega), within_eq]
  simp only [Option.bind_some, decide_eq_true_eq]
  by_cases h : 0 ≤ at_ ∧ at_ ≤ cnt size chunk - 1
  · have hk : okC size chunk := by
      by_cases hk : okC size chunk
      · exact hk
      · have : cnt size chunk = 0 := by unfold cnt; rw [if_neg hk]
        omega
    obtain ⟨m1, m2, m3, _⟩ := mn_len hk h.1 (by omega)
    obtain ⟨hs, hc⟩ := hk
    rw [if_pos h, if_pos (by omega), w64 (x := at_ * chunk) (by omega) (by omega), w64 (x := size - at_ * chunk) (by omega) (by omega), m1]
  · rw [if_neg h, if_neg (by omega)]

theorem awake_eq : unisonlaw12_awake.f = some true := by
  unfold unisonlaw12_awake.f
  rw [count_eq, length_eq, length_eq, count_eq]
  decide

theorem refcount_loop (chunk : Int) (hc : 1 ≤ chunk) (hc2 : chunk ≤ 65536) : ∀ (d k : Nat) (size n : Int), 0 ≤ size → size.toNat ≤ d → size ≤ 1048576 → 0 ≤ n → n + size ≤ 2000000 → d < k →
    unisonref12_Count.l0 k size chunk n = some (n + c size chunk - 1) := by
  intro d
  induction d with
  | zero =>
    intro k size n h0 hd hs hn hns hk
    obtain ⟨k, rfl⟩ : ∃ m, k = m + 1 := ⟨k - 1, by omega⟩
    simp only [unisonref12_Count.l0]
    rw [if_neg (by omega)]
    unfold c
    rw [if_pos (by omega)]
    congr 1; omega
  | succ d ih =>
    intro k size n h0 hd hs hn hns hk
    obtain ⟨k, rfl⟩ : ∃ m, k = m + 1 := ⟨k - 1, by omega⟩
    simp only [unisonref12_Count.l0]
    by_cases h : size > chunk
    · rw [if_pos h, w64 (x := size - chunk) (by omega) (by omega), w64 (x := n + 1) (by omega) (by omega), ih k (size - chunk) (n + 1) (by omega) (by omega) (by omega) (by omega) (by omega) (by omega), c_step (size := size) hc (by omega)]
      congr 1; omega
    · rw [if_neg h]
      unfold c
      rw [if_pos (by omega)]
      congr 1; omega

theorem refcount_eq (size chunk : Int) (k : Nat) (hs : size ≤ 5000 ∨ 1048576 < size) (hk : 5010 ≤ k) : unisonref12_Count.f k size chunk = some (cnt size chunk) := by
  obtain ⟨k, rfl⟩ : ∃ m, k = m + 1 := ⟨k - 1, by omega⟩
  unfold unisonref12_Count.f cnt
  by_cases h1 : size < 0
  · rw [if_pos h1, if_neg (fun h => by have := h.1; omega)]
    simp [unisonref12_Count.j0]
  · rw [if_neg h1]
    by_cases h2 : size > 1048576
    · rw [if_pos h2, if_neg (fun h => by have := h.1; omega)]
      simp [unisonref12_Count.j0]
    · rw [if_neg h2]
      by_cases h3 : chunk < 1
      · rw [if_pos h3, if_neg (fun h => by have := h.2; omega)]
        simp [unisonref12_Count.j0]
      · rw [if_neg h3]
        by_cases h4 : chunk > 65536
        · rw [if_neg (fun h => by have := h.2; omega)]
          simp [unisonref12_Count.j0, h4]
        · have h5 : decide (chunk > 65536) = false := by simp; omega
          rw [if_pos ⟨⟨by omega, by omega⟩, by omega, by omega⟩, h5]
          simp only [unisonref12_Count.j0, Bool.false_eq_true, if_false]
          rw [refcount_loop chunk (by omega) (by omega) 5000 k size 1 (by omega) (by omega) (by omega) (by omega) (by omega) (by omega)]
          congr 1; omega

theorem reflength_eq (size chunk at_ : Int) (k : Nat) (hs : size ≤ 5000 ∨ 1048576 < size) (hk : 5010 ≤ k) : unisonref12_Length.f k size chunk at_ = some (len size chunk at_) := by
  obtain ⟨k, rfl⟩ : ∃ m, k = m + 1 := ⟨k - 1, by omega⟩
  have hb := cnt_bound size chunk
  unfold unisonref12_Length.f len
  rw [refcount_eq size chunk (k + 1) hs hk]
  simp only [Option.bind_some]
  by_cases h1 : at_ < 0
  · rw [if_pos h1, if_neg (by omega)]
    simp [unisonref12_Length.j0]
  · rw [if_neg h1]
    by_cases h2 : at_ ≥ cnt size chunk
    · rw [if_neg (by omega)]
      simp [unisonref12_Length.j0, h2]
    · have h3 : decide (at_ ≥ cnt size chunk) = false := by simp; omega
      rw [if_pos ⟨by omega, by omega⟩, h3]
      simp only [unisonref12_Length.j0, Bool.false_eq_true, if_false]
      rw [w64 (x := cnt size chunk - 1) (by omega) (by omega)]
      split
      · rfl
      · have hk2 : okC size chunk := by
          by_cases hk : okC size chunk
          · exact hk
          · have : cnt size chunk = 0 := by unfold cnt; rw [if_neg hk]
            omega
        obtain ⟨m1, m2, m3, _⟩ := mn_len (at_ := cnt size chunk - 1) hk2 (by omega) (by omega)
        obtain ⟨hs, hc⟩ := hk2
        rw [Int.mul_comm chunk, w64 (x := (cnt size chunk - 1) * chunk) (by omega) (by omega), w64 (by omega) (by omega)]

theorem wf_u32 {x : Int} (h : (Lit.int .u32 x).wf = true) : 0 ≤ x ∧ x ≤ 4294967295 := by
  simp [Lit.wf, IntKind.min, IntKind.max, IntKind.signed, IntKind.bits] at h
  omega

theorem ChunkRight (x : S36) (by_ most : Int) (w0 : wf36 x) (_w1 : (Lit.int .i64 by_).wf = true) (_w2 : (Lit.int .i64 most).wf = true) :
    ∃ k, unisonlaw12_ChunkRight.f k x.f0.f0 x.f0.f1 x.f0.f2 x.f1.f0 x.f1.f1 x.f2 x.f3 x.f4 x.f5 x.f6 x.f7 x.f8 x.f9 x.f10 x.f11 x.f12 by_ most = some true := by
  obtain ⟨_, _, _, w3, w4, w5, _⟩ := w0
  have u3 := wf_u32 w3
  have u4 := wf_u32 w4
  have u5 := wf_u32 w5
  generalize x.f0.f0 = b0, x.f0.f1 = b1, x.f0.f2 = b2, x.f1.f0 = b3, x.f1.f1 = b4, x.f2 = b5, x.f3 = at_ at *
  generalize x.f4 = of_, x.f5 = size, x.f6 = b9, x.f7 = b10, x.f8 = e1, x.f9 = e2, x.f10 = e3, x.f11 = e4, x.f12 = data at *
  obtain ⟨K, hK⟩ : ∃ K : Nat, 6000 ≤ K := ⟨6000, Nat.le_refl _⟩
  refine ⟨K + 1, ?_⟩
  have haw : unisonlaw12_ChunkRight.j0 (K + 1) by_ most true b0 b1 b2 b3 b4 b5 at_ of_ size b9 b10 e1 e2 e3 e4 data = some true := by
    simp only [unisonlaw12_ChunkRight.j0, if_true]
    rw [awake_eq]; rfl
  have next : (size ≤ 5000 ∨ 1048576 < size) → unisonlaw12_ChunkRight.j0 (K + 1) by_ most false b0 b1 b2 b3 b4 b5 at_ of_ size b9 b10 e1 e2 e3 e4 data = some true := by
    intro h
    have hb := cnt_bound size by_
    have hr : ∃ r, chunk_Right.f b0 b1 b2 b3 b4 b5 at_ of_ size b9 b10 e1 e2 e3 e4 data by_ most = some r ∧ unisonref12_Right.f K b0 b1 b2 b3 b4 b5 at_ of_ size b9 b10 e1 e2 e3 e4 data by_ most = some r := by
      unfold chunk_Right.f unisonref12_Right.f
      rw [w64 (x := size) (by omega) (by omega), w64 (x := of_) (by omega) (by omega), w64 (x := at_) (by omega) (by omega), count_eq, refcount_eq size by_ K h (by omega)]
      simp only [Option.bind_some]
      have hmod : cnt size by_ % 4294967296 = cnt size by_ := Int.emod_eq_of_lt (by omega) (by omega)
      rw [hmod]
      by_cases c1 : size ≤ most
      · have c1' : ¬ size > most := by omega
        simp only [c1, c1', if_true, if_false]
        by_cases c3 : of_ = cnt size by_
        · subst c3
          simp only [if_true]
          by_cases c4 : at_ < cnt size by_
          · have c4' : ¬ at_ ≥ cnt size by_ := by omega
            have c5 : cnt size by_ > 0 := by omega
            simp only [c4, c4', c5, if_true, if_false]
            rw [length_eq, reflength_eq size by_ at_ K h (by omega)]
            exact ⟨_, rfl, rfl⟩
          · have c4' : at_ ≥ cnt size by_ := by omega
            simp only [c4, c4', if_true, if_false, ite_self]
            exact ⟨_, rfl, rfl⟩
        · simp only [c3, if_false, ite_self]
          exact ⟨_, rfl, rfl⟩
      · have c1' : size > most := by omega
        simp only [c1, c1', if_true, if_false]
        exact ⟨_, rfl, rfl⟩
    obtain ⟨r, h1, h2⟩ := hr
    simp only [unisonlaw12_ChunkRight.j0, Bool.false_eq_true, if_false]
    rw [h1, h2]
    simp only [Option.bind_some, beq_self_eq_true, if_true]
    rw [awake_eq]; rfl
  have hg : ∃ g, unisonref06_Great.f b0 b1 b2 b3 b4 b5 at_ of_ size b9 b10 e1 e2 e3 e4 data = some g := by
    unfold unisonref06_Great.f
    repeat' split
    all_goals exact ⟨_, rfl⟩
  obtain ⟨g, hg⟩ := hg
  unfold unisonlaw12_ChunkRight.f
  rw [hg]
  simp only [Option.bind_some]
  cases g
  · rw [if_neg (by simp)]
    by_cases h : size > 5000
    · rw [if_pos h]
      by_cases h2 : size ≤ 1048576
      · rw [decide_eq_true h2]; exact haw
      · rw [decide_eq_false h2]; exact next (by omega)
    · rw [if_neg h]; exact next (by omega)
  · rw [if_pos rfl]; exact haw

end Go.Proofs.Ythgpocefiaklkaa.Pure
