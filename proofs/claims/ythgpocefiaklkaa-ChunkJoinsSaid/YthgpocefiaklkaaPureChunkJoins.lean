/- All chunks of a payload, one behind the other, are the payload, have the lengths that are told, and there are no more. Conditions: none beyond the statement's own. -/
import Derived.Test.YthgpocefiaklkaaF9
namespace Go.Proofs.Ythgpocefiaklkaa.Pure
open Go.RowKit Go.Proofs.Ythgpocefiaklkaa.F Go.Proofs.YthgpocefiaklkaaW.PrintWords Go.Proofs.YthgpocefiaklkaaW.PrintLast Go.Proofs.YthgpocefiaklkaaW.PrintMore

theorem w64 {x : Int} (h0 : -9223372036854775808 ≤ x) (h1 : x ≤ 9223372036854775807) : wrap64 x = x := by unfold wrap64; omega
theorem wf_i64 {x : Int} (h : (Lit.int .i64 x).wf = true) : -9223372036854775808 ≤ x ∧ x ≤ 9223372036854775807 := by
  simp [Lit.wf, IntKind.min, IntKind.max, IntKind.signed, IntKind.bits] at h
  omega
theorem within_eq (n a b : Int) : chunk_within.f n a b = some (decide (a ≤ n ∧ n ≤ b)) := by
  unfold chunk_within.f
  by_cases h : n ≥ a <;> simp [h] <;> omega

/-- How many chunks, where there are any. -/
def c (size chunk : Int) : Int := if size ≤ chunk then 1 else (size + chunk - 1) / chunk
theorem c_step {size chunk : Int} (hc : 1 ≤ chunk) (h : chunk < size) : c size chunk = c (size - chunk) chunk + 1 := by
  unfold c
  rw [if_neg (by omega)]
  have e : (size + chunk - 1) / chunk = (size - chunk + chunk - 1) / chunk + 1 := by
    rw [show size + chunk - 1 = (size - chunk + chunk - 1) + chunk * 1 by omega, Int.add_mul_ediv_left _ _ (by omega)]
  rw [e]
  split
  · rename_i h2
    have : (size - chunk + chunk - 1) / chunk = 1 := by
      rw [show size - chunk + chunk - 1 = (size - chunk - 1) + chunk * 1 by omega, Int.add_mul_ediv_left _ _ (by omega), Int.ediv_eq_zero_of_lt (by omega) (by omega)]
      rfl
    omega
  · rfl
theorem c_pos {size chunk : Int} (hc : 1 ≤ chunk) (h : 0 ≤ size) : 1 ≤ c size chunk := by
  unfold c
  split
  · omega
  · exact Int.le_ediv_of_mul_le (by omega) (by omega)
theorem c_spec {chunk : Int} (hc : 1 ≤ chunk) : ∀ (d : Nat) (size : Int), 0 ≤ size → size.toNat ≤ d → size ≤ c size chunk * chunk ∧ (2 ≤ c size chunk → (c size chunk - 1) * chunk < size) ∧ (c size chunk ≤ size ∨ c size chunk = 1) := by
  intro d
  induction d with
  | zero =>
    intro size h0 hd
    have e : c size chunk = 1 := by unfold c; rw [if_pos (by omega)]
    rw [e]; exact ⟨by omega, by omega, by omega⟩
  | succ d ih =>
    intro size h0 hd
    by_cases h : size ≤ chunk
    · have e : c size chunk = 1 := by unfold c; rw [if_pos h]
      rw [e]; exact ⟨by omega, by omega, by omega⟩
    · obtain ⟨h1, h2, h3⟩ := ih (size - chunk) (by omega) (by omega)
      have e := c_step hc (show chunk < size by omega)
      have hp := c_pos hc (show 0 ≤ size - chunk by omega)
      rw [e]
      have e2 : (c (size - chunk) chunk + 1) * chunk = c (size - chunk) chunk * chunk + chunk := by rw [Int.add_mul]; omega
      have e3 : (c (size - chunk) chunk + 1 - 1) * chunk = (c (size - chunk) chunk - 1) * chunk + chunk := by rw [show c (size - chunk) chunk + 1 - 1 = (c (size - chunk) chunk - 1) + 1 by omega, Int.add_mul]; omega
      refine ⟨by omega, fun _ => ?_, by omega⟩
      rw [e3]
      by_cases hq : 2 ≤ c (size - chunk) chunk
      · have := h2 hq; omega
      · have hq1 : c (size - chunk) chunk = 1 := by omega
        rw [hq1]; omega

def okC (size chunk : Int) : Prop := (0 ≤ size ∧ size ≤ 1048576) ∧ 1 ≤ chunk ∧ chunk ≤ 65536
instance (size chunk : Int) : Decidable (okC size chunk) := inferInstanceAs (Decidable (_ ∧ _))
def cnt (size chunk : Int) : Int := if okC size chunk then c size chunk else 0

theorem mx_c {size chunk : Int} (hc : 1 ≤ chunk) : mx 1 ((size + chunk - 1) / chunk) = c size chunk := by
  unfold mx c
  by_cases h : size ≤ chunk
  · rw [if_pos h]
    have h1 : (size + chunk - 1) / chunk < 2 := Int.ediv_lt_of_lt_mul (by omega) (by omega)
    split <;> omega
  · rw [if_neg h]
    have h1 : 1 ≤ (size + chunk - 1) / chunk := Int.le_ediv_of_mul_le (by omega) (by omega)
    split <;> omega

theorem count_eq (size chunk : Int) : chunk_Count.f size chunk = some (cnt size chunk) := by
  unfold chunk_Count.f cnt
  rw [within_eq, within_eq]
  simp only [Option.bind_some, decide_eq_true_eq]
  by_cases h1 : 0 ≤ size ∧ size ≤ 1048576
  · by_cases h2 : 1 ≤ chunk ∧ chunk ≤ 65536
    · rw [if_pos h1, if_pos h2, if_neg (by omega), if_pos (show okC size chunk from ⟨h1, h2⟩), w64 (x := size + chunk) (by omega) (by omega), w64 (x := size + chunk - 1) (by omega) (by omega), Int.tdiv_eq_ediv_of_nonneg (by omega)]
      have h3 : 0 ≤ (size + chunk - 1) / chunk := Int.ediv_nonneg (by omega) (by omega)
      have h4 : (size + chunk - 1) / chunk ≤ size + chunk - 1 := Int.ediv_le_self _ (by omega)
      rw [w64 (by omega) (by omega), mx_c h2.1]
    · rw [if_pos h1, if_neg h2, if_neg (fun h : okC size chunk => h2 h.2)]
  · rw [if_neg h1, if_neg (fun h : okC size chunk => h1 h.1)]

theorem cnt_bound (size chunk : Int) : 0 ≤ cnt size chunk ∧ cnt size chunk ≤ 1048576 := by
  unfold cnt
  split
  · rename_i h
    obtain ⟨h1, h2⟩ := h
    have := c_pos h2.1 h1.1
    have := (c_spec h2.1 size.toNat size h1.1 (Nat.le_refl _)).2.2
    omega
  · omega

def len (size chunk at_ : Int) : Int := if 0 ≤ at_ ∧ at_ < cnt size chunk then (if at_ < cnt size chunk - 1 then chunk else size - chunk * (cnt size chunk - 1)) else 0

theorem mn_len {size chunk at_ : Int} (h : okC size chunk) (h0 : 0 ≤ at_) (h1 : at_ < cnt size chunk) :
    mn chunk (size - at_ * chunk) = (if at_ < cnt size chunk - 1 then chunk else size - chunk * (cnt size chunk - 1)) ∧ 0 ≤ at_ * chunk ∧ at_ * chunk ≤ size ∧ 0 ≤ mn chunk (size - at_ * chunk) ∧ at_ * chunk + mn chunk (size - at_ * chunk) ≤ size := by
  have e : cnt size chunk = c size chunk := by unfold cnt; rw [if_pos h]
  rw [e] at h1 ⊢
  obtain ⟨hs, hc⟩ := h
  obtain ⟨s1, s2, _⟩ := c_spec hc.1 size.toNat size hs.1 (Nat.le_refl _)
  have hm0 : 0 ≤ at_ * chunk := Int.mul_nonneg h0 (by omega)
  by_cases hlast : at_ < c size chunk - 1
  · rw [if_pos hlast]
    have h2 := s2 (by omega)
    have hm : (at_ + 1) * chunk ≤ (c size chunk - 1) * chunk := Int.mul_le_mul_of_nonneg_right (by omega) (by omega)
    rw [Int.add_mul] at hm
    unfold mn
    rw [if_neg (by omega)]
    omega
  · rw [if_neg hlast]
    obtain rfl : at_ = c size chunk - 1 := by omega
    have e4 : c size chunk * chunk = (c size chunk - 1) * chunk + chunk := by
      have : c size chunk * chunk = (c size chunk - 1 + 1) * chunk := by congr 1; omega
      rw [this, Int.add_mul]; omega
    have h5 : (c size chunk - 1) * chunk ≤ size := by
      by_cases h6 : 2 ≤ c size chunk
      · have := s2 h6; omega
      · have : c size chunk = 1 := by omega
        rw [this]; omega
    rw [Int.mul_comm chunk]
    unfold mn
    split <;> omega

theorem length_eq (size chunk at_ : Int) : chunk_Length.f size chunk at_ = some (len size chunk at_) := by
  unfold chunk_Length.f len
  have hb := cnt_bound size chunk
  rw [count_eq]
  simp only [Option.bind_some]
  rw [w64 (by omega) (by omega), within_eq]
  simp only [Option.bind_some, decide_eq_true_eq]
  by_cases h : 0 ≤ at_ ∧ at_ ≤ cnt size chunk - 1
  · have hk : okC size chunk := by
      by_cases hk : okC size chunk
      · exact hk
      · have : cnt size chunk = 0 := by unfold cnt; rw [if_neg hk]
        omega
    obtain ⟨m1, m2, m3, _⟩ := mn_len hk h.1 (by omega)
    obtain ⟨hs, hc⟩ := hk
    rw [if_pos h, if_pos (by omega), w64 (x := at_ * chunk) (by omega) (by omega), w64 (x := size - at_ * chunk) (by omega) (by omega), m1]
  · rw [if_neg h, if_neg (by omega)]

theorem awake_eq : unisonlaw12_awake.f = some true := by
  unfold unisonlaw12_awake.f
  rw [count_eq, length_eq, length_eq, count_eq]
  decide

theorem cut_yes (p : List Int) (chunk at_ : Int) (hk : okC p.length chunk) (h0 : 0 ≤ at_) (h1 : at_ < cnt p.length chunk) :
    chunk_Cut.f p chunk at_ = some ((p.drop (at_ * chunk).toNat).take (len p.length chunk at_).toNat, true) ∧ ((p.drop (at_ * chunk).toNat).take (len p.length chunk at_).toNat).length = len p.length chunk at_ := by
  have hb := cnt_bound p.length chunk
  obtain ⟨m1, m2, m3, m4, m5⟩ := mn_len hk h0 h1
  have e : len p.length chunk at_ = mn chunk (p.length - at_ * chunk) := by unfold len; rw [if_pos ⟨h0, h1⟩, m1]
  have hs := hk.1
  have hl : (p.drop (at_ * chunk).toNat).length = p.length - (at_ * chunk).toNat := List.length_drop
  constructor
  · unfold chunk_Cut.f
    rw [count_eq]
    simp only [Option.bind_some]
    rw [w64 (x := cnt p.length chunk - 1) (by omega) (by omega), within_eq]
    simp only [Option.bind_some, decide_eq_true_eq]
    rw [if_pos (by omega), length_eq]
    simp only [Option.bind_some]
    rw [w64 (x := at_ * chunk) (by omega) (by omega), e, w64 (by omega) (by omega), if_pos (by omega), if_pos (by omega), if_pos (by omega)]
    unfold slices_Clone_byte_byte.f
    rw [if_pos (by rw [List.length_drop, List.length_take]; omega)]
    simp only [Option.bind_some]
    congr 2
    rw [List.drop_take]
    congr 1; omega
  · rw [List.length_take, hl, e]; omega
theorem cut_no (p : List Int) (chunk at_ : Int) (h : ¬ (0 ≤ at_ ∧ at_ < cnt p.length chunk)) : chunk_Cut.f p chunk at_ = some ([], false) := by
  have hb := cnt_bound p.length chunk
  unfold chunk_Cut.f
  rw [count_eq]
  simp only [Option.bind_some]
  rw [w64 (x := cnt p.length chunk - 1) (by omega) (by omega), within_eq]
  simp only [Option.bind_some, decide_eq_true_eq]
  rw [if_neg (by omega)]

theorem joins_loop (p : List Int) (chunk : Int) (hp : p.length ≤ 2000) (h1 : 1 ≤ chunk) (h2 : chunk ≤ 65536) : ∀ (d k : Nat) (at_ : Int), (cnt p.length chunk - at_).toNat = d → 0 ≤ at_ → at_ ≤ cnt p.length chunk → 2 * d + 10 < k →
    unisonlaw12_ChunkJoins.l0 k p chunk (p.take (at_ * chunk).toNat) (cnt p.length chunk) at_ = some true := by
  have hk : okC p.length chunk := ⟨by omega, h1, h2⟩
  have e : cnt p.length chunk = c p.length chunk := by unfold cnt; rw [if_pos hk]
  have hpos := c_pos h1 (show 0 ≤ (p.length : Int) by omega)
  obtain ⟨s1, s2, s3⟩ := c_spec h1 p.length (p.length : Int) (by omega) (by omega)
  intro d
  induction d with
  | zero =>
    intro k at_ hd h0 hat hkk
    obtain ⟨k, rfl⟩ : ∃ m, k = m + 2 := ⟨k - 2, by omega⟩
    obtain rfl : at_ = cnt p.length chunk := by omega
    simp only [unisonlaw12_ChunkJoins.l0]
    rw [if_neg (by omega)]
    simp only [unisonlaw12_ChunkJoins.j1, Bool.false_eq_true, if_false]
    rw [cut_no p chunk _ (by omega)]
    simp only [Option.bind_some, Bool.false_eq_true, if_false]
    have ht : p.take (cnt p.length chunk * chunk).toNat = p := List.take_of_length_le (by rw [e]; omega)
    rw [if_pos (by omega), ht, if_pos rfl, awake_eq]
    rfl
  | succ d ih =>
    intro k at_ hd h0 hat hkk
    obtain ⟨k, rfl⟩ : ∃ m, k = m + 2 := ⟨k - 2, by omega⟩
    simp only [unisonlaw12_ChunkJoins.l0]
    have hle : decide (at_ ≤ 2000) = true := by simp; omega
    rw [if_pos (by omega), hle]
    simp only [unisonlaw12_ChunkJoins.j1, if_true]
    obtain ⟨c1, c2⟩ := cut_yes p chunk at_ hk h0 (by omega)
    rw [c1, length_eq]
    simp only [Option.bind_some, if_true]
    have q1 : (p.take (at_ * chunk).toNat).length ≤ p.length := by rw [List.length_take]; omega
    have q2 : ((p.drop (at_ * chunk).toNat).take (len p.length chunk at_).toNat).length ≤ p.length := by rw [List.length_take, List.length_drop]; omega
    rw [if_pos c2, if_pos (by omega), w64 (by omega) (by omega)]
    have hj : p.take (at_ * chunk).toNat ++ (p.drop (at_ * chunk).toNat).take (len p.length chunk at_).toNat = p.take ((at_ + 1) * chunk).toNat := by
      rw [← List.take_add]
      obtain ⟨m1, m2, m3, m4, m5⟩ := mn_len hk h0 (show at_ < cnt p.length chunk by omega)
      have hlen : len p.length chunk at_ = mn chunk (p.length - at_ * chunk) := by unfold len; rw [if_pos ⟨h0, by omega⟩, m1]
      rw [hlen, Int.add_mul]
      by_cases hm : p.length - at_ * chunk < chunk
      · have hmn : mn chunk (p.length - at_ * chunk) = p.length - at_ * chunk := by unfold mn; rw [if_pos hm]
        rw [hmn, List.take_of_length_le (by omega), List.take_of_length_le (by omega)]
      · have hmn : mn chunk (p.length - at_ * chunk) = chunk := by unfold mn; rw [if_neg hm]
        rw [hmn]
        congr 1; omega
    rw [hj]
    exact ih k (at_ + 1) (by omega) (by omega) (by omega) (by omega)

theorem ChunkJoins : unisonlaw12_ChunkJoins.Pure := by
  intro l0 a1 hm hy hw w1
  refine ⟨5000, ?_⟩
  unfold unisonlaw12_ChunkJoins.f
  by_cases h : (l0.length : Int) > 2000
  · rw [if_pos h, awake_eq]; rfl
  · have hb : 0 ≤ a1 ∧ a1 ≤ 65535 := by
      simp [Lit.wf, IntKind.min, IntKind.max, IntKind.signed, IntKind.bits] at w1
      omega
    rw [if_neg h, w64 (x := a1) (by omega) (by omega), w64 (by omega) (by omega), count_eq]
    simp only [Option.bind_some]
    have hk : okC l0.length (1 + a1) := ⟨by omega, by omega, by omega⟩
    have s3 := (c_spec (show 1 ≤ 1 + a1 by omega) l0.length (l0.length : Int) (by omega) (by omega)).2.2
    have e : cnt l0.length (1 + a1) = c l0.length (1 + a1) := by unfold cnt; rw [if_pos hk]
    have := joins_loop l0 (1 + a1) (by omega) (by omega) (by omega) _ 5000 0 rfl (by omega) (cnt_bound _ _).1 (by rw [e]; omega)
    simpa using this

end Go.Proofs.Ythgpocefiaklkaa.Pure
