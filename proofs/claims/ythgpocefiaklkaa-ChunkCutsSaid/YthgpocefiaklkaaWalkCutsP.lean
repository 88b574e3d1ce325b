/- What the document cuts, in plain Lean. Conditions: none beyond the statement's own. -/
import Derived.Test.YthgpocefiaklkaaF12
import Derived.Test.YthgpocefiaklkaaF10
import Derived.Test.YthgpocefiaklkaaF5
import Derived.Test.YthgpocefiaklkaaF15
import Derived.Test.YthgpocefiaklkaaArgs
import Derived.Deep.QuietTactic
import Derived.BigQuiet
import Derived.Lib.QuietBelow
import Derived.Outline
import Derived.Deep.RegionHeld3
import Derived.Deep.CutRange
import Derived.Deep.MidRow
namespace Go.Proofs.Ythgpocefiaklkaa.Walk
open Go.RowKit Go.Proofs.Ythgpocefiaklkaa.F Go.Proofs.YthgpocefiaklkaaW.PrintWords Go.Proofs.YthgpocefiaklkaaW.PrintLast Go.Proofs.YthgpocefiaklkaaW.PrintMore Go.Proofs.Ythgpocefiaklkaa.Open
open Go.Sort (grow)
attribute [local go_sem] max2_int min2_int max_two min_two max_three min_three max_four min_four
set_option linter.unusedVariables false
set_option linter.unusedSimpArgs false

theorem w64 {x : Int} (h0 : -9223372036854775808 ≤ x) (h1 : x ≤ 9223372036854775807) : wrap64 x = x := by unfold wrap64; omega
theorem wf_i64 {x : Int} (h : (Lit.int .i64 x).wf = true) : -9223372036854775808 ≤ x ∧ x ≤ 9223372036854775807 := by
  simp [Lit.wf, IntKind.min, IntKind.max, IntKind.signed, IntKind.bits] at h
  omega
theorem within_eq (n a b : Int) : chunk_within.f n a b = some (decide (a ≤ n ∧ n ≤ b)) := by
  unfold chunk_within.f
  by_cases h : n ≥ a <;> simp [h] <;> omega

/-- How many chunks, where there are any. -/
def c (size chunk : Int) : Int := if size ≤ chunk then 1 else (size + chunk - 1) / chunk
theorem c_step {size chunk : Int} (hc : 1 ≤ chunk) (h : chunk < size) : c size chunk = c (size - chunk) chunk + 1 := by
  unfold c
  rw [if_neg (by omega)]
  have e : (size + chunk - 1) / chunk = (size - chunk + chunk - 1) / chunk + 1 := by
    rw [show size + chunk - 1 = (size - chunk + chunk - 1) + chunk * 1 by omega, Int.add_mul_ediv_left _ _ (by omega)]
  rw [e]
  split
  · rename_i h2
    have : (size - chunk + chunk - 1) / chunk = 1 := by
      rw [show size - chunk + chunk - 1 = (size - chunk - 1) + chunk * 1 by omega, Int.add_mul_ediv_left _ _ (by omega), Int.ediv_eq_zero_of_lt (by omega) (by omega)]
      rfl
    omega
  · rfl
theorem c_pos {size chunk : Int} (hc : 1 ≤ chunk) (h : 0 ≤ size) : 1 ≤ c size chunk := by
  unfold c
  split
  · omega
  · exact Int.le_ediv_of_mul_le (by omega) (by omega)
theorem c_spec {chunk : Int} (hc : 1 ≤ chunk) : ∀ (d : Nat) (size : Int), 0 ≤ size → size.toNat ≤ d → size ≤ c size chunk * chunk ∧ (2 ≤ c size chunk → (c size chunk - 1) * chunk < size) ∧ (c size chunk ≤ size ∨ c size chunk = 1) := by
  intro d
  induction d with
  | zero =>
    intro size h0 hd
    have e : c size chunk = 1 := by unfold c; rw [if_pos (by omega)]
    rw [e]; exact ⟨by omega, by omega, by omega⟩
  | succ d ih =>
    intro size h0 hd
    by_cases h : size ≤ chunk
    · have e : c size chunk = 1 := by unfold c; rw [if_pos h]
      rw [e]; exact ⟨by omega, by omega, by omega⟩
    · obtain ⟨h1, h2, h3⟩ := ih (size - chunk) (by omega) (by omega)
      have e := c_step hc (show chunk < size by omega)
      have hp := c_pos hc (show 0 ≤ size - chunk by omega)
      rw [e]
      have e2 : (c (size - chunk) chunk + 1) * chunk = c (size - chunk) chunk * chunk + chunk := by rw [Int.add_mul]; omega
      have e3 : (c (size - chunk) chunk + 1 - 1) * chunk = (c (size - chunk) chunk - 1) * chunk + chunk := by rw [show c (size - chunk) chunk + 1 - 1 = (c (size - chunk) chunk - 1) + 1 by omega, Int.add_mul]; omega
      refine ⟨by omega, fun _ => ?_, by omega⟩
      rw [e3]
      by_cases hq : 2 ≤ c (size - chunk) chunk
      · have := h2 hq; omega
      · have hq1 : c (size - chunk) chunk = 1 := by omega
        rw [hq1]; omega

def okC (size chunk : Int) : Prop := (0 ≤ size ∧ size ≤ 1048576) ∧ 1 ≤ chunk ∧ chunk ≤ 65536
instance (size chunk : Int) : Decidable (okC size chunk) := inferInstanceAs (Decidable (_ ∧ _))
def cnt (size chunk : Int) : Int := if okC size chunk then c size chunk else 0

theorem mx_c {size chunk : Int} (hc : 1 ≤ chunk) : mx 1 ((size + chunk - 1) / chunk) = c size chunk := by
  unfold mx c
  by_cases h : size ≤ chunk
  · rw [if_pos h]
    have h1 : (size + chunk - 1) / chunk < 2 := Int.ediv_lt_of_lt_mul (by omega) (by omega)
    split <;> omega
  · rw [if_neg h]
    have h1 : 1 ≤ (size + chunk - 1) / chunk := Int.le_ediv_of_mul_le (by omega) (by omega)
    split <;> omega

theorem count_eq (size chunk : Int) : chunk_Count.f size chunk = some (cnt size chunk) := by
  unfold chunk_Count.f cnt
  rw [within_eq, within_eq]
  simp only [Option.bind_some, decide_eq_true_eq]
  by_cases h1 : 0 ≤ size ∧ size ≤ 1048576
  · by_cases h2 : 1 ≤ chunk ∧ chunk ≤ 65536
    · rw [if_pos h1, if_pos h2, if_neg (by omega), if_pos (show okC size chunk from ⟨h1, h2⟩), w64 (x := size + chunk) (by omega) (by omega), w64 (x := size + chunk - 1) (by omega) (by omega), Int.tdiv_eq_ediv_of_nonneg (by omega)]
      have h3 : 0 ≤ (size + chunk - 1) / chunk := Int.ediv_nonneg (by omega) (by omega)
      have h4 : (size + chunk - 1) / chunk ≤ size + chunk - 1 := Int.ediv_le_self _ (by omega)
      rw [w64 (by omega) (by omega), mx_c h2.1]
    · rw [if_pos h1, if_neg h2, if_neg (fun h : okC size chunk => h2 h.2)]
  · rw [if_neg h1, if_neg (fun h : okC size chunk => h1 h.1)]

theorem cnt_bound (size chunk : Int) : 0 ≤ cnt size chunk ∧ cnt size chunk ≤ 1048576 := by
  unfold cnt
  split
  · rename_i h
    obtain ⟨h1, h2⟩ := h
    have := c_pos h2.1 h1.1
    have := (c_spec h2.1 size.toNat size h1.1 (Nat.le_refl _)).2.2
    omega
  · omega

def len (size chunk at_ : Int) : Int := if 0 ≤ at_ ∧ at_ < cnt size chunk then (if at_ < cnt size chunk - 1 then chunk else size - chunk * (cnt size chunk - 1)) else 0

theorem mn_len {size chunk at_ : Int} (h : okC size chunk) (h0 : 0 ≤ at_) (h1 : at_ < cnt size chunk) :
    mn chunk (size - at_ * chunk) = (if at_ < cnt size chunk - 1 then chunk else size - chunk * (cnt size chunk - 1)) ∧ 0 ≤ at_ * chunk ∧ at_ * chunk ≤ size ∧ 0 ≤ mn chunk (size - at_ * chunk) ∧ at_ * chunk + mn chunk (size - at_ * chunk) ≤ size := by
  have e : cnt size chunk = c size chunk := by unfold cnt; rw [if_pos h]
  rw [e] at h1 ⊢
  obtain ⟨hs, hc⟩ := h
  obtain ⟨s1, s2, _⟩ := c_spec hc.1 size.toNat size hs.1 (Nat.le_refl _)
  have hm0 : 0 ≤ at_ * chunk := Int.mul_nonneg h0 (by omega)
  by_cases hlast : at_ < c size chunk - 1
  · rw [if_pos hlast]
    have h2 := s2 (by omega)
    have hm : (at_ + 1) * chunk ≤ (c size chunk - 1) * chunk := Int.mul_le_mul_of_nonneg_right (by omega) (by omega)
    rw [Int.add_mul] at hm
    unfold mn
    rw [if_neg (by omega)]
    omega
  · rw [if_neg hlast]
    obtain rfl : at_ = c size chunk - 1 := by omega
    have e4 : c size chunk * chunk = (c size chunk - 1) * chunk + chunk := by
      have : c size chunk * chunk = (c size chunk - 1 + 1) * chunk := by congr 1; omega
      rw [this, Int.add_mul]; omega
    have h5 : (c size chunk - 1) * chunk ≤ size := by
      by_cases h6 : 2 ≤ c size chunk
      · have := s2 h6; omega
      · have : c size chunk = 1 := by omega
        rw [this]; omega
    rw [Int.mul_comm chunk]
    unfold mn
    split <;> omega

theorem length_eq (size chunk at_ : Int) : chunk_Length.f size chunk at_ = some (len size chunk at_) := by
  unfold chunk_Length.f len
  have hb := cnt_bound size chunk
  rw [count_eq]
  simp only [Option.bind_some]
  rw [w64 (by omega) (by omega), within_eq]
  simp only [Option.bind_some, decide_eq_true_eq]
  by_cases h : 0 ≤ at_ ∧ at_ ≤ cnt size chunk - 1
  · have hk : okC size chunk := by
      by_cases hk : okC size chunk
      · exact hk
      · have : cnt size chunk = 0 := by unfold cnt; rw [if_neg hk]
        omega
    obtain ⟨m1, m2, m3, _⟩ := mn_len hk h.1 (by omega)
    obtain ⟨hs, hc⟩ := hk
    rw [if_pos h, if_pos (by omega), w64 (x := at_ * chunk) (by omega) (by omega), w64 (x := size - at_ * chunk) (by omega) (by omega), m1]
  · rw [if_neg h, if_neg (by omega)]

theorem awake_eq : unisonlaw12_awake.f = some true := by
  unfold unisonlaw12_awake.f
  rw [count_eq, length_eq, length_eq, count_eq]
  decide

theorem cut_yes (p : List Int) (chunk at_ : Int) (hk : okC p.length chunk) (h0 : 0 ≤ at_) (h1 : at_ < cnt p.length chunk) :
    chunk_Cut.f p chunk at_ = some ((p.drop (at_ * chunk).toNat).take (len p.length chunk at_).toNat, true) ∧ ((p.drop (at_ * chunk).toNat).take (len p.length chunk at_).toNat).length = len p.length chunk at_ := by
  have hb := cnt_bound p.length chunk
  obtain ⟨m1, m2, m3, m4, m5⟩ := mn_len hk h0 h1
  have e : len p.length chunk at_ = mn chunk (p.length - at_ * chunk) := by unfold len; rw [if_pos ⟨h0, h1⟩, m1]
  have hs := hk.1
  have hl : (p.drop (at_ * chunk).toNat).length = p.length - (at_ * chunk).toNat := List.length_drop
  constructor
  · unfold chunk_Cut.f
    rw [count_eq]
    simp only [Option.bind_some]
    rw [w64 (x := cnt p.length chunk - 1) (by omega) (by omega), within_eq]
    simp only [Option.bind_some, decide_eq_true_eq]
    rw [if_pos (by omega), length_eq]
    simp only [Option.bind_some]
    rw [w64 (x := at_ * chunk) (by omega) (by omega), e, w64 (by omega) (by omega), if_pos (by omega), if_pos (by omega), if_pos (by omega)]
    unfold slices_Clone_byte_byte.f
    rw [if_pos (by rw [List.length_drop, List.length_take]; omega)]
    simp only [Option.bind_some]
    congr 2
    rw [List.drop_take]
    congr 1; omega
  · rw [List.length_take, hl, e]; omega
theorem cut_no (p : List Int) (chunk at_ : Int) (h : ¬ (0 ≤ at_ ∧ at_ < cnt p.length chunk)) : chunk_Cut.f p chunk at_ = some ([], false) := by
  have hb := cnt_bound p.length chunk
  unfold chunk_Cut.f
  rw [count_eq]
  simp only [Option.bind_some]
  rw [w64 (x := cnt p.length chunk - 1) (by omega) (by omega), within_eq]
  simp only [Option.bind_some, decide_eq_true_eq]
  rw [if_neg (by omega)]

/-- The frame of a chunk. -/
def frm (p : List Int) (ch n i a b : Int) : S36 := ⟨⟨0, 0, 0⟩, ⟨a, b⟩, 0, i % 4294967296, n % 4294967296, (p.length : Int) % 4294967296, 0, 0, [], [], [], [], (p.drop (i * ch).toNat).take (len p.length ch i).toNat⟩
def frms (p : List Int) (ch n a b : Int) : Nat → Int → List S36
  | 0, _ => []
  | d + 1, i => frm p ch n i a b :: frms p ch n a b d (i + 1)
theorem frms_length (p : List Int) (ch n a b : Int) : ∀ (d : Nat) (i : Int), (frms p ch n a b d i).length = d
  | 0, _ => rfl
  | d + 1, i => by simp [frms, frms_length p ch n a b d (i + 1)]
theorem frms_get (p : List Int) (ch n a b : Int) : ∀ (d : Nat) (i : Int) (j : Nat), j < d → (frms p ch n a b d i)[j]? = some (frm p ch n (i + j) a b)
  | 0, _, _, h => by omega
  | d + 1, i, 0, _ => by simp [frms]
  | d + 1, i, j + 1, h => by
    simp only [frms, List.getElem?_cons_succ]
    rw [frms_get p ch n a b d (i + 1) j (by omega)]
    congr 2
    omega
theorem all_loop (p : List Int) (ch a b : Int) (hk : okC p.length ch) : ∀ (d k : Nat) (i : Int) (acc : List S36), (cnt p.length ch - i).toNat = d → 0 ≤ i → acc.length ≤ i → i ≤ cnt p.length ch → d < k →
    chunk_All.l0 k p ch (cnt p.length ch) acc (cnt p.length ch) i a b = some (acc ++ frms p ch (cnt p.length ch) a b d i) := by
  have hb := cnt_bound p.length ch
  intro d
  induction d with
  | zero =>
    intro k i acc hd h0 ha hi hkk
    obtain ⟨k, rfl⟩ : ∃ m, k = m + 1 := ⟨k - 1, by omega⟩
    simp only [chunk_All.l0]
    rw [if_neg (by omega)]
    simp [frms]
  | succ d ih =>
    intro k i acc hd h0 ha hi hkk
    obtain ⟨k, rfl⟩ : ∃ m, k = m + 1 := ⟨k - 1, by omega⟩
    simp only [chunk_All.l0]
    rw [if_pos (by omega), (cut_yes p ch i hk h0 (by omega)).1]
    simp only [Option.bind_some]
    rw [if_pos (by omega), w64 (by omega) (by omega), ih k (i + 1) _ (by omega) (by omega) (by simp; omega) (by omega) (by omega)]
    simp [frms, frm]
theorem all_eq (p : List Int) (ch a b : Int) (hk : okC p.length ch) (k : Nat) (h : (cnt p.length ch).toNat < k) : chunk_All.f k a b p ch = some (frms p ch (cnt p.length ch) a b (cnt p.length ch).toNat 0) := by
  have hb := cnt_bound p.length ch
  unfold chunk_All.f
  rw [count_eq]
  simp only [Option.bind_some]
  have := all_loop p ch a b hk (cnt p.length ch).toNat k 0 [] (by omega) (by omega) (by simp) (by omega) h
  simpa using this
/-- Of what length the pieces are. -/
theorem one_piece (p : List Int) (ch : Int) (hk : okC p.length ch) (h : p.length ≤ ch) : cnt p.length ch = 1 ∧ (frm p ch 1 0 0 0).f12 = p := by
  have e : cnt p.length ch = 1 := by unfold cnt c; rw [if_pos hk, if_pos h]
  refine ⟨e, ?_⟩
  show (p.drop (0 * ch).toNat).take (len p.length ch 0).toNat = p
  have e2 : len p.length ch 0 = p.length := by
    unfold len
    rw [e, if_pos (by omega), if_neg (by omega)]
    omega
  rw [e2]
  simp
theorem more_pieces (p : List Int) (ch : Int) (hk : okC p.length ch) (h : ch < p.length) : 2 ≤ cnt p.length ch ∧ ∀ i, 0 ≤ i → i < cnt p.length ch → (((frm p ch (cnt p.length ch) i 0 0).f12.length : Int) ≠ 0 ∧ (i < cnt p.length ch - 1 → ((frm p ch (cnt p.length ch) i 0 0).f12.length : Int) = ch)) := by
  have e : cnt p.length ch = c p.length ch := by unfold cnt; rw [if_pos hk]
  have h2 : 2 ≤ cnt p.length ch := by
    rw [e, c_step hk.2.1 (by omega)]
    have := c_pos hk.2.1 (show 0 ≤ p.length - ch by omega)
    omega
  refine ⟨h2, fun i h0 h1 => ?_⟩
  have hl : ((frm p ch (cnt p.length ch) i 0 0).f12.length : Int) = len p.length ch i := (cut_yes p ch i hk h0 h1).2
  have hs := (c_spec hk.2.1 p.length p.length (by omega) (by omega)).2.1 (by omega)
  rw [hl]
  unfold len
  rw [if_pos ⟨h0, h1⟩]
  split
  · exact ⟨by have := hk.2; omega, fun _ => rfl⟩
  · refine ⟨?_, fun _ => by omega⟩
    rw [e, Int.mul_comm]
    omega

theorem data_at {w : World} {g n : Nat} {xs : List S36} (h : Kd.C k36 w (some ⟨g, 0, none⟩) n xs) (i : Nat) (x : S36) (hx : xs[i]? = some x) : ∃ A15 c15, w.cell? ⟨g, i * 16 + 15, none⟩ = some (.slice A15 x.f12.length c15) ∧ Kd.C (Kd.int .u8) w A15 x.f12.length x.f12 := by
  have hi : i < xs.length := (List.getElem?_eq_some_iff.1 hx).1
  obtain ⟨ad, A11, c11, A12, c12, A13, c13, A14, c14, A15, c15, e, _, _, _, _, _, _, _, _, _, _, _, _, _, _, _, k15, _, _, _, _, _, _, _, _, _, d⟩ := at_T36 h (i : Int) (by omega) (by have := h.1; omega)
  have hr : rd_T36 xs (i : Int) = x := by simp [rd_T36, List.getD, hx]
  rw [hr] at k15 d
  obtain rfl := Option.some.inj e
  refine ⟨A15, c15, ?_, d⟩
  rw [add_plain] at k15
  simpa using k15

/-- The pieces of a payload, as the document cuts them. -/
def pc (p : List Int) (ch i : Int) : List Int := (p.drop (i * ch).toNat).take (len p.length ch i).toNat
def pcs (p : List Int) (ch : Int) : Nat → Int → List (List Int)
  | 0, _ => []
  | d + 1, i => pc p ch i :: pcs p ch d (i + 1)
theorem pcs_length (p : List Int) (ch : Int) : ∀ (d : Nat) (i : Int), (pcs p ch d i).length = d
  | 0, _ => rfl
  | d + 1, i => by simp [pcs, pcs_length p ch d (i + 1)]
theorem pcs_get (p : List Int) (ch : Int) : ∀ (d : Nat) (i : Int) (j : Nat), j < d → (pcs p ch d i)[j]? = some (pc p ch (i + j))
  | 0, _, _, h => by omega
  | d + 1, i, 0, _ => by simp [pcs]
  | d + 1, i, j + 1, h => by
    simp only [pcs, List.getElem?_cons_succ]
    rw [pcs_get p ch d (i + 1) j (by omega)]
    congr 2
    omega
theorem cuts_more {size ch i : Int} (hk : okC size ch) (h0 : 0 ≤ i) (h1 : i < cnt size ch) : (size - i * ch > ch ↔ i < cnt size ch - 1) ∧ 0 ≤ i * ch ∧ i * ch ≤ size := by
  have e : cnt size ch = c size ch := by unfold cnt; rw [if_pos hk]
  obtain ⟨m1, m2, m3, m4, m5⟩ := mn_len hk h0 h1
  rw [e] at h1 ⊢
  obtain ⟨hs, hc⟩ := hk
  obtain ⟨s1, s2, _⟩ := c_spec hc.1 size.toNat size hs.1 (Nat.le_refl _)
  refine ⟨⟨fun h => ?_, fun h => ?_⟩, m2, m3⟩
  · by_cases hl : i < c size ch - 1
    · exact hl
    · obtain rfl : i = c size ch - 1 := by omega
      have e4 : c size ch * ch = (c size ch - 1) * ch + ch := by
        have : c size ch * ch = (c size ch - 1 + 1) * ch := by congr 1; omega
        rw [this, Int.add_mul]; omega
      omega
  · have h2 := s2 (by omega)
    have hm : (i + 1) * ch ≤ (c size ch - 1) * ch := Int.mul_le_mul_of_nonneg_right (by omega) (by omega)
    rw [Int.add_mul] at hm
    omega
theorem cuts_loop (p : List Int) (ch : Int) (hk : okC p.length ch) : ∀ (d k : Nat) (i : Int) (acc : List (List Int)), (cnt p.length ch - i).toNat = d + 1 → 0 ≤ i → acc.length ≤ i → d + 1 < k →
    unisonref12_Cuts.l0 k (p.drop (i * ch).toNat) ch acc = some (acc ++ pcs p ch (d + 1) i) := by
  have hb := cnt_bound p.length ch
  intro d
  induction d with
  | zero =>
    intro k i acc hd h0 ha hkk
    obtain ⟨k, rfl⟩ : ∃ m, k = m + 1 := ⟨k - 1, by omega⟩
    obtain ⟨m1, m2, m3⟩ := cuts_more hk h0 (by omega)
    have hl : (p.drop (i * ch).toNat).length = p.length - (i * ch).toNat := List.length_drop
    simp only [unisonref12_Cuts.l0]
    rw [if_neg (by rw [hl]; omega), if_pos (by omega)]
    have e : len p.length ch i = p.length - i * ch := by
      unfold len
      rw [if_pos (by omega), if_neg (by omega), show cnt p.length ch - 1 = i by omega, Int.mul_comm]
    simp only [pcs, pc]
    rw [e, List.take_of_length_le (by rw [hl]; omega)]
  | succ d ih =>
    intro k i acc hd h0 ha hkk
    obtain ⟨k, rfl⟩ : ∃ m, k = m + 1 := ⟨k - 1, by omega⟩
    obtain ⟨m1, m2, m3⟩ := cuts_more hk h0 (by omega)
    have hl : (p.drop (i * ch).toNat).length = p.length - (i * ch).toNat := List.length_drop
    have hgt := m1.2 (by omega)
    have hch := hk.2
    simp only [unisonref12_Cuts.l0]
    rw [if_pos (by rw [hl]; omega), if_pos (by omega), if_pos (by rw [hl]; omega), if_pos (by omega), List.drop_drop]
    have e1 : (i * ch).toNat + ch.toNat = ((i + 1) * ch).toNat := by rw [Int.add_mul]; omega
    rw [e1, ih k (i + 1) _ (by omega) (by omega) (by simp; omega) (by omega)]
    have e : len p.length ch i = ch := by
      unfold len
      rw [if_pos (by omega), if_pos (by omega)]
    simp [pcs, pc, e]
theorem cuts_f (p : List Int) (ch : Int) (hp : p.length ≤ 2000) : unisonref12_Cuts.f 3000000 p ch = some (pcs p ch (cnt p.length ch).toNat 0) := by
  have hb := cnt_bound p.length ch
  unfold unisonref12_Cuts.f
  simp only [Option.bind_some]
  by_cases h1 : ch < 1
  · rw [if_pos h1]
    have e : cnt p.length ch = 0 := by unfold cnt; rw [if_neg (fun h => by have := h.2.1; omega)]
    rw [e]
    rfl
  · rw [if_neg h1]
    by_cases h2 : ch > 65536
    · rw [if_pos h2]
      have e : cnt p.length ch = 0 := by unfold cnt; rw [if_neg (fun h => by have := h.2.2; omega)]
      rw [e]
      rfl
    · rw [if_neg h2]
      have hk : okC p.length ch := ⟨⟨by omega, by omega⟩, by omega, by omega⟩
      have hpos : 1 ≤ cnt p.length ch := by
        unfold cnt
        rw [if_pos hk]
        exact c_pos hk.2.1 hk.1.1
      have e : decide ((p.length : Int) > 1048576) = false := decide_eq_false (by omega)
      rw [e]
      simp only [unisonref12_Cuts.j0]
      rw [if_neg (by decide)]
      have := cuts_loop p ch hk ((cnt p.length ch).toNat - 1) 2999999 0 [] (by omega) (by omega) (by simp) (by omega)
      rw [show (cnt p.length ch).toNat - 1 + 1 = (cnt p.length ch).toNat by omega] at this
      simpa using this
/-- A piece's frame is right, and it isn't if the payload may be shorter alone. -/
theorem right_frm (p : List Int) (ch a b most : Int) (i : Nat) (hp : p.length ≤ 2000) (hk : okC p.length ch) (hi : (i : Int) < cnt p.length ch) :
    chunk_Right.f 0 0 0 a b 0 ((i : Int) % 4294967296) (cnt p.length ch % 4294967296) ((p.length : Int) % 4294967296) 0 0 [] [] [] [] (pc p ch i) ch most = some (decide ((p.length : Int) ≤ most)) := by
  have hb := cnt_bound p.length ch
  have e1 : (p.length : Int) % 4294967296 = p.length := Int.emod_eq_of_lt (by omega) (by omega)
  have e2 : (i : Int) % 4294967296 = i := Int.emod_eq_of_lt (by omega) (by omega)
  have e3 : cnt p.length ch % 4294967296 = cnt p.length ch := Int.emod_eq_of_lt (by omega) (by omega)
  unfold chunk_Right.f
  rw [e1, e2, w64 (x := (p.length : Int)) (by omega) (by omega), count_eq]
  simp only [Option.bind_some]
  by_cases hm : (p.length : Int) ≤ most
  · rw [if_pos hm, if_pos (by omega), if_pos trivial, if_pos (by rw [e3]; exact hi), w64 (by omega) (by omega), length_eq]
    simp only [Option.bind_some]
    have := (cut_yes p ch i hk (by omega) hi).2
    unfold pc
    rw [this, decide_eq_true hm]
    simp
  · rw [if_neg hm, decide_eq_false hm]

/-! ### Frames -/
abbrev Fr := S36
abbrev kF : Kd Fr := k36
abbrev eF : Nat := 36
structure fok (f : Fr) : Prop where
  l8 : f.f8.length ≤ 1000000
  l9 : f.f9.length ≤ 1000000
  l10 : f.f10.length ≤ 1000000
  l11 : f.f11.length ≤ 1000000
  l12 : f.f12.length ≤ 1000000
theorem wu64 {x : Int} (h0 : 0 ≤ x) (h1 : x < 18446744073709551616) : IntKind.u64.wrap x = x := by
  simp [IntKind.wrap, IntKind.signed, IntKind.bits]
  omega
theorem C_F {α : Type} {d : Kd α} (hd : Kd.Heap d) {w : World} {A : Option Addr} {n : Nat} {xs : List α} (h : d.C w A n xs) {W : World} (hb : Below w.heap.size w W) : Kd.F d W (fun k => k < w.heap.size) A n xs := fun W' hW =>
  hd.C (fun k hk => (hW k hk (by have := hb.size; omega)).trans (hb.block k hk)) h
theorem all_no (p : List Int) (ch a b : Int) (hk : ¬ okC p.length ch) : chunk_All.f 1 a b p ch = some [] := by
  have e : cnt p.length ch = 0 := by unfold cnt; rw [if_neg hk]
  unfold chunk_All.f
  rw [count_eq, e]
  rfl
theorem str_at {w : World} {A : Option Addr} {n c : Nat} {xs : List Int} (h : (Kd.int .u8).C w A n xs) (q : Nat) : (convert 34 9 (.slice A n c)).run Try.prog (w.drewN q) = .ok (.string (strOfNums xs)) (w.drewN q) :=
  Kd.C_string Try.underlying34 Try.underlying5 Try.underlying9 (Kd.C_below h (pw_below_drewN (Below.refl _ _) q))
theorem emptyU (W : World) (base : Nat) (hb : base ≤ W.heap.size) : (Kd.int .u8).R 5 (W.alloc (.cells #[] 5)) base (fun _ => True) (.slice (some ⟨W.heap.size, 0, none⟩) 0 0) [] :=
  ⟨fun _ _ => trivial, OwnRow.lit W base (Reps.none _ _) hb (by simp)⟩
theorem of_met {J : Act → World → Prop} {a : Act} {w : World} (h : Met J a w) : J a w := h
theorem all_any (p : List Int) (ch a b n : Int) (hn : n = cnt p.length ch) : chunk_All.f (n.toNat + 1) a b p ch = some (frms p ch n a b n.toNat 0) := by
  subst hn
  by_cases hk : okC p.length ch
  · exact all_eq p ch a b hk _ (by omega)
  · have e : cnt p.length ch = 0 := by unfold cnt; rw [if_neg hk]
    rw [e]
    exact all_no p ch a b hk

/-! ### Frames that are the same, in plain Lean -/
theorem leO_le {α : Type} {f : Nat → Option α} (h : ∀ k, LeO (f k) (f (k + 1))) {n m : Nat} (hnm : n ≤ m) : LeO (f n) (f m) := by
  induction hnm with
  | refl => exact LeO.refl _
  | step _ ih => exact ih.trans (h _)
theorem num_ok : ∀ (j : Nat) (x : Int) (xs : List Int), j ≤ 8 → 0 ≤ x → x < 256 ^ j → xs.length ≤ 1000 - j → ∃ r, unisonref01_Num.l0 (j + 1) x xs = some r ∧ r.length ≤ xs.length + j + 1
  | 0, x, xs, _, h0, h1, hl => by
    have hx : x = 0 := by simp at h1; omega
    subst hx
    refine ⟨[((xs.length : Int)) % 256] ++ xs, ?_, by simp <;> omega⟩
    unfold unisonref01_Num.l0
    rw [if_neg (by omega)]
    show (if ([((xs.length : Int)) % 256] : List Int).length + xs.length < 140737488355328 then some ([((xs.length : Int)) % 256] ++ xs) else none) = _
    rw [if_pos (by simp <;> omega)]
  | j + 1, x, xs, hj, h0, h1, hl => by
    by_cases hx : x > 0
    · have h3 : x / 256 < 256 ^ j := by
        rw [Int.pow_succ] at h1
        exact Int.ediv_lt_of_lt_mul (by decide) h1
      have h4 : ((256 : Nat) ^ j : Nat) ≤ 72057594037927936 := Nat.pow_le_pow_right (n := 256) (by decide) (show j ≤ 7 by omega)
      have h4' : ((256 ^ j : Nat) : Int) = (256 : Int) ^ j := Int.natCast_pow 256 j
      have h5 : IntKind.u64.wrap (Int.tdiv x 256) = x / 256 := by
        rw [Int.tdiv_eq_ediv_of_nonneg h0]
        refine wu64 (Int.ediv_nonneg h0 (by decide)) ?_
        rw [← h4'] at h3
        omega
      obtain ⟨r, hr, hrl⟩ := num_ok j (x / 256) (xs ++ [(Int.tmod x 256) % 256]) (by omega) (Int.ediv_nonneg h0 (by decide)) h3 (by simp <;> omega)
      refine ⟨r, ?_, by simp at hrl; omega⟩
      unfold unisonref01_Num.l0
      rw [if_pos hx, if_pos (by omega), h5]
      exact hr
    · have hx0 : x = 0 := by omega
      subst hx0
      refine ⟨[((xs.length : Int)) % 256] ++ xs, ?_, by simp <;> omega⟩
      unfold unisonref01_Num.l0
      rw [if_neg (by omega)]
      show (if ([((xs.length : Int)) % 256] : List Int).length + xs.length < 140737488355328 then some ([((xs.length : Int)) % 256] ++ xs) else none) = _
      rw [if_pos (by simp <;> omega)]
theorem Num_ok (x : Int) (k : Nat) (h0 : 0 ≤ x) (h1 : x < 18446744073709551616) (hk : 9 ≤ k) : ∃ r, unisonref01_Num.f k x = some r ∧ r.length ≤ 9 := by
  obtain ⟨r, hr, hl⟩ := num_ok 8 x [] (by decide) h0 (by rw [show (256 : Int) ^ 8 = 18446744073709551616 from rfl]; exact h1) (by simp)
  refine ⟨r, ?_, by simpa using hl⟩
  exact leO_le (f := fun k => unisonref01_Num.f k x) (fun k => unisonref01_Num.mono_l k x []) hk r hr
def u64r (l : List Int) : Prop := ∀ x ∈ l, 0 ≤ x ∧ x < 18446744073709551616
theorem nums_l0_ok (l : List Int) (hl : l.length ≤ 1000000) (hu : u64r l) : ∀ (d i k : Nat) (xs : List Int), i + d = l.length → d + 10 ≤ k → xs.length + 9 * d ≤ 100000000 → ∃ r, unisonref06_nums.l0 k l xs (l.length : Int) (i : Int) = some r
  | 0, i, k + 1, xs, hi, hk, hx => by
    unfold unisonref06_nums.l0
    rw [if_neg (by omega)]
    exact ⟨_, rfl⟩
  | d + 1, i, k + 1, xs, hi, hk, hx => by
    have hm : rd l (i : Int) ∈ l := by
      simp only [rd, Int.toNat_natCast, List.getD]
      rw [List.getElem?_eq_getElem (by omega)]
      exact List.getElem_mem _
    obtain ⟨r1, h1, h2⟩ := Num_ok (rd l (i : Int)) k (hu _ hm).1 (hu _ hm).2 (by omega)
    obtain ⟨r, hr⟩ := nums_l0_ok l hl hu d (i + 1) k (xs ++ r1) (by omega) (by omega) (by simp <;> omega)
    refine ⟨r, ?_⟩
    unfold unisonref06_nums.l0
    rw [if_pos (by omega), if_pos (by omega), if_pos (by omega), h1]
    show (if xs.length + r1.length < 140737488355328 then _ else none) = _
    rw [if_pos (by omega), w64 (by omega) (by omega)]
    exact_mod_cast hr
theorem nums_ok (l : List Int) (k : Nat) (hl : l.length ≤ 1000000) (hu : u64r l) (hk : l.length + 10 ≤ k) : ∃ r, unisonref06_nums.f k l = some r := by
  obtain ⟨r1, h1, h2⟩ := Num_ok (l.length : Int) k (by omega) (by omega) (by omega)
  obtain ⟨r, hr⟩ := nums_l0_ok l hl hu l.length 0 k r1 (by omega) hk (by omega)
  refine ⟨r, ?_⟩
  unfold unisonref06_nums.f
  rw [wu64 (by omega) (by omega), h1]
  exact hr
theorem same3_l0 (l : List S53) (hl : l.length ≤ 1000000) : ∀ (d i k : Nat), i + d = l.length → d + 1 ≤ k → unisonref03_Same.l0 k l l (l.length : Int) (i : Int) = some true
  | 0, i, k + 1, hi, hk => by
    unfold unisonref03_Same.l0
    rw [if_neg (by omega)]
  | d + 1, i, k + 1, hi, hk => by
    unfold unisonref03_Same.l0
    rw [if_pos (by omega), if_pos (by omega), if_pos (by omega), if_pos (by omega), if_neg (by simp), w64 (by omega) (by omega)]
    exact_mod_cast same3_l0 l hl d (i + 1) k (by omega) (by omega)
theorem same3_ok (l : List S53) (k : Nat) (hl : l.length ≤ 1000000) (hk : l.length + 1 ≤ k) : unisonref03_Same.f k l l = some true := by
  unfold unisonref03_Same.f
  rw [if_pos rfl]
  exact same3_l0 l hl l.length 0 k (by omega) hk
/-- A frame's rows of numbers are numbers. -/
structure fnum (f : Fr) : Prop where
  n10 : u64r f.f10
  n11 : u64r f.f11
/-- A frame is the same as itself. -/
theorem same_self (f : Fr) (hf : fok f) (hn : fnum f) : unisonref06_Same.f 2000000 f.f0.f0 f.f0.f1 f.f0.f2 f.f1.f0 f.f1.f1 f.f2 f.f3 f.f4 f.f5 f.f6 f.f7 f.f8 f.f9 f.f10 f.f11 f.f12 f.f0.f0 f.f0.f1 f.f0.f2 f.f1.f0 f.f1.f1 f.f2 f.f3 f.f4 f.f5 f.f6 f.f7 f.f8 f.f9 f.f10 f.f11 f.f12 = some true := by
  have h8 := hf.l8
  have h9 := hf.l9
  have h10 := hf.l10
  have h11 := hf.l11
  obtain ⟨r1, e1⟩ := nums_ok f.f10 2000000 hf.l10 hn.n10 (by omega)
  obtain ⟨r2, e2⟩ := nums_ok f.f11 2000000 hf.l11 hn.n11 (by omega)
  unfold unisonref06_Same.f
  rw [if_pos (by simp [eqI, eqL]), same3_ok f.f8 2000000 hf.l8 (by omega), same3_ok f.f9 2000000 hf.l9 (by omega), e1, e2]
  rfl

/-! ### The same frames -/
theorem at_C {w : World} {A : Option Addr} {n : Nat} {xs : List Fr} (h : Kd.C kF w A n xs) (i : Int) (h0 : 0 ≤ i) (h1 : i < n) : ∃ (x : Fr) (ad : Addr) (A11 : Option Addr) (c11 : Nat) (A12 : Option Addr) (c12 : Nat) (A13 : Option Addr) (c13 : Nat) (A14 : Option Addr) (c14 : Nat) (A15 : Option Addr) (c15 : Nat),
    x = rd_T36 xs i ∧ A = some ad ∧ kF.K w x [.int .u8 x.f0.f0, .int .u8 x.f0.f1, .int .u8 x.f0.f2, .int .u8 x.f1.f0, .int .u64 x.f1.f1, .int .u64 x.f2, .int .u32 x.f3, .int .u32 x.f4, .int .u32 x.f5, .int .u64 x.f6, .int .u64 x.f7, .slice A11 x.f8.length c11, .slice A12 x.f9.length c12, .slice A13 x.f10.length c13, .slice A14 x.f11.length c14, .slice A15 x.f12.length c15] ∧ w.cell? (ad.add (i.toNat * 16)) = some (.int .u8 x.f0.f0) ∧ w.cell? ⟨(ad.add (i.toNat * 16)).block, (ad.add (i.toNat * 16)).off + 1, none⟩ = some (.int .u8 x.f0.f1) ∧ w.cell? ⟨(ad.add (i.toNat * 16)).block, (ad.add (i.toNat * 16)).off + 2, none⟩ = some (.int .u8 x.f0.f2) ∧ w.cell? ⟨(ad.add (i.toNat * 16)).block, (ad.add (i.toNat * 16)).off + 3, none⟩ = some (.int .u8 x.f1.f0) ∧ w.cell? ⟨(ad.add (i.toNat * 16)).block, (ad.add (i.toNat * 16)).off + 4, none⟩ = some (.int .u64 x.f1.f1) ∧ w.cell? ⟨(ad.add (i.toNat * 16)).block, (ad.add (i.toNat * 16)).off + 5, none⟩ = some (.int .u64 x.f2) ∧ w.cell? ⟨(ad.add (i.toNat * 16)).block, (ad.add (i.toNat * 16)).off + 6, none⟩ = some (.int .u32 x.f3) ∧ w.cell? ⟨(ad.add (i.toNat * 16)).block, (ad.add (i.toNat * 16)).off + 7, none⟩ = some (.int .u32 x.f4) ∧ w.cell? ⟨(ad.add (i.toNat * 16)).block, (ad.add (i.toNat * 16)).off + 8, none⟩ = some (.int .u32 x.f5) ∧ w.cell? ⟨(ad.add (i.toNat * 16)).block, (ad.add (i.toNat * 16)).off + 9, none⟩ = some (.int .u64 x.f6) ∧ w.cell? ⟨(ad.add (i.toNat * 16)).block, (ad.add (i.toNat * 16)).off + 10, none⟩ = some (.int .u64 x.f7) ∧ w.cell? ⟨(ad.add (i.toNat * 16)).block, (ad.add (i.toNat * 16)).off + 11, none⟩ = some (.slice A11 x.f8.length c11) ∧ w.cell? ⟨(ad.add (i.toNat * 16)).block, (ad.add (i.toNat * 16)).off + 12, none⟩ = some (.slice A12 x.f9.length c12) ∧ w.cell? ⟨(ad.add (i.toNat * 16)).block, (ad.add (i.toNat * 16)).off + 13, none⟩ = some (.slice A13 x.f10.length c13) ∧ w.cell? ⟨(ad.add (i.toNat * 16)).block, (ad.add (i.toNat * 16)).off + 14, none⟩ = some (.slice A14 x.f11.length c14) ∧ w.cell? ⟨(ad.add (i.toNat * 16)).block, (ad.add (i.toNat * 16)).off + 15, none⟩ = some (.slice A15 x.f12.length c15) := by
  obtain ⟨ad, c, e, _, hK, hc0⟩ := Kd.C_get h z36 i h0 h1
  have hc : ∀ j u, c[j]? = some u → w.cell? (ad.add (i.toNat * 16 + j)) = some u := hc0
  obtain ⟨A11, c11, A12, c12, A13, c13, A14, c14, A15, c15, rfl, _⟩ := k36_open hK
  exact ⟨_, ad, A11, c11, A12, c12, A13, c13, A14, c14, A15, c15, rfl, e, hK, hc 0 _ rfl, by rw [← add_field _ _ 1 (by omega)]; exact hc 1 _ rfl, by rw [← add_field _ _ 2 (by omega)]; exact hc 2 _ rfl, by rw [← add_field _ _ 3 (by omega)]; exact hc 3 _ rfl, by rw [← add_field _ _ 4 (by omega)]; exact hc 4 _ rfl, by rw [← add_field _ _ 5 (by omega)]; exact hc 5 _ rfl, by rw [← add_field _ _ 6 (by omega)]; exact hc 6 _ rfl, by rw [← add_field _ _ 7 (by omega)]; exact hc 7 _ rfl, by rw [← add_field _ _ 8 (by omega)]; exact hc 8 _ rfl, by rw [← add_field _ _ 9 (by omega)]; exact hc 9 _ rfl, by rw [← add_field _ _ 10 (by omega)]; exact hc 10 _ rfl, by rw [← add_field _ _ 11 (by omega)]; exact hc 11 _ rfl, by rw [← add_field _ _ 12 (by omega)]; exact hc 12 _ rfl, by rw [← add_field _ _ 13 (by omega)]; exact hc 13 _ rfl, by rw [← add_field _ _ 14 (by omega)]; exact hc 14 _ rfl, by rw [← add_field _ _ 15 (by omega)]; exact hc 15 _ rfl⟩
theorem same_one (x : Fr) {A11 A12 A13 A14 A15 : Option Addr} {c11 c12 c13 c14 c15 : Nat} {B11 B12 B13 B14 B15 : Option Addr} {d11 d12 d13 d14 d15 : Nat} (w : World) (h1 : kF.K w x [.int .u8 x.f0.f0, .int .u8 x.f0.f1, .int .u8 x.f0.f2, .int .u8 x.f1.f0, .int .u64 x.f1.f1, .int .u64 x.f2, .int .u32 x.f3, .int .u32 x.f4, .int .u32 x.f5, .int .u64 x.f6, .int .u64 x.f7, .slice A11 x.f8.length c11, .slice A12 x.f9.length c12, .slice A13 x.f10.length c13, .slice A14 x.f11.length c14, .slice A15 x.f12.length c15]) (h2 : kF.K w x [.int .u8 x.f0.f0, .int .u8 x.f0.f1, .int .u8 x.f0.f2, .int .u8 x.f1.f0, .int .u64 x.f1.f1, .int .u64 x.f2, .int .u32 x.f3, .int .u32 x.f4, .int .u32 x.f5, .int .u64 x.f6, .int .u64 x.f7, .slice B11 x.f8.length d11, .slice B12 x.f9.length d12, .slice B13 x.f10.length d13, .slice B14 x.f11.length d14, .slice B15 x.f12.length d15]) (hf : fok x) (hn : fnum x) :
    Calls Try.prog 19 #[.agg #[.int .u8 x.f0.f0, .int .u8 x.f0.f1, .int .u8 x.f0.f2, .int .u8 x.f1.f0, .int .u64 x.f1.f1, .int .u64 x.f2, .int .u32 x.f3, .int .u32 x.f4, .int .u32 x.f5, .int .u64 x.f6, .int .u64 x.f7, .slice A11 x.f8.length c11, .slice A12 x.f9.length c12, .slice A13 x.f10.length c13, .slice A14 x.f11.length c14, .slice A15 x.f12.length c15], .agg #[.int .u8 x.f0.f0, .int .u8 x.f0.f1, .int .u8 x.f0.f2, .int .u8 x.f1.f0, .int .u64 x.f1.f1, .int .u64 x.f2, .int .u32 x.f3, .int .u32 x.f4, .int .u32 x.f5, .int .u64 x.f6, .int .u64 x.f7, .slice B11 x.f8.length d11, .slice B12 x.f9.length d12, .slice B13 x.f10.length d13, .slice B14 x.f11.length d14, .slice B15 x.f12.length d15]] w fun e w' => e = .returned (.bool true) ∧ Below w.heap.size w w' := by
  obtain ⟨_, _, _, _, _, _, _, _, _, _, e1, l11, g11, l12, g12, l13, g13, l14, g14, l15, g15⟩ := k36_open h1
  cases e1
  obtain ⟨_, _, _, _, _, _, _, _, _, _, e2, m11, k11, m12, k12, m13, k13, m14, k14, m15, k15⟩ := k36_open h2
  cases e2
  exact unisonref06_Same.calls 2000000 _ _ _ _ _ _ _ _ _ _ _ _ _ _ _ _ _ _ _ _ _ _ _ _ _ _ _ _ _ _ _ _ _ _ _ _ _ _ _ _ _ _ _ _ _ _ _ _ _ _ _ _ true w g11 l11 g12 l12 g13 l13 g14 l14 g15 l15 k11 m11 k12 m12 k13 m13 k14 m14 k15 m15 (same_self x hf hn)

/-- Beside the blocks of S the world w' is as w was. -/
structure Beside (S : Nat → Prop) (w w' : World) : Prop where
  os : w'.os = w.os
  tape : w'.tape = w.tape
  output : w'.output = w.output
  size : w.heap.size ≤ w'.heap.size
  block : ∀ k, k < w.heap.size → ¬ S k → w'.heap[k]? = w.heap[k]?
namespace Beside
variable {S S' S2 : Nat → Prop} {w w1 w2 : World}
theorem refl (S : Nat → Prop) (w : World) : Beside S w w := ⟨rfl, rfl, rfl, Nat.le_refl _, fun _ _ _ => rfl⟩
theorem of_below (S : Nat → Prop) (h : Below w.heap.size w w1) : Beside S w w1 := ⟨h.os, h.tape, h.output, h.size, fun k hk _ => h.block k hk⟩
/-- A later step that turns the blocks of S, or new ones. -/
theorem then_ (h : Beside S w w1) (k : Beside S2 w1 w2) (hs : ∀ k, S2 k → S k ∨ w.heap.size ≤ k) : Beside S w w2 :=
  ⟨k.os.trans h.os, k.tape.trans h.tape, k.output.trans h.output, Nat.le_trans h.size k.size, fun i hi hn => (k.block i (Nat.lt_of_lt_of_le hi h.size) (fun h2 => (hs i h2).elim hn (fun h3 => by omega))).trans (h.block i hi hn)⟩
theorem trans (h : Beside S w w1) (k : Beside S w1 w2) : Beside S w w2 := h.then_ k (fun _ h => .inl h)
theorem mono (h : Beside S w w1) (hs : ∀ k, S k → S' k) : Beside S' w w1 := ⟨h.os, h.tape, h.output, h.size, fun k hk hn => h.block k hk (fun h1 => hn (hs k h1))⟩
theorem below (h : Beside S w w1) (hs : ∀ k, S k → w.heap.size ≤ k) : Below w.heap.size w w1 := ⟨h.os, h.tape, h.output, h.size, fun k hk => h.block k hk (fun h1 => by have := hs k h1; omega)⟩
theorem then_below (h : Beside S w w1) (k : Below w1.heap.size w1 w2) : Beside S w w2 := h.trans (of_below S k)
theorem alloc (h : Beside S w w1) (o : Obj) : Beside S w (w1.alloc o) := h.then_below (below_alloc (Below.refl _ _) o)
theorem drew (h : Beside S w w1) : Beside S w w1.drew := ⟨h.os, h.tape, h.output, h.size, h.block⟩
theorem drewN (h : Beside S w w1) (n : Nat) : Beside S w (w1.drewN n) := h.then_below (pw_below_drewN (Below.refl _ _) n)
theorem setCell (h : Beside S w w1) {p : Addr} (hp : S p.block) (u : Value) : Beside S w (w1.setCell p u) :=
  h.trans ⟨rfl, rfl, rfl, by simp [World.setCell], fun k _ hn => Below.heap_setCell _ _ _ _ (fun e => hn (by rw [e]; exact hp))⟩
/-- What a step on other blocks leaves: a block. -/
theorem blk (h : Beside S w w1) {g : Nat} {o : Obj} (hb : w.heap[g]? = some o) (hn : ¬ S g) : w1.heap[g]? = some o := (h.block g (blk_lt hb) hn).trans hb
theorem kept (h : Beside S w w1) : Kept w w1 S := ⟨h.size, fun k hk hn => h.block k hk hn⟩
/-- Beneath all blocks of S. -/
theorem step {w0 : World} (h0 : Below w0.heap.size w0 w) (h : Beside S w w1) (hs : ∀ k, S k → w0.heap.size ≤ k) : Below w0.heap.size w0 w1 :=
  ⟨h.os.trans h0.os, h.tape.trans h0.tape, h.output.trans h0.output, Nat.le_trans h0.size h.size, fun k hk => (h.block k (Nat.lt_of_lt_of_le hk h0.size) (fun h1 => by have := hs k h1; omega)).trans (h0.block k hk)⟩
end Beside

/-! ### Whole structs: out of a row, into a box -/
section
variable {P : Program} {ops : Array Oper} {rest : List Oper} {o : Oper} {a : Act} {Q : Exit → Act → World → Prop}
theorem run_loadVar_any (w : World) (ad : Addr) (ty : TypeId) (cs : List Value) (d : TypeDesc) (hc : ∀ j v, cs[j]? = some v → w.cell? (ad.add j) = some v)
    (hu : P.underlying ty = some d) (hd : d.isRow = true) (hi : (P.info? ty).map (·.size) = some cs.length) :
    (loadVar ty ad).run P w = .ok (.agg cs.toArray) w := by
  have hl : (loadCells ad cs.length).run P w = .ok cs.toArray w := run_loadCells_list (P := P) w ad cs hc
  cases hq : P.info? ty with
  | none => simp [hq] at hi
  | some i =>
    have hs : i.size = cs.length := by simpa [hq] using hi
    have hagg : (isAgg ty).run P w = .ok true w := by
      unfold isAgg
      rw [Sem.run_bind, run_underlying hu w]
      cases d <;> simp_all
    simp [loadVar, Sem.run_bind, hagg, sizeOf, typeInfo, hq, hs, hl]
/-- A whole struct is loaded: its cells stay a list. -/
theorem load_any {w : World} (hgd : o.guard = none) (ty : TypeId) (x : Operand) (ho : o.op = .load ty x) (ad : Addr) (hx : a.eval x = .pointer (some ad)) (cs : List Value) (d : TypeDesc)
    (hc : ∀ j v, cs[j]? = some v → w.cell? (ad.add j) = some v) (hu : P.underlying ty = some d) (hd : d.isRow = true) (hi : (P.info? ty).map (·.size) = some cs.length)
    (h : wpList P ops Q rest (a.put o.dst (.agg cs.toArray)) w) : wpList P ops Q (o :: rest) a w :=
  wpList_plain hgd fun K hK => by
    unfold Oper.wp execOp
    simp only [ho, hx, Instr.loadAt, Instr.sureAddr, Sem.run_bind, Sem.run_pure, Result.andThen_ok, run_loadVar_any w ad ty cs d hc hu hd hi]
    exact hK _ _ h
def putAll (cur : Array Value) : Nat → List Value → Array Value
  | _, [] => cur
  | off, v :: r => putAll (cur.setIfInBounds off v) (off + 1) r
theorem putAll_size : ∀ (seg : List Value) (cur : Array Value) (off : Nat), (putAll cur off seg).size = cur.size
  | [], _, _ => rfl
  | v :: r, cur, off => by rw [putAll, putAll_size r]; simp
theorem putAll_get : ∀ (seg : List Value) (cur : Array Value) (off i : Nat), off + seg.length ≤ cur.size → (putAll cur off seg)[i]? = if off ≤ i ∧ i < off + seg.length then seg[i - off]? else cur[i]?
  | [], cur, off, i, _ => by rw [if_neg (by simp <;> omega)]; rfl
  | v :: r, cur, off, i, h => by
    have h' : off + 1 + r.length ≤ (cur.setIfInBounds off v).size := by simp at h ⊢; omega
    rw [putAll, putAll_get r _ _ i h']
    simp only [List.length_cons] at h ⊢
    by_cases h1 : off + 1 ≤ i ∧ i < off + 1 + r.length
    · rw [if_pos h1, if_pos (by omega), show i - off = (i - (off + 1)) + 1 by omega]
      rfl
    · rw [if_neg h1]
      by_cases h2 : i = off
      · subst h2
        rw [if_pos (by omega)]
        have hlt : i < cur.size := by omega
        simp [Array.getElem?_setIfInBounds, hlt]
      · rw [if_neg (by omega)]
        simp [Array.getElem?_setIfInBounds, Ne.symm h2]
theorem putAll_whole (cur cells : Array Value) (h : cur.size = cells.size) : putAll cur 0 cells.toList = cells := by
  apply Array.ext_getElem?
  intro i
  rw [putAll_get _ _ _ _ (by simp; omega)]
  by_cases hi : i < cells.size
  · rw [if_pos (by simp; omega)]
    simp
  · rw [if_neg (by simp; omega), Array.getElem?_eq_none (by omega), Array.getElem?_eq_none (by omega)]
theorem setCells_blk {g : Nat} {t : TypeId} : ∀ (seg : List Value) (off : Nat) {w : World} {cur : Array Value}, w.heap[g]? = some (.cells cur t (0, 0)) → (w.setCells g off seg).heap[g]? = some (.cells (putAll cur off seg) t (0, 0))
  | [], _, _, _, h => h
  | v :: r, off, _, _, h => setCells_blk r (off + 1) (blk_put h off v rfl)
theorem setCells_beside (g : Nat) : ∀ (seg : List Value) (off : Nat) (w : World), Beside (fun k => k = g) w (w.setCells g off seg)
  | [], _, w => Beside.refl _ w
  | v :: r, off, w => ((Beside.refl (fun k => k = g) w).setCell (p := ⟨g, off, none⟩) rfl v).trans (setCells_beside g r (off + 1) _)
theorem setCells_size (g : Nat) : ∀ (seg : List Value) (off : Nat) (w : World), (w.setCells g off seg).heap.size = w.heap.size
  | [], _, w => rfl
  | v :: r, off, w => (setCells_size g r (off + 1) _).trans (by simp [World.setCell])
/-- A whole struct is stored into its box: the world behind it is told by the box alone. -/
theorem store_box {w : World} (hgd : o.guard = none) (ty : TypeId) (x y : Operand) (ho : o.op = .store ty x y) (g : Nat) (cur cells : Array Value) (t : TypeId) (hx : a.eval x = .pointer (some ⟨g, 0, none⟩)) (hy : a.eval y = .agg cells)
    (hb : w.heap[g]? = some (.cells cur t (0, 0))) (hs : cur.size = cells.size) (hi : (P.info? ty).map (·.size) = some cells.size) (h1 : ∀ u ∈ cells.toList, u.oneCell' = true)
    (h : ∀ w1, w1.heap[g]? = some (.cells cells t (0, 0)) → Beside (fun k => k = g) w w1 → w1.heap.size = w.heap.size → wpList P ops Q rest (a.put o.dst undef) w1) : wpList P ops Q (o :: rest) a w := by
  refine wpList_store_mid hgd ty x y ho g 0 cells hx hy (fun j hj => ⟨?_, blk_frozen hb _⟩) hi (by rw [← Array.toArray_toList (xs := cells)]; exact all_oneCell_toArray h1) (h _ ?_ (setCells_beside g _ 0 w) (setCells_size g _ 0 w))
  · rw [blk_cell hb, Nat.zero_add, Array.getElem?_eq_getElem (by omega)]
    rfl
  · rw [setCells_blk cells.toList 0 hb, putAll_whole cur cells hs]
/-- A new box is filled. -/
theorem fill_box {w : World} (hgd : o.guard = none) (ty : TypeId) (x y : Operand) (ho : o.op = .store ty x y) (cur cells : Array Value) (t : TypeId) (hx : a.eval x = .pointer (some ⟨w.heap.size, 0, none⟩)) (hy : a.eval y = .agg cells)
    (hs : cur.size = cells.size) (hi : (P.info? ty).map (·.size) = some cells.size) (h1 : ∀ u ∈ cells.toList, u.oneCell' = true)
    (h : ∀ w1, w1.heap[w.heap.size]? = some (.cells cells t (0, 0)) → Below w.heap.size w w1 → w1.heap.size = w.heap.size + 1 → wpList P ops Q rest (a.put o.dst undef) w1) : wpList P ops Q (o :: rest) a (w.alloc (.cells cur t)) := by
  refine store_box hgd ty x y ho w.heap.size cur cells t hx hy (blk_new w _) hs hi h1 (fun w1 hb hB hz => h w1 hb ?_ (by rw [hz]; simp))
  exact Beside.below ((Beside.of_below (fun k => k = w.heap.size) (below_alloc (Below.refl _ _) _)).trans hB) (fun k hk => by omega)
end

theorem same_K {w : World} (x : Fr) {XL WL : List Value} (h1 : kF.K w x XL) (h2 : kF.K w x WL) (hf : fok x) (hn : fnum x) :
    Calls Try.prog 19 #[.agg XL.toArray, .agg WL.toArray] w fun e w' => e = .returned (.bool true) ∧ Below w.heap.size w w' := by
  obtain ⟨A11, c11, A12, c12, A13, c13, A14, c14, A15, c15, rfl, _⟩ := k36_open h1
  obtain ⟨B11, d11, B12, d12, B13, d13, B14, d14, B15, d15, rfl, _⟩ := k36_open h2
  exact same_one x w h1 h2 hf hn
theorem right_K {w : World} (x : Fr) {XL : List Value} (ch most : Int) (r : Bool) (h1 : kF.K w x XL) (h : chunk_Right.f x.f0.f0 x.f0.f1 x.f0.f2 x.f1.f0 x.f1.f1 x.f2 x.f3 x.f4 x.f5 x.f6 x.f7 x.f8 x.f9 x.f10 x.f11 x.f12 ch most = some r) :
    Calls Try.prog 14 #[.agg XL.toArray, .int .i64 ch, .int .i64 most] w fun e w' => e = .returned (.bool r) ∧ Below w.heap.size w w' := by
  obtain ⟨A11, c11, A12, c12, A13, c13, A14, c14, A15, c15, rfl, l11, g11, l12, g12, l13, g13, l14, g14, l15, g15⟩ := k36_open h1
  exact chunk_Right.calls _ _ _ _ _ _ _ _ _ _ _ _ _ _ _ _ _ _ _ _ _ _ _ _ _ _ ch most r w g11 l11 g12 l12 g13 l13 g14 l14 g15 l15 h
def wantF (a b i n l : Int) (pp : List Int) : Fr := ⟨⟨0, 0, 0⟩, ⟨a, b⟩, 0, i, n, l, 0, 0, [], [], [], [], pp⟩
theorem frm_want (p : List Int) (ch a b n : Int) (i : Nat) (hp : p.length ≤ 2000) (hn : 0 ≤ n ∧ n ≤ 1048576) (hi : (i : Int) < n) : frm p ch n i a b = wantF a b i n p.length (pc p ch i) := by
  have e1 : (p.length : Int) % 4294967296 = p.length := Int.emod_eq_of_lt (by omega) (by omega)
  have e2 : (i : Int) % 4294967296 = i := Int.emod_eq_of_lt (by omega) (by omega)
  have e3 : n % 4294967296 = n := Int.emod_eq_of_lt (by omega) (by omega)
  unfold frm wantF pc
  rw [e1, e2, e3]
theorem want_right (p : List Int) (ch a b most n : Int) (i : Nat) (hp : p.length ≤ 2000) (he : n = cnt p.length ch) (hi : (i : Int) < n) :
    chunk_Right.f 0 0 0 a b 0 (i : Int) n (p.length : Int) 0 0 [] [] [] [] (pc p ch i) ch most = some (decide ((p.length : Int) ≤ most)) := by
  subst he
  have hb := cnt_bound p.length ch
  have hk : okC p.length ch := by
    by_cases hk : okC p.length ch
    · exact hk
    · unfold cnt at hi
      rw [if_neg hk] at hi
      omega
  have h := right_frm p ch a b most i hp hk hi
  rw [show (p.length : Int) % 4294967296 = p.length from Int.emod_eq_of_lt (by omega) (by omega), show (i : Int) % 4294967296 = i from Int.emod_eq_of_lt (by omega) (by omega), show cnt p.length ch % 4294967296 = cnt p.length ch from Int.emod_eq_of_lt (by omega) (by omega)] at h
  exact h

end Go.Proofs.Ythgpocefiaklkaa.Walk
