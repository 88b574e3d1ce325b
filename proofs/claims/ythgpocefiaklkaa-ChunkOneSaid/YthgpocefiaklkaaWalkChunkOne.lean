/- A payload that isn't longer than a chunk has one, which is all of it; each other one has more, all of them full but for the last one, which isn't empty. Conditions: none beyond the statement's own. -/
import Derived.Test.YthgpocefiaklkaaF10
import Derived.Test.YthgpocefiaklkaaF2
import Derived.Test.YthgpocefiaklkaaArgs
import Derived.Deep.QuietTactic
import Derived.BigQuiet
import Derived.Lib.QuietBelow
import Derived.Outline
namespace Go.Proofs.Ythgpocefiaklkaa.Walk
open Go.RowKit Go.Proofs.Ythgpocefiaklkaa.F Go.Proofs.YthgpocefiaklkaaW.PrintWords Go.Proofs.YthgpocefiaklkaaW.PrintLast Go.Proofs.YthgpocefiaklkaaW.PrintMore Go.Proofs.Ythgpocefiaklkaa.Open
open Go.Sort (grow)
attribute [local go_sem] max2_int min2_int max_two min_two max_three min_three max_four min_four
set_option linter.unusedVariables false
set_option linter.unusedSimpArgs false

theorem w64 {x : Int} (h0 : -9223372036854775808 ≤ x) (h1 : x ≤ 9223372036854775807) : wrap64 x = x := by unfold wrap64; omega
theorem wf_i64 {x : Int} (h : (Lit.int .i64 x).wf = true) : -9223372036854775808 ≤ x ∧ x ≤ 9223372036854775807 := by
  simp [Lit.wf, IntKind.min, IntKind.max, IntKind.signed, IntKind.bits] at h
  omega
theorem within_eq (n a b : Int) : chunk_within.f n a b = some (decide (a ≤ n ∧ n ≤ b)) := by
  unfold chunk_within.f
  by_cases h : n ≥ a <;> simp [h] <;> omega

/-- How many chunks, where there are any. -/
def c (size chunk : Int) : Int := if size ≤ chunk then 1 else (size + chunk - 1) / chunk
theorem c_step {size chunk : Int} (hc : 1 ≤ chunk) (h : chunk < size) : c size chunk = c (size - chunk) chunk + 1 := by
  unfold c
  rw [if_neg (by omega)]
  have e : (size + chunk - 1) / chunk = (size - chunk + chunk - 1) / chunk + 1 := by
    rw [show size + chunk - 1 = (size - chunk + chunk - 1) + chunk * 1 by omega, Int.add_mul_ediv_left _ _ (by omega)]
  rw [e]
  split
  · rename_i h2
    have : (size - chunk + chunk - 1) / chunk = 1 := by
      rw [show size - chunk + chunk - 1 = (size - chunk - 1) + chunk * 1 by omega, Int.add_mul_ediv_left _ _ (by omega), Int.ediv_eq_zero_of_lt (by omega) (by omega)]
      rfl
    omega
  · rfl
theorem c_pos {size chunk : Int} (hc : 1 ≤ chunk) (h : 0 ≤ size) : 1 ≤ c size chunk := by
  unfold c
  split
  · omega
  · exact Int.le_ediv_of_mul_le (by omega) (by omega)
theorem c_spec {chunk : Int} (hc : 1 ≤ chunk) : ∀ (d : Nat) (size : Int), 0 ≤ size → size.toNat ≤ d → size ≤ c size chunk * chunk ∧ (2 ≤ c size chunk → (c size chunk - 1) * chunk < size) ∧ (c size chunk ≤ size ∨ c size chunk = 1) := by
  intro d
  induction d with
  | zero =>
    intro size h0 hd
    have e : c size chunk = 1 := by unfold c; rw [if_pos (by omega)]
    rw [e]; exact ⟨by omega, by omega, by omega⟩
  | succ d ih =>
    intro size h0 hd
    by_cases h : size ≤ chunk
    · have e : c size chunk = 1 := by unfold c; rw [if_pos h]
      rw [e]; exact ⟨by omega, by omega, by omega⟩
    · obtain ⟨h1, h2, h3⟩ := ih (size - chunk) (by omega) (by omega)
      have e := c_step hc (show chunk < size by omega)
      have hp := c_pos hc (show 0 ≤ size - chunk by omega)
      rw [e]
      have e2 : (c (size - chunk) chunk + 1) * chunk = c (size - chunk) chunk * chunk + chunk := by rw [Int.add_mul]; omega
      have e3 : (c (size - chunk) chunk + 1 - 1) * chunk = (c (size - chunk) chunk - 1) * chunk + chunk := by rw [show c (size - chunk) chunk + 1 - 1 = (c (size - chunk) chunk - 1) + 1 by omega, Int.add_mul]; omega
      refine ⟨by omega, fun _ => ?_, by omega⟩
      rw [e3]
      by_cases hq : 2 ≤ c (size - chunk) chunk
      · have := h2 hq; omega
      · have hq1 : c (size - chunk) chunk = 1 := by omega
        rw [hq1]; omega

def okC (size chunk : Int) : Prop := (0 ≤ size ∧ size ≤ 1048576) ∧ 1 ≤ chunk ∧ chunk ≤ 65536
instance (size chunk : Int) : Decidable (okC size chunk) := inferInstanceAs (Decidable (_ ∧ _))
def cnt (size chunk : Int) : Int := if okC size chunk then c size chunk else 0

theorem mx_c {size chunk : Int} (hc : 1 ≤ chunk) : mx 1 ((size + chunk - 1) / chunk) = c size chunk := by
  unfold mx c
  by_cases h : size ≤ chunk
  · rw [if_pos h]
    have h1 : (size + chunk - 1) / chunk < 2 := Int.ediv_lt_of_lt_mul (by omega) (by omega)
    split <;> omega
  · rw [if_neg h]
    have h1 : 1 ≤ (size + chunk - 1) / chunk := Int.le_ediv_of_mul_le (by omega) (by omega)
    split <;> omega

theorem count_eq (size chunk : Int) : chunk_Count.f size chunk = some (cnt size chunk) := by
  unfold chunk_Count.f cnt
  rw [within_eq, within_eq]
  simp only [Option.bind_some, decide_eq_true_eq]
  by_cases h1 : 0 ≤ size ∧ size ≤ 1048576
  · by_cases h2 : 1 ≤ chunk ∧ chunk ≤ 65536
    · rw [if_pos h1, if_pos h2, if_neg (by omega), if_pos (show okC size chunk from ⟨h1, h2⟩), w64 (x := size + chunk) (by omega) (by omega), w64 (x := size + chunk - 1) (by omega) (by omega), Int.tdiv_eq_ediv_of_nonneg (by omega)]
      have h3 : 0 ≤ (size + chunk - 1) / chunk := Int.ediv_nonneg (by omega) (by omega)
      have h4 : (size + chunk - 1) / chunk ≤ size + chunk - 1 := Int.ediv_le_self _ (by omega)
      rw [w64 (by omega) (by omega), mx_c h2.1]
    · rw [if_pos h1, if_neg h2, if_neg (fun h : okC size chunk => h2 h.2)]
  · rw [if_neg h1, if_neg (fun h : okC size chunk => h1 h.1)]

theorem cnt_bound (size chunk : Int) : 0 ≤ cnt size chunk ∧ cnt size chunk ≤ 1048576 := by
  unfold cnt
  split
  · rename_i h
    obtain ⟨h1, h2⟩ := h
    have := c_pos h2.1 h1.1
    have := (c_spec h2.1 size.toNat size h1.1 (Nat.le_refl _)).2.2
    omega
  · omega

def len (size chunk at_ : Int) : Int := if 0 ≤ at_ ∧ at_ < cnt size chunk then (if at_ < cnt size chunk - 1 then chunk else size - chunk * (cnt size chunk - 1)) else 0

theorem mn_len {size chunk at_ : Int} (h : okC size chunk) (h0 : 0 ≤ at_) (h1 : at_ < cnt size chunk) :
    mn chunk (size - at_ * chunk) = (if at_ < cnt size chunk - 1 then chunk else size - chunk * (cnt size chunk - 1)) ∧ 0 ≤ at_ * chunk ∧ at_ * chunk ≤ size ∧ 0 ≤ mn chunk (size - at_ * chunk) ∧ at_ * chunk + mn chunk (size - at_ * chunk) ≤ size := by
  have e : cnt size chunk = c size chunk := by unfold cnt; rw [if_pos h]
  rw [e] at h1 ⊢
  obtain ⟨hs, hc⟩ := h
  obtain ⟨s1, s2, _⟩ := c_spec hc.1 size.toNat size hs.1 (Nat.le_refl _)
  have hm0 : 0 ≤ at_ * chunk := Int.mul_nonneg h0 (by omega)
  by_cases hlast : at_ < c size chunk - 1
  · rw [if_pos hlast]
    have h2 := s2 (by omega)
    have hm : (at_ + 1) * chunk ≤ (c size chunk - 1) * chunk := Int.mul_le_mul_of_nonneg_right (by omega) (by omega)
    rw [Int.add_mul] at hm
    unfold mn
    rw [if_neg (by omega)]
    omega
  · rw [if_neg hlast]
    obtain rfl : at_ = c size chunk - 1 := by omega
    have e4 : c size chunk * chunk = (c size chunk - 1) * chunk + chunk := by
      have : c size chunk * chunk = (c size chunk - 1 + 1) * chunk := by congr 1; omega
      rw [this, Int.add_mul]; omega
    have h5 : (c size chunk - 1) * chunk ≤ size := by
      by_cases h6 : 2 ≤ c size chunk
      · have := s2 h6; omega
      · have : c size chunk = 1 := by omega
        rw [this]; omega
    rw [Int.mul_comm chunk]
    unfold mn
    split <;> omega

theorem length_eq (size chunk at_ : Int) : chunk_Length.f size chunk at_ = some (len size chunk at_) := by
  unfold chunk_Length.f len
  have hb := cnt_bound size chunk
  rw [count_eq]
  simp only [Option.bind_some]
  rw [w64 (by omega) (by omega), within_eq]
  simp only [Option.bind_some, decide_eq_true_eq]
  by_cases h : 0 ≤ at_ ∧ at_ ≤ cnt size chunk - 1
  · have hk : okC size chunk := by
      by_cases hk : okC size chunk
      · exact hk
      · have : cnt size chunk = 0 := by unfold cnt; rw [if_neg hk]
        omega
    obtain ⟨m1, m2, m3, _⟩ := mn_len hk h.1 (by omega)
    obtain ⟨hs, hc⟩ := hk
    rw [if_pos h, if_pos (by omega), w64 (x := at_ * chunk) (by omega) (by omega), w64 (x := size - at_ * chunk) (by omega) (by omega), m1]
  · rw [if_neg h, if_neg (by omega)]

theorem awake_eq : unisonlaw12_awake.f = some true := by
  unfold unisonlaw12_awake.f
  rw [count_eq, length_eq, length_eq, count_eq]
  decide

theorem cut_yes (p : List Int) (chunk at_ : Int) (hk : okC p.length chunk) (h0 : 0 ≤ at_) (h1 : at_ < cnt p.length chunk) :
    chunk_Cut.f p chunk at_ = some ((p.drop (at_ * chunk).toNat).take (len p.length chunk at_).toNat, true) ∧ ((p.drop (at_ * chunk).toNat).take (len p.length chunk at_).toNat).length = len p.length chunk at_ := by
  have hb := cnt_bound p.length chunk
  obtain ⟨m1, m2, m3, m4, m5⟩ := mn_len hk h0 h1
  have e : len p.length chunk at_ = mn chunk (p.length - at_ * chunk) := by unfold len; rw [if_pos ⟨h0, h1⟩, m1]
  have hs := hk.1
  have hl : (p.drop (at_ * chunk).toNat).length = p.length - (at_ * chunk).toNat := List.length_drop
  constructor
  · unfold chunk_Cut.f
    rw [count_eq]
    simp only [Option.bind_some]
    rw [w64 (x := cnt p.length chunk - 1) (by omega) (by omega), within_eq]
    simp only [Option.bind_some, decide_eq_true_eq]
    rw [if_pos (by omega), length_eq]
    simp only [Option.bind_some]
    rw [w64 (x := at_ * chunk) (by omega) (by omega), e, w64 (by omega) (by omega), if_pos (by omega), if_pos (by omega), if_pos (by omega)]
    unfold slices_Clone_byte_byte.f
    rw [if_pos (by rw [List.length_drop, List.length_take]; omega)]
    simp only [Option.bind_some]
    congr 2
    rw [List.drop_take]
    congr 1; omega
  · rw [List.length_take, hl, e]; omega
theorem cut_no (p : List Int) (chunk at_ : Int) (h : ¬ (0 ≤ at_ ∧ at_ < cnt p.length chunk)) : chunk_Cut.f p chunk at_ = some ([], false) := by
  have hb := cnt_bound p.length chunk
  unfold chunk_Cut.f
  rw [count_eq]
  simp only [Option.bind_some]
  rw [w64 (x := cnt p.length chunk - 1) (by omega) (by omega), within_eq]
  simp only [Option.bind_some, decide_eq_true_eq]
  rw [if_neg (by omega)]

/-- The frame of a chunk. -/
def frm (p : List Int) (ch n i a b : Int) : S36 := ⟨⟨0, 0, 0⟩, ⟨a, b⟩, 0, i % 4294967296, n % 4294967296, (p.length : Int) % 4294967296, 0, 0, [], [], [], [], (p.drop (i * ch).toNat).take (len p.length ch i).toNat⟩
def frms (p : List Int) (ch n a b : Int) : Nat → Int → List S36
  | 0, _ => []
  | d + 1, i => frm p ch n i a b :: frms p ch n a b d (i + 1)
theorem frms_length (p : List Int) (ch n a b : Int) : ∀ (d : Nat) (i : Int), (frms p ch n a b d i).length = d
  | 0, _ => rfl
  | d + 1, i => by simp [frms, frms_length p ch n a b d (i + 1)]
theorem frms_get (p : List Int) (ch n a b : Int) : ∀ (d : Nat) (i : Int) (j : Nat), j < d → (frms p ch n a b d i)[j]? = some (frm p ch n (i + j) a b)
  | 0, _, _, h => by omega
  | d + 1, i, 0, _ => by simp [frms]
  | d + 1, i, j + 1, h => by
    simp only [frms, List.getElem?_cons_succ]
    rw [frms_get p ch n a b d (i + 1) j (by omega)]
    congr 2
    omega
theorem all_loop (p : List Int) (ch a b : Int) (hk : okC p.length ch) : ∀ (d k : Nat) (i : Int) (acc : List S36), (cnt p.length ch - i).toNat = d → 0 ≤ i → acc.length ≤ i → i ≤ cnt p.length ch → d < k →
    chunk_All.l0 k p ch (cnt p.length ch) acc (cnt p.length ch) i a b = some (acc ++ frms p ch (cnt p.length ch) a b d i) := by
  have hb := cnt_bound p.length ch
  intro d
  induction d with
  | zero =>
    intro k i acc hd h0 ha hi hkk
    obtain ⟨k, rfl⟩ : ∃ m, k = m + 1 := ⟨k - 1, by omega⟩
    simp only [chunk_All.l0]
    rw [if_neg (by omega)]
    simp [frms]
  | succ d ih =>
    intro k i acc hd h0 ha hi hkk
    obtain ⟨k, rfl⟩ : ∃ m, k = m + 1 := ⟨k - 1, by omega⟩
    simp only [chunk_All.l0]
    rw [if_pos (by omega), (cut_yes p ch i hk h0 (by omega)).1]
    simp only [Option.bind_some]
    rw [if_pos (by omega), w64 (by omega) (by omega), ih k (i + 1) _ (by omega) (by omega) (by simp; omega) (by omega) (by omega)]
    simp [frms, frm]
theorem all_eq (p : List Int) (ch a b : Int) (hk : okC p.length ch) (k : Nat) (h : (cnt p.length ch).toNat < k) : chunk_All.f k a b p ch = some (frms p ch (cnt p.length ch) a b (cnt p.length ch).toNat 0) := by
  have hb := cnt_bound p.length ch
  unfold chunk_All.f
  rw [count_eq]
  simp only [Option.bind_some]
  have := all_loop p ch a b hk (cnt p.length ch).toNat k 0 [] (by omega) (by omega) (by simp) (by omega) h
  simpa using this
/-- Of what length the pieces are. -/
theorem one_piece (p : List Int) (ch : Int) (hk : okC p.length ch) (h : p.length ≤ ch) : cnt p.length ch = 1 ∧ (frm p ch 1 0 0 0).f12 = p := by
  have e : cnt p.length ch = 1 := by unfold cnt c; rw [if_pos hk, if_pos h]
  refine ⟨e, ?_⟩
  show (p.drop (0 * ch).toNat).take (len p.length ch 0).toNat = p
  have e2 : len p.length ch 0 = p.length := by
    unfold len
    rw [e, if_pos (by omega), if_neg (by omega)]
    omega
  rw [e2]
  simp
theorem more_pieces (p : List Int) (ch : Int) (hk : okC p.length ch) (h : ch < p.length) : 2 ≤ cnt p.length ch ∧ ∀ i, 0 ≤ i → i < cnt p.length ch → (((frm p ch (cnt p.length ch) i 0 0).f12.length : Int) ≠ 0 ∧ (i < cnt p.length ch - 1 → ((frm p ch (cnt p.length ch) i 0 0).f12.length : Int) = ch)) := by
  have e : cnt p.length ch = c p.length ch := by unfold cnt; rw [if_pos hk]
  have h2 : 2 ≤ cnt p.length ch := by
    rw [e, c_step hk.2.1 (by omega)]
    have := c_pos hk.2.1 (show 0 ≤ p.length - ch by omega)
    omega
  refine ⟨h2, fun i h0 h1 => ?_⟩
  have hl : ((frm p ch (cnt p.length ch) i 0 0).f12.length : Int) = len p.length ch i := (cut_yes p ch i hk h0 h1).2
  have hs := (c_spec hk.2.1 p.length p.length (by omega) (by omega)).2.1 (by omega)
  rw [hl]
  unfold len
  rw [if_pos ⟨h0, h1⟩]
  split
  · exact ⟨by have := hk.2; omega, fun _ => rfl⟩
  · refine ⟨?_, fun _ => by omega⟩
    rw [e, Int.mul_comm]
    omega

theorem data_at {w : World} {g n : Nat} {xs : List S36} (h : Kd.C k36 w (some ⟨g, 0, none⟩) n xs) (i : Nat) (x : S36) (hx : xs[i]? = some x) : ∃ A15 c15, w.cell? ⟨g, i * 16 + 15, none⟩ = some (.slice A15 x.f12.length c15) ∧ Kd.C (Kd.int .u8) w A15 x.f12.length x.f12 := by
  have hi : i < xs.length := (List.getElem?_eq_some_iff.1 hx).1
  obtain ⟨ad, A11, c11, A12, c12, A13, c13, A14, c14, A15, c15, e, _, _, _, _, _, _, _, _, _, _, _, _, _, _, _, k15, _, _, _, _, _, _, _, _, _, d⟩ := at_T36 h (i : Int) (by omega) (by have := h.1; omega)
  have hr : rd_T36 xs (i : Int) = x := by simp [rd_T36, List.getD, hx]
  rw [hr] at k15 d
  obtain rfl := Option.some.inj e
  refine ⟨A15, c15, ?_, d⟩
  rw [add_plain] at k15
  simpa using k15

set_option maxHeartbeats 2000000 in
theorem ChunkOne (A0 : Option Addr) (c0 : Nat) (l0 : List Int) (a1 : Int) (w : World) (hr0 : Kd.C (Kd.int .u8) w A0 l0.length l0) (hc0 : l0.length ≤ c0) (w0 : l0.length ≤ maxLen ∧ ∀ x ∈ l0, (Lit.int .u8 x).wf = true) (w1 : (Lit.int .u16 a1).wf = true) :
    Calls Try.prog 6 #[.slice A0 l0.length c0, .int .u16 a1] w fun e w' => e = .returned (.bool true) ∧ Below w.heap.size w w' := by
  have hlen : l0.length ≤ 9223372036854775807 := by have := w0.1; unfold maxLen at this; exact this
  have hb1 : 0 ≤ a1 ∧ a1 ≤ 65535 := by
    simp [Lit.wf, IntKind.min, IntKind.max, IntKind.signed, IntKind.bits] at w1
    omega
  have HR := Aside0.mk hr0
  have HC := Aside0.mk hc0
  have AW := Aside0.mk awake_eq
  clear hr0 hc0 w0 w1
  by_cases hl : (2000 : Int) < l0.length
  · go_enter Try.func6, Try.ntmps6
    go_wp2_with fail
    refine (unisonlaw12_awake.calls true _ AW.out).mono ?_
    rintro e w1 ⟨rfl, hb⟩
    have B1 := Aside0.mk hb
    clear hb
    go_wp2_with fail
    go_ret
    exact ⟨rfl, B1.out⟩
  · have hk : okC l0.length (1 + a1) := ⟨by omega, by omega, by omega⟩
    have hcb := cnt_bound l0.length (1 + a1)
    have HA := Aside0.mk (all_eq l0 (1 + a1) 0 0 hk ((cnt l0.length (1 + a1)).toNat + 1) (by omega))
    have HK := Aside0.mk hk
    by_cases hle : (l0.length : Int) ≤ 1 + a1
    · obtain ⟨e1, e2⟩ := one_piece l0 (1 + a1) hk hle
      rw [e1] at HA
      have hT : frms l0 (1 + a1) 1 0 0 (Int.toNat 1) 0 = [frm l0 (1 + a1) 1 0 0 0] := rfl
      rw [hT] at HA
      clear hT e1
      generalize frm l0 (1 + a1) 1 0 0 0 = F at HA e2
      have E2 := Aside0.mk e2
      clear e2 hk hcb
      have hle' : decide ((l0.length : Int) ≤ 1 + a1) = true := decide_eq_true hle
      go_enter Try.func6, Try.ntmps6
      go_wp2_with fail
      refine (chunk_All.calls _ 0 0 _ _ l0 _ _ _ (Kd.C_below HR.out (by repeat (first | exact Below.refl _ _ | apply below_alloc))) HC.out HA.out).mono ?_
      rintro e w1 ⟨v0, rfl, ho, hb⟩
      obtain ⟨g, c1, rfl, _, hg, _⟩ := R_head (Kd.S_R ho) (by simp)
      obtain ⟨A15, c15, k15, d15⟩ := data_at (Kd.R_reads' (Kd.S_R ho)).2.2 0 _ rfl
      rw [E2.out] at k15 d15
      have B1 := Aside0.mk hb
      have D15 := Aside0.mk d15
      clear hb ho d15
      go_wp2_with fail
      have q15 : ∀ d os, (grow (redrawn w1 d) os).cell? ⟨g, 15, none⟩ = some (.slice A15 l0.length c15) := cell_regrown (by simpa using k15)
      have s1 : ∀ d os, (convert 34 9 (.slice A15 l0.length c15)).run Try.prog (grow (redrawn w1 d) os) = .ok (.string (strOfNums l0)) (grow (redrawn w1 d) os) := fun d os => Kd.C_string Try.underlying34 Try.underlying5 Try.underlying9 (Kd.C_below D15.out (below_regrown w1 d os))
      have s2 : ∀ d os, (convert 34 9 (.slice A0 l0.length c0)).run Try.prog (grow (redrawn w1 d) os) = .ok (.string (strOfNums l0)) (grow (redrawn w1 d) os) := fun d os => Kd.C_string Try.underlying34 Try.underlying5 Try.underlying9 (Kd.C_below (Kd.C_below HR.out B1.out) (below_regrown w1 d os))
      refine wp_region_quiet_below (by kernel_rfl) (by kernel_rfl) ?_
      repeat (go_big_quiet_step ((go_at_call 8; exact Calls.regrown_of (unisonlaw12_awake.calls true _ AW.out))))
      refine wpQuiet_nil ?_
      intro _ hw'
      obtain ⟨⟨dq, osq⟩, hw''⟩ := hw'
      subst hw''
      go_wp2
      go_ret
      exact ⟨by first | rfl | (simp; done), below_step B1.out (below_regrown w1 dq osq)⟩
    · obtain ⟨h2, hP⟩ := more_pieces l0 (1 + a1) hk (by omega)
      generalize hn : cnt l0.length (1 + a1) = n at h2 hP HA hcb
      have hL : (frms l0 (1 + a1) n 0 0 n.toNat 0).length = n.toNat := frms_length _ _ _ _ _ _ _
      have HG : Aside0 (∀ j : Nat, j < n.toNat → ∃ x, (frms l0 (1 + a1) n 0 0 n.toNat 0)[j]? = some x ∧ (x.f12.length : Int) ≠ 0 ∧ ((j : Int) < n - 1 → (x.f12.length : Int) = 1 + a1)) := by
        refine ⟨fun j hj => ⟨_, frms_get l0 (1 + a1) n 0 0 n.toNat 0 j hj, ?_⟩⟩
        have := hP (0 + j) (by omega) (by omega)
        exact ⟨this.1, fun h => this.2 (by omega)⟩
      generalize frms l0 (1 + a1) n 0 0 n.toNat 0 = L at HA hL HG
      have hnL : n = (L.length : Int) := by omega
      subst hnL
      have h3 : (L.length : Int) ≤ 1048576 := by omega
      have h2' : decide ((1 : Int) < L.length) = true := decide_eq_true (by omega)
      have hle' : decide ((l0.length : Int) ≤ 1 + a1) = false := decide_eq_false hle
      clear hP hn hL hk hcb
      go_enter Try.func6, Try.ntmps6
      go_wp2_with fail
      refine (chunk_All.calls _ 0 0 _ _ l0 _ _ _ (Kd.C_below HR.out (by repeat (first | exact Below.refl _ _ | apply below_alloc))) HC.out HA.out).mono ?_
      rintro e w1 ⟨v0, rfl, ho, hb⟩
      obtain ⟨g, c1, rfl, _, hg, _⟩ := R_head (Kd.S_R ho) (by omega)
      have HD := Aside0.mk (Kd.R_reads' (Kd.S_R ho)).2.2
      have B1 := Aside0.mk hb
      clear hb ho
      go_wp2_with fail
      go_loopg [7] L.length (fun kq v7 w' => ∃ j : Nat, v7 = .int .i64 j ∧ j ≤ L.length ∧ L.length ≤ kq + j ∧ Aside0 (w' = w1))
      case atStart => exact ⟨0, rfl, by omega, by omega, ⟨rfl⟩⟩
      case round =>
        obtain ⟨j, rfl, hj, hkj, hw⟩ := hrel
        obtain rfl := hw.out
        by_cases hlt : j < L.length
        · obtain ⟨x, hx, hz, hf⟩ := HG.out j hlt
          obtain ⟨A15, c15, k15, d15⟩ := data_at HD.out j x hx
          have hlt' : decide ((j : Int) < L.length) = true := decide_eq_true (by omega)
          have hz' : ((x.f12.length : Int) == 0) = false := beq_eq_false_iff_ne.mpr hz
          have hs1 : wrap64 ((L.length : Int) - 1) = (L.length : Int) - 1 := w64 (by omega) (by omega)
          have p_ : (0 ≤ (j : Int)) = True := eq_true (by omega)
          have q_ : ((j : Int) < (L.length : Int)) = True := eq_true (by omega)
          by_cases hj2 : (j : Int) < L.length - 1
          · have hj2' : decide ((j : Int) < L.length - 1) = true := decide_eq_true hj2
            have he := hf hj2
            have he' : ((x.f12.length : Int) != 1 + a1) = false := by simp [he]
            go_wp2
            go_roundg (gk - 1)
            case measure => omega
            case rel => exact ⟨j + 1, (by simp), by omega, by omega, ⟨rfl⟩⟩
          · have hj2' : decide ((j : Int) < L.length - 1) = false := decide_eq_false hj2
            go_wp2
            go_roundg (gk - 1)
            case measure => omega
            case rel => exact ⟨j + 1, (by simp), by omega, by omega, ⟨rfl⟩⟩
        · have hlt' : decide ((j : Int) < L.length) = false := decide_eq_false (by omega)
          go_wp2
          go_ret
          exact ⟨rfl, B1.out⟩

end Go.Proofs.Ythgpocefiaklkaa.Walk
