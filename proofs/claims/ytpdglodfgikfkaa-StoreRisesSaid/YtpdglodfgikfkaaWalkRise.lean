/- rise. Conditions: none beyond the statement's own. -/
import Derived.Test.YtpdglodfgikfkaaWalkHas
import Derived.Test.YtpdglodfgikfkaaArgs
import Derived.Deep.QuietTactic
import Derived.BigQuiet
import Derived.Lib.QuietBelow
import Derived.Outline
import Derived.Deep.RegionHeld3
import Derived.Deep.CutRange
import Derived.StillTailTactics
namespace Go.Proofs.Ytpdglodfgikfkaa.Walk
open Go.RowKit Go.Proofs.Ytpdglodfgikfkaa.F Go.Proofs.YtpdglodfgikfkaaW.PrintWords Go.Proofs.YtpdglodfgikfkaaW.PrintLast Go.Proofs.YtpdglodfgikfkaaW.PrintMore Go.Proofs.Ytpdglodfgikfkaa.Open
open Go.Sort (grow)
attribute [local go_sem] max2_int min2_int max_two min_two max_three min_three max_four min_four
set_option linter.unusedVariables false
set_option linter.unusedSimpArgs false

/-! ### rise -/
/-- How many payloads of a sender stand behind a number. -/
def behind (E : Es) (i h : Int) : Nat := (E.filter fun e => decide (e.1.1 = i ∧ h < e.1.2)).length
theorem behind_le (E : Es) (i h : Int) : behind E i h ≤ E.length := List.length_filter_le _ _
theorem behind_cons (e : Ix × Pay) (E : Es) (i h : Int) : behind (e :: E) i h = (if e.1.1 = i ∧ h < e.1.2 then 1 else 0) + behind E i h := by
  unfold behind
  rw [List.filter_cons]
  by_cases c : e.1.1 = i ∧ h < e.1.2
  · rw [if_pos (decide_eq_true c), if_pos c, List.length_cons]
    omega
  · rw [if_neg (by rw [decide_eq_true_eq]; exact c), if_neg c]
    omega
theorem behind_mono (i h : Int) : ∀ (E : Es), behind E i (h + 1) ≤ behind E i h
  | [] => Nat.le_refl _
  | e :: E => by
    have := behind_mono i h E
    rw [behind_cons, behind_cons]
    split <;> split <;> omega
theorem behind_lt {i h : Int} {p : Pay} : ∀ {E : Es}, ((i, h + 1), p) ∈ E → behind E i (h + 1) < behind E i h
  | [], hm => by cases hm
  | e :: E, hm => by
    rw [behind_cons, behind_cons]
    rcases List.mem_cons.1 hm with rfl | hm
    · have := behind_mono i h E
      rw [if_neg (by dsimp only; omega), if_pos (by dsimp only; omega)]
      omega
    · have := behind_lt hm
      split <;> split <;> omega
theorem behind_has {E : Es} {i h : Int} (hh : hasE E (i, h + 1) = true) : behind E i (h + 1) < behind E i h := by
  unfold hasE at hh
  obtain ⟨p, hp⟩ := Option.isSome_iff_exists.1 hh
  exact behind_lt (mlk_some hp)
theorem wu64 {x : Int} (h0 : 0 ≤ x) (h1 : x < 18446744073709551616) : IntKind.u64.wrap x = x := by
  simp [IntKind.wrap, IntKind.signed, IntKind.bits]
  omega
section
variable {w : World} {S : Nat → Prop} {g mb fb hb n : Nat} {room : Int} {E : Es} {F H : List Int}
theorem has_ok (h : St w S g mb fb hb n room E F H) {x : Ix} (hx : hasE E x = true) : okE n x := by
  unfold hasE at hx
  obtain ⟨p, hp⟩ := Option.isSome_iff_exists.1 hx
  exact h.ks _ (mlk_some hp)
set_option maxHeartbeats 2000000 in
theorem rise_calls (h : St w S g mb fb hb n room E F H) (i : Nat) (f h0 : Int) (hf : F[i]? = some f) (hh : H[i]? = some h0) (hrun : ∀ s, f < s → s ≤ h0 → hasE E ((i : Int), s) = true) :
    Calls Try.prog 28 #[.pointer (some ⟨g, 0, none⟩), .int .i64 (i : Int)] w fun e w' => e = .returned (.tuple #[]) ∧ ∃ t, IsTop E i f t ∧ h0 ≤ t ∧ St w' (fun k => S k ∨ w.heap.size ≤ k) g mb fb hb n room E F (H.set i t) ∧ Beside S w w' := by
  have hi : i < n := by have := (List.getElem?_eq_some_iff.1 hf).1; have := h.lf; omega
  have hn64 := h.n2
  have huf := h.uf f (List.mem_of_getElem? hf)
  have huh := h.uh h0 (List.mem_of_getElem? hh)
  obtain ⟨m0, hm0⟩ : ∃ m0 : Int, m0 = if f > h0 then f else h0 := ⟨_, rfl⟩
  have hm1 : f ≤ m0 ∧ h0 ≤ m0 ∧ m0 ≤ 4611686018427387904 ∧ 0 ≤ m0 := by rw [hm0]; split <;> omega
  have hmax : Builtin.max2 (.int .u64 h0) (.int .u64 f) = pure (.int .u64 m0) := by
    rw [max2_int]
    congr 2
    rw [hm0]
  have HRUN : Aside0 (∀ s, f < s → s ≤ m0 → hasE E ((i : Int), s) = true) := ⟨fun s h1 h2 => hrun s h1 (by rw [hm0] at h2; split at h2 <;> omega)⟩
  have S0 := h.held i m0 ⟨by omega, by omega⟩
  have HS0 := Aside0.mk S0.1
  have HB0 := Aside0.mk S0.2
  have c3 := h.c3
  have c4 := h.c4
  have cf : w.cell? ⟨fb, i, none⟩ = some (.int .u64 f) := (blk_cell h.fblk i).trans (u64c_get hf)
  have ch : w.cell? ⟨hb, i, none⟩ = some (.int .u64 h0) := (blk_cell h.hblk i).trans (u64c_get hh)
  have zh : w.frozen? ⟨hb, i, none⟩ = false := blk_frozen h.hblk i
  have hiz : (i : Int) < (n : Int) := by omega
  have HH := Aside0.mk hh
  have UPH : Aside0 (i < H.length) := ⟨(List.getElem?_eq_some_iff.1 hh).1⟩
  have HF := Aside0.mk hf
  clear S0 h hrun hm0 hh hf
  go_enter Try.func28, Try.ntmps28
  go_upto_region 0 with (fail)
  refine wp_region_still_tail 21 (by kernel_rfl) (by kernel_rfl) ?_
  simp only [List.take_succ_cons, List.take_zero, List.drop_succ_cons, List.drop_zero]
  repeat still_step
  refine wpStill_nil ?_
  change wpList _ _ _ _ _ w.drew
  go_wp2
  have ST : Aside0 (St (w.setCell ⟨hb, i, none⟩ (.int .u64 m0)).drew (fun k => S k ∨ w.heap.size ≤ k) g mb fb hb n room E F (H.set i m0)) := ⟨(HS0.out.below (below_drew (Below.refl _ _))).mono fun k hk => .inl hk⟩
  have BT : Aside0 (Beside S w (w.setCell ⟨hb, i, none⟩ (.int .u64 m0)).drew) := ⟨HB0.out.drew⟩
  clear c3 c4 cf ch zh hmax HS0 HB0
  generalize (w.setCell ⟨hb, i, none⟩ (.int .u64 m0)).drew = w1 at ST BT ⊢
  have hcb : IntKind.u8.wrap (i : Int) = (i : Int) := by simp [IntKind.wrap, IntKind.signed, IntKind.bits]; omega
  go_loopg [] (behind E i m0 + 1) (fun gg wr => ∃ t : Int, m0 ≤ t ∧ t ≤ 4611686018427387904 ∧ behind E i t < gg ∧ Aside0 (∀ s, f < s → s ≤ t → hasE E ((i : Int), s) = true) ∧ Aside0 (St wr (fun k => S k ∨ w.heap.size ≤ k) g mb fb hb n room E F (H.set i t)) ∧ Aside0 (Beside S w wr))
  case atStart => exact ⟨m0, Int.le_refl _, hm1.2.2.1, Nat.lt_succ_self _, HRUN, ST, BT⟩
  case round =>
    clear ST BT HRUN
    obtain ⟨t, ht0, ht1, hgg, RT, SR, BR⟩ := hrel
    have hti : (H.set i t)[i]? = some t := List.getElem?_set_self UPH.out
    have c4 := SR.out.c4
    have cH : wr.cell? ⟨hb, i, none⟩ = some (.int .u64 t) := (blk_cell SR.out.hblk i).trans (u64c_get hti)
    have zH : wr.frozen? ⟨hb, i, none⟩ = false := blk_frozen SR.out.hblk i
    have hw1 : IntKind.u64.wrap (t + 1) = t + 1 := wu64 (by omega) (by omega)
    have HX : Aside0 (Calls Try.prog 12 #[.pointer (some ⟨g, 0, none⟩), .slice (some ⟨wr.heap.size, 0, none⟩) 1 1] (wr.alloc (.cells #[.int .u8 (i : Int), .int .u64 (t + 1)] tID)) fun e w' => e = .returned (.bool (hasE E ((i : Int), t + 1))) ∧ Below (wr.alloc (.cells #[.int .u8 (i : Int), .int .u64 (t + 1)] tID)).heap.size (wr.alloc (.cells #[.int .u8 (i : Int), .int .u64 (t + 1)] tID)) w') :=
      ⟨Has1_calls (SR.out.below (below_alloc (Below.refl _ _) _)) (x := ((i : Int), t + 1)) ⟨⟨by show (0 : Int) ≤ i; omega, by show (i : Int) ≤ 255; omega⟩, ⟨by show (0 : Int) ≤ t + 1; omega, by show t + 1 ≤ 18446744073709551615; omega⟩⟩ (blk_new wr _)⟩
    clear hti
    cases hh : hasE E ((i : Int), t + 1) with
    | true =>
      rw [hh] at HX
      have hok := has_ok SR.out hh
      have hb1 := hok.b
      have hlt := behind_has hh
      have RT2 : Aside0 (∀ s, f < s → s ≤ t + 1 → hasE E ((i : Int), s) = true) := ⟨fun s h1 h2 => by
        rcases Int.lt_or_eq_of_le h2 with h3 | h3
        · exact RT.out s h1 (by omega)
        · rw [h3]; exact hh⟩
      clear hh hok
      go_wp2_with fail
      refine HX.out.mono ?_
      rintro e w3 ⟨rfl, hbw⟩
      have S3 := Aside0.mk (SR.out.below (below_step (below_alloc (Below.refl _ _) _) hbw))
      have B3 := Aside0.mk (BR.out.then_below (below_step (below_alloc (Below.refl _ _) _) hbw))
      have c4' := S3.out.c4
      have cH' : w3.cell? ⟨hb, i, none⟩ = some (.int .u64 t) := (blk_cell S3.out.hblk i).trans (u64c_get (List.getElem?_set_self UPH.out))
      have zH' : w3.frozen? ⟨hb, i, none⟩ = false := blk_frozen S3.out.hblk i
      have S4 := S3.out.held i (t + 1) ⟨by omega, by omega⟩
      rw [List.set_set] at S4
      have S5 := Aside0.mk S4.1
      have B5 := Aside0.mk (B3.out.then_ S4.2 (fun k hk => hk))
      clear hbw HX c4 cH zH S4 SR BR
      go_wp2_with fail
      go_roundg (behind E i (t + 1) + 1)
      case measure => omega
      case rel => exact ⟨t + 1, by omega, by omega, Nat.lt_succ_self _, RT2, S5, B5⟩
    | false =>
      rw [hh] at HX
      have TP : Aside0 (IsTop E (i : Int) f t) := ⟨⟨by omega, RT.out, hh⟩⟩
      clear hh
      go_wp2_with fail
      refine HX.out.mono ?_
      rintro e w3 ⟨rfl, hbw⟩
      have S3 := Aside0.mk (SR.out.below (below_step (below_alloc (Below.refl _ _) _) hbw))
      have B3 := Aside0.mk (BR.out.then_below (below_step (below_alloc (Below.refl _ _) _) hbw))
      clear hbw
      go_wp2_with fail
      go_end0
      exact ⟨rfl, t, TP.out, by omega, S3.out, B3.out⟩
end

end Go.Proofs.Ytpdglodfgikfkaa.Walk
