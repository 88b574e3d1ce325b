/- Literal rows, and what a nil window answers. Conditions: none beyond the statement's own. -/
import Derived.Test.YtdeknknefjepnaaWalkPut
import Derived.Test.YtdeknknefjepnaaWalkAck
import Derived.Test.YtdeknknefjepnaaWalkWait
import Derived.Test.YtdeknknefjepnaaArgs
import Derived.Deep.QuietTactic
import Derived.BigQuiet
import Derived.Lib.QuietBelow
import Derived.Outline
import Derived.Deep.RegionHeld3
import Derived.Deep.CutRange
namespace Go.Proofs.Ytdeknknefjepnaa.Walk
open Go.RowKit Go.Proofs.Ytdeknknefjepnaa.F Go.Proofs.YtdeknknefjepnaaW.PrintWords Go.Proofs.YtdeknknefjepnaaW.PrintLast Go.Proofs.YtdeknknefjepnaaW.PrintMore Go.Proofs.Ytdeknknefjepnaa.Open
open Go.Sort (grow)
attribute [local go_sem] max2_int min2_int max_two min_two max_three min_three max_four min_four
set_option linter.unusedVariables false
set_option linter.unusedSimpArgs false

/-! ### Literal rows, and what takes a nil window -/
theorem flat_get {α : Type} {sz : Nat} : ∀ (rows : List (α × List Value)) (j i : Nat) (r : α × List Value), (∀ r ∈ rows, r.2.length = sz) → rows[j]? = some r → i < sz → (rows.flatMap (·.2))[j * sz + i]? = r.2[i]?
  | [], j, i, r, _, h, _ => by simp at h
  | a :: rows, 0, i, r, hs, h, hi => by
    obtain rfl : a = r := by simpa using h
    rw [List.flatMap_cons, Nat.zero_mul, Nat.zero_add, List.getElem?_append_left (by rw [hs a List.mem_cons_self]; exact hi)]
  | a :: rows, j + 1, i, r, hs, h, hi => by
    have hl := hs a List.mem_cons_self
    rw [List.flatMap_cons, List.getElem?_append_right (by rw [hl, Nat.succ_mul]; omega), hl]
    have e : (j + 1) * sz + i - sz = j * sz + i := by rw [Nat.succ_mul]; omega
    rw [e]
    exact flat_get rows j i r (fun r hr => hs r (List.mem_cons_of_mem _ hr)) (by simpa using h) hi
/-- A literal row: its block holds its elements' cells; what they lead to lies in ok. -/
theorem F_lit {α : Type} {d : Kd α} {w : World} {g t : Nat} {ok : Nat → Prop} (rows : List (α × List Value)) (hb : w.heap[g]? = some (.cells (rows.flatMap (·.2)).toArray t (0, 0))) (hm : rows.length ≤ 9223372036854775807) (h : ∀ r ∈ rows, Kd.FK d w ok r.1 r.2) :
    Kd.F d w (fun k => ok k ∨ k = g) (some ⟨g, 0, none⟩) rows.length (rows.map (·.1)) := by
  intro W' hW
  have hb' : W'.heap[g]? = some (.cells (rows.flatMap (·.2)).toArray t (0, 0)) := (hW g (Or.inr rfl) (blk_lt hb)).trans hb
  have hsz : ∀ r ∈ rows, r.2.length = d.sz := fun r hr => d.K_len (Kd.FK_now (h r hr))
  refine ⟨by simp, hm, fun _ => ⟨_, rfl, fun j p hj => ?_⟩⟩
  rw [List.getElem?_map] at hj
  obtain ⟨r, hr, rfl⟩ := Option.map_eq_some_iff.1 hj
  have hmem := List.mem_of_getElem? hr
  refine ⟨r.2, hsz r hmem, h r hmem W' (fun k hk hlt => hW k (Or.inl hk) hlt), fun i u hu => ?_⟩
  rw [add_plain]
  have hc := blk_cell hb' (j * d.sz + i)
  rw [hc]
  have hi : i < d.sz := by rw [← hsz r hmem]; exact (List.getElem?_eq_some_iff.1 hu).1
  rw [List.getElem?_toArray, flat_get rows j i r hsz hr hi]
  exact hu
/-- A frame without rows. -/
def pf (k f t idf : Int) (ids seq at_ of_ size inst round : Int) : Fr := ⟨⟨k, f, t⟩, ⟨idf, ids⟩, seq, at_, of_, size, inst, round, [], [], [], [], []⟩
def pcells (k f t idf : Int) (ids seq at_ of_ size inst round : Int) : List Value := [.int .u8 k, .int .u8 f, .int .u8 t, .int .u8 idf, .int .u64 ids, .int .u64 seq, .int .u32 at_, .int .u32 of_, .int .u32 size, .int .u64 inst, .int .u64 round, .slice none 0 0, .slice none 0 0, .slice none 0 0, .slice none 0 0, .slice none 0 0]
theorem pf_FK (W : World) (k f t idf : Int) (ids seq at_ of_ size inst round : Int) : Kd.FK kF W (fun _ => False) (pf k f t idf ids seq at_ of_ size inst round) (pcells k f t idf ids seq at_ of_ size inst round) :=
  k36_mkF W (fun _ => False) (pf k f t idf ids seq at_ of_ size inst round) (Nat.le_refl _) (Kd.F_nil _ _ _) (Nat.le_refl _) (Kd.F_nil _ _ _) (Nat.le_refl _) (Kd.F_nil _ _ _) (Nat.le_refl _) (Kd.F_nil _ _ _) (Nat.le_refl _) (Kd.F_nil _ _ _)
theorem pf_fok (k f t idf : Int) (ids seq at_ of_ size inst round : Int) : fok (pf k f t idf ids seq at_ of_ size inst round) := ⟨by simp [pf], by simp [pf], by simp [pf], by simp [pf], by simp [pf]⟩
theorem Waits_nil (w : World) : Calls Try.prog 16 #[.pointer none] w fun e w' => e = .returned (.int .i64 0) ∧ w' = w := by
  go_enter Try.func16, Try.ntmps16
  go_wp2
  go_ret
  exact ⟨rfl, rfl⟩
theorem Room_nil (w : World) : Calls Try.prog 17 #[.pointer none] w fun e w' => e = .returned (.int .i64 0) ∧ w' = w := by
  go_enter Try.func17, Try.ntmps17
  go_wp2
  go_ret
  exact ⟨rfl, rfl⟩
theorem First_nil (w : World) : Calls Try.prog 18 #[.pointer none] w fun e w' => e = .returned (.int .u64 0) ∧ w' = w := by
  go_enter Try.func18, Try.ntmps18
  go_wp2
  go_ret
  exact ⟨rfl, rfl⟩
theorem Last_nil (w : World) : Calls Try.prog 20 #[.pointer none] w fun e w' => e = .returned (.int .u64 0) ∧ w' = w := by
  go_enter Try.func20, Try.ntmps20
  go_wp2
  go_ret
  exact ⟨rfl, rfl⟩
theorem Acked_nil (u : Int) (w : World) : Calls Try.prog 14 #[.pointer none, .int .u64 u] w fun e w' => e = .returned (.int .i64 0) ∧ w' = w := by
  go_enter Try.func14, Try.ntmps14
  go_wp2
  go_ret
  exact ⟨rfl, rfl⟩
theorem Waiting_nil (u m : Int) (w : World) : Calls Try.prog 10 #[.pointer none, .int .u64 u, .int .i64 m] w fun e w' => e = .returned (.slice none 0 0) ∧ w' = w := by
  go_enter Try.func10, Try.ntmps10
  go_wp2
  go_ret
  exact ⟨rfl, rfl⟩
theorem Put_nil (ad : Addr) (n c : Nat) (hc : n ≤ c) (w : World) : Calls Try.prog 9 #[.pointer none, .slice (some ad) n c] w fun e w' => e = .returned (.int .i64 0) ∧ w' = w := by
  have hmin : Builtin.min2 (.int .i64 (n : Int)) (.int .i64 0) = pure (.int .i64 0) := by
    rw [min2_int]
    congr 2
    split <;> omega
  go_enter Try.func9, Try.ntmps9
  go_wp2_with fail
  refine (Room_nil _).mono ?_
  rintro e w1 ⟨rfl, rfl⟩
  go_wp2_with fail
  go_loopg [17] 0 (fun kq v17 w' => v17 = .int .i64 0 ∧ w' = w1)
  case atStart => exact ⟨rfl, rfl⟩
  case round =>
    obtain ⟨rfl, rfl⟩ := hrel
    go_wp2_with fail
    go_ret
    exact ⟨rfl, rfl⟩

end Go.Proofs.Ytdeknknefjepnaa.Walk
