/- A nil queue, the example. Conditions: none beyond the statement's own. -/
import Derived.Test.YtiiajenhjamjdaaWalkTake
import Derived.Test.YtiiajenhjamjdaaArgs
import Derived.Deep.QuietTactic
import Derived.BigQuiet
import Derived.Lib.QuietBelow
import Derived.Outline
import Derived.Deep.RegionHeld3
import Derived.Deep.CutRange
namespace Go.Proofs.Ytiiajenhjamjdaa.Walk
open Go.RowKit Go.Proofs.Ytiiajenhjamjdaa.F Go.Proofs.YtiiajenhjamjdaaW.PrintWords Go.Proofs.YtiiajenhjamjdaaW.PrintLast Go.Proofs.YtiiajenhjamjdaaW.PrintMore Go.Proofs.Ytiiajenhjamjdaa.Open
open Go.Sort (grow)
attribute [local go_sem] max2_int min2_int max_two min_two max_three min_three max_four min_four
set_option linter.unusedVariables false
set_option linter.unusedSimpArgs false

/-! ### Literal rows of frames -/
theorem flat_get {α : Type} {sz : Nat} : ∀ (rows : List (α × List Value)) (j i : Nat) (r : α × List Value), (∀ r ∈ rows, r.2.length = sz) → rows[j]? = some r → i < sz → (rows.flatMap (·.2))[j * sz + i]? = r.2[i]?
  | [], j, i, r, _, h, _ => by simp at h
  | a :: rows, 0, i, r, hs, h, hi => by
    obtain rfl : a = r := by simpa using h
    rw [List.flatMap_cons, Nat.zero_mul, Nat.zero_add, List.getElem?_append_left (by rw [hs a List.mem_cons_self]; exact hi)]
  | a :: rows, j + 1, i, r, hs, h, hi => by
    have hl := hs a List.mem_cons_self
    rw [List.flatMap_cons, List.getElem?_append_right (by rw [hl, Nat.succ_mul]; omega), hl]
    have e : (j + 1) * sz + i - sz = j * sz + i := by rw [Nat.succ_mul]; omega
    rw [e]
    exact flat_get rows j i r (fun r hr => hs r (List.mem_cons_of_mem _ hr)) (by simpa using h) hi
/-- A literal row: its block holds its elements' cells; what they lead to lies in ok. -/
theorem F_lit {α : Type} {d : Kd α} {w : World} {g t : Nat} {ok : Nat → Prop} (rows : List (α × List Value)) (hb : w.heap[g]? = some (.cells (rows.flatMap (·.2)).toArray t (0, 0))) (hm : rows.length ≤ 9223372036854775807) (h : ∀ r ∈ rows, Kd.FK d w ok r.1 r.2) :
    Kd.F d w (fun k => ok k ∨ k = g) (some ⟨g, 0, none⟩) rows.length (rows.map (·.1)) := by
  intro W' hW
  have hb' : W'.heap[g]? = some (.cells (rows.flatMap (·.2)).toArray t (0, 0)) := (hW g (Or.inr rfl) (blk_lt hb)).trans hb
  have hsz : ∀ r ∈ rows, r.2.length = d.sz := fun r hr => d.K_len (Kd.FK_now (h r hr))
  refine ⟨by simp, hm, fun _ => ⟨_, rfl, fun j p hj => ?_⟩⟩
  rw [List.getElem?_map] at hj
  obtain ⟨r, hr, rfl⟩ := Option.map_eq_some_iff.1 hj
  have hmem := List.mem_of_getElem? hr
  refine ⟨r.2, hsz r hmem, h r hmem W' (fun k hk hlt => hW k (Or.inl hk) hlt), fun i u hu => ?_⟩
  rw [add_plain]
  have hc := blk_cell hb' (j * d.sz + i)
  rw [hc]
  have hi : i < d.sz := by rw [← hsz r hmem]; exact (List.getElem?_eq_some_iff.1 hu).1
  rw [List.getElem?_toArray, flat_get rows j i r hsz hr hi]
  exact hu
/-- A frame without rows. -/
def pf (k f t idf : Int) (ids seq at_ of_ size inst round : Int) : Fr := ⟨⟨k, f, t⟩, ⟨idf, ids⟩, seq, at_, of_, size, inst, round, [], [], [], [], []⟩
def pcells (k f t idf : Int) (ids seq at_ of_ size inst round : Int) : List Value := [.int .u8 k, .int .u8 f, .int .u8 t, .int .u8 idf, .int .u64 ids, .int .u64 seq, .int .u32 at_, .int .u32 of_, .int .u32 size, .int .u64 inst, .int .u64 round, .slice none 0 0, .slice none 0 0, .slice none 0 0, .slice none 0 0, .slice none 0 0]
theorem pf_FK (W : World) (k f t idf : Int) (ids seq at_ of_ size inst round : Int) : Kd.FK kF W (fun _ => False) (pf k f t idf ids seq at_ of_ size inst round) (pcells k f t idf ids seq at_ of_ size inst round) :=
  k37_mkF W (fun _ => False) (pf k f t idf ids seq at_ of_ size inst round) (Nat.le_refl _) (Kd.F_nil _ _ _) (Nat.le_refl _) (Kd.F_nil _ _ _) (Nat.le_refl _) (Kd.F_nil _ _ _) (Nat.le_refl _) (Kd.F_nil _ _ _) (Nat.le_refl _) (Kd.F_nil _ _ _)
theorem pf_fok (k f t idf : Int) (ids seq at_ of_ size inst round : Int) : fok (pf k f t idf ids seq at_ of_ size inst round) := ⟨by simp [pf], by simp [pf], by simp [pf], by simp [pf], by simp [pf]⟩

/-! ### What a nil queue answers, the example -/
theorem Put_nil (v : Value) (w : World) : Calls Try.prog 9 #[.pointer none, v] w fun e w' => e = .returned (.int .i64 0) ∧ w' = w := by
  go_enter Try.func9, Try.ntmps9
  go_wp2
  go_ret
  exact ⟨rfl, rfl⟩
theorem Drop_nil (A : Option Addr) (m c : Nat) (w : World) : Calls Try.prog 19 #[.pointer none, .slice A m c] w fun e w' => e = .returned (.int .i64 0) ∧ Below w.heap.size w w' := by
  go_enter Try.func19, Try.ntmps19
  go_wp2
  go_ret
  exact ⟨rfl, below_alloc (below_alloc (Below.refl _ _) _) _⟩
theorem Take_nil (m : Int) (w : World) : Calls Try.prog 11 #[.pointer none, .int .i64 m, .slice none 0 0] w fun e w' => e = .returned (.slice none 0 0) ∧ w' = w := by
  go_enter Try.func11, Try.ntmps11
  go_wp2_with fail
  go_loopg [7] 0 (fun kq v7 w' => v7 = .slice none 0 0 ∧ w' = w)
  case atStart => exact ⟨rfl, rfl⟩
  case round =>
    obtain ⟨rfl, rfl⟩ := hrel
    go_wp2_with fail
    refine (Len_nil _).mono ?_
    rintro e w1 ⟨rfl, rfl⟩
    go_wp2_with fail
    go_ret
    exact ⟨rfl, rfl⟩
/-- A chunk without rows, by its place alone. -/
def pa (a : Int) : Fr := pf 0 0 0 0 0 0 a 0 0 0 0
def pac (a : Int) : List Value := pcells 0 0 0 0 0 0 a 0 0 0 0
theorem pa_fin {a : Int} (h : 0 ≤ a ∧ a ≤ 4294967295) : fin (pa a) := ⟨pf_fok _ _ _ _ _ _ _ _ _ _ _, ⟨by simp [pa, pf, pl], by simp [pa, pf, pl], h⟩⟩
section
variable {w : World} {S : Nat → Prop} {g mb n : Nat} {lost : Int} {v : Value} {L : List Fr}
/-- Chunks without rows, written out, are put in. -/
theorem Put_lit (h : Que w S g mb n lost v L) (hs : ∀ k, S k → k < w.heap.size) (ps : List Int) (c : Nat) (ha : ∀ a ∈ ps, 0 ≤ a ∧ a ≤ 4294967295) (hal : ps.length ≤ 1000) (hlost : lost ≤ 1000000) (o : Obj) (ho : o = .cells ((ps.map fun a => (pa a, pac a)).flatMap (·.2)).toArray eF) :
    Calls Try.prog 9 #[.pointer (some ⟨g, 0, none⟩), .slice (some ⟨w.heap.size, 0, none⟩) (ps.map pa).length c] (w.alloc o) fun e w' => e = .returned (.int .i64 (putQ n L lost (ps.map pa)).2.2) ∧ (∃ v', Que w' (fun k => S k ∨ w.heap.size ≤ k) g mb n (putQ n L lost (ps.map pa)).2.1 v' (putQ n L lost (ps.map pa)).1) ∧ Beside S w w' := by
  subst ho
  obtain ⟨o, ho⟩ : ∃ o, o = Obj.cells ((ps.map fun a => (pa a, pac a)).flatMap (·.2)).toArray eF (0, 0) := ⟨_, rfl⟩
  rw [← ho]
  have hB := below_alloc (Below.refl w.heap.size w) o
  have hF : Kd.F kF (w.alloc o) (fun b => b = w.heap.size) (some ⟨w.heap.size, 0, none⟩) (ps.map pa).length (ps.map pa) := by
    have h1 := F_lit (d := kF) (t := eF) (w := w.alloc o) (g := w.heap.size) (ok := fun _ => False) (ps.map fun a => (pa a, pac a)) (by rw [ho]; exact blk_new w _) (by rw [List.length_map]; omega) (fun r hr => by
      obtain ⟨a, _, rfl⟩ := List.mem_map.1 hr
      exact pf_FK _ _ _ _ _ _ _ _ _ _ _ _)
    rw [List.map_map, show ((fun x => x.1) ∘ fun a => (pa a, pac a)) = pa from rfl, List.length_map] at h1
    rw [List.length_map]
    exact Kd.F_mono h1 (fun k hk => hk.elim (fun h => h.elim) (fun h => h))
  refine (Put_calls (A := some ⟨w.heap.size, 0, none⟩) (c := c) (h.below hB) (ps.map pa) (fun w' hw' => Kd.F_now (Kd.F_step hF (fun k hk hlt => hw'.block k hlt (fun hS => by have := hs k hS; omega)))) (fun x hx => by
    obtain ⟨a, ha', rfl⟩ := List.mem_map.1 hx
    exact pa_fin (ha a ha')) (by rw [List.length_map]; omega)).mono ?_
  rintro e w' ⟨rfl, ⟨v', hq⟩, hb⟩
  refine ⟨rfl, ⟨v', hq.mono (fun k hk => by rcases hk with hk | hk; exact .inl hk; exact .inr (Nat.le_trans hB.size hk))⟩, (Beside.of_below S hB).trans hb⟩
end
theorem put2 : putQ (rn 9) [] 0 ([1, 1].map pa) = ([pa 1], 0, 1) := by rfl
theorem put3 : putQ (rn 9) [pa 1] 0 ([2].map pa) = ([pa 1, pa 2], 0, 1) := by rfl
set_option maxHeartbeats 2000000 in
theorem awake_calls (w : World) : Calls Try.prog 7 #[] w fun e w' => e = .returned (.bool true) ∧ Below w.heap.size w w' := by
  go_enter Try.func7, Try.ntmps7
  go_wp2_with fail
  refine (New_calls 9 _).mono ?_
  rintro e w1 ⟨g, mb, rfl, hQ, hb⟩
  have Q1 := Aside0.mk hQ.bound
  have B1 := Aside0.mk hb
  clear hQ hb
  go_wp2_with fail
  refine (Put_lit Q1.out (fun k hk => hk.2) [1, 1] 2 (by simp) (by simp) (by omega) _ rfl).mono ?_
  rintro e w2 ⟨rfl, ⟨v2, hq⟩, hb⟩
  rw [put2] at hq ⊢
  have Q2 := Aside0.mk hq.bound
  have B2 := Aside0.mk (Beside.step B1.out hb (fun k hk => hk.1))
  have Z2 := Aside0.mk hb.size
  clear hq hb Q1
  go_wp2_with fail
  refine (Put_lit Q2.out (fun k hk => hk.2) [2] 1 (by simp) (by simp) (by simp) _ rfl).mono ?_
  rintro e w3 ⟨rfl, ⟨v3, hq⟩, hb⟩
  dsimp only at hq ⊢
  rw [put3] at hq ⊢
  have Q3 := Aside0.mk hq
  have B3 := Aside0.mk (Beside.step B2.out hb (fun k hk => by
    rcases hk.1 with h | h
    · exact h.1
    · exact Nat.le_trans B1.out.size h))
  clear hq hb Q2
  go_wp2_with fail
  refine (Len_calls Q3.out).mono ?_
  rintro e w4 ⟨rfl, rfl⟩
  go_wp2_with fail
  go_ret
  exact ⟨rfl, B3.out⟩
set_option maxHeartbeats 2000000 in
theorem RelayNil (a0 a1 : Int) (w : World) (w0 : (Lit.int .u32 a0).wf = true) (w1 : (Lit.int .i64 a1).wf = true) :
    Calls Try.prog 6 #[.int .u32 a0, .int .i64 a1] w fun e w' => e = .returned (.bool true) ∧ Below w.heap.size w w' := by
  clear w0 w1
  go_enter Try.func6, Try.ntmps6
  go_wp2_with fail
  refine (Put_nil _ _).mono ?_
  rintro e w2 ⟨rfl, rfl⟩
  go_wp2_with fail
  refine (Take_nil _ _).mono ?_
  rintro e w2 ⟨rfl, rfl⟩
  go_wp2_with fail
  refine (Drop_nil _ _ _ _).mono ?_
  rintro e w2 ⟨rfl, hb⟩
  have B2 := Aside0.mk (below_step (below_alloc (below_alloc (below_alloc (Below.refl w.heap.size w) _) _) _) hb)
  clear hb
  go_wp2_with fail
  refine (Len_nil _).mono ?_
  rintro e w3 ⟨rfl, rfl⟩
  go_wp2_with fail
  refine (Lost_nil _).mono ?_
  rintro e w3 ⟨rfl, rfl⟩
  go_wp2_with fail
  refine (awake_calls _).mono ?_
  rintro e w4 ⟨rfl, hb⟩
  have B4 := Aside0.mk (below_step B2.out hb)
  clear hb
  go_wp2_with fail
  go_ret
  exact ⟨rfl, B4.out⟩

end Go.Proofs.Ytiiajenhjamjdaa.Walk
