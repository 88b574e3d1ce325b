/- What is wanted. Conditions: none beyond the statement's own. -/
import Derived.Test.YtncofecfljocgaaWalkLacks
import Derived.Test.YtncofecfljocgaaArgs
import Derived.Deep.QuietTactic
import Derived.BigQuiet
import Derived.Lib.QuietBelow
import Derived.Outline
import Derived.Deep.RegionHeld3
import Derived.Deep.CutRange
namespace Go.Proofs.Ytncofecfljocgaa.Walk
open Go.RowKit Go.Proofs.Ytncofecfljocgaa.F Go.Proofs.YtncofecfljocgaaW.PrintWords Go.Proofs.YtncofecfljocgaaW.PrintLast Go.Proofs.YtncofecfljocgaaW.PrintMore Go.Proofs.Ytncofecfljocgaa.Open
open Go.Sort (grow)
attribute [local go_sem] max2_int min2_int max_two min_two max_three min_three max_four min_four
set_option linter.unusedVariables false
set_option linter.unusedSimpArgs false

/-! ### The puller, what is wanted -/
structure Pu where
  n : Int
  me : Int
  again : Int
  want : Option (Int × Int × Bool × Int)
  sender : Int
  last : Int
  count : Int
structure pok (p : Pu) : Prop where
  n : 1 ≤ p.n ∧ p.n ≤ 64
  me : 0 ≤ p.me ∧ p.me < p.n
  again : 1 ≤ p.again ∧ p.again ≤ 1099511627776
  sender : 0 ≤ p.sender ∧ p.sender < p.n
  last : 0 ≤ p.last ∧ p.last < p.n
  count : 0 ≤ p.count ∧ p.count ≤ 1000000
  want : ∀ q, p.want = some q → (0 ≤ q.1 ∧ q.1 ≤ 255) ∧ (0 ≤ q.2.2.2 ∧ q.2.2.2 ≤ 1099511627776)
def WP (w : World) (S : Nat → Prop) (x : Nat) (wp : Value) : Option (Int × Int × Bool × Int) → Prop
  | none => wp = .pointer none
  | some q => ∃ wb : Nat, wp = .pointer (some ⟨wb, 0, none⟩) ∧ S wb ∧ wb ≠ x ∧ w.heap[wb]? = some (.cells #[.int .u8 q.1, .int .u64 q.2.1, .bool q.2.2.1, .int .i64 q.2.2.2] tWt (0, 0))
structure Pul (w : World) (S : Nat → Prop) (x : Nat) (p : Pu) : Prop where
  S_x : S x
  ok : pok p
  blk : ∃ wp, w.heap[x]? = some (.cells #[.int .i64 p.n, .int .i64 p.me, .int .i64 p.again, wp, .int .i64 p.sender, .int .i64 p.last, .int .u64 p.count] tPu (0, 0)) ∧ WP w S x wp p.want
section
variable {w w1 : World} {S S' S2 : Nat → Prop} {x : Nat} {p : Pu}
theorem WP.step {wp : Value} {o : Option (Int × Int × Bool × Int)} (h : WP w S x wp o) (hm : ∀ k, S k → k < w.heap.size → w1.heap[k]? = w.heap[k]?) : WP w1 S x wp o := by
  cases o with
  | none => exact h
  | some q =>
    obtain ⟨wb, e, hs, hn, hb⟩ := h
    exact ⟨wb, e, hs, hn, (hm wb hs (blk_lt hb)).trans hb⟩
theorem WP.mono {wp : Value} {o : Option (Int × Int × Bool × Int)} (h : WP w S x wp o) (hs : ∀ k, S k → S' k) : WP w S' x wp o := by
  cases o with
  | none => exact h
  | some q =>
    obtain ⟨wb, e, h1, hn, hb⟩ := h
    exact ⟨wb, e, hs wb h1, hn, hb⟩
theorem Pul.step (h : Pul w S x p) (hm : ∀ k, S k → k < w.heap.size → w1.heap[k]? = w.heap[k]?) : Pul w1 S x p := by
  obtain ⟨hs, hok, wp, hb, hw⟩ := h
  exact ⟨hs, hok, wp, (hm x hs (blk_lt hb)).trans hb, hw.step hm⟩
theorem Pul.mono (h : Pul w S x p) (hs : ∀ k, S k → S' k) : Pul w S' x p := by
  obtain ⟨h1, hok, wp, hb, hw⟩ := h
  exact ⟨hs x h1, hok, wp, hb, hw.mono hs⟩
theorem Pul.below (h : Pul w S x p) (hb : Below w.heap.size w w1) : Pul w1 S x p := h.step fun k _ hlt => hb.block k hlt
theorem Pul.beside (h : Pul w S x p) (hb : Beside S2 w w1) (hs : ∀ k, S k → ¬ S2 k) : Pul w1 S x p := h.step fun k hk hlt => hb.block k hlt (hs k hk)
theorem Pul.bound (h : Pul w S x p) : Pul w (fun k => S k ∧ k < w.heap.size) x p := by
  obtain ⟨h1, hok, wp, hb, hw⟩ := h
  refine ⟨⟨h1, blk_lt hb⟩, hok, wp, hb, ?_⟩
  cases ho : p.want with
  | none => rw [ho] at hw; exact hw
  | some q =>
    rw [ho] at hw
    obtain ⟨wb, e, h2, hn, hb2⟩ := hw
    exact ⟨wb, e, ⟨h2, blk_lt hb2⟩, hn, hb2⟩
end
def wayL (n s : Int) : List Int := way n s [] ++ [s]
theorem way_len (n s : Int) : (way n s []).length ≤ (n - 1).toNat := by
  unfold way
  rw [List.length_map]
  exact js_le n s [] _ _
theorem js_in (n me : Int) (skip : List Int) (h : inR n me) : ∀ (d : Nat) (i : Int), 1 ≤ i → i + d ≤ n → ∀ j ∈ js n me skip d i, 1 ≤ j ∧ j < n
  | 0, _, _, _, j, hj => by simp [js] at hj
  | d + 1, i, h1, h2, j, hj => by
    unfold js at hj
    split at hj
    · exact js_in n me skip h d (i + 1) (by omega) (by omega) j hj
    · rcases List.mem_cons.1 hj with rfl | hj
      · omega
      · exact js_in n me skip h d (i + 1) (by omega) (by omega) j hj
theorem wayL_in {n s : Int} (h : inR n s) : ∀ y ∈ wayL n s, 0 ≤ y ∧ y < n := by
  intro y hy
  have h' := h
  obtain ⟨h1, h2, h3, h4⟩ := h'
  rcases List.mem_append.1 hy with hy | hy
  · unfold way at hy
    obtain ⟨j, hj, rfl⟩ := List.mem_map.1 hy
    have := js_in n s [] h (n - 1).toNat 1 (by omega) (by omega) j hj
    unfold md
    split <;> omega
  · rw [List.mem_singleton.1 hy]
    omega
theorem one_I {W : World} {b : Nat} {a : Int} (hb : W.heap[b]? = some (.cells #[.int .i64 a] tI64 (0, 0))) : Kd.C kI W (some ⟨b, 0, none⟩) 1 [a] := by
  refine ⟨rfl, by decide, fun _ => ⟨_, rfl, fun j x hx => ?_⟩⟩
  obtain ⟨hj, rfl⟩ := List.getElem?_eq_some_iff.1 hx
  obtain rfl : j = 0 := by simpa using hj
  refine ⟨[.int .i64 a], rfl, rfl, fun i u hu => ?_⟩
  obtain ⟨hi, rfl⟩ := List.getElem?_eq_some_iff.1 hu
  obtain rfl : i = 0 := by simpa using hi
  rw [add_plain]
  exact (blk_cell hb 0).trans rfl
def pickS (n me : Int) (held skip : List Int) (H : Int → Int → List Int) (l : List Int) : Option Int := l.find? fun s => lacksB n me held skip H s (nextS held s)
def choP (p : Pu) (held skip : List Int) (H : Int → Int → List Int) : Pu := match pickS p.n p.me held skip H (wayL p.n p.sender) with
  | none => p
  | some s => { p with want := some (s, nextS held s, false, 0), sender := s }
section
variable {w w1 : World} {S T : Nat → Prop} {x : Nat} {p : Pu} {mv : Value} {H : Int → Int → List Int} {Ah : Option Addr} {ch : Nat} {held : List Int} {As : Option Addr} {cs : Nat} {skip : List Int}
set_option maxHeartbeats 8000000 in
set_option maxRecDepth 100000 in
theorem choose_calls (h : Pul w S x p) (E : Env w T mv H Ah ch held As cs skip) (hw : p.want = none) :
    Calls Try.prog 26 #[.pointer (some ⟨x, 0, none⟩), .slice Ah held.length ch, mv, .slice As skip.length cs] w fun e w' => e = .returned (.tuple #[]) ∧ Pul w' (fun k => S k ∨ w.heap.size ≤ k) x (choP p held skip H) ∧ Beside (fun k => k = x) w w' := by
  obtain ⟨hS, hok, wp, hb, hW⟩ := h
  rw [hw] at hW
  obtain rfl : wp = .pointer none := hW
  have HB := Aside0.mk hb
  have OK := Aside0.mk hok
  have HS := Aside0.mk hS
  have HW := Aside0.mk hw
  have EE := Aside0.mk E
  have hin : inR p.n p.sender := ⟨hok.n.1, hok.n.2, hok.sender.1, hok.sender.2⟩
  have IN := Aside0.mk (wayL_in hin)
  have WE : Aside0 (ring_Way.f 200 p.n p.sender [] = some (way p.n p.sender [])) := ⟨by rw [way_ev _ _ _ (by simp) _ (by simp)]; rw [if_pos hin]⟩
  have WL : Aside0 ((way p.n p.sender []).length ≤ 63) := ⟨by have h1 := way_len p.n p.sender; have h2 := hok.n.2; omega⟩
  obtain ⟨n, hn⟩ : ∃ n, n = p.n := ⟨_, rfl⟩
  obtain ⟨sd, hsd⟩ : ∃ sd, sd = p.sender := ⟨_, rfl⟩
  obtain ⟨me, hme⟩ : ∃ me, me = p.me := ⟨_, rfl⟩
  rw [← hn, ← hsd] at WE WL IN
  rw [← hn, ← hsd, ← hme] at HB
  have HEQ := Aside0.mk (And.intro hn (And.intro hsd hme))
  have OKN : Aside0 (1 ≤ n ∧ n ≤ 64) := ⟨by rw [hn]; exact hok.n⟩
  clear hb hok hS hw E hin hn hsd hme
  go_enter Try.func26, Try.ntmps26
  go_upto_region 0 with (fail)
  go_cut [25, 26, 27] (fun v25 v26 v27 w' => ∃ (A : Option Addr) (c : Nat), v25 = .slice A (wayL n sd).length c ∧ v26 = .int .i64 (wayL n sd).length ∧ v27 = .int .i64 0 ∧ Aside0 (Kd.C kI w' A (wayL n sd).length (wayL n sd)) ∧ Aside0 (Below w.heap.size w w'))
  case first =>
    refine wp_region_held_drew (S := fun w' => Below w.heap.size w w') (by kernel_rfl) (by exact below_drew (Below.refl _ _)) (fun hHeld => ?_)
    refine wpAnyH_take (i := 0) (oi := { dst := some 11, op := Op.move (Operand.tmp 0), type := 29, pos := "pull.go:49", after := #[], guard := none }) (v := ?_) rfl (by kernel_rfl) (by kernel_rfl) (by kernel_rfl) (fun _ _ _ h => h) (Or.inl ⟨by rfl, ?_⟩) (by assumption) ?_
    rotate_left
    · (intro w hSw; (try dsimp only at hSw); go_simp; try with_reducible rfl)
    simp only [Act.put, List.setIfInBounds_toArray, List.set_cons_zero, List.set_cons_succ]
    refine wpAnyH_take (i := 1) (oi := { dst := some 12, op := Op.nilCheck (Operand.tmp 11), type := 0, pos := "pull.go:49", after := #[{ on := 0, ground := Ground.data }], guard := none }) (v := ?_) rfl (by kernel_rfl) (by kernel_rfl) (by kernel_rfl) (fun _ _ _ h => h) (Or.inl ⟨by rfl, ?_⟩) (by assumption) ?_
    rotate_left
    · (intro w hSw; (try dsimp only at hSw); go_simp; try with_reducible rfl)
    simp only [Act.put, List.setIfInBounds_toArray, List.set_cons_zero, List.set_cons_succ]
    refine wpAnyH_take (i := 2) (oi := { dst := some 13, op := Op.fieldAddr 71 (Operand.tmp 12) 0, type := 0, pos := "pull.go:49", after := #[{ on := 1, ground := Ground.data }], guard := none }) (v := ?_) rfl (by kernel_rfl) (by kernel_rfl) (by kernel_rfl) (fun _ _ _ h => h) (Or.inl ⟨by rfl, ?_⟩) (by assumption) ?_
    rotate_left
    · (intro w hSw; (try dsimp only at hSw); go_simp; try with_reducible rfl)
    simp only [Act.put, List.setIfInBounds_toArray, List.set_cons_zero, List.set_cons_succ]
    refine wpAnyH_take (i := 3) (oi := { dst := some 14, op := Op.load 3 (Operand.tmp 13), type := 3, pos := "pull.go:49", after := #[{ on := 2, ground := Ground.data }], guard := none }) (v := ?_) rfl (by kernel_rfl) (by kernel_rfl) (by kernel_rfl) (fun _ _ _ h => h) (Or.inl ⟨by rfl, ?_⟩) (by assumption) ?_
    rotate_left
    · (intro w hSw; (try dsimp only at hSw); have y0 := pw_cell_below hSw ((blk_cell HB.out 0).trans rfl); go_simp; try with_reducible rfl)
    simp only [Act.put, List.setIfInBounds_toArray, List.set_cons_zero, List.set_cons_succ]
    refine wpAnyH_take (i := 4) (oi := { dst := some 15, op := Op.move (Operand.tmp 0), type := 29, pos := "pull.go:49", after := #[], guard := none }) (v := ?_) rfl (by kernel_rfl) (by kernel_rfl) (by kernel_rfl) (fun _ _ _ h => h) (Or.inl ⟨by rfl, ?_⟩) (by assumption) ?_
    rotate_left
    · (intro w hSw; (try dsimp only at hSw); go_simp; try with_reducible rfl)
    simp only [Act.put, List.setIfInBounds_toArray, List.set_cons_zero, List.set_cons_succ]
    refine wpAnyH_take (i := 5) (oi := { dst := some 16, op := Op.nilCheck (Operand.tmp 15), type := 0, pos := "pull.go:49", after := #[{ on := 4, ground := Ground.data }], guard := none }) (v := ?_) rfl (by kernel_rfl) (by kernel_rfl) (by kernel_rfl) (fun _ _ _ h => h) (Or.inl ⟨by rfl, ?_⟩) (by assumption) ?_
    rotate_left
    · (intro w hSw; (try dsimp only at hSw); go_simp; try with_reducible rfl)
    simp only [Act.put, List.setIfInBounds_toArray, List.set_cons_zero, List.set_cons_succ]
    refine wpAnyH_take (i := 6) (oi := { dst := some 17, op := Op.fieldAddr 71 (Operand.tmp 16) 4, type := 0, pos := "pull.go:49", after := #[{ on := 5, ground := Ground.data }], guard := none }) (v := ?_) rfl (by kernel_rfl) (by kernel_rfl) (by kernel_rfl) (fun _ _ _ h => h) (Or.inl ⟨by rfl, ?_⟩) (by assumption) ?_
    rotate_left
    · (intro w hSw; (try dsimp only at hSw); go_simp; try with_reducible rfl)
    simp only [Act.put, List.setIfInBounds_toArray, List.set_cons_zero, List.set_cons_succ]
    refine wpAnyH_take (i := 7) (oi := { dst := some 18, op := Op.load 3 (Operand.tmp 17), type := 3, pos := "pull.go:49", after := #[{ on := 6, ground := Ground.data }], guard := none }) (v := ?_) rfl (by kernel_rfl) (by kernel_rfl) (by kernel_rfl) (fun _ _ _ h => h) (Or.inl ⟨by rfl, ?_⟩) (by assumption) ?_
    rotate_left
    · (intro w hSw; (try dsimp only at hSw); have y4 := pw_cell_below hSw ((blk_cell HB.out 4).trans rfl); go_simp; try with_reducible rfl)
    simp only [Act.put, List.setIfInBounds_toArray, List.set_cons_zero, List.set_cons_succ]
    refine wpAnyH_take (i := 9) (oi := { dst := some 20, op := Op.move (Operand.tmp 0), type := 29, pos := "pull.go:49", after := #[], guard := none }) (v := ?_) rfl (by kernel_rfl) (by kernel_rfl) (by kernel_rfl) (fun _ _ _ h => h) (Or.inl ⟨by rfl, ?_⟩) (by assumption) ?_
    rotate_left
    · (intro w hSw; (try dsimp only at hSw); go_simp; try with_reducible rfl)
    simp only [Act.put, List.setIfInBounds_toArray, List.set_cons_zero, List.set_cons_succ]
    refine wpAnyH_take (i := 10) (oi := { dst := some 21, op := Op.nilCheck (Operand.tmp 20), type := 0, pos := "pull.go:49", after := #[{ on := 9, ground := Ground.data }], guard := none }) (v := ?_) rfl (by kernel_rfl) (by kernel_rfl) (by kernel_rfl) (fun _ _ _ h => h) (Or.inl ⟨by rfl, ?_⟩) (by assumption) ?_
    rotate_left
    · (intro w hSw; (try dsimp only at hSw); go_simp; try with_reducible rfl)
    simp only [Act.put, List.setIfInBounds_toArray, List.set_cons_zero, List.set_cons_succ]
    refine wpAnyH_take (i := 11) (oi := { dst := some 22, op := Op.fieldAddr 71 (Operand.tmp 21) 4, type := 0, pos := "pull.go:49", after := #[{ on := 10, ground := Ground.data }], guard := none }) (v := ?_) rfl (by kernel_rfl) (by kernel_rfl) (by kernel_rfl) (fun _ _ _ h => h) (Or.inl ⟨by rfl, ?_⟩) (by assumption) ?_
    rotate_left
    · (intro w hSw; (try dsimp only at hSw); go_simp; try with_reducible rfl)
    simp only [Act.put, List.setIfInBounds_toArray, List.set_cons_zero, List.set_cons_succ]
    refine wpAnyH_take (i := 12) (oi := { dst := some 23, op := Op.load 3 (Operand.tmp 22), type := 3, pos := "pull.go:49", after := #[{ on := 11, ground := Ground.data }], guard := none }) (v := ?_) rfl (by kernel_rfl) (by kernel_rfl) (by kernel_rfl) (fun _ _ _ h => h) (Or.inl ⟨by rfl, ?_⟩) (by assumption) ?_
    rotate_left
    · (intro w hSw; (try dsimp only at hSw); have y4 := pw_cell_below hSw ((blk_cell HB.out 4).trans rfl); go_simp; try with_reducible rfl)
    simp only [Act.put, List.setIfInBounds_toArray, List.set_cons_zero, List.set_cons_succ]
    refine wpAnyH_take (i := 16) (oi := { dst := some 27, op := Op.move (Operand.const (Value.int IntKind.i64 0)), type := 3, pos := "pull.go:49", after := #[], guard := none }) (v := ?_) rfl (by kernel_rfl) (by kernel_rfl) (by kernel_rfl) (fun _ _ _ h => h) (Or.inl ⟨by rfl, ?_⟩) (by assumption) ?_
    rotate_left
    · (intro w hSw; (try dsimp only at hSw); go_simp; try with_reducible rfl)
    simp only [Act.put, List.setIfInBounds_toArray, List.set_cons_zero, List.set_cons_succ]
    refine wpAnyH_ready (rs := [8, 13]) (by kernel_rfl) (by simp) ?_
    refine AllReadyH.cons (o := { dst := some 19, op := Op.call { callee := Callee.value (Operand.func 28), args := #[Operand.tmp 14, Operand.tmp 18, Operand.const (Value.slice none 0 0)], argTypes := #[3, 3, 31] }, type := 31, pos := "pull.go:49", after := #[{ on := 3, ground := Ground.data }, { on := 7, ground := Ground.data }], guard := none }) rfl (fun K hK => ?_) (AllReadyH.cons (o := { dst := some 24, op := Op.buildSlice 31 1 #[(0, Operand.tmp 23)], type := 31, pos := "pull.go:49", after := #[{ on := 12, ground := Ground.data }], guard := none }) rfl (fun K hK => ?_) AllReadyH.nil)
    · go_simp
      go_at_call 28
      refine (ring_Way.calls 200 n sd none 0 [] (way n sd []) _ (Kd.C_nil _ _) (Nat.le_refl _) WE.out).mono ?_
      rintro e wa ⟨v1, rfl, hR1, hb0⟩
      obtain ⟨Aw, cw, rfl⟩ := Kd.R_slice hR1
      have RW := Aside0.mk (Kd.R_lower hR1 hHeld.size)
      have HBW := Aside0.mk hb0
      clear hR1
      try go_wp2_with fail
      refine hK.out _ _ (below_step hHeld hb0) (fun hHeld => ?_)
      clear hK K
      try simp only [Act.put, List.setIfInBounds_toArray, List.set_cons_zero, List.set_cons_succ]
      refine wpAnyH_ready (rs := [13]) (by kernel_rfl) (by simp) ?_
      refine AllReadyH.cons (o := { dst := some 24, op := Op.buildSlice 31 1 #[(0, Operand.tmp 23)], type := 31, pos := "pull.go:49", after := #[{ on := 12, ground := Ground.data }], guard := none }) rfl (fun K hK => ?_) AllReadyH.nil
      go_simp
      refine hK.out _ _ (below_step hHeld (below_alloc (Below.refl _ _) _)) (fun hHeld => ?_)
      clear hK K
      try simp only [Act.put, List.setIfInBounds_toArray, List.set_cons_zero, List.set_cons_succ]
      refine wpAnyH_ready (rs := [14]) (by kernel_rfl) (by simp) ?_
      refine AllReadyH.cons (o := { dst := some 25, op := Op.call { callee := Callee.builtin Builtin.append, args := #[Operand.tmp 19, Operand.tmp 24], argTypes := #[31, 31] }, type := 31, pos := "pull.go:49", after := #[{ on := 8, ground := Ground.data }, { on := 13, ground := Ground.data }, { on := 8, ground := Ground.chain }], guard := none }) rfl (fun K hK => ?_) AllReadyH.nil
      skip
      refine Kd.R_append_rows_step kI (w0 := w) w.heap.size (by rfl) (.tmp 19) (.tmp 24) 31 tI64 (.int .i64 0) 8 rfl Try.underlying31 infoI64 rfl (by decide) (by decide) (.slice Aw (way n sd []).length cw) (way n sd []) [sd] _ 1 1 (fun _ => True) (fun _ => False) rfl rfl (by first | exact RW.out | exact Kd.R_alloc RW.out _) (by first | exact one_I (blk_new wa _) | exact one_I (blk_below (blk_drew (blk_new _ _)) HBW.out) | exact one_I (blk_below (blk_new _ _) HBW.out)) (fun _ _ h => h) (fun _ h => h.elim) (fun _ _ => trivial) hHeld hHeld.size (by have := WL.out; omega) ?_
      intro v2 wb ho hb hg hat
      obtain ⟨Av, cv, rfl⟩ := Kd.R_slice ho
      have RO := Aside0.mk (Kd.R_reads' ho).2.2
      clear ho hg hat
      refine hK.out _ _ hb (fun hHeld => ?_)
      clear hK K
      try simp only [Act.put, List.setIfInBounds_toArray, List.set_cons_zero, List.set_cons_succ]
      refine wpAnyH_take (i := 15) (oi := { dst := some 26, op := Op.call { callee := Callee.builtin Builtin.len, args := #[Operand.tmp 25], argTypes := #[31] }, type := 3, pos := "pull.go:49", after := #[{ on := 14, ground := Ground.data }], guard := none }) (v := ?_) rfl (by kernel_rfl) (by kernel_rfl) (by kernel_rfl) (fun _ _ _ h => h) (Or.inl ⟨by rfl, ?_⟩) (by assumption) ?_
      rotate_left
      · (intro w hSw; (try dsimp only at hSw); go_simp; try with_reducible rfl)
      simp only [Act.put, List.setIfInBounds_toArray, List.set_cons_zero, List.set_cons_succ]
      refine wpAnyH_done (by kernel_rfl) ?_ _
      go_wp2_with fail
      go_meet
      exact ⟨Av, cv, rfl, by simp [wayL], rfl, RO, ⟨hHeld⟩⟩
    · go_simp
      refine hK.out _ _ (below_step hHeld (below_alloc (Below.refl _ _) _)) (fun hHeld => ?_)
      clear hK K
      try simp only [Act.put, List.setIfInBounds_toArray, List.set_cons_zero, List.set_cons_succ]
      refine wpAnyH_ready (rs := [8]) (by kernel_rfl) (by simp) ?_
      refine AllReadyH.cons (o := { dst := some 19, op := Op.call { callee := Callee.value (Operand.func 28), args := #[Operand.tmp 14, Operand.tmp 18, Operand.const (Value.slice none 0 0)], argTypes := #[3, 3, 31] }, type := 31, pos := "pull.go:49", after := #[{ on := 3, ground := Ground.data }, { on := 7, ground := Ground.data }], guard := none }) rfl (fun K hK => ?_) AllReadyH.nil
      go_simp
      go_at_call 28
      refine (ring_Way.calls 200 n sd none 0 [] (way n sd []) _ (Kd.C_nil _ _) (Nat.le_refl _) WE.out).mono ?_
      rintro e wa ⟨v1, rfl, hR1, hb0⟩
      obtain ⟨Aw, cw, rfl⟩ := Kd.R_slice hR1
      have RW := Aside0.mk (Kd.R_lower hR1 hHeld.size)
      have HBW := Aside0.mk hb0
      clear hR1
      try go_wp2_with fail
      refine hK.out _ _ (below_step hHeld hb0) (fun hHeld => ?_)
      clear hK K
      try simp only [Act.put, List.setIfInBounds_toArray, List.set_cons_zero, List.set_cons_succ]
      refine wpAnyH_ready (rs := [14]) (by kernel_rfl) (by simp) ?_
      refine AllReadyH.cons (o := { dst := some 25, op := Op.call { callee := Callee.builtin Builtin.append, args := #[Operand.tmp 19, Operand.tmp 24], argTypes := #[31, 31] }, type := 31, pos := "pull.go:49", after := #[{ on := 8, ground := Ground.data }, { on := 13, ground := Ground.data }, { on := 8, ground := Ground.chain }], guard := none }) rfl (fun K hK => ?_) AllReadyH.nil
      skip
      refine Kd.R_append_rows_step kI (w0 := w) w.heap.size (by rfl) (.tmp 19) (.tmp 24) 31 tI64 (.int .i64 0) 8 rfl Try.underlying31 infoI64 rfl (by decide) (by decide) (.slice Aw (way n sd []).length cw) (way n sd []) [sd] _ 1 1 (fun _ => True) (fun _ => False) rfl rfl (by first | exact RW.out | exact Kd.R_alloc RW.out _) (by first | exact one_I (blk_new wa _) | exact one_I (blk_below (blk_drew (blk_new _ _)) HBW.out) | exact one_I (blk_below (blk_new _ _) HBW.out)) (fun _ _ h => h) (fun _ h => h.elim) (fun _ _ => trivial) hHeld hHeld.size (by have := WL.out; omega) ?_
      intro v2 wb ho hb hg hat
      obtain ⟨Av, cv, rfl⟩ := Kd.R_slice ho
      have RO := Aside0.mk (Kd.R_reads' ho).2.2
      clear ho hg hat
      refine hK.out _ _ hb (fun hHeld => ?_)
      clear hK K
      try simp only [Act.put, List.setIfInBounds_toArray, List.set_cons_zero, List.set_cons_succ]
      refine wpAnyH_take (i := 15) (oi := { dst := some 26, op := Op.call { callee := Callee.builtin Builtin.len, args := #[Operand.tmp 25], argTypes := #[31] }, type := 3, pos := "pull.go:49", after := #[{ on := 14, ground := Ground.data }], guard := none }) (v := ?_) rfl (by kernel_rfl) (by kernel_rfl) (by kernel_rfl) (fun _ _ _ h => h) (Or.inl ⟨by rfl, ?_⟩) (by assumption) ?_
      rotate_left
      · (intro w hSw; (try dsimp only at hSw); go_simp; try with_reducible rfl)
      simp only [Act.put, List.setIfInBounds_toArray, List.set_cons_zero, List.set_cons_succ]
      refine wpAnyH_done (by kernel_rfl) ?_ _
      go_wp2_with fail
      go_meet
      exact ⟨Av, cv, rfl, by simp [wayL], rfl, RO, ⟨hHeld⟩⟩
  case rest =>
    obtain ⟨A, c, rfl, rfl, rfl, RO, BW⟩ := hcut
    have WLL : Aside0 ((wayL n sd).length ≤ 64) := ⟨by unfold wayL; rw [List.length_append]; have := WL.out; simp; omega⟩
    obtain ⟨l, hl⟩ : ∃ l, l = wayL n sd := ⟨_, rfl⟩
    have CH : Aside0 (choP p held skip H = match pickS n me held skip H l with | none => p | some s => { p with want := some (s, nextS held s, false, 0), sender := s }) := ⟨by unfold choP; rw [hl, HEQ.out.1, HEQ.out.2.1, HEQ.out.2.2]⟩
    rw [← hl] at RO WLL IN ⊢
    clear hl WE WL
    go_wp2_with fail
    go_loopg [27] l.length (fun gg s27 wr => ∃ i : Nat, s27 = .int .i64 i ∧ i ≤ l.length ∧ l.length - i ≤ gg ∧ Aside0 (Below w.heap.size w wr) ∧ Aside0 (Below wc.heap.size wc wr) ∧ Aside0 (pickS n me held skip H l = pickS n me held skip H (l.drop i)))
    case atStart => exact ⟨0, rfl, Nat.zero_le _, by omega, BW, ⟨Below.refl _ _⟩, ⟨rfl⟩⟩
    case round =>
      obtain ⟨i, rfl, hi, hgg, BR, BC, PK⟩ := hrel
      by_cases hlt : i < l.length
      · have hltz : (i : Int) < (l.length : Int) := by omega
        have hwi : IntKind.i64.wrap ((i : Int) + 1) = ((i + 1 : Nat) : Int) := by rw [IntKind.wrap_i64]; have := WLL.out; omega
        obtain ⟨ad, cc, e, hcl, hKK, hcc⟩ := Kd.C_get (Kd.C_below RO.out BC.out) 0 (i : Int) (by omega) hltz
        cases e
        have e1 : l.getD ((i : Int)).toNat 0 = l[i] := by simp [List.getD, hlt]
        rw [e1] at hKK
        rw [Int.toNat_natCast] at hcc
        have hs := IN.out l[i] (List.getElem_mem hlt)
        have hd : l.drop i = l[i] :: l.drop (i + 1) := List.drop_eq_getElem_cons hlt
        generalize l[i] = s at hKK hs hd
        have hKK : cc = [.int .i64 s] := hKK
        subst hKK
        have k0 : wr.cell? (ad.add i) = some (.int .i64 s) := by
          have := hcc 0 _ rfl
          rwa [show i * (Kd.int .i64).sz + 0 = i from Nat.mul_one _] at this
        have hsn := OKN.out
        have hu8 : IntKind.u8.wrap s = s := by rw [IntKind.wrap_u8]; omega
        have PK2 : Aside0 (pickS n me held skip H (l.drop i) = if lacksB n me held skip H s (nextS held s) = true then some s else pickS n me held skip H (l.drop (i + 1))) := ⟨by
          rw [hd]
          unfold pickS
          rw [List.find?_cons]
          cases lacksB n me held skip H s (nextS held s) <;> rfl⟩
        obtain ⟨q, hq⟩ : ∃ q, nextS held s = q := ⟨_, rfl⟩
        have hqq : IntKind.u64.wrap (rd held s + 1) = q := hq
        have HQ := Aside0.mk hq
        rw [hq] at PK2
        have HS2 : Aside0 (0 ≤ s ∧ s ≤ 255) := ⟨by omega⟩
        have HSI : Aside0 (0 ≤ s ∧ s < p.n) := ⟨by rw [← HEQ.out.1]; exact hs⟩
        clear hcl hcc hd e1 hq hs hsn
        go_wp2_with fail
        refine (vec_At.calls Ah ch held s _ _ (EE.out.hC _ (Beside.of_below T BR.out)) EE.out.hc (At_eq held s HS2.out.1)).mono ?_
        rintro e w2 ⟨rfl, hd⟩
        have B2 := Aside0.mk (below_step BR.out hd.below)
        have C2 := Aside0.mk (below_step BC.out hd.below)
        clear hd k0 BR BC
        go_wp2_with fail
        have XB := Aside0.mk (blk_new w2 (.cells #[.int .u8 s, .int .u64 q] tID))
        have B3 := Aside0.mk (below_alloc B2.out (.cells #[.int .u8 s, .int .u64 q] tID))
        have C3 := Aside0.mk (below_alloc C2.out (.cells #[.int .u8 s, .int .u64 q] tID))
        obtain ⟨ib, hib⟩ : ∃ ib, ib = w2.heap.size := ⟨_, rfl⟩
        rw [← hib] at XB ⊢
        clear hib B2 C2
        generalize w2.alloc (.cells #[.int .u8 s, .int .u64 q] tID) = w3 at XB B3 C3 ⊢
        refine (lacks_calls (n := n) (me := me) (EE.out.below B3.out) ((blk_cell (blk_below HB.out B3.out) 0).trans rfl) ((blk_cell (blk_below HB.out B3.out) 1).trans rfl) HS2.out).mono ?_
        rintro e w4 ⟨rfl, hb⟩
        have B4 := Aside0.mk (below_step B3.out hb)
        have C4 := Aside0.mk (below_step C3.out hb)
        have X4 := Aside0.mk (blk_below XB.out hb)
        clear hb XB B3 C3
        cases hlk : lacksB n me held skip H s q with
        | false =>
          have PK3 : Aside0 (pickS n me held skip H l = pickS n me held skip H (l.drop (i + 1))) := ⟨by rw [PK.out, PK2.out, hlk]; rfl⟩
          clear hlk
          go_wp2_with fail
          go_roundg (l.length - (i + 1))
          case measure => omega
          case rel => exact ⟨i + 1, by go_num, by omega, Nat.le_refl _, B4, C4, PK3⟩
        | true =>
          have PK3 : Aside0 (pickS n me held skip H l = some s) := ⟨by rw [PK.out, PK2.out, hlk]; rfl⟩
          have XK := Aside0.mk (blk_below HB.out B4.out)
          have i0 : w4.cell? ⟨ib, 0, none⟩ = some (.int .u8 s) := (blk_cell X4.out 0).trans rfl
          have i1 : w4.cell? ⟨ib, 1, none⟩ = some (.int .u64 q) := (blk_cell X4.out 1).trans rfl
          have hu := Try.underlying33
          have XL := Aside0.mk (blk_lt HB.out)
          clear hlk PK PK2
          go_wp2_with ((with_reducible refine gate_dst (N := 48) rfl ?_); refine box_event ?hg (N := 48) ?hd (cs := #[.int .u8 s, .int .u64 q, .bool false, .int .i64 0]) (t := tWt) ?hr ?_; (case hd => rfl); (case hg => rfl); (case hr => first | (go_simp; done) | (go_simp; rfl)); intro gb hgb w5 hbox hb5; have WB := Aside0.mk hbox; have B5 := Aside0.mk (below_step B4.out hb5); have GB := Aside0.mk (show w4.heap.size ≤ gb by rw [hgb]; exact Nat.le_refl _); have XK5 := Aside0.mk (blk_below XK.out hb5); clear hbox hb5 hgb; have x3 : w5.cell? ⟨x, 3, none⟩ = some (.pointer none) := (blk_cell XK5.out 3).trans rfl; have x4 : w5.cell? ⟨x, 4, none⟩ = some (.int .i64 sd) := (blk_cell XK5.out 4).trans rfl; have f3 : w5.frozen? ⟨x, 3, none⟩ = false := blk_frozen XK5.out 3; have f4 : w5.frozen? ⟨x, 4, none⟩ = false := blk_frozen XK5.out 4)
          refine bodyPost_ret (results_none rfl _ _ _) rfl ?_
          rw [CH.out, PK3.out]
          obtain ⟨rfl, rfl, rfl⟩ := HEQ.out
          have hgx : gb ≠ x := fun e => by have h1 := XL.out; have h2 := GB.out; have h3 := B4.out.size; omega
          have SG := ((Beside.refl (fun k => k = x) w5).setCell (p := ⟨x, 3, none⟩) rfl (.pointer (some ⟨gb, 0, none⟩))).setCell (p := ⟨x, 4, none⟩) rfl (.int .i64 s)
          refine ⟨rfl, ⟨.inl HS.out, ⟨OK.out.n, OK.out.me, OK.out.again, HSI.out, OK.out.last, OK.out.count, ?_⟩, .pointer (some ⟨gb, 0, none⟩), blk_put (blk_put XK5.out 3 _ rfl) 4 _ rfl, ⟨gb, rfl, .inr (Nat.le_trans B4.out.size GB.out), hgx, ?_⟩⟩, (Beside.of_below (fun k => k = x) B5.out).trans SG⟩
          · intro y hy
            cases hy
            exact ⟨HS2.out, Int.le_refl _, (by decide : (0 : Int) ≤ 1099511627776)⟩
          · rw [HQ.out]
            exact SG.blk WB.out hgx
      · obtain rfl : i = l.length := by omega
        have hltz : ¬ (l.length : Int) < (l.length : Int) := by omega
        have PN : Aside0 (pickS n me held skip H l = none) := ⟨by rw [PK.out, List.drop_length]; rfl⟩
        have PW : Aside0 (Pul wr (fun k => S k ∨ w.heap.size ≤ k) x p) := ⟨(show Pul w S x p from ⟨HS.out, OK.out, _, by have := HB.out; rwa [HEQ.out.1, HEQ.out.2.1, HEQ.out.2.2] at this, by rw [HW.out]; rfl⟩).below BR.out |>.mono (fun k hk => .inl hk)⟩
        go_wp2_with fail
        go_end0
        rw [CH.out, PN.out]
        exact ⟨rfl, PW.out, Beside.of_below _ BR.out⟩
end

end Go.Proofs.Ytncofecfljocgaa.Walk
