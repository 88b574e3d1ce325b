/- Put. Conditions: none beyond the statement's own. -/
import Derived.Test.YtpdglodfgikfkaaWalkNew
import Derived.Test.YtpdglodfgikfkaaF2
import Derived.Test.YtpdglodfgikfkaaArgs
import Derived.Deep.QuietTactic
import Derived.BigQuiet
import Derived.Lib.QuietBelow
import Derived.Outline
import Derived.Deep.RegionHeld3
import Derived.Deep.CutRange
namespace Go.Proofs.Ytpdglodfgikfkaa.Walk
open Go.RowKit Go.Proofs.Ytpdglodfgikfkaa.F Go.Proofs.YtpdglodfgikfkaaW.PrintWords Go.Proofs.YtpdglodfgikfkaaW.PrintLast Go.Proofs.YtpdglodfgikfkaaW.PrintMore Go.Proofs.Ytpdglodfgikfkaa.Open
open Go.Sort (grow)
attribute [local go_sem] max2_int min2_int max_two min_two max_three min_three max_four min_four
set_option linter.unusedVariables false
set_option linter.unusedSimpArgs false

/-! ### Put -/
def mayD (n : Nat) (x : Ix) : Bool := decide (x.1 < n) && decide (1 ≤ x.2 ∧ x.2 ≤ 4611686018427387904)
theorem mayD_f {n : Nat} {q : Nat} {s : Int} (hn : n ≤ 64) (hq : q ≤ 255) : ident_May.f (q : Int) s (n : Int) = some (mayD n ((q : Int), s)) := by
  have e1 : wrap64 (q : Int) = (q : Int) := by unfold wrap64; omega
  have e2 : mn (n : Int) 64 = (n : Int) := by unfold mn; split <;> omega
  unfold ident_May.f mayD
  rw [e1, e2]
  dsimp only
  by_cases h : (q : Int) < (n : Int)
  · rw [if_pos h]
    by_cases h1 : s ≥ 1
    · rw [if_pos h1]
      simp only [h, decide_true, Bool.true_and, Option.some.injEq]
      exact decide_eq_decide.2 ⟨fun h => ⟨h1, h⟩, fun h => h.2⟩
    · rw [if_neg h1]
      have : ¬ (1 ≤ s ∧ s ≤ 4611686018427387904) := by omega
      simp [this]
  · rw [if_neg h]
    simp [h]
def fits (n : Nat) (room : Int) (E : Es) (F : List Int) (x : Ix) (p : List Int) : Bool := mayD n x && decide (F.getD x.1.toNat 0 < x.2) && !hasE E x && decide ((p.length : Int) ≤ room - usedE E)
def putE (z : Bool) (E : Es) (x : Ix) (v : Value) (p : List Int) : Es := if z = true then E ++ [(x, ⟨v, p⟩)] else E
theorem hasE_snoc (E : Es) (x y : Ix) (p : Pay) : hasE (E ++ [(x, p)]) y = (hasE E y || decide (x = y)) := by
  unfold hasE
  rw [mlk_append, mlk_cons, mlk_nil]
  cases mlk E y <;> by_cases h : x = y <;> simp [h]
theorem usedE_snoc (E : Es) (x : Ix) (p : Pay) : usedE (E ++ [(x, p)]) = usedE E + p.x.length := by simp [usedE]
/-! ### A payload is laid in -/
section
variable {w w2 : World} {S : Nat → Prop} {g mb fb hb n : Nat} {room : Int} {E : Es} {F H : List Int}
theorem has_none {x : Ix} (h : hasE E x = false) : mlk E x = none := by
  unfold hasE at h
  cases hl : mlk E x with
  | none => rfl
  | some v => rw [hl] at h; cases h
theorem St.push (h : St w S g mb fb hb n room E F H) {x : Ix} (hx : okE n x) (hid : idr x) (hn : hasE E x = false) {p : List Int} (hroom : (usedE E + p.length : Int) ≤ room) {v : Value} (hR : Kd.R (Kd.int .u8) 5 w2 w.heap.size (fun _ => True) v p) (hbw : Below w.heap.size w w2) :
    ∃ w3, (Instr.mapUpdate tPM (.map (some mb)) (.agg #[.int .u8 x.1, .int .u64 x.2]) v).run Try.prog w2 = .ok () w3 ∧ w3.heap[g]? = some (.cells #[.int .i64 room, .int .i64 (usedE E), .map (some mb), .slice (some ⟨fb, 0, none⟩) n n, .slice (some ⟨hb, 0, none⟩) n n] tSt (0, 0)) ∧ Beside (fun k => k = mb) w2 w3 ∧
      St (w3.setCell ⟨g, 1, none⟩ (.int .i64 ((usedE E : Int) + (p.length : Int)))) (fun k => S k ∨ w.heap.size ≤ k) g mb fb hb n room (E ++ [(x, ⟨v, p⟩)]) F H ∧ Beside S w (w3.setCell ⟨g, 1, none⟩ (.int .i64 ((usedE E : Int) + (p.length : Int)))) := by
  have h2 := h.below hbw
  obtain ⟨l, hl⟩ := id_key hid
  obtain ⟨w3, hrun, hM, hB3, hsz⟩ := h2.map.push lawID fkD_inj Try.underlying54 (x := x) hl (has_none hn) (⟨v, p⟩ : Pay)
  obtain ⟨n1, n2, n3, n4, n5, n6⟩ := h.ne
  have hg3 : w3.heap[g]? = _ := (hB3.block g (blk_lt h2.blk) n1).trans h2.blk
  have hC := (Beside.refl (fun k => k = g) w3).setCell (p := ⟨g, 1, none⟩) rfl (.int .i64 ((usedE E : Int) + (p.length : Int)))
  have lt0 : ∀ k, k < w.heap.size → k < w2.heap.size := fun k hk => Nat.lt_of_lt_of_le hk hbw.size
  have lt3 : ∀ k, k < w2.heap.size → k < w3.heap.size := fun k hk => Nat.lt_of_lt_of_le hk hB3.size
  have f2 : fb < w2.heap.size := blk_lt h2.fblk
  have hh2 : hb < w2.heap.size := blk_lt h2.hblk
  have g2 : g < w2.heap.size := blk_lt h2.blk
  have gw : g < w.heap.size := blk_lt h.blk
  have fw : fb < w.heap.size := blk_lt h.fblk
  have hw : hb < w.heap.size := blk_lt h.hblk
  have mw : mb < w.heap.size := h.map.lt
  refine ⟨w3, hrun, hg3, hB3, ⟨.inl h.S_g, .inl h.S_m, .inl h.S_f, .inl h.S_h, h.ne, h.n1, h.n2, h.r0, by rw [usedE_snoc]; push_cast; omega, h.lf, h.lh, h.uf, h.uh, fun e he => ?_, ?_, ?_, ?_, hM.beside hC (fun e => n1 e.symm), fun e he => ?_⟩, ?_⟩
  · rcases List.mem_append.1 he with he | he
    · exact h.ks e he
    · rw [List.mem_singleton.1 he]; exact hx
  · rw [usedE_snoc, Int.natCast_add]
    exact blk_put hg3 1 _ rfl
  · exact (hC.block fb (lt3 fb f2) (fun e => n2 e.symm)).trans ((hB3.block fb f2 (fun e => n4 e.symm)).trans h2.fblk)
  · exact (hC.block hb (lt3 hb hh2) (fun e => n3 e.symm)).trans ((hB3.block hb hh2 (fun e => n5 e.symm)).trans h2.hblk)
  · refine Kd.R_far (p := ⟨g, 1, none⟩) ?_ (fun k hk => hk.2.1) _
    rcases List.mem_append.1 he with he | he
    · refine Kd.R_mono (Kd.R_step (h2.pays e he) (fun k hk hlt => hB3.block k hlt hk.2.2.1)) (fun k hk => ⟨.inl hk.1, hk.2⟩)
    · rw [List.mem_singleton.1 he]
      refine Kd.R_lower (Kd.R_mono (Kd.R_step (Kd.R_bound hR) (fun k hk hlt => hB3.block k hlt (fun e => by have := hk.2.1; omega))) (fun k hk => ?_)) (Nat.zero_le _)
      have := hk.2.1
      exact ⟨.inr this, by omega, by omega, by omega, by omega⟩
  · exact ((Beside.of_below S hbw).then_ hB3 (fun k hk => .inl (by rw [hk]; exact h.S_m))).setCell (p := ⟨g, 1, none⟩) h.S_g _
theorem Tops.push (h : Tops E F H) {q : Nat} {s fq t : Int} {v : Value} {p : List Int} (hf : F[q]? = some fq) (ht : IsTop (E ++ [(((q : Int), s), ⟨v, p⟩)]) (q : Int) fq t) : Tops (E ++ [(((q : Int), s), ⟨v, p⟩)]) F (H.set q t) := by
  intro i f hh hfi hhi
  by_cases e : q = i
  · subst e
    rw [hf] at hfi
    cases hfi
    have hl := (List.getElem?_eq_some_iff.1 hhi).1
    rw [List.getElem?_set_self (by simpa using hl)] at hhi
    cases hhi
    exact ht
  · rw [List.getElem?_set_ne e] at hhi
    obtain ⟨h1, h2, h3⟩ := h i f hh hfi hhi
    refine ⟨h1, fun s' a b => ?_, ?_⟩
    · rw [hasE_snoc, h2 s' a b]; rfl
    · rw [hasE_snoc, h3]
      simp only [Bool.false_or, decide_eq_false_iff_not, Prod.mk.injEq, not_and]
      intro e2
      omega
end
theorem Put_nil (q s : Int) (v : Value) (w : World) : Calls Try.prog 10 #[.pointer none, .agg #[.int .u8 q, .int .u64 s], v] w fun e w' => e = .returned (.bool false) ∧ Below w.heap.size w w' := by
  have hu := Try.underlying29
  have B1 := Aside0.mk (below_drew (below_alloc (Below.refl w.heap.size w) (.cells #[.int .u8 q, .int .u64 s] tID)))
  go_enter Try.func10, Try.ntmps10
  go_upto_region 1 with (fail)
  refine wp_region_held_drew (S := fun w' => True) (by kernel_rfl) (by trivial) (fun hHeld => ?_)
  refine wpAnyH_take (i := 0) (oi := { dst := some 7, op := Op.move (Operand.tmp 0), type := 24, pos := "store.go:36", after := #[], guard := none }) (v := ?_) rfl (by kernel_rfl) (by kernel_rfl) (by kernel_rfl) (fun _ _ _ h => h) (Or.inl ⟨by rfl, ?_⟩) (by assumption) ?_
  rotate_left
  · (intro w hSw; (try dsimp only at hSw); go_simp; try with_reducible rfl)
  simp only [Act.put, List.setIfInBounds_toArray, List.set_cons_zero, List.set_cons_succ]
  refine wpAnyH_take (i := 1) (oi := { dst := some 8, op := Op.binOp BinOp.eql 24 (Operand.tmp 7) (Operand.const (Value.pointer none)) 24, type := 4, pos := "store.go:36", after := #[{ on := 0, ground := Ground.data }], guard := none }) (v := ?_) rfl (by kernel_rfl) (by kernel_rfl) (by kernel_rfl) (fun _ _ _ h => h) (Or.inl ⟨by rfl, ?_⟩) (by assumption) ?_
  rotate_left
  · (intro w hSw; (try dsimp only at hSw); go_simp; try with_reducible rfl)
  simp only [Act.put, List.setIfInBounds_toArray, List.set_cons_zero, List.set_cons_succ]
  refine wpAnyH_take (i := 2) (oi := { dst := some 9, op := Op.move (Operand.tmp 8), type := 4, pos := "store.go:36", after := #[{ on := 1, ground := Ground.data }], guard := none }) (v := ?_) rfl (by kernel_rfl) (by kernel_rfl) (by kernel_rfl) (fun _ _ _ h => h) (Or.inl ⟨by rfl, ?_⟩) (by assumption) ?_
  rotate_left
  · (intro w hSw; (try dsimp only at hSw); go_simp; try with_reducible rfl)
  simp only [Act.put, List.setIfInBounds_toArray, List.set_cons_zero, List.set_cons_succ]
  refine wpAnyH_take (i := 3) (oi := { dst := some 10, op := Op.load 29 (Operand.tmp 4), type := 29, pos := "store.go:36", after := #[{ on := 2, ground := Ground.guard }], guard := some (2, false) }) (v := undef) rfl (by kernel_rfl) (by kernel_rfl) (by kernel_rfl) (fun _ _ _ h => h) (Or.inr ⟨by rfl, rfl⟩) (by assumption) ?_
  simp only [Act.put, List.setIfInBounds_toArray, List.set_cons_zero, List.set_cons_succ]
  refine wpAnyH_take (i := 4) (oi := { dst := some 11, op := Op.move (Operand.tmp 0), type := 24, pos := "store.go:36", after := #[{ on := 2, ground := Ground.guard }], guard := some (2, false) }) (v := undef) rfl (by kernel_rfl) (by kernel_rfl) (by kernel_rfl) (fun _ _ _ h => h) (Or.inr ⟨by rfl, rfl⟩) (by assumption) ?_
  simp only [Act.put, List.setIfInBounds_toArray, List.set_cons_zero, List.set_cons_succ]
  refine wpAnyH_take (i := 5) (oi := { dst := some 12, op := Op.nilCheck (Operand.tmp 11), type := 0, pos := "store.go:36", after := #[{ on := 4, ground := Ground.data }, { on := 2, ground := Ground.guard }], guard := some (2, false) }) (v := undef) rfl (by kernel_rfl) (by kernel_rfl) (by kernel_rfl) (fun _ _ _ h => h) (Or.inr ⟨by rfl, rfl⟩) (by assumption) ?_
  simp only [Act.put, List.setIfInBounds_toArray, List.set_cons_zero, List.set_cons_succ]
  refine wpAnyH_take (i := 6) (oi := { dst := some 13, op := Op.fieldAddr 56 (Operand.tmp 12) 3, type := 0, pos := "store.go:36", after := #[{ on := 5, ground := Ground.data }, { on := 2, ground := Ground.guard }], guard := some (2, false) }) (v := undef) rfl (by kernel_rfl) (by kernel_rfl) (by kernel_rfl) (fun _ _ _ h => h) (Or.inr ⟨by rfl, rfl⟩) (by assumption) ?_
  simp only [Act.put, List.setIfInBounds_toArray, List.set_cons_zero, List.set_cons_succ]
  refine wpAnyH_take (i := 7) (oi := { dst := some 14, op := Op.load 35 (Operand.tmp 13), type := 35, pos := "store.go:36", after := #[{ on := 6, ground := Ground.data }, { on := 2, ground := Ground.guard }], guard := some (2, false) }) (v := undef) rfl (by kernel_rfl) (by kernel_rfl) (by kernel_rfl) (fun _ _ _ h => h) (Or.inr ⟨by rfl, rfl⟩) (by assumption) ?_
  simp only [Act.put, List.setIfInBounds_toArray, List.set_cons_zero, List.set_cons_succ]
  refine wpAnyH_take (i := 8) (oi := { dst := some 15, op := Op.call { callee := Callee.builtin Builtin.len, args := #[Operand.tmp 14], argTypes := #[35] }, type := 3, pos := "store.go:36", after := #[{ on := 7, ground := Ground.data }, { on := 2, ground := Ground.guard }], guard := some (2, false) }) (v := undef) rfl (by kernel_rfl) (by kernel_rfl) (by kernel_rfl) (fun _ _ _ h => h) (Or.inr ⟨by rfl, rfl⟩) (by assumption) ?_
  simp only [Act.put, List.setIfInBounds_toArray, List.set_cons_zero, List.set_cons_succ]
  refine wpAnyH_take (i := 9) (oi := { dst := some 16, op := Op.call { callee := Callee.value (Operand.func 26), args := #[Operand.tmp 10, Operand.tmp 15], argTypes := #[29, 3] }, type := 4, pos := "store.go:36", after := #[{ on := 3, ground := Ground.data }, { on := 8, ground := Ground.data }, { on := 2, ground := Ground.chain }, { on := 2, ground := Ground.guard }], guard := some (2, false) }) (v := undef) rfl (by kernel_rfl) (by kernel_rfl) (by kernel_rfl) (fun _ _ _ h => h) (Or.inr ⟨by rfl, rfl⟩) (by assumption) ?_
  simp only [Act.put, List.setIfInBounds_toArray, List.set_cons_zero, List.set_cons_succ]
  refine wpAnyH_take (i := 10) (oi := { dst := some 17, op := Op.unOp UnOp.not 4 (Operand.tmp 16), type := 4, pos := "store.go:36", after := #[{ on := 9, ground := Ground.data }, { on := 2, ground := Ground.guard }], guard := some (2, false) }) (v := undef) rfl (by kernel_rfl) (by kernel_rfl) (by kernel_rfl) (fun _ _ _ h => h) (Or.inr ⟨by rfl, rfl⟩) (by assumption) ?_
  simp only [Act.put, List.setIfInBounds_toArray, List.set_cons_zero, List.set_cons_succ]
  refine wpAnyH_take (i := 11) (oi := { dst := some 18, op := Op.pick (Operand.tmp 9) (Operand.const (Value.bool true)) (Operand.tmp 17), type := 4, pos := "store.go:36", after := #[{ on := 2, ground := Ground.data }, { on := 10, ground := Ground.data }], guard := none }) (v := ?_) rfl (by kernel_rfl) (by kernel_rfl) (by kernel_rfl) (fun _ _ _ h => h) (Or.inl ⟨by rfl, ?_⟩) (by assumption) ?_
  rotate_left
  · (intro w hSw; (try dsimp only at hSw); go_simp; try with_reducible rfl)
  simp only [Act.put, List.setIfInBounds_toArray, List.set_cons_zero, List.set_cons_succ]
  refine wpAnyH_take (i := 12) (oi := { dst := some 19, op := Op.move (Operand.tmp 18), type := 4, pos := "store.go:36", after := #[{ on := 11, ground := Ground.data }, { on := 9, ground := Ground.chain }], guard := none }) (v := ?_) rfl (by kernel_rfl) (by kernel_rfl) (by kernel_rfl) (fun _ _ _ h => h) (Or.inl ⟨by rfl, ?_⟩) (by assumption) ?_
  rotate_left
  · (intro w hSw; (try dsimp only at hSw); go_simp; try with_reducible rfl)
  simp only [Act.put, List.setIfInBounds_toArray, List.set_cons_zero, List.set_cons_succ]
  refine wpAnyH_take (i := 13) (oi := { dst := some 20, op := Op.fieldAddr 29 (Operand.tmp 4) 1, type := 0, pos := "store.go:36", after := #[{ on := 12, ground := Ground.guard }], guard := some (12, false) }) (v := undef) rfl (by kernel_rfl) (by kernel_rfl) (by kernel_rfl) (fun _ _ _ h => h) (Or.inr ⟨by rfl, rfl⟩) (by assumption) ?_
  simp only [Act.put, List.setIfInBounds_toArray, List.set_cons_zero, List.set_cons_succ]
  refine wpAnyH_take (i := 14) (oi := { dst := some 21, op := Op.load 27 (Operand.tmp 20), type := 27, pos := "store.go:36", after := #[{ on := 13, ground := Ground.data }, { on := 12, ground := Ground.guard }], guard := some (12, false) }) (v := undef) rfl (by kernel_rfl) (by kernel_rfl) (by kernel_rfl) (fun _ _ _ h => h) (Or.inr ⟨by rfl, rfl⟩) (by assumption) ?_
  simp only [Act.put, List.setIfInBounds_toArray, List.set_cons_zero, List.set_cons_succ]
  refine wpAnyH_take (i := 15) (oi := { dst := some 22, op := Op.move (Operand.tmp 0), type := 24, pos := "store.go:36", after := #[{ on := 12, ground := Ground.guard }], guard := some (12, false) }) (v := undef) rfl (by kernel_rfl) (by kernel_rfl) (by kernel_rfl) (fun _ _ _ h => h) (Or.inr ⟨by rfl, rfl⟩) (by assumption) ?_
  simp only [Act.put, List.setIfInBounds_toArray, List.set_cons_zero, List.set_cons_succ]
  refine wpAnyH_take (i := 16) (oi := { dst := some 23, op := Op.nilCheck (Operand.tmp 22), type := 0, pos := "store.go:36", after := #[{ on := 15, ground := Ground.data }, { on := 12, ground := Ground.guard }], guard := some (12, false) }) (v := undef) rfl (by kernel_rfl) (by kernel_rfl) (by kernel_rfl) (fun _ _ _ h => h) (Or.inr ⟨by rfl, rfl⟩) (by assumption) ?_
  simp only [Act.put, List.setIfInBounds_toArray, List.set_cons_zero, List.set_cons_succ]
  refine wpAnyH_take (i := 17) (oi := { dst := some 24, op := Op.fieldAddr 56 (Operand.tmp 23) 3, type := 0, pos := "store.go:36", after := #[{ on := 16, ground := Ground.data }, { on := 12, ground := Ground.guard }], guard := some (12, false) }) (v := undef) rfl (by kernel_rfl) (by kernel_rfl) (by kernel_rfl) (fun _ _ _ h => h) (Or.inr ⟨by rfl, rfl⟩) (by assumption) ?_
  simp only [Act.put, List.setIfInBounds_toArray, List.set_cons_zero, List.set_cons_succ]
  refine wpAnyH_take (i := 18) (oi := { dst := some 25, op := Op.load 35 (Operand.tmp 24), type := 35, pos := "store.go:36", after := #[{ on := 17, ground := Ground.data }, { on := 12, ground := Ground.guard }], guard := some (12, false) }) (v := undef) rfl (by kernel_rfl) (by kernel_rfl) (by kernel_rfl) (fun _ _ _ h => h) (Or.inr ⟨by rfl, rfl⟩) (by assumption) ?_
  simp only [Act.put, List.setIfInBounds_toArray, List.set_cons_zero, List.set_cons_succ]
  refine wpAnyH_take (i := 19) (oi := { dst := some 26, op := Op.fieldAddr 29 (Operand.tmp 4) 0, type := 0, pos := "store.go:36", after := #[{ on := 12, ground := Ground.guard }], guard := some (12, false) }) (v := undef) rfl (by kernel_rfl) (by kernel_rfl) (by kernel_rfl) (fun _ _ _ h => h) (Or.inr ⟨by rfl, rfl⟩) (by assumption) ?_
  simp only [Act.put, List.setIfInBounds_toArray, List.set_cons_zero, List.set_cons_succ]
  refine wpAnyH_take (i := 20) (oi := { dst := some 27, op := Op.load 5 (Operand.tmp 26), type := 5, pos := "store.go:36", after := #[{ on := 19, ground := Ground.data }, { on := 12, ground := Ground.guard }], guard := some (12, false) }) (v := undef) rfl (by kernel_rfl) (by kernel_rfl) (by kernel_rfl) (fun _ _ _ h => h) (Or.inr ⟨by rfl, rfl⟩) (by assumption) ?_
  simp only [Act.put, List.setIfInBounds_toArray, List.set_cons_zero, List.set_cons_succ]
  refine wpAnyH_take (i := 21) (oi := { dst := some 28, op := Op.indexAddr 35 (Operand.tmp 25) (Operand.tmp 27), type := 0, pos := "store.go:36", after := #[{ on := 18, ground := Ground.data }, { on := 20, ground := Ground.data }, { on := 12, ground := Ground.guard }], guard := some (12, false) }) (v := undef) rfl (by kernel_rfl) (by kernel_rfl) (by kernel_rfl) (fun _ _ _ h => h) (Or.inr ⟨by rfl, rfl⟩) (by assumption) ?_
  simp only [Act.put, List.setIfInBounds_toArray, List.set_cons_zero, List.set_cons_succ]
  refine wpAnyH_take (i := 22) (oi := { dst := some 29, op := Op.load 27 (Operand.tmp 28), type := 27, pos := "store.go:36", after := #[{ on := 21, ground := Ground.data }, { on := 12, ground := Ground.guard }], guard := some (12, false) }) (v := undef) rfl (by kernel_rfl) (by kernel_rfl) (by kernel_rfl) (fun _ _ _ h => h) (Or.inr ⟨by rfl, rfl⟩) (by assumption) ?_
  simp only [Act.put, List.setIfInBounds_toArray, List.set_cons_zero, List.set_cons_succ]
  refine wpAnyH_take (i := 23) (oi := { dst := some 30, op := Op.binOp BinOp.leq 27 (Operand.tmp 21) (Operand.tmp 29) 27, type := 4, pos := "store.go:36", after := #[{ on := 14, ground := Ground.data }, { on := 22, ground := Ground.data }, { on := 12, ground := Ground.guard }], guard := some (12, false) }) (v := undef) rfl (by kernel_rfl) (by kernel_rfl) (by kernel_rfl) (fun _ _ _ h => h) (Or.inr ⟨by rfl, rfl⟩) (by assumption) ?_
  simp only [Act.put, List.setIfInBounds_toArray, List.set_cons_zero, List.set_cons_succ]
  refine wpAnyH_take (i := 24) (oi := { dst := some 31, op := Op.pick (Operand.tmp 19) (Operand.const (Value.bool true)) (Operand.tmp 30), type := 4, pos := "store.go:36", after := #[{ on := 12, ground := Ground.data }, { on := 23, ground := Ground.data }], guard := none }) (v := ?_) rfl (by kernel_rfl) (by kernel_rfl) (by kernel_rfl) (fun _ _ _ h => h) (Or.inl ⟨by rfl, ?_⟩) (by assumption) ?_
  rotate_left
  · (intro w hSw; (try dsimp only at hSw); go_simp; try with_reducible rfl)
  simp only [Act.put, List.setIfInBounds_toArray, List.set_cons_zero, List.set_cons_succ]
  refine wpAnyH_take (i := 25) (oi := { dst := some 32, op := Op.move (Operand.tmp 31), type := 4, pos := "store.go:36", after := #[{ on := 24, ground := Ground.data }, { on := 12, ground := Ground.chain }], guard := none }) (v := ?_) rfl (by kernel_rfl) (by kernel_rfl) (by kernel_rfl) (fun _ _ _ h => h) (Or.inl ⟨by rfl, ?_⟩) (by assumption) ?_
  rotate_left
  · (intro w hSw; (try dsimp only at hSw); go_simp; try with_reducible rfl)
  simp only [Act.put, List.setIfInBounds_toArray, List.set_cons_zero, List.set_cons_succ]
  refine wpAnyH_take (i := 26) (oi := { dst := some 33, op := Op.move (Operand.tmp 0), type := 24, pos := "store.go:36", after := #[{ on := 25, ground := Ground.guard }], guard := some (25, false) }) (v := undef) rfl (by kernel_rfl) (by kernel_rfl) (by kernel_rfl) (fun _ _ _ h => h) (Or.inr ⟨by rfl, rfl⟩) (by assumption) ?_
  simp only [Act.put, List.setIfInBounds_toArray, List.set_cons_zero, List.set_cons_succ]
  refine wpAnyH_take (i := 27) (oi := { dst := some 34, op := Op.load 29 (Operand.tmp 4), type := 29, pos := "store.go:36", after := #[{ on := 25, ground := Ground.guard }], guard := some (25, false) }) (v := undef) rfl (by kernel_rfl) (by kernel_rfl) (by kernel_rfl) (fun _ _ _ h => h) (Or.inr ⟨by rfl, rfl⟩) (by assumption) ?_
  simp only [Act.put, List.setIfInBounds_toArray, List.set_cons_zero, List.set_cons_succ]
  refine wpAnyH_take (i := 28) (oi := { dst := some 35, op := Op.buildSlice 22 1 #[(0, Operand.tmp 34)], type := 22, pos := "store.go:36", after := #[{ on := 27, ground := Ground.data }, { on := 25, ground := Ground.guard }], guard := some (25, false) }) (v := undef) rfl (by kernel_rfl) (by kernel_rfl) (by kernel_rfl) (fun _ _ _ h => h) (Or.inr ⟨by rfl, rfl⟩) (by assumption) ?_
  simp only [Act.put, List.setIfInBounds_toArray, List.set_cons_zero, List.set_cons_succ]
  refine wpAnyH_take (i := 29) (oi := { dst := some 36, op := Op.call { callee := Callee.value (Operand.func 12), args := #[Operand.tmp 33, Operand.tmp 35], argTypes := #[24, 22] }, type := 4, pos := "store.go:36", after := #[{ on := 26, ground := Ground.data }, { on := 28, ground := Ground.data }, { on := 25, ground := Ground.chain }, { on := 25, ground := Ground.guard }], guard := some (25, false) }) (v := undef) rfl (by kernel_rfl) (by kernel_rfl) (by kernel_rfl) (fun _ _ _ h => h) (Or.inr ⟨by rfl, rfl⟩) (by assumption) ?_
  simp only [Act.put, List.setIfInBounds_toArray, List.set_cons_zero, List.set_cons_succ]
  refine wpAnyH_take (i := 30) (oi := { dst := some 37, op := Op.pick (Operand.tmp 32) (Operand.const (Value.bool true)) (Operand.tmp 36), type := 4, pos := "store.go:36", after := #[{ on := 25, ground := Ground.data }, { on := 29, ground := Ground.data }], guard := none }) (v := ?_) rfl (by kernel_rfl) (by kernel_rfl) (by kernel_rfl) (fun _ _ _ h => h) (Or.inl ⟨by rfl, ?_⟩) (by assumption) ?_
  rotate_left
  · (intro w hSw; (try dsimp only at hSw); go_simp; try with_reducible rfl)
  simp only [Act.put, List.setIfInBounds_toArray, List.set_cons_zero, List.set_cons_succ]
  refine wpAnyH_take (i := 31) (oi := { dst := some 38, op := Op.move (Operand.tmp 37), type := 4, pos := "store.go:36", after := #[{ on := 30, ground := Ground.data }, { on := 29, ground := Ground.chain }], guard := none }) (v := ?_) rfl (by kernel_rfl) (by kernel_rfl) (by kernel_rfl) (fun _ _ _ h => h) (Or.inl ⟨by rfl, ?_⟩) (by assumption) ?_
  rotate_left
  · (intro w hSw; (try dsimp only at hSw); go_simp; try with_reducible rfl)
  simp only [Act.put, List.setIfInBounds_toArray, List.set_cons_zero, List.set_cons_succ]
  refine wpAnyH_take (i := 32) (oi := { dst := some 39, op := Op.move (Operand.tmp 2), type := 30, pos := "store.go:36", after := #[{ on := 31, ground := Ground.guard }], guard := some (31, false) }) (v := undef) rfl (by kernel_rfl) (by kernel_rfl) (by kernel_rfl) (fun _ _ _ h => h) (Or.inr ⟨by rfl, rfl⟩) (by assumption) ?_
  simp only [Act.put, List.setIfInBounds_toArray, List.set_cons_zero, List.set_cons_succ]
  refine wpAnyH_take (i := 33) (oi := { dst := some 40, op := Op.call { callee := Callee.builtin Builtin.len, args := #[Operand.tmp 39], argTypes := #[30] }, type := 3, pos := "store.go:36", after := #[{ on := 32, ground := Ground.data }, { on := 31, ground := Ground.guard }], guard := some (31, false) }) (v := undef) rfl (by kernel_rfl) (by kernel_rfl) (by kernel_rfl) (fun _ _ _ h => h) (Or.inr ⟨by rfl, rfl⟩) (by assumption) ?_
  simp only [Act.put, List.setIfInBounds_toArray, List.set_cons_zero, List.set_cons_succ]
  refine wpAnyH_take (i := 34) (oi := { dst := some 41, op := Op.move (Operand.tmp 0), type := 24, pos := "store.go:36", after := #[{ on := 31, ground := Ground.guard }], guard := some (31, false) }) (v := undef) rfl (by kernel_rfl) (by kernel_rfl) (by kernel_rfl) (fun _ _ _ h => h) (Or.inr ⟨by rfl, rfl⟩) (by assumption) ?_
  simp only [Act.put, List.setIfInBounds_toArray, List.set_cons_zero, List.set_cons_succ]
  refine wpAnyH_take (i := 35) (oi := { dst := some 42, op := Op.nilCheck (Operand.tmp 41), type := 0, pos := "store.go:36", after := #[{ on := 34, ground := Ground.data }, { on := 31, ground := Ground.guard }], guard := some (31, false) }) (v := undef) rfl (by kernel_rfl) (by kernel_rfl) (by kernel_rfl) (fun _ _ _ h => h) (Or.inr ⟨by rfl, rfl⟩) (by assumption) ?_
  simp only [Act.put, List.setIfInBounds_toArray, List.set_cons_zero, List.set_cons_succ]
  refine wpAnyH_take (i := 36) (oi := { dst := some 43, op := Op.fieldAddr 56 (Operand.tmp 42) 0, type := 0, pos := "store.go:36", after := #[{ on := 35, ground := Ground.data }, { on := 31, ground := Ground.guard }], guard := some (31, false) }) (v := undef) rfl (by kernel_rfl) (by kernel_rfl) (by kernel_rfl) (fun _ _ _ h => h) (Or.inr ⟨by rfl, rfl⟩) (by assumption) ?_
  simp only [Act.put, List.setIfInBounds_toArray, List.set_cons_zero, List.set_cons_succ]
  refine wpAnyH_take (i := 37) (oi := { dst := some 44, op := Op.load 3 (Operand.tmp 43), type := 3, pos := "store.go:36", after := #[{ on := 36, ground := Ground.data }, { on := 31, ground := Ground.guard }], guard := some (31, false) }) (v := undef) rfl (by kernel_rfl) (by kernel_rfl) (by kernel_rfl) (fun _ _ _ h => h) (Or.inr ⟨by rfl, rfl⟩) (by assumption) ?_
  simp only [Act.put, List.setIfInBounds_toArray, List.set_cons_zero, List.set_cons_succ]
  refine wpAnyH_take (i := 38) (oi := { dst := some 45, op := Op.move (Operand.tmp 0), type := 24, pos := "store.go:36", after := #[{ on := 31, ground := Ground.guard }], guard := some (31, false) }) (v := undef) rfl (by kernel_rfl) (by kernel_rfl) (by kernel_rfl) (fun _ _ _ h => h) (Or.inr ⟨by rfl, rfl⟩) (by assumption) ?_
  simp only [Act.put, List.setIfInBounds_toArray, List.set_cons_zero, List.set_cons_succ]
  refine wpAnyH_take (i := 39) (oi := { dst := some 46, op := Op.nilCheck (Operand.tmp 45), type := 0, pos := "store.go:36", after := #[{ on := 38, ground := Ground.data }, { on := 31, ground := Ground.guard }], guard := some (31, false) }) (v := undef) rfl (by kernel_rfl) (by kernel_rfl) (by kernel_rfl) (fun _ _ _ h => h) (Or.inr ⟨by rfl, rfl⟩) (by assumption) ?_
  simp only [Act.put, List.setIfInBounds_toArray, List.set_cons_zero, List.set_cons_succ]
  refine wpAnyH_take (i := 40) (oi := { dst := some 47, op := Op.fieldAddr 56 (Operand.tmp 46) 1, type := 0, pos := "store.go:36", after := #[{ on := 39, ground := Ground.data }, { on := 31, ground := Ground.guard }], guard := some (31, false) }) (v := undef) rfl (by kernel_rfl) (by kernel_rfl) (by kernel_rfl) (fun _ _ _ h => h) (Or.inr ⟨by rfl, rfl⟩) (by assumption) ?_
  simp only [Act.put, List.setIfInBounds_toArray, List.set_cons_zero, List.set_cons_succ]
  refine wpAnyH_take (i := 41) (oi := { dst := some 48, op := Op.load 3 (Operand.tmp 47), type := 3, pos := "store.go:36", after := #[{ on := 40, ground := Ground.data }, { on := 31, ground := Ground.guard }], guard := some (31, false) }) (v := undef) rfl (by kernel_rfl) (by kernel_rfl) (by kernel_rfl) (fun _ _ _ h => h) (Or.inr ⟨by rfl, rfl⟩) (by assumption) ?_
  simp only [Act.put, List.setIfInBounds_toArray, List.set_cons_zero, List.set_cons_succ]
  refine wpAnyH_take (i := 42) (oi := { dst := some 49, op := Op.binOp BinOp.sub 3 (Operand.tmp 44) (Operand.tmp 48) 3, type := 3, pos := "store.go:36", after := #[{ on := 37, ground := Ground.data }, { on := 41, ground := Ground.data }, { on := 31, ground := Ground.guard }], guard := some (31, false) }) (v := undef) rfl (by kernel_rfl) (by kernel_rfl) (by kernel_rfl) (fun _ _ _ h => h) (Or.inr ⟨by rfl, rfl⟩) (by assumption) ?_
  simp only [Act.put, List.setIfInBounds_toArray, List.set_cons_zero, List.set_cons_succ]
  refine wpAnyH_take (i := 43) (oi := { dst := some 50, op := Op.binOp BinOp.gtr 3 (Operand.tmp 40) (Operand.tmp 49) 3, type := 4, pos := "store.go:36", after := #[{ on := 33, ground := Ground.data }, { on := 42, ground := Ground.data }, { on := 31, ground := Ground.guard }], guard := some (31, false) }) (v := undef) rfl (by kernel_rfl) (by kernel_rfl) (by kernel_rfl) (fun _ _ _ h => h) (Or.inr ⟨by rfl, rfl⟩) (by assumption) ?_
  simp only [Act.put, List.setIfInBounds_toArray, List.set_cons_zero, List.set_cons_succ]
  refine wpAnyH_take (i := 44) (oi := { dst := some 51, op := Op.pick (Operand.tmp 38) (Operand.const (Value.bool true)) (Operand.tmp 50), type := 4, pos := "store.go:36", after := #[{ on := 31, ground := Ground.data }, { on := 43, ground := Ground.data }], guard := none }) (v := ?_) rfl (by kernel_rfl) (by kernel_rfl) (by kernel_rfl) (fun _ _ _ h => h) (Or.inl ⟨by rfl, ?_⟩) (by assumption) ?_
  rotate_left
  · (intro w hSw; (try dsimp only at hSw); go_simp; try with_reducible rfl)
  simp only [Act.put, List.setIfInBounds_toArray, List.set_cons_zero, List.set_cons_succ]
  refine wpAnyH_done (by kernel_rfl) ?_ _
  go_wp2_with fail
  go_ret
  exact ⟨rfl, B1.out⟩
section
variable {w : World} {S : Nat → Prop} {g mb fb hb n : Nat} {room : Int} {E : Es} {F H : List Int}
set_option maxHeartbeats 8000000 in
set_option maxRecDepth 100000 in
theorem Put_calls (h : St w S g mb fb hb n room E F H) (ht : Tops E F H) (q : Nat) (s : Int) (hq : q ≤ 255) (hs : 0 ≤ s ∧ s ≤ 18446744073709551615) {A : Option Addr} {c : Nat} (p : List Int) (hp : (Kd.int .u8).C w A p.length p) (hc : p.length ≤ c) (hpl : p.length ≤ 1000000) :
    Calls Try.prog 10 #[.pointer (some ⟨g, 0, none⟩), .agg #[.int .u8 (q : Int), .int .u64 s], .slice A p.length c] w fun e w' => e = .returned (.bool (fits n room E F ((q : Int), s) p)) ∧ ∃ v H',
      St w' (fun k => S k ∨ w.heap.size ≤ k) g mb fb hb n room (putE (fits n room E F ((q : Int), s) p) E ((q : Int), s) v p) F H' ∧ Tops (putE (fits n room E F ((q : Int), s) p) E ((q : Int), s) v p) F H' ∧ Beside S w w' := by
  have hu := Try.underlying29
  have HS := Aside0.mk h
  have HT := Aside0.mk ht
  have HP := Aside0.mk hp
  have IDR : Aside0 (idr ((q : Int), s)) := ⟨⟨by show (0 : Int) ≤ q; omega, by show (q : Int) ≤ 255; omega⟩, hs⟩
  have hn2 := h.n2
  have hus := h.us
  have hr0 := h.r0
  have BX := Aside0.mk (blk_new w (.cells #[.int .u8 (q : Int), .int .u64 s] tID))
  have B1 := Aside0.mk (below_alloc (Below.refl w.heap.size w) (.cells #[.int .u8 (q : Int), .int .u64 s] tID))
  have MAY0 := mayD_f (n := n) (s := s) hn2 hq
  clear h ht hp
  go_enter Try.func10, Try.ntmps10
  go_upto_region 1 with (fail)
  generalize w.alloc (.cells #[.int .u8 (q : Int), .int .u64 s] tID) = w1 at BX B1 ⊢
  have hbu : w.heap.size ≤ w.heap.size := Nat.le_refl _
  obtain ⟨b, hb0⟩ : ∃ b, b = w.heap.size := ⟨_, rfl⟩
  have BE := Aside0.mk hb0
  rw [← hb0] at BX
  rw [← hb0]
  clear hb0 hbu
  have i0 : w1.cell? ⟨b, 0, none⟩ = some (.int .u8 (q : Int)) := (blk_cell BX.out 0).trans rfl
  have i1 : w1.cell? ⟨b, 1, none⟩ = some (.int .u64 s) := (blk_cell BX.out 1).trans rfl
  have g3 := (HS.out.below B1.out).c3
  have g0 := (HS.out.below B1.out).c0
  have g1 := (HS.out.below B1.out).c1
  cases hm : mayD n ((q : Int), s) with
  | false =>
    have MAY : Aside0 (ident_May.f (q : Int) s (n : Int) = some false) := ⟨by rw [MAY0, hm]⟩
    have FITS : Aside0 (fits n room E F ((q : Int), s) p = false) := ⟨by unfold fits; rw [hm]; rfl⟩
    clear hm MAY0 g0 g1
    refine wp_region_held_drew (S := fun w' => w'.cell? ⟨b, 0, none⟩ = some (.int .u8 (q : Int)) ∧ w'.cell? ⟨b, 1, none⟩ = some (.int .u64 s) ∧ w'.cell? ⟨g, 3, none⟩ = some (.slice (some ⟨fb, 0, none⟩) n n)) (by kernel_rfl) (by go_keep) (fun hHeld => ?_)
    refine wpAnyH_take (i := 0) (oi := { dst := some 7, op := Op.move (Operand.tmp 0), type := 24, pos := "store.go:36", after := #[], guard := none }) (v := ?_) rfl (by kernel_rfl) (by kernel_rfl) (by kernel_rfl) (fun _ _ _ h => h) (Or.inl ⟨by rfl, ?_⟩) (by assumption) ?_
    rotate_left
    · (intro w hSw; (try dsimp only at hSw); go_simp; try with_reducible rfl)
    simp only [Act.put, List.setIfInBounds_toArray, List.set_cons_zero, List.set_cons_succ]
    refine wpAnyH_take (i := 1) (oi := { dst := some 8, op := Op.binOp BinOp.eql 24 (Operand.tmp 7) (Operand.const (Value.pointer none)) 24, type := 4, pos := "store.go:36", after := #[{ on := 0, ground := Ground.data }], guard := none }) (v := ?_) rfl (by kernel_rfl) (by kernel_rfl) (by kernel_rfl) (fun _ _ _ h => h) (Or.inl ⟨by rfl, ?_⟩) (by assumption) ?_
    rotate_left
    · (intro w hSw; (try dsimp only at hSw); go_simp; try with_reducible rfl)
    simp only [Act.put, List.setIfInBounds_toArray, List.set_cons_zero, List.set_cons_succ]
    refine wpAnyH_take (i := 2) (oi := { dst := some 9, op := Op.move (Operand.tmp 8), type := 4, pos := "store.go:36", after := #[{ on := 1, ground := Ground.data }], guard := none }) (v := ?_) rfl (by kernel_rfl) (by kernel_rfl) (by kernel_rfl) (fun _ _ _ h => h) (Or.inl ⟨by rfl, ?_⟩) (by assumption) ?_
    rotate_left
    · (intro w hSw; (try dsimp only at hSw); go_simp; try with_reducible rfl)
    simp only [Act.put, List.setIfInBounds_toArray, List.set_cons_zero, List.set_cons_succ]
    refine wpAnyH_take (i := 3) (oi := { dst := some 10, op := Op.load 29 (Operand.tmp 4), type := 29, pos := "store.go:36", after := #[{ on := 2, ground := Ground.guard }], guard := some (2, false) }) (v := ?_) rfl (by kernel_rfl) (by kernel_rfl) (by kernel_rfl) (fun _ _ _ h => h) (Or.inl ⟨by rfl, ?_⟩) (by assumption) ?_
    rotate_left
    · (intro w hSw; (try dsimp only at hSw); go_simp; try with_reducible rfl)
    simp only [Act.put, List.setIfInBounds_toArray, List.set_cons_zero, List.set_cons_succ]
    refine wpAnyH_take (i := 4) (oi := { dst := some 11, op := Op.move (Operand.tmp 0), type := 24, pos := "store.go:36", after := #[{ on := 2, ground := Ground.guard }], guard := some (2, false) }) (v := ?_) rfl (by kernel_rfl) (by kernel_rfl) (by kernel_rfl) (fun _ _ _ h => h) (Or.inl ⟨by rfl, ?_⟩) (by assumption) ?_
    rotate_left
    · (intro w hSw; (try dsimp only at hSw); go_simp; try with_reducible rfl)
    simp only [Act.put, List.setIfInBounds_toArray, List.set_cons_zero, List.set_cons_succ]
    refine wpAnyH_take (i := 5) (oi := { dst := some 12, op := Op.nilCheck (Operand.tmp 11), type := 0, pos := "store.go:36", after := #[{ on := 4, ground := Ground.data }, { on := 2, ground := Ground.guard }], guard := some (2, false) }) (v := ?_) rfl (by kernel_rfl) (by kernel_rfl) (by kernel_rfl) (fun _ _ _ h => h) (Or.inl ⟨by rfl, ?_⟩) (by assumption) ?_
    rotate_left
    · (intro w hSw; (try dsimp only at hSw); go_simp; try with_reducible rfl)
    simp only [Act.put, List.setIfInBounds_toArray, List.set_cons_zero, List.set_cons_succ]
    refine wpAnyH_take (i := 6) (oi := { dst := some 13, op := Op.fieldAddr 56 (Operand.tmp 12) 3, type := 0, pos := "store.go:36", after := #[{ on := 5, ground := Ground.data }, { on := 2, ground := Ground.guard }], guard := some (2, false) }) (v := ?_) rfl (by kernel_rfl) (by kernel_rfl) (by kernel_rfl) (fun _ _ _ h => h) (Or.inl ⟨by rfl, ?_⟩) (by assumption) ?_
    rotate_left
    · (intro w hSw; (try dsimp only at hSw); go_simp; try with_reducible rfl)
    simp only [Act.put, List.setIfInBounds_toArray, List.set_cons_zero, List.set_cons_succ]
    refine wpAnyH_take (i := 7) (oi := { dst := some 14, op := Op.load 35 (Operand.tmp 13), type := 35, pos := "store.go:36", after := #[{ on := 6, ground := Ground.data }, { on := 2, ground := Ground.guard }], guard := some (2, false) }) (v := ?_) rfl (by kernel_rfl) (by kernel_rfl) (by kernel_rfl) (fun _ _ _ h => h) (Or.inl ⟨by rfl, ?_⟩) (by assumption) ?_
    rotate_left
    · (intro w hSw; (try dsimp only at hSw); go_simp; try with_reducible rfl)
    simp only [Act.put, List.setIfInBounds_toArray, List.set_cons_zero, List.set_cons_succ]
    refine wpAnyH_take (i := 8) (oi := { dst := some 15, op := Op.call { callee := Callee.builtin Builtin.len, args := #[Operand.tmp 14], argTypes := #[35] }, type := 3, pos := "store.go:36", after := #[{ on := 7, ground := Ground.data }, { on := 2, ground := Ground.guard }], guard := some (2, false) }) (v := ?_) rfl (by kernel_rfl) (by kernel_rfl) (by kernel_rfl) (fun _ _ _ h => h) (Or.inl ⟨by rfl, ?_⟩) (by assumption) ?_
    rotate_left
    · (intro w hSw; (try dsimp only at hSw); go_simp; try with_reducible rfl)
    simp only [Act.put, List.setIfInBounds_toArray, List.set_cons_zero, List.set_cons_succ]
    refine wpAnyH_ready (rs := [9]) (by kernel_rfl) (by simp) ?_
    refine AllReadyH.cons (o := { dst := some 16, op := Op.call { callee := Callee.value (Operand.func 26), args := #[Operand.tmp 10, Operand.tmp 15], argTypes := #[29, 3] }, type := 4, pos := "store.go:36", after := #[{ on := 3, ground := Ground.data }, { on := 8, ground := Ground.data }, { on := 2, ground := Ground.chain }, { on := 2, ground := Ground.guard }], guard := some (2, false) }) rfl (fun K hK => ?_) AllReadyH.nil
    go_simp
    go_at_call 26
    refine (ident_May.calls (q : Int) s (n : Int) false _ MAY.out).mono ?_
    rintro e wa ⟨rfl, hb0⟩
    have BA := Aside0.mk (below_step (below_drew (Below.refl w1.heap.size w1)) hb0)
    clear hb0
    have ai0 := pw_cell_below BA.out i0
    have ai1 := pw_cell_below BA.out i1
    have ag3 := pw_cell_below BA.out g3
    try go_wp2_with fail
    refine hK.out _ _ ⟨ai0, ai1, ag3⟩ (fun hHeld => ?_)
    clear hK K
    try simp only [Act.put, List.setIfInBounds_toArray, List.set_cons_zero, List.set_cons_succ]
    refine wpAnyH_take (i := 10) (oi := { dst := some 17, op := Op.unOp UnOp.not 4 (Operand.tmp 16), type := 4, pos := "store.go:36", after := #[{ on := 9, ground := Ground.data }, { on := 2, ground := Ground.guard }], guard := some (2, false) }) (v := ?_) rfl (by kernel_rfl) (by kernel_rfl) (by kernel_rfl) (fun _ _ _ h => h) (Or.inl ⟨by rfl, ?_⟩) (by assumption) ?_
    rotate_left
    · (intro w hSw; (try dsimp only at hSw); go_simp; try with_reducible rfl)
    simp only [Act.put, List.setIfInBounds_toArray, List.set_cons_zero, List.set_cons_succ]
    refine wpAnyH_take (i := 11) (oi := { dst := some 18, op := Op.pick (Operand.tmp 9) (Operand.const (Value.bool true)) (Operand.tmp 17), type := 4, pos := "store.go:36", after := #[{ on := 2, ground := Ground.data }, { on := 10, ground := Ground.data }], guard := none }) (v := ?_) rfl (by kernel_rfl) (by kernel_rfl) (by kernel_rfl) (fun _ _ _ h => h) (Or.inl ⟨by rfl, ?_⟩) (by assumption) ?_
    rotate_left
    · (intro w hSw; (try dsimp only at hSw); go_simp; try with_reducible rfl)
    simp only [Act.put, List.setIfInBounds_toArray, List.set_cons_zero, List.set_cons_succ]
    refine wpAnyH_take (i := 12) (oi := { dst := some 19, op := Op.move (Operand.tmp 18), type := 4, pos := "store.go:36", after := #[{ on := 11, ground := Ground.data }, { on := 9, ground := Ground.chain }], guard := none }) (v := ?_) rfl (by kernel_rfl) (by kernel_rfl) (by kernel_rfl) (fun _ _ _ h => h) (Or.inl ⟨by rfl, ?_⟩) (by assumption) ?_
    rotate_left
    · (intro w hSw; (try dsimp only at hSw); go_simp; try with_reducible rfl)
    simp only [Act.put, List.setIfInBounds_toArray, List.set_cons_zero, List.set_cons_succ]
    refine wpAnyH_take (i := 13) (oi := { dst := some 20, op := Op.fieldAddr 29 (Operand.tmp 4) 1, type := 0, pos := "store.go:36", after := #[{ on := 12, ground := Ground.guard }], guard := some (12, false) }) (v := undef) rfl (by kernel_rfl) (by kernel_rfl) (by kernel_rfl) (fun _ _ _ h => h) (Or.inr ⟨by rfl, rfl⟩) (by assumption) ?_
    simp only [Act.put, List.setIfInBounds_toArray, List.set_cons_zero, List.set_cons_succ]
    refine wpAnyH_take (i := 14) (oi := { dst := some 21, op := Op.load 27 (Operand.tmp 20), type := 27, pos := "store.go:36", after := #[{ on := 13, ground := Ground.data }, { on := 12, ground := Ground.guard }], guard := some (12, false) }) (v := undef) rfl (by kernel_rfl) (by kernel_rfl) (by kernel_rfl) (fun _ _ _ h => h) (Or.inr ⟨by rfl, rfl⟩) (by assumption) ?_
    simp only [Act.put, List.setIfInBounds_toArray, List.set_cons_zero, List.set_cons_succ]
    refine wpAnyH_take (i := 15) (oi := { dst := some 22, op := Op.move (Operand.tmp 0), type := 24, pos := "store.go:36", after := #[{ on := 12, ground := Ground.guard }], guard := some (12, false) }) (v := undef) rfl (by kernel_rfl) (by kernel_rfl) (by kernel_rfl) (fun _ _ _ h => h) (Or.inr ⟨by rfl, rfl⟩) (by assumption) ?_
    simp only [Act.put, List.setIfInBounds_toArray, List.set_cons_zero, List.set_cons_succ]
    refine wpAnyH_take (i := 16) (oi := { dst := some 23, op := Op.nilCheck (Operand.tmp 22), type := 0, pos := "store.go:36", after := #[{ on := 15, ground := Ground.data }, { on := 12, ground := Ground.guard }], guard := some (12, false) }) (v := undef) rfl (by kernel_rfl) (by kernel_rfl) (by kernel_rfl) (fun _ _ _ h => h) (Or.inr ⟨by rfl, rfl⟩) (by assumption) ?_
    simp only [Act.put, List.setIfInBounds_toArray, List.set_cons_zero, List.set_cons_succ]
    refine wpAnyH_take (i := 17) (oi := { dst := some 24, op := Op.fieldAddr 56 (Operand.tmp 23) 3, type := 0, pos := "store.go:36", after := #[{ on := 16, ground := Ground.data }, { on := 12, ground := Ground.guard }], guard := some (12, false) }) (v := undef) rfl (by kernel_rfl) (by kernel_rfl) (by kernel_rfl) (fun _ _ _ h => h) (Or.inr ⟨by rfl, rfl⟩) (by assumption) ?_
    simp only [Act.put, List.setIfInBounds_toArray, List.set_cons_zero, List.set_cons_succ]
    refine wpAnyH_take (i := 18) (oi := { dst := some 25, op := Op.load 35 (Operand.tmp 24), type := 35, pos := "store.go:36", after := #[{ on := 17, ground := Ground.data }, { on := 12, ground := Ground.guard }], guard := some (12, false) }) (v := undef) rfl (by kernel_rfl) (by kernel_rfl) (by kernel_rfl) (fun _ _ _ h => h) (Or.inr ⟨by rfl, rfl⟩) (by assumption) ?_
    simp only [Act.put, List.setIfInBounds_toArray, List.set_cons_zero, List.set_cons_succ]
    refine wpAnyH_take (i := 19) (oi := { dst := some 26, op := Op.fieldAddr 29 (Operand.tmp 4) 0, type := 0, pos := "store.go:36", after := #[{ on := 12, ground := Ground.guard }], guard := some (12, false) }) (v := undef) rfl (by kernel_rfl) (by kernel_rfl) (by kernel_rfl) (fun _ _ _ h => h) (Or.inr ⟨by rfl, rfl⟩) (by assumption) ?_
    simp only [Act.put, List.setIfInBounds_toArray, List.set_cons_zero, List.set_cons_succ]
    refine wpAnyH_take (i := 20) (oi := { dst := some 27, op := Op.load 5 (Operand.tmp 26), type := 5, pos := "store.go:36", after := #[{ on := 19, ground := Ground.data }, { on := 12, ground := Ground.guard }], guard := some (12, false) }) (v := undef) rfl (by kernel_rfl) (by kernel_rfl) (by kernel_rfl) (fun _ _ _ h => h) (Or.inr ⟨by rfl, rfl⟩) (by assumption) ?_
    simp only [Act.put, List.setIfInBounds_toArray, List.set_cons_zero, List.set_cons_succ]
    refine wpAnyH_take (i := 21) (oi := { dst := some 28, op := Op.indexAddr 35 (Operand.tmp 25) (Operand.tmp 27), type := 0, pos := "store.go:36", after := #[{ on := 18, ground := Ground.data }, { on := 20, ground := Ground.data }, { on := 12, ground := Ground.guard }], guard := some (12, false) }) (v := undef) rfl (by kernel_rfl) (by kernel_rfl) (by kernel_rfl) (fun _ _ _ h => h) (Or.inr ⟨by rfl, rfl⟩) (by assumption) ?_
    simp only [Act.put, List.setIfInBounds_toArray, List.set_cons_zero, List.set_cons_succ]
    refine wpAnyH_take (i := 22) (oi := { dst := some 29, op := Op.load 27 (Operand.tmp 28), type := 27, pos := "store.go:36", after := #[{ on := 21, ground := Ground.data }, { on := 12, ground := Ground.guard }], guard := some (12, false) }) (v := undef) rfl (by kernel_rfl) (by kernel_rfl) (by kernel_rfl) (fun _ _ _ h => h) (Or.inr ⟨by rfl, rfl⟩) (by assumption) ?_
    simp only [Act.put, List.setIfInBounds_toArray, List.set_cons_zero, List.set_cons_succ]
    refine wpAnyH_take (i := 23) (oi := { dst := some 30, op := Op.binOp BinOp.leq 27 (Operand.tmp 21) (Operand.tmp 29) 27, type := 4, pos := "store.go:36", after := #[{ on := 14, ground := Ground.data }, { on := 22, ground := Ground.data }, { on := 12, ground := Ground.guard }], guard := some (12, false) }) (v := undef) rfl (by kernel_rfl) (by kernel_rfl) (by kernel_rfl) (fun _ _ _ h => h) (Or.inr ⟨by rfl, rfl⟩) (by assumption) ?_
    simp only [Act.put, List.setIfInBounds_toArray, List.set_cons_zero, List.set_cons_succ]
    refine wpAnyH_take (i := 24) (oi := { dst := some 31, op := Op.pick (Operand.tmp 19) (Operand.const (Value.bool true)) (Operand.tmp 30), type := 4, pos := "store.go:36", after := #[{ on := 12, ground := Ground.data }, { on := 23, ground := Ground.data }], guard := none }) (v := ?_) rfl (by kernel_rfl) (by kernel_rfl) (by kernel_rfl) (fun _ _ _ h => h) (Or.inl ⟨by rfl, ?_⟩) (by assumption) ?_
    rotate_left
    · (intro w hSw; (try dsimp only at hSw); go_simp; try with_reducible rfl)
    simp only [Act.put, List.setIfInBounds_toArray, List.set_cons_zero, List.set_cons_succ]
    refine wpAnyH_take (i := 25) (oi := { dst := some 32, op := Op.move (Operand.tmp 31), type := 4, pos := "store.go:36", after := #[{ on := 24, ground := Ground.data }, { on := 12, ground := Ground.chain }], guard := none }) (v := ?_) rfl (by kernel_rfl) (by kernel_rfl) (by kernel_rfl) (fun _ _ _ h => h) (Or.inl ⟨by rfl, ?_⟩) (by assumption) ?_
    rotate_left
    · (intro w hSw; (try dsimp only at hSw); go_simp; try with_reducible rfl)
    simp only [Act.put, List.setIfInBounds_toArray, List.set_cons_zero, List.set_cons_succ]
    refine wpAnyH_take (i := 26) (oi := { dst := some 33, op := Op.move (Operand.tmp 0), type := 24, pos := "store.go:36", after := #[{ on := 25, ground := Ground.guard }], guard := some (25, false) }) (v := undef) rfl (by kernel_rfl) (by kernel_rfl) (by kernel_rfl) (fun _ _ _ h => h) (Or.inr ⟨by rfl, rfl⟩) (by assumption) ?_
    simp only [Act.put, List.setIfInBounds_toArray, List.set_cons_zero, List.set_cons_succ]
    refine wpAnyH_take (i := 27) (oi := { dst := some 34, op := Op.load 29 (Operand.tmp 4), type := 29, pos := "store.go:36", after := #[{ on := 25, ground := Ground.guard }], guard := some (25, false) }) (v := undef) rfl (by kernel_rfl) (by kernel_rfl) (by kernel_rfl) (fun _ _ _ h => h) (Or.inr ⟨by rfl, rfl⟩) (by assumption) ?_
    simp only [Act.put, List.setIfInBounds_toArray, List.set_cons_zero, List.set_cons_succ]
    refine wpAnyH_take (i := 28) (oi := { dst := some 35, op := Op.buildSlice 22 1 #[(0, Operand.tmp 34)], type := 22, pos := "store.go:36", after := #[{ on := 27, ground := Ground.data }, { on := 25, ground := Ground.guard }], guard := some (25, false) }) (v := undef) rfl (by kernel_rfl) (by kernel_rfl) (by kernel_rfl) (fun _ _ _ h => h) (Or.inr ⟨by rfl, rfl⟩) (by assumption) ?_
    simp only [Act.put, List.setIfInBounds_toArray, List.set_cons_zero, List.set_cons_succ]
    refine wpAnyH_take (i := 29) (oi := { dst := some 36, op := Op.call { callee := Callee.value (Operand.func 12), args := #[Operand.tmp 33, Operand.tmp 35], argTypes := #[24, 22] }, type := 4, pos := "store.go:36", after := #[{ on := 26, ground := Ground.data }, { on := 28, ground := Ground.data }, { on := 25, ground := Ground.chain }, { on := 25, ground := Ground.guard }], guard := some (25, false) }) (v := undef) rfl (by kernel_rfl) (by kernel_rfl) (by kernel_rfl) (fun _ _ _ h => h) (Or.inr ⟨by rfl, rfl⟩) (by assumption) ?_
    simp only [Act.put, List.setIfInBounds_toArray, List.set_cons_zero, List.set_cons_succ]
    refine wpAnyH_take (i := 30) (oi := { dst := some 37, op := Op.pick (Operand.tmp 32) (Operand.const (Value.bool true)) (Operand.tmp 36), type := 4, pos := "store.go:36", after := #[{ on := 25, ground := Ground.data }, { on := 29, ground := Ground.data }], guard := none }) (v := ?_) rfl (by kernel_rfl) (by kernel_rfl) (by kernel_rfl) (fun _ _ _ h => h) (Or.inl ⟨by rfl, ?_⟩) (by assumption) ?_
    rotate_left
    · (intro w hSw; (try dsimp only at hSw); go_simp; try with_reducible rfl)
    simp only [Act.put, List.setIfInBounds_toArray, List.set_cons_zero, List.set_cons_succ]
    refine wpAnyH_take (i := 31) (oi := { dst := some 38, op := Op.move (Operand.tmp 37), type := 4, pos := "store.go:36", after := #[{ on := 30, ground := Ground.data }, { on := 29, ground := Ground.chain }], guard := none }) (v := ?_) rfl (by kernel_rfl) (by kernel_rfl) (by kernel_rfl) (fun _ _ _ h => h) (Or.inl ⟨by rfl, ?_⟩) (by assumption) ?_
    rotate_left
    · (intro w hSw; (try dsimp only at hSw); go_simp; try with_reducible rfl)
    simp only [Act.put, List.setIfInBounds_toArray, List.set_cons_zero, List.set_cons_succ]
    refine wpAnyH_take (i := 32) (oi := { dst := some 39, op := Op.move (Operand.tmp 2), type := 30, pos := "store.go:36", after := #[{ on := 31, ground := Ground.guard }], guard := some (31, false) }) (v := undef) rfl (by kernel_rfl) (by kernel_rfl) (by kernel_rfl) (fun _ _ _ h => h) (Or.inr ⟨by rfl, rfl⟩) (by assumption) ?_
    simp only [Act.put, List.setIfInBounds_toArray, List.set_cons_zero, List.set_cons_succ]
    refine wpAnyH_take (i := 33) (oi := { dst := some 40, op := Op.call { callee := Callee.builtin Builtin.len, args := #[Operand.tmp 39], argTypes := #[30] }, type := 3, pos := "store.go:36", after := #[{ on := 32, ground := Ground.data }, { on := 31, ground := Ground.guard }], guard := some (31, false) }) (v := undef) rfl (by kernel_rfl) (by kernel_rfl) (by kernel_rfl) (fun _ _ _ h => h) (Or.inr ⟨by rfl, rfl⟩) (by assumption) ?_
    simp only [Act.put, List.setIfInBounds_toArray, List.set_cons_zero, List.set_cons_succ]
    refine wpAnyH_take (i := 34) (oi := { dst := some 41, op := Op.move (Operand.tmp 0), type := 24, pos := "store.go:36", after := #[{ on := 31, ground := Ground.guard }], guard := some (31, false) }) (v := undef) rfl (by kernel_rfl) (by kernel_rfl) (by kernel_rfl) (fun _ _ _ h => h) (Or.inr ⟨by rfl, rfl⟩) (by assumption) ?_
    simp only [Act.put, List.setIfInBounds_toArray, List.set_cons_zero, List.set_cons_succ]
    refine wpAnyH_take (i := 35) (oi := { dst := some 42, op := Op.nilCheck (Operand.tmp 41), type := 0, pos := "store.go:36", after := #[{ on := 34, ground := Ground.data }, { on := 31, ground := Ground.guard }], guard := some (31, false) }) (v := undef) rfl (by kernel_rfl) (by kernel_rfl) (by kernel_rfl) (fun _ _ _ h => h) (Or.inr ⟨by rfl, rfl⟩) (by assumption) ?_
    simp only [Act.put, List.setIfInBounds_toArray, List.set_cons_zero, List.set_cons_succ]
    refine wpAnyH_take (i := 36) (oi := { dst := some 43, op := Op.fieldAddr 56 (Operand.tmp 42) 0, type := 0, pos := "store.go:36", after := #[{ on := 35, ground := Ground.data }, { on := 31, ground := Ground.guard }], guard := some (31, false) }) (v := undef) rfl (by kernel_rfl) (by kernel_rfl) (by kernel_rfl) (fun _ _ _ h => h) (Or.inr ⟨by rfl, rfl⟩) (by assumption) ?_
    simp only [Act.put, List.setIfInBounds_toArray, List.set_cons_zero, List.set_cons_succ]
    refine wpAnyH_take (i := 37) (oi := { dst := some 44, op := Op.load 3 (Operand.tmp 43), type := 3, pos := "store.go:36", after := #[{ on := 36, ground := Ground.data }, { on := 31, ground := Ground.guard }], guard := some (31, false) }) (v := undef) rfl (by kernel_rfl) (by kernel_rfl) (by kernel_rfl) (fun _ _ _ h => h) (Or.inr ⟨by rfl, rfl⟩) (by assumption) ?_
    simp only [Act.put, List.setIfInBounds_toArray, List.set_cons_zero, List.set_cons_succ]
    refine wpAnyH_take (i := 38) (oi := { dst := some 45, op := Op.move (Operand.tmp 0), type := 24, pos := "store.go:36", after := #[{ on := 31, ground := Ground.guard }], guard := some (31, false) }) (v := undef) rfl (by kernel_rfl) (by kernel_rfl) (by kernel_rfl) (fun _ _ _ h => h) (Or.inr ⟨by rfl, rfl⟩) (by assumption) ?_
    simp only [Act.put, List.setIfInBounds_toArray, List.set_cons_zero, List.set_cons_succ]
    refine wpAnyH_take (i := 39) (oi := { dst := some 46, op := Op.nilCheck (Operand.tmp 45), type := 0, pos := "store.go:36", after := #[{ on := 38, ground := Ground.data }, { on := 31, ground := Ground.guard }], guard := some (31, false) }) (v := undef) rfl (by kernel_rfl) (by kernel_rfl) (by kernel_rfl) (fun _ _ _ h => h) (Or.inr ⟨by rfl, rfl⟩) (by assumption) ?_
    simp only [Act.put, List.setIfInBounds_toArray, List.set_cons_zero, List.set_cons_succ]
    refine wpAnyH_take (i := 40) (oi := { dst := some 47, op := Op.fieldAddr 56 (Operand.tmp 46) 1, type := 0, pos := "store.go:36", after := #[{ on := 39, ground := Ground.data }, { on := 31, ground := Ground.guard }], guard := some (31, false) }) (v := undef) rfl (by kernel_rfl) (by kernel_rfl) (by kernel_rfl) (fun _ _ _ h => h) (Or.inr ⟨by rfl, rfl⟩) (by assumption) ?_
    simp only [Act.put, List.setIfInBounds_toArray, List.set_cons_zero, List.set_cons_succ]
    refine wpAnyH_take (i := 41) (oi := { dst := some 48, op := Op.load 3 (Operand.tmp 47), type := 3, pos := "store.go:36", after := #[{ on := 40, ground := Ground.data }, { on := 31, ground := Ground.guard }], guard := some (31, false) }) (v := undef) rfl (by kernel_rfl) (by kernel_rfl) (by kernel_rfl) (fun _ _ _ h => h) (Or.inr ⟨by rfl, rfl⟩) (by assumption) ?_
    simp only [Act.put, List.setIfInBounds_toArray, List.set_cons_zero, List.set_cons_succ]
    refine wpAnyH_take (i := 42) (oi := { dst := some 49, op := Op.binOp BinOp.sub 3 (Operand.tmp 44) (Operand.tmp 48) 3, type := 3, pos := "store.go:36", after := #[{ on := 37, ground := Ground.data }, { on := 41, ground := Ground.data }, { on := 31, ground := Ground.guard }], guard := some (31, false) }) (v := undef) rfl (by kernel_rfl) (by kernel_rfl) (by kernel_rfl) (fun _ _ _ h => h) (Or.inr ⟨by rfl, rfl⟩) (by assumption) ?_
    simp only [Act.put, List.setIfInBounds_toArray, List.set_cons_zero, List.set_cons_succ]
    refine wpAnyH_take (i := 43) (oi := { dst := some 50, op := Op.binOp BinOp.gtr 3 (Operand.tmp 40) (Operand.tmp 49) 3, type := 4, pos := "store.go:36", after := #[{ on := 33, ground := Ground.data }, { on := 42, ground := Ground.data }, { on := 31, ground := Ground.guard }], guard := some (31, false) }) (v := undef) rfl (by kernel_rfl) (by kernel_rfl) (by kernel_rfl) (fun _ _ _ h => h) (Or.inr ⟨by rfl, rfl⟩) (by assumption) ?_
    simp only [Act.put, List.setIfInBounds_toArray, List.set_cons_zero, List.set_cons_succ]
    refine wpAnyH_take (i := 44) (oi := { dst := some 51, op := Op.pick (Operand.tmp 38) (Operand.const (Value.bool true)) (Operand.tmp 50), type := 4, pos := "store.go:36", after := #[{ on := 31, ground := Ground.data }, { on := 43, ground := Ground.data }], guard := none }) (v := ?_) rfl (by kernel_rfl) (by kernel_rfl) (by kernel_rfl) (fun _ _ _ h => h) (Or.inl ⟨by rfl, ?_⟩) (by assumption) ?_
    rotate_left
    · (intro w hSw; (try dsimp only at hSw); go_simp; try with_reducible rfl)
    simp only [Act.put, List.setIfInBounds_toArray, List.set_cons_zero, List.set_cons_succ]
    refine wpAnyH_done (by kernel_rfl) ?_ _
    have SN := Aside0.mk ((HS.out.below (below_step B1.out BA.out)).mono (S' := fun k => S k ∨ w.heap.size ≤ k) (fun k hk => .inl hk))
    have BN : Aside0 (Beside S w _) := ⟨Beside.of_below S (below_step B1.out BA.out)⟩
    go_wp2_with fail
    go_ret
    refine ⟨congrArg (fun z : Bool => Ending.returned (.bool z)) FITS.out.symm, .slice none 0 0, H, ?_, ?_, BN.out⟩
    · rw [FITS.out]; exact SN.out
    · rw [FITS.out]; exact HT.out
  | true =>
    have MAY : Aside0 (ident_May.f (q : Int) s (n : Int) = some true) := ⟨by rw [MAY0, hm]⟩
    have hqn : q < n := by
      unfold mayD at hm
      simp only [Bool.and_eq_true, decide_eq_true_eq] at hm
      omega
    have hsx : 1 ≤ s ∧ s ≤ 4611686018427387904 := by
      unfold mayD at hm
      simp only [Bool.and_eq_true, decide_eq_true_eq] at hm
      exact hm.2
    have hqz : (q : Int) < (n : Int) := by omega
    obtain ⟨fq, hfq⟩ : ∃ fq, F[q]? = some fq := ⟨_, List.getElem?_eq_getElem (by have := HS.out.lf; omega)⟩
    have HFQ := Aside0.mk hfq
    have f0 : w1.cell? ⟨fb, q, none⟩ = some (.int .u64 fq) := (blk_cell (HS.out.below B1.out).fblk q).trans (u64c_get hfq)
    have GF : Aside0 (F.getD (((q : Int), s) : Ix).1.toNat 0 = fq) := ⟨by simp [List.getD_eq_getElem?_getD, hfq]⟩
    have HM := Aside0.mk hm
    clear hfq MAY0 hm
    by_cases hsf : s ≤ fq
    · have hsf2 : decide (s ≤ fq) = true := decide_eq_true hsf
      have FITS : Aside0 (fits n room E F ((q : Int), s) p = false) := ⟨by unfold fits; rw [GF.out, show decide (fq < (((q : Int), s) : Ix).2) = false from decide_eq_false (by show ¬ fq < s; omega)]; simp⟩
      clear g0 g1
      refine wp_region_held_drew (S := fun w' => w'.cell? ⟨b, 0, none⟩ = some (.int .u8 (q : Int)) ∧ w'.cell? ⟨b, 1, none⟩ = some (.int .u64 s) ∧ w'.cell? ⟨g, 3, none⟩ = some (.slice (some ⟨fb, 0, none⟩) n n) ∧ w'.cell? ⟨fb, q, none⟩ = some (.int .u64 fq)) (by kernel_rfl) (by go_keep) (fun hHeld => ?_)
      refine wpAnyH_take (i := 0) (oi := { dst := some 7, op := Op.move (Operand.tmp 0), type := 24, pos := "store.go:36", after := #[], guard := none }) (v := ?_) rfl (by kernel_rfl) (by kernel_rfl) (by kernel_rfl) (fun _ _ _ h => h) (Or.inl ⟨by rfl, ?_⟩) (by assumption) ?_
      rotate_left
      · (intro w hSw; (try dsimp only at hSw); go_simp; try with_reducible rfl)
      simp only [Act.put, List.setIfInBounds_toArray, List.set_cons_zero, List.set_cons_succ]
      refine wpAnyH_take (i := 1) (oi := { dst := some 8, op := Op.binOp BinOp.eql 24 (Operand.tmp 7) (Operand.const (Value.pointer none)) 24, type := 4, pos := "store.go:36", after := #[{ on := 0, ground := Ground.data }], guard := none }) (v := ?_) rfl (by kernel_rfl) (by kernel_rfl) (by kernel_rfl) (fun _ _ _ h => h) (Or.inl ⟨by rfl, ?_⟩) (by assumption) ?_
      rotate_left
      · (intro w hSw; (try dsimp only at hSw); go_simp; try with_reducible rfl)
      simp only [Act.put, List.setIfInBounds_toArray, List.set_cons_zero, List.set_cons_succ]
      refine wpAnyH_take (i := 2) (oi := { dst := some 9, op := Op.move (Operand.tmp 8), type := 4, pos := "store.go:36", after := #[{ on := 1, ground := Ground.data }], guard := none }) (v := ?_) rfl (by kernel_rfl) (by kernel_rfl) (by kernel_rfl) (fun _ _ _ h => h) (Or.inl ⟨by rfl, ?_⟩) (by assumption) ?_
      rotate_left
      · (intro w hSw; (try dsimp only at hSw); go_simp; try with_reducible rfl)
      simp only [Act.put, List.setIfInBounds_toArray, List.set_cons_zero, List.set_cons_succ]
      refine wpAnyH_take (i := 3) (oi := { dst := some 10, op := Op.load 29 (Operand.tmp 4), type := 29, pos := "store.go:36", after := #[{ on := 2, ground := Ground.guard }], guard := some (2, false) }) (v := ?_) rfl (by kernel_rfl) (by kernel_rfl) (by kernel_rfl) (fun _ _ _ h => h) (Or.inl ⟨by rfl, ?_⟩) (by assumption) ?_
      rotate_left
      · (intro w hSw; (try dsimp only at hSw); go_simp; try with_reducible rfl)
      simp only [Act.put, List.setIfInBounds_toArray, List.set_cons_zero, List.set_cons_succ]
      refine wpAnyH_take (i := 4) (oi := { dst := some 11, op := Op.move (Operand.tmp 0), type := 24, pos := "store.go:36", after := #[{ on := 2, ground := Ground.guard }], guard := some (2, false) }) (v := ?_) rfl (by kernel_rfl) (by kernel_rfl) (by kernel_rfl) (fun _ _ _ h => h) (Or.inl ⟨by rfl, ?_⟩) (by assumption) ?_
      rotate_left
      · (intro w hSw; (try dsimp only at hSw); go_simp; try with_reducible rfl)
      simp only [Act.put, List.setIfInBounds_toArray, List.set_cons_zero, List.set_cons_succ]
      refine wpAnyH_take (i := 5) (oi := { dst := some 12, op := Op.nilCheck (Operand.tmp 11), type := 0, pos := "store.go:36", after := #[{ on := 4, ground := Ground.data }, { on := 2, ground := Ground.guard }], guard := some (2, false) }) (v := ?_) rfl (by kernel_rfl) (by kernel_rfl) (by kernel_rfl) (fun _ _ _ h => h) (Or.inl ⟨by rfl, ?_⟩) (by assumption) ?_
      rotate_left
      · (intro w hSw; (try dsimp only at hSw); go_simp; try with_reducible rfl)
      simp only [Act.put, List.setIfInBounds_toArray, List.set_cons_zero, List.set_cons_succ]
      refine wpAnyH_take (i := 6) (oi := { dst := some 13, op := Op.fieldAddr 56 (Operand.tmp 12) 3, type := 0, pos := "store.go:36", after := #[{ on := 5, ground := Ground.data }, { on := 2, ground := Ground.guard }], guard := some (2, false) }) (v := ?_) rfl (by kernel_rfl) (by kernel_rfl) (by kernel_rfl) (fun _ _ _ h => h) (Or.inl ⟨by rfl, ?_⟩) (by assumption) ?_
      rotate_left
      · (intro w hSw; (try dsimp only at hSw); go_simp; try with_reducible rfl)
      simp only [Act.put, List.setIfInBounds_toArray, List.set_cons_zero, List.set_cons_succ]
      refine wpAnyH_take (i := 7) (oi := { dst := some 14, op := Op.load 35 (Operand.tmp 13), type := 35, pos := "store.go:36", after := #[{ on := 6, ground := Ground.data }, { on := 2, ground := Ground.guard }], guard := some (2, false) }) (v := ?_) rfl (by kernel_rfl) (by kernel_rfl) (by kernel_rfl) (fun _ _ _ h => h) (Or.inl ⟨by rfl, ?_⟩) (by assumption) ?_
      rotate_left
      · (intro w hSw; (try dsimp only at hSw); go_simp; try with_reducible rfl)
      simp only [Act.put, List.setIfInBounds_toArray, List.set_cons_zero, List.set_cons_succ]
      refine wpAnyH_take (i := 8) (oi := { dst := some 15, op := Op.call { callee := Callee.builtin Builtin.len, args := #[Operand.tmp 14], argTypes := #[35] }, type := 3, pos := "store.go:36", after := #[{ on := 7, ground := Ground.data }, { on := 2, ground := Ground.guard }], guard := some (2, false) }) (v := ?_) rfl (by kernel_rfl) (by kernel_rfl) (by kernel_rfl) (fun _ _ _ h => h) (Or.inl ⟨by rfl, ?_⟩) (by assumption) ?_
      rotate_left
      · (intro w hSw; (try dsimp only at hSw); go_simp; try with_reducible rfl)
      simp only [Act.put, List.setIfInBounds_toArray, List.set_cons_zero, List.set_cons_succ]
      refine wpAnyH_ready (rs := [9]) (by kernel_rfl) (by simp) ?_
      refine AllReadyH.cons (o := { dst := some 16, op := Op.call { callee := Callee.value (Operand.func 26), args := #[Operand.tmp 10, Operand.tmp 15], argTypes := #[29, 3] }, type := 4, pos := "store.go:36", after := #[{ on := 3, ground := Ground.data }, { on := 8, ground := Ground.data }, { on := 2, ground := Ground.chain }, { on := 2, ground := Ground.guard }], guard := some (2, false) }) rfl (fun K hK => ?_) AllReadyH.nil
      go_simp
      go_at_call 26
      refine (ident_May.calls (q : Int) s (n : Int) true _ MAY.out).mono ?_
      rintro e wa ⟨rfl, hb0⟩
      have BA := Aside0.mk (below_step (below_drew (Below.refl w1.heap.size w1)) hb0)
      clear hb0
      have ai0 := pw_cell_below BA.out i0
      have ai1 := pw_cell_below BA.out i1
      have ag3 := pw_cell_below BA.out g3
      have af0 := pw_cell_below BA.out f0
      try go_wp2_with fail
      refine hK.out _ _ ⟨ai0, ai1, ag3, af0⟩ (fun hHeld => ?_)
      clear hK K
      try simp only [Act.put, List.setIfInBounds_toArray, List.set_cons_zero, List.set_cons_succ]
      refine wpAnyH_take (i := 10) (oi := { dst := some 17, op := Op.unOp UnOp.not 4 (Operand.tmp 16), type := 4, pos := "store.go:36", after := #[{ on := 9, ground := Ground.data }, { on := 2, ground := Ground.guard }], guard := some (2, false) }) (v := ?_) rfl (by kernel_rfl) (by kernel_rfl) (by kernel_rfl) (fun _ _ _ h => h) (Or.inl ⟨by rfl, ?_⟩) (by assumption) ?_
      rotate_left
      · (intro w hSw; (try dsimp only at hSw); go_simp; try with_reducible rfl)
      simp only [Act.put, List.setIfInBounds_toArray, List.set_cons_zero, List.set_cons_succ]
      refine wpAnyH_take (i := 11) (oi := { dst := some 18, op := Op.pick (Operand.tmp 9) (Operand.const (Value.bool true)) (Operand.tmp 17), type := 4, pos := "store.go:36", after := #[{ on := 2, ground := Ground.data }, { on := 10, ground := Ground.data }], guard := none }) (v := ?_) rfl (by kernel_rfl) (by kernel_rfl) (by kernel_rfl) (fun _ _ _ h => h) (Or.inl ⟨by rfl, ?_⟩) (by assumption) ?_
      rotate_left
      · (intro w hSw; (try dsimp only at hSw); go_simp; try with_reducible rfl)
      simp only [Act.put, List.setIfInBounds_toArray, List.set_cons_zero, List.set_cons_succ]
      refine wpAnyH_take (i := 12) (oi := { dst := some 19, op := Op.move (Operand.tmp 18), type := 4, pos := "store.go:36", after := #[{ on := 11, ground := Ground.data }, { on := 9, ground := Ground.chain }], guard := none }) (v := ?_) rfl (by kernel_rfl) (by kernel_rfl) (by kernel_rfl) (fun _ _ _ h => h) (Or.inl ⟨by rfl, ?_⟩) (by assumption) ?_
      rotate_left
      · (intro w hSw; (try dsimp only at hSw); go_simp; try with_reducible rfl)
      simp only [Act.put, List.setIfInBounds_toArray, List.set_cons_zero, List.set_cons_succ]
      refine wpAnyH_take (i := 13) (oi := { dst := some 20, op := Op.fieldAddr 29 (Operand.tmp 4) 1, type := 0, pos := "store.go:36", after := #[{ on := 12, ground := Ground.guard }], guard := some (12, false) }) (v := ?_) rfl (by kernel_rfl) (by kernel_rfl) (by kernel_rfl) (fun _ _ _ h => h) (Or.inl ⟨by rfl, ?_⟩) (by assumption) ?_
      rotate_left
      · (intro w hSw; (try dsimp only at hSw); go_simp; try with_reducible rfl)
      simp only [Act.put, List.setIfInBounds_toArray, List.set_cons_zero, List.set_cons_succ]
      refine wpAnyH_take (i := 14) (oi := { dst := some 21, op := Op.load 27 (Operand.tmp 20), type := 27, pos := "store.go:36", after := #[{ on := 13, ground := Ground.data }, { on := 12, ground := Ground.guard }], guard := some (12, false) }) (v := ?_) rfl (by kernel_rfl) (by kernel_rfl) (by kernel_rfl) (fun _ _ _ h => h) (Or.inl ⟨by rfl, ?_⟩) (by assumption) ?_
      rotate_left
      · (intro w hSw; (try dsimp only at hSw); go_simp; try with_reducible rfl)
      simp only [Act.put, List.setIfInBounds_toArray, List.set_cons_zero, List.set_cons_succ]
      refine wpAnyH_take (i := 15) (oi := { dst := some 22, op := Op.move (Operand.tmp 0), type := 24, pos := "store.go:36", after := #[{ on := 12, ground := Ground.guard }], guard := some (12, false) }) (v := ?_) rfl (by kernel_rfl) (by kernel_rfl) (by kernel_rfl) (fun _ _ _ h => h) (Or.inl ⟨by rfl, ?_⟩) (by assumption) ?_
      rotate_left
      · (intro w hSw; (try dsimp only at hSw); go_simp; try with_reducible rfl)
      simp only [Act.put, List.setIfInBounds_toArray, List.set_cons_zero, List.set_cons_succ]
      refine wpAnyH_take (i := 16) (oi := { dst := some 23, op := Op.nilCheck (Operand.tmp 22), type := 0, pos := "store.go:36", after := #[{ on := 15, ground := Ground.data }, { on := 12, ground := Ground.guard }], guard := some (12, false) }) (v := ?_) rfl (by kernel_rfl) (by kernel_rfl) (by kernel_rfl) (fun _ _ _ h => h) (Or.inl ⟨by rfl, ?_⟩) (by assumption) ?_
      rotate_left
      · (intro w hSw; (try dsimp only at hSw); go_simp; try with_reducible rfl)
      simp only [Act.put, List.setIfInBounds_toArray, List.set_cons_zero, List.set_cons_succ]
      refine wpAnyH_take (i := 17) (oi := { dst := some 24, op := Op.fieldAddr 56 (Operand.tmp 23) 3, type := 0, pos := "store.go:36", after := #[{ on := 16, ground := Ground.data }, { on := 12, ground := Ground.guard }], guard := some (12, false) }) (v := ?_) rfl (by kernel_rfl) (by kernel_rfl) (by kernel_rfl) (fun _ _ _ h => h) (Or.inl ⟨by rfl, ?_⟩) (by assumption) ?_
      rotate_left
      · (intro w hSw; (try dsimp only at hSw); go_simp; try with_reducible rfl)
      simp only [Act.put, List.setIfInBounds_toArray, List.set_cons_zero, List.set_cons_succ]
      refine wpAnyH_take (i := 18) (oi := { dst := some 25, op := Op.load 35 (Operand.tmp 24), type := 35, pos := "store.go:36", after := #[{ on := 17, ground := Ground.data }, { on := 12, ground := Ground.guard }], guard := some (12, false) }) (v := ?_) rfl (by kernel_rfl) (by kernel_rfl) (by kernel_rfl) (fun _ _ _ h => h) (Or.inl ⟨by rfl, ?_⟩) (by assumption) ?_
      rotate_left
      · (intro w hSw; (try dsimp only at hSw); go_simp; try with_reducible rfl)
      simp only [Act.put, List.setIfInBounds_toArray, List.set_cons_zero, List.set_cons_succ]
      refine wpAnyH_take (i := 19) (oi := { dst := some 26, op := Op.fieldAddr 29 (Operand.tmp 4) 0, type := 0, pos := "store.go:36", after := #[{ on := 12, ground := Ground.guard }], guard := some (12, false) }) (v := ?_) rfl (by kernel_rfl) (by kernel_rfl) (by kernel_rfl) (fun _ _ _ h => h) (Or.inl ⟨by rfl, ?_⟩) (by assumption) ?_
      rotate_left
      · (intro w hSw; (try dsimp only at hSw); go_simp; try with_reducible rfl)
      simp only [Act.put, List.setIfInBounds_toArray, List.set_cons_zero, List.set_cons_succ]
      refine wpAnyH_take (i := 20) (oi := { dst := some 27, op := Op.load 5 (Operand.tmp 26), type := 5, pos := "store.go:36", after := #[{ on := 19, ground := Ground.data }, { on := 12, ground := Ground.guard }], guard := some (12, false) }) (v := ?_) rfl (by kernel_rfl) (by kernel_rfl) (by kernel_rfl) (fun _ _ _ h => h) (Or.inl ⟨by rfl, ?_⟩) (by assumption) ?_
      rotate_left
      · (intro w hSw; (try dsimp only at hSw); go_simp; try with_reducible rfl)
      simp only [Act.put, List.setIfInBounds_toArray, List.set_cons_zero, List.set_cons_succ]
      refine wpAnyH_take (i := 21) (oi := { dst := some 28, op := Op.indexAddr 35 (Operand.tmp 25) (Operand.tmp 27), type := 0, pos := "store.go:36", after := #[{ on := 18, ground := Ground.data }, { on := 20, ground := Ground.data }, { on := 12, ground := Ground.guard }], guard := some (12, false) }) (v := ?_) rfl (by kernel_rfl) (by kernel_rfl) (by kernel_rfl) (fun _ _ _ h => h) (Or.inl ⟨by rfl, ?_⟩) (by assumption) ?_
      rotate_left
      · (intro w hSw; (try dsimp only at hSw); go_simp; try with_reducible rfl)
      simp only [Act.put, List.setIfInBounds_toArray, List.set_cons_zero, List.set_cons_succ]
      refine wpAnyH_take (i := 22) (oi := { dst := some 29, op := Op.load 27 (Operand.tmp 28), type := 27, pos := "store.go:36", after := #[{ on := 21, ground := Ground.data }, { on := 12, ground := Ground.guard }], guard := some (12, false) }) (v := ?_) rfl (by kernel_rfl) (by kernel_rfl) (by kernel_rfl) (fun _ _ _ h => h) (Or.inl ⟨by rfl, ?_⟩) (by assumption) ?_
      rotate_left
      · (intro w hSw; (try dsimp only at hSw); go_simp; try with_reducible rfl)
      simp only [Act.put, List.setIfInBounds_toArray, List.set_cons_zero, List.set_cons_succ]
      refine wpAnyH_take (i := 23) (oi := { dst := some 30, op := Op.binOp BinOp.leq 27 (Operand.tmp 21) (Operand.tmp 29) 27, type := 4, pos := "store.go:36", after := #[{ on := 14, ground := Ground.data }, { on := 22, ground := Ground.data }, { on := 12, ground := Ground.guard }], guard := some (12, false) }) (v := ?_) rfl (by kernel_rfl) (by kernel_rfl) (by kernel_rfl) (fun _ _ _ h => h) (Or.inl ⟨by rfl, ?_⟩) (by assumption) ?_
      rotate_left
      · (intro w hSw; (try dsimp only at hSw); go_simp; try with_reducible rfl)
      simp only [Act.put, List.setIfInBounds_toArray, List.set_cons_zero, List.set_cons_succ]
      refine wpAnyH_take (i := 24) (oi := { dst := some 31, op := Op.pick (Operand.tmp 19) (Operand.const (Value.bool true)) (Operand.tmp 30), type := 4, pos := "store.go:36", after := #[{ on := 12, ground := Ground.data }, { on := 23, ground := Ground.data }], guard := none }) (v := ?_) rfl (by kernel_rfl) (by kernel_rfl) (by kernel_rfl) (fun _ _ _ h => h) (Or.inl ⟨by rfl, ?_⟩) (by assumption) ?_
      rotate_left
      · (intro w hSw; (try dsimp only at hSw); go_simp; try with_reducible rfl)
      simp only [Act.put, List.setIfInBounds_toArray, List.set_cons_zero, List.set_cons_succ]
      refine wpAnyH_take (i := 25) (oi := { dst := some 32, op := Op.move (Operand.tmp 31), type := 4, pos := "store.go:36", after := #[{ on := 24, ground := Ground.data }, { on := 12, ground := Ground.chain }], guard := none }) (v := ?_) rfl (by kernel_rfl) (by kernel_rfl) (by kernel_rfl) (fun _ _ _ h => h) (Or.inl ⟨by rfl, ?_⟩) (by assumption) ?_
      rotate_left
      · (intro w hSw; (try dsimp only at hSw); go_simp; try with_reducible rfl)
      simp only [Act.put, List.setIfInBounds_toArray, List.set_cons_zero, List.set_cons_succ]
      refine wpAnyH_take (i := 26) (oi := { dst := some 33, op := Op.move (Operand.tmp 0), type := 24, pos := "store.go:36", after := #[{ on := 25, ground := Ground.guard }], guard := some (25, false) }) (v := undef) rfl (by kernel_rfl) (by kernel_rfl) (by kernel_rfl) (fun _ _ _ h => h) (Or.inr ⟨by rfl, rfl⟩) (by assumption) ?_
      simp only [Act.put, List.setIfInBounds_toArray, List.set_cons_zero, List.set_cons_succ]
      refine wpAnyH_take (i := 27) (oi := { dst := some 34, op := Op.load 29 (Operand.tmp 4), type := 29, pos := "store.go:36", after := #[{ on := 25, ground := Ground.guard }], guard := some (25, false) }) (v := undef) rfl (by kernel_rfl) (by kernel_rfl) (by kernel_rfl) (fun _ _ _ h => h) (Or.inr ⟨by rfl, rfl⟩) (by assumption) ?_
      simp only [Act.put, List.setIfInBounds_toArray, List.set_cons_zero, List.set_cons_succ]
      refine wpAnyH_take (i := 28) (oi := { dst := some 35, op := Op.buildSlice 22 1 #[(0, Operand.tmp 34)], type := 22, pos := "store.go:36", after := #[{ on := 27, ground := Ground.data }, { on := 25, ground := Ground.guard }], guard := some (25, false) }) (v := undef) rfl (by kernel_rfl) (by kernel_rfl) (by kernel_rfl) (fun _ _ _ h => h) (Or.inr ⟨by rfl, rfl⟩) (by assumption) ?_
      simp only [Act.put, List.setIfInBounds_toArray, List.set_cons_zero, List.set_cons_succ]
      refine wpAnyH_take (i := 29) (oi := { dst := some 36, op := Op.call { callee := Callee.value (Operand.func 12), args := #[Operand.tmp 33, Operand.tmp 35], argTypes := #[24, 22] }, type := 4, pos := "store.go:36", after := #[{ on := 26, ground := Ground.data }, { on := 28, ground := Ground.data }, { on := 25, ground := Ground.chain }, { on := 25, ground := Ground.guard }], guard := some (25, false) }) (v := undef) rfl (by kernel_rfl) (by kernel_rfl) (by kernel_rfl) (fun _ _ _ h => h) (Or.inr ⟨by rfl, rfl⟩) (by assumption) ?_
      simp only [Act.put, List.setIfInBounds_toArray, List.set_cons_zero, List.set_cons_succ]
      refine wpAnyH_take (i := 30) (oi := { dst := some 37, op := Op.pick (Operand.tmp 32) (Operand.const (Value.bool true)) (Operand.tmp 36), type := 4, pos := "store.go:36", after := #[{ on := 25, ground := Ground.data }, { on := 29, ground := Ground.data }], guard := none }) (v := ?_) rfl (by kernel_rfl) (by kernel_rfl) (by kernel_rfl) (fun _ _ _ h => h) (Or.inl ⟨by rfl, ?_⟩) (by assumption) ?_
      rotate_left
      · (intro w hSw; (try dsimp only at hSw); go_simp; try with_reducible rfl)
      simp only [Act.put, List.setIfInBounds_toArray, List.set_cons_zero, List.set_cons_succ]
      refine wpAnyH_take (i := 31) (oi := { dst := some 38, op := Op.move (Operand.tmp 37), type := 4, pos := "store.go:36", after := #[{ on := 30, ground := Ground.data }, { on := 29, ground := Ground.chain }], guard := none }) (v := ?_) rfl (by kernel_rfl) (by kernel_rfl) (by kernel_rfl) (fun _ _ _ h => h) (Or.inl ⟨by rfl, ?_⟩) (by assumption) ?_
      rotate_left
      · (intro w hSw; (try dsimp only at hSw); go_simp; try with_reducible rfl)
      simp only [Act.put, List.setIfInBounds_toArray, List.set_cons_zero, List.set_cons_succ]
      refine wpAnyH_take (i := 32) (oi := { dst := some 39, op := Op.move (Operand.tmp 2), type := 30, pos := "store.go:36", after := #[{ on := 31, ground := Ground.guard }], guard := some (31, false) }) (v := undef) rfl (by kernel_rfl) (by kernel_rfl) (by kernel_rfl) (fun _ _ _ h => h) (Or.inr ⟨by rfl, rfl⟩) (by assumption) ?_
      simp only [Act.put, List.setIfInBounds_toArray, List.set_cons_zero, List.set_cons_succ]
      refine wpAnyH_take (i := 33) (oi := { dst := some 40, op := Op.call { callee := Callee.builtin Builtin.len, args := #[Operand.tmp 39], argTypes := #[30] }, type := 3, pos := "store.go:36", after := #[{ on := 32, ground := Ground.data }, { on := 31, ground := Ground.guard }], guard := some (31, false) }) (v := undef) rfl (by kernel_rfl) (by kernel_rfl) (by kernel_rfl) (fun _ _ _ h => h) (Or.inr ⟨by rfl, rfl⟩) (by assumption) ?_
      simp only [Act.put, List.setIfInBounds_toArray, List.set_cons_zero, List.set_cons_succ]
      refine wpAnyH_take (i := 34) (oi := { dst := some 41, op := Op.move (Operand.tmp 0), type := 24, pos := "store.go:36", after := #[{ on := 31, ground := Ground.guard }], guard := some (31, false) }) (v := undef) rfl (by kernel_rfl) (by kernel_rfl) (by kernel_rfl) (fun _ _ _ h => h) (Or.inr ⟨by rfl, rfl⟩) (by assumption) ?_
      simp only [Act.put, List.setIfInBounds_toArray, List.set_cons_zero, List.set_cons_succ]
      refine wpAnyH_take (i := 35) (oi := { dst := some 42, op := Op.nilCheck (Operand.tmp 41), type := 0, pos := "store.go:36", after := #[{ on := 34, ground := Ground.data }, { on := 31, ground := Ground.guard }], guard := some (31, false) }) (v := undef) rfl (by kernel_rfl) (by kernel_rfl) (by kernel_rfl) (fun _ _ _ h => h) (Or.inr ⟨by rfl, rfl⟩) (by assumption) ?_
      simp only [Act.put, List.setIfInBounds_toArray, List.set_cons_zero, List.set_cons_succ]
      refine wpAnyH_take (i := 36) (oi := { dst := some 43, op := Op.fieldAddr 56 (Operand.tmp 42) 0, type := 0, pos := "store.go:36", after := #[{ on := 35, ground := Ground.data }, { on := 31, ground := Ground.guard }], guard := some (31, false) }) (v := undef) rfl (by kernel_rfl) (by kernel_rfl) (by kernel_rfl) (fun _ _ _ h => h) (Or.inr ⟨by rfl, rfl⟩) (by assumption) ?_
      simp only [Act.put, List.setIfInBounds_toArray, List.set_cons_zero, List.set_cons_succ]
      refine wpAnyH_take (i := 37) (oi := { dst := some 44, op := Op.load 3 (Operand.tmp 43), type := 3, pos := "store.go:36", after := #[{ on := 36, ground := Ground.data }, { on := 31, ground := Ground.guard }], guard := some (31, false) }) (v := undef) rfl (by kernel_rfl) (by kernel_rfl) (by kernel_rfl) (fun _ _ _ h => h) (Or.inr ⟨by rfl, rfl⟩) (by assumption) ?_
      simp only [Act.put, List.setIfInBounds_toArray, List.set_cons_zero, List.set_cons_succ]
      refine wpAnyH_take (i := 38) (oi := { dst := some 45, op := Op.move (Operand.tmp 0), type := 24, pos := "store.go:36", after := #[{ on := 31, ground := Ground.guard }], guard := some (31, false) }) (v := undef) rfl (by kernel_rfl) (by kernel_rfl) (by kernel_rfl) (fun _ _ _ h => h) (Or.inr ⟨by rfl, rfl⟩) (by assumption) ?_
      simp only [Act.put, List.setIfInBounds_toArray, List.set_cons_zero, List.set_cons_succ]
      refine wpAnyH_take (i := 39) (oi := { dst := some 46, op := Op.nilCheck (Operand.tmp 45), type := 0, pos := "store.go:36", after := #[{ on := 38, ground := Ground.data }, { on := 31, ground := Ground.guard }], guard := some (31, false) }) (v := undef) rfl (by kernel_rfl) (by kernel_rfl) (by kernel_rfl) (fun _ _ _ h => h) (Or.inr ⟨by rfl, rfl⟩) (by assumption) ?_
      simp only [Act.put, List.setIfInBounds_toArray, List.set_cons_zero, List.set_cons_succ]
      refine wpAnyH_take (i := 40) (oi := { dst := some 47, op := Op.fieldAddr 56 (Operand.tmp 46) 1, type := 0, pos := "store.go:36", after := #[{ on := 39, ground := Ground.data }, { on := 31, ground := Ground.guard }], guard := some (31, false) }) (v := undef) rfl (by kernel_rfl) (by kernel_rfl) (by kernel_rfl) (fun _ _ _ h => h) (Or.inr ⟨by rfl, rfl⟩) (by assumption) ?_
      simp only [Act.put, List.setIfInBounds_toArray, List.set_cons_zero, List.set_cons_succ]
      refine wpAnyH_take (i := 41) (oi := { dst := some 48, op := Op.load 3 (Operand.tmp 47), type := 3, pos := "store.go:36", after := #[{ on := 40, ground := Ground.data }, { on := 31, ground := Ground.guard }], guard := some (31, false) }) (v := undef) rfl (by kernel_rfl) (by kernel_rfl) (by kernel_rfl) (fun _ _ _ h => h) (Or.inr ⟨by rfl, rfl⟩) (by assumption) ?_
      simp only [Act.put, List.setIfInBounds_toArray, List.set_cons_zero, List.set_cons_succ]
      refine wpAnyH_take (i := 42) (oi := { dst := some 49, op := Op.binOp BinOp.sub 3 (Operand.tmp 44) (Operand.tmp 48) 3, type := 3, pos := "store.go:36", after := #[{ on := 37, ground := Ground.data }, { on := 41, ground := Ground.data }, { on := 31, ground := Ground.guard }], guard := some (31, false) }) (v := undef) rfl (by kernel_rfl) (by kernel_rfl) (by kernel_rfl) (fun _ _ _ h => h) (Or.inr ⟨by rfl, rfl⟩) (by assumption) ?_
      simp only [Act.put, List.setIfInBounds_toArray, List.set_cons_zero, List.set_cons_succ]
      refine wpAnyH_take (i := 43) (oi := { dst := some 50, op := Op.binOp BinOp.gtr 3 (Operand.tmp 40) (Operand.tmp 49) 3, type := 4, pos := "store.go:36", after := #[{ on := 33, ground := Ground.data }, { on := 42, ground := Ground.data }, { on := 31, ground := Ground.guard }], guard := some (31, false) }) (v := undef) rfl (by kernel_rfl) (by kernel_rfl) (by kernel_rfl) (fun _ _ _ h => h) (Or.inr ⟨by rfl, rfl⟩) (by assumption) ?_
      simp only [Act.put, List.setIfInBounds_toArray, List.set_cons_zero, List.set_cons_succ]
      refine wpAnyH_take (i := 44) (oi := { dst := some 51, op := Op.pick (Operand.tmp 38) (Operand.const (Value.bool true)) (Operand.tmp 50), type := 4, pos := "store.go:36", after := #[{ on := 31, ground := Ground.data }, { on := 43, ground := Ground.data }], guard := none }) (v := ?_) rfl (by kernel_rfl) (by kernel_rfl) (by kernel_rfl) (fun _ _ _ h => h) (Or.inl ⟨by rfl, ?_⟩) (by assumption) ?_
      rotate_left
      · (intro w hSw; (try dsimp only at hSw); go_simp; try with_reducible rfl)
      simp only [Act.put, List.setIfInBounds_toArray, List.set_cons_zero, List.set_cons_succ]
      refine wpAnyH_done (by kernel_rfl) ?_ _
      have SN := Aside0.mk ((HS.out.below (below_step B1.out BA.out)).mono (S' := fun k => S k ∨ w.heap.size ≤ k) (fun k hk => .inl hk))
      have BN : Aside0 (Beside S w _) := ⟨Beside.of_below S (below_step B1.out BA.out)⟩
      go_wp2_with fail
      go_ret
      refine ⟨congrArg (fun z : Bool => Ending.returned (.bool z)) FITS.out.symm, .slice none 0 0, H, ?_, ?_, BN.out⟩
      · rw [FITS.out]; exact SN.out
      · rw [FITS.out]; exact HT.out
    · have hsf2 : decide (s ≤ fq) = false := decide_eq_false hsf
      cases hh : hasE E ((q : Int), s) with
      | true =>
        have FITS : Aside0 (fits n room E F ((q : Int), s) p = false) := ⟨by unfold fits; rw [hh]; simp⟩
        have HX : Aside0 (∀ W : World, Below w1.heap.size w1 (W.alloc (.cells #[.int .u8 (q : Int), .int .u64 s] tID)) → (W.alloc (.cells #[.int .u8 (q : Int), .int .u64 s] tID)).heap[W.heap.size]? = some (.cells #[.int .u8 (q : Int), .int .u64 s] tID (0, 0)) → Calls Try.prog 12 #[.pointer (some ⟨g, 0, none⟩), .slice (some ⟨W.heap.size, 0, none⟩) 1 1] (W.alloc (.cells #[.int .u8 (q : Int), .int .u64 s] tID)) fun e w' => e = .returned (.bool true) ∧ Below (W.alloc (.cells #[.int .u8 (q : Int), .int .u64 s] tID)).heap.size (W.alloc (.cells #[.int .u8 (q : Int), .int .u64 s] tID)) w') := ⟨fun W hW hX => by
          have := Has1_calls (HS.out.below (below_step B1.out hW)) IDR.out hX
          rwa [hh] at this⟩
        clear hh g0 g1
        refine wp_region_held_drew (S := fun w' => w'.cell? ⟨b, 0, none⟩ = some (.int .u8 (q : Int)) ∧ w'.cell? ⟨b, 1, none⟩ = some (.int .u64 s) ∧ w'.cell? ⟨g, 3, none⟩ = some (.slice (some ⟨fb, 0, none⟩) n n) ∧ w'.cell? ⟨fb, q, none⟩ = some (.int .u64 fq)) (by kernel_rfl) (by go_keep) (fun hHeld => ?_)
        refine wpAnyH_take (i := 0) (oi := { dst := some 7, op := Op.move (Operand.tmp 0), type := 24, pos := "store.go:36", after := #[], guard := none }) (v := ?_) rfl (by kernel_rfl) (by kernel_rfl) (by kernel_rfl) (fun _ _ _ h => h) (Or.inl ⟨by rfl, ?_⟩) (by assumption) ?_
        rotate_left
        · (intro w hSw; (try dsimp only at hSw); go_simp; try with_reducible rfl)
        simp only [Act.put, List.setIfInBounds_toArray, List.set_cons_zero, List.set_cons_succ]
        refine wpAnyH_take (i := 1) (oi := { dst := some 8, op := Op.binOp BinOp.eql 24 (Operand.tmp 7) (Operand.const (Value.pointer none)) 24, type := 4, pos := "store.go:36", after := #[{ on := 0, ground := Ground.data }], guard := none }) (v := ?_) rfl (by kernel_rfl) (by kernel_rfl) (by kernel_rfl) (fun _ _ _ h => h) (Or.inl ⟨by rfl, ?_⟩) (by assumption) ?_
        rotate_left
        · (intro w hSw; (try dsimp only at hSw); go_simp; try with_reducible rfl)
        simp only [Act.put, List.setIfInBounds_toArray, List.set_cons_zero, List.set_cons_succ]
        refine wpAnyH_take (i := 2) (oi := { dst := some 9, op := Op.move (Operand.tmp 8), type := 4, pos := "store.go:36", after := #[{ on := 1, ground := Ground.data }], guard := none }) (v := ?_) rfl (by kernel_rfl) (by kernel_rfl) (by kernel_rfl) (fun _ _ _ h => h) (Or.inl ⟨by rfl, ?_⟩) (by assumption) ?_
        rotate_left
        · (intro w hSw; (try dsimp only at hSw); go_simp; try with_reducible rfl)
        simp only [Act.put, List.setIfInBounds_toArray, List.set_cons_zero, List.set_cons_succ]
        refine wpAnyH_take (i := 3) (oi := { dst := some 10, op := Op.load 29 (Operand.tmp 4), type := 29, pos := "store.go:36", after := #[{ on := 2, ground := Ground.guard }], guard := some (2, false) }) (v := ?_) rfl (by kernel_rfl) (by kernel_rfl) (by kernel_rfl) (fun _ _ _ h => h) (Or.inl ⟨by rfl, ?_⟩) (by assumption) ?_
        rotate_left
        · (intro w hSw; (try dsimp only at hSw); go_simp; try with_reducible rfl)
        simp only [Act.put, List.setIfInBounds_toArray, List.set_cons_zero, List.set_cons_succ]
        refine wpAnyH_take (i := 4) (oi := { dst := some 11, op := Op.move (Operand.tmp 0), type := 24, pos := "store.go:36", after := #[{ on := 2, ground := Ground.guard }], guard := some (2, false) }) (v := ?_) rfl (by kernel_rfl) (by kernel_rfl) (by kernel_rfl) (fun _ _ _ h => h) (Or.inl ⟨by rfl, ?_⟩) (by assumption) ?_
        rotate_left
        · (intro w hSw; (try dsimp only at hSw); go_simp; try with_reducible rfl)
        simp only [Act.put, List.setIfInBounds_toArray, List.set_cons_zero, List.set_cons_succ]
        refine wpAnyH_take (i := 5) (oi := { dst := some 12, op := Op.nilCheck (Operand.tmp 11), type := 0, pos := "store.go:36", after := #[{ on := 4, ground := Ground.data }, { on := 2, ground := Ground.guard }], guard := some (2, false) }) (v := ?_) rfl (by kernel_rfl) (by kernel_rfl) (by kernel_rfl) (fun _ _ _ h => h) (Or.inl ⟨by rfl, ?_⟩) (by assumption) ?_
        rotate_left
        · (intro w hSw; (try dsimp only at hSw); go_simp; try with_reducible rfl)
        simp only [Act.put, List.setIfInBounds_toArray, List.set_cons_zero, List.set_cons_succ]
        refine wpAnyH_take (i := 6) (oi := { dst := some 13, op := Op.fieldAddr 56 (Operand.tmp 12) 3, type := 0, pos := "store.go:36", after := #[{ on := 5, ground := Ground.data }, { on := 2, ground := Ground.guard }], guard := some (2, false) }) (v := ?_) rfl (by kernel_rfl) (by kernel_rfl) (by kernel_rfl) (fun _ _ _ h => h) (Or.inl ⟨by rfl, ?_⟩) (by assumption) ?_
        rotate_left
        · (intro w hSw; (try dsimp only at hSw); go_simp; try with_reducible rfl)
        simp only [Act.put, List.setIfInBounds_toArray, List.set_cons_zero, List.set_cons_succ]
        refine wpAnyH_take (i := 7) (oi := { dst := some 14, op := Op.load 35 (Operand.tmp 13), type := 35, pos := "store.go:36", after := #[{ on := 6, ground := Ground.data }, { on := 2, ground := Ground.guard }], guard := some (2, false) }) (v := ?_) rfl (by kernel_rfl) (by kernel_rfl) (by kernel_rfl) (fun _ _ _ h => h) (Or.inl ⟨by rfl, ?_⟩) (by assumption) ?_
        rotate_left
        · (intro w hSw; (try dsimp only at hSw); go_simp; try with_reducible rfl)
        simp only [Act.put, List.setIfInBounds_toArray, List.set_cons_zero, List.set_cons_succ]
        refine wpAnyH_take (i := 8) (oi := { dst := some 15, op := Op.call { callee := Callee.builtin Builtin.len, args := #[Operand.tmp 14], argTypes := #[35] }, type := 3, pos := "store.go:36", after := #[{ on := 7, ground := Ground.data }, { on := 2, ground := Ground.guard }], guard := some (2, false) }) (v := ?_) rfl (by kernel_rfl) (by kernel_rfl) (by kernel_rfl) (fun _ _ _ h => h) (Or.inl ⟨by rfl, ?_⟩) (by assumption) ?_
        rotate_left
        · (intro w hSw; (try dsimp only at hSw); go_simp; try with_reducible rfl)
        simp only [Act.put, List.setIfInBounds_toArray, List.set_cons_zero, List.set_cons_succ]
        refine wpAnyH_ready (rs := [9]) (by kernel_rfl) (by simp) ?_
        refine AllReadyH.cons (o := { dst := some 16, op := Op.call { callee := Callee.value (Operand.func 26), args := #[Operand.tmp 10, Operand.tmp 15], argTypes := #[29, 3] }, type := 4, pos := "store.go:36", after := #[{ on := 3, ground := Ground.data }, { on := 8, ground := Ground.data }, { on := 2, ground := Ground.chain }, { on := 2, ground := Ground.guard }], guard := some (2, false) }) rfl (fun K hK => ?_) AllReadyH.nil
        go_simp
        go_at_call 26
        refine (ident_May.calls (q : Int) s (n : Int) true _ MAY.out).mono ?_
        rintro e wa ⟨rfl, hb0⟩
        have BA := Aside0.mk (below_step (below_drew (Below.refl w1.heap.size w1)) hb0)
        clear hb0
        have ai0 := pw_cell_below BA.out i0
        have ai1 := pw_cell_below BA.out i1
        have ag3 := pw_cell_below BA.out g3
        have af0 := pw_cell_below BA.out f0
        try go_wp2_with fail
        refine hK.out _ _ ⟨ai0, ai1, ag3, af0⟩ (fun hHeld => ?_)
        clear hK K
        try simp only [Act.put, List.setIfInBounds_toArray, List.set_cons_zero, List.set_cons_succ]
        refine wpAnyH_take (i := 10) (oi := { dst := some 17, op := Op.unOp UnOp.not 4 (Operand.tmp 16), type := 4, pos := "store.go:36", after := #[{ on := 9, ground := Ground.data }, { on := 2, ground := Ground.guard }], guard := some (2, false) }) (v := ?_) rfl (by kernel_rfl) (by kernel_rfl) (by kernel_rfl) (fun _ _ _ h => h) (Or.inl ⟨by rfl, ?_⟩) (by assumption) ?_
        rotate_left
        · (intro w hSw; (try dsimp only at hSw); go_simp; try with_reducible rfl)
        simp only [Act.put, List.setIfInBounds_toArray, List.set_cons_zero, List.set_cons_succ]
        refine wpAnyH_take (i := 11) (oi := { dst := some 18, op := Op.pick (Operand.tmp 9) (Operand.const (Value.bool true)) (Operand.tmp 17), type := 4, pos := "store.go:36", after := #[{ on := 2, ground := Ground.data }, { on := 10, ground := Ground.data }], guard := none }) (v := ?_) rfl (by kernel_rfl) (by kernel_rfl) (by kernel_rfl) (fun _ _ _ h => h) (Or.inl ⟨by rfl, ?_⟩) (by assumption) ?_
        rotate_left
        · (intro w hSw; (try dsimp only at hSw); go_simp; try with_reducible rfl)
        simp only [Act.put, List.setIfInBounds_toArray, List.set_cons_zero, List.set_cons_succ]
        refine wpAnyH_take (i := 12) (oi := { dst := some 19, op := Op.move (Operand.tmp 18), type := 4, pos := "store.go:36", after := #[{ on := 11, ground := Ground.data }, { on := 9, ground := Ground.chain }], guard := none }) (v := ?_) rfl (by kernel_rfl) (by kernel_rfl) (by kernel_rfl) (fun _ _ _ h => h) (Or.inl ⟨by rfl, ?_⟩) (by assumption) ?_
        rotate_left
        · (intro w hSw; (try dsimp only at hSw); go_simp; try with_reducible rfl)
        simp only [Act.put, List.setIfInBounds_toArray, List.set_cons_zero, List.set_cons_succ]
        refine wpAnyH_take (i := 13) (oi := { dst := some 20, op := Op.fieldAddr 29 (Operand.tmp 4) 1, type := 0, pos := "store.go:36", after := #[{ on := 12, ground := Ground.guard }], guard := some (12, false) }) (v := ?_) rfl (by kernel_rfl) (by kernel_rfl) (by kernel_rfl) (fun _ _ _ h => h) (Or.inl ⟨by rfl, ?_⟩) (by assumption) ?_
        rotate_left
        · (intro w hSw; (try dsimp only at hSw); go_simp; try with_reducible rfl)
        simp only [Act.put, List.setIfInBounds_toArray, List.set_cons_zero, List.set_cons_succ]
        refine wpAnyH_take (i := 14) (oi := { dst := some 21, op := Op.load 27 (Operand.tmp 20), type := 27, pos := "store.go:36", after := #[{ on := 13, ground := Ground.data }, { on := 12, ground := Ground.guard }], guard := some (12, false) }) (v := ?_) rfl (by kernel_rfl) (by kernel_rfl) (by kernel_rfl) (fun _ _ _ h => h) (Or.inl ⟨by rfl, ?_⟩) (by assumption) ?_
        rotate_left
        · (intro w hSw; (try dsimp only at hSw); go_simp; try with_reducible rfl)
        simp only [Act.put, List.setIfInBounds_toArray, List.set_cons_zero, List.set_cons_succ]
        refine wpAnyH_take (i := 15) (oi := { dst := some 22, op := Op.move (Operand.tmp 0), type := 24, pos := "store.go:36", after := #[{ on := 12, ground := Ground.guard }], guard := some (12, false) }) (v := ?_) rfl (by kernel_rfl) (by kernel_rfl) (by kernel_rfl) (fun _ _ _ h => h) (Or.inl ⟨by rfl, ?_⟩) (by assumption) ?_
        rotate_left
        · (intro w hSw; (try dsimp only at hSw); go_simp; try with_reducible rfl)
        simp only [Act.put, List.setIfInBounds_toArray, List.set_cons_zero, List.set_cons_succ]
        refine wpAnyH_take (i := 16) (oi := { dst := some 23, op := Op.nilCheck (Operand.tmp 22), type := 0, pos := "store.go:36", after := #[{ on := 15, ground := Ground.data }, { on := 12, ground := Ground.guard }], guard := some (12, false) }) (v := ?_) rfl (by kernel_rfl) (by kernel_rfl) (by kernel_rfl) (fun _ _ _ h => h) (Or.inl ⟨by rfl, ?_⟩) (by assumption) ?_
        rotate_left
        · (intro w hSw; (try dsimp only at hSw); go_simp; try with_reducible rfl)
        simp only [Act.put, List.setIfInBounds_toArray, List.set_cons_zero, List.set_cons_succ]
        refine wpAnyH_take (i := 17) (oi := { dst := some 24, op := Op.fieldAddr 56 (Operand.tmp 23) 3, type := 0, pos := "store.go:36", after := #[{ on := 16, ground := Ground.data }, { on := 12, ground := Ground.guard }], guard := some (12, false) }) (v := ?_) rfl (by kernel_rfl) (by kernel_rfl) (by kernel_rfl) (fun _ _ _ h => h) (Or.inl ⟨by rfl, ?_⟩) (by assumption) ?_
        rotate_left
        · (intro w hSw; (try dsimp only at hSw); go_simp; try with_reducible rfl)
        simp only [Act.put, List.setIfInBounds_toArray, List.set_cons_zero, List.set_cons_succ]
        refine wpAnyH_take (i := 18) (oi := { dst := some 25, op := Op.load 35 (Operand.tmp 24), type := 35, pos := "store.go:36", after := #[{ on := 17, ground := Ground.data }, { on := 12, ground := Ground.guard }], guard := some (12, false) }) (v := ?_) rfl (by kernel_rfl) (by kernel_rfl) (by kernel_rfl) (fun _ _ _ h => h) (Or.inl ⟨by rfl, ?_⟩) (by assumption) ?_
        rotate_left
        · (intro w hSw; (try dsimp only at hSw); go_simp; try with_reducible rfl)
        simp only [Act.put, List.setIfInBounds_toArray, List.set_cons_zero, List.set_cons_succ]
        refine wpAnyH_take (i := 19) (oi := { dst := some 26, op := Op.fieldAddr 29 (Operand.tmp 4) 0, type := 0, pos := "store.go:36", after := #[{ on := 12, ground := Ground.guard }], guard := some (12, false) }) (v := ?_) rfl (by kernel_rfl) (by kernel_rfl) (by kernel_rfl) (fun _ _ _ h => h) (Or.inl ⟨by rfl, ?_⟩) (by assumption) ?_
        rotate_left
        · (intro w hSw; (try dsimp only at hSw); go_simp; try with_reducible rfl)
        simp only [Act.put, List.setIfInBounds_toArray, List.set_cons_zero, List.set_cons_succ]
        refine wpAnyH_take (i := 20) (oi := { dst := some 27, op := Op.load 5 (Operand.tmp 26), type := 5, pos := "store.go:36", after := #[{ on := 19, ground := Ground.data }, { on := 12, ground := Ground.guard }], guard := some (12, false) }) (v := ?_) rfl (by kernel_rfl) (by kernel_rfl) (by kernel_rfl) (fun _ _ _ h => h) (Or.inl ⟨by rfl, ?_⟩) (by assumption) ?_
        rotate_left
        · (intro w hSw; (try dsimp only at hSw); go_simp; try with_reducible rfl)
        simp only [Act.put, List.setIfInBounds_toArray, List.set_cons_zero, List.set_cons_succ]
        refine wpAnyH_take (i := 21) (oi := { dst := some 28, op := Op.indexAddr 35 (Operand.tmp 25) (Operand.tmp 27), type := 0, pos := "store.go:36", after := #[{ on := 18, ground := Ground.data }, { on := 20, ground := Ground.data }, { on := 12, ground := Ground.guard }], guard := some (12, false) }) (v := ?_) rfl (by kernel_rfl) (by kernel_rfl) (by kernel_rfl) (fun _ _ _ h => h) (Or.inl ⟨by rfl, ?_⟩) (by assumption) ?_
        rotate_left
        · (intro w hSw; (try dsimp only at hSw); go_simp; try with_reducible rfl)
        simp only [Act.put, List.setIfInBounds_toArray, List.set_cons_zero, List.set_cons_succ]
        refine wpAnyH_take (i := 22) (oi := { dst := some 29, op := Op.load 27 (Operand.tmp 28), type := 27, pos := "store.go:36", after := #[{ on := 21, ground := Ground.data }, { on := 12, ground := Ground.guard }], guard := some (12, false) }) (v := ?_) rfl (by kernel_rfl) (by kernel_rfl) (by kernel_rfl) (fun _ _ _ h => h) (Or.inl ⟨by rfl, ?_⟩) (by assumption) ?_
        rotate_left
        · (intro w hSw; (try dsimp only at hSw); go_simp; try with_reducible rfl)
        simp only [Act.put, List.setIfInBounds_toArray, List.set_cons_zero, List.set_cons_succ]
        refine wpAnyH_take (i := 23) (oi := { dst := some 30, op := Op.binOp BinOp.leq 27 (Operand.tmp 21) (Operand.tmp 29) 27, type := 4, pos := "store.go:36", after := #[{ on := 14, ground := Ground.data }, { on := 22, ground := Ground.data }, { on := 12, ground := Ground.guard }], guard := some (12, false) }) (v := ?_) rfl (by kernel_rfl) (by kernel_rfl) (by kernel_rfl) (fun _ _ _ h => h) (Or.inl ⟨by rfl, ?_⟩) (by assumption) ?_
        rotate_left
        · (intro w hSw; (try dsimp only at hSw); go_simp; try with_reducible rfl)
        simp only [Act.put, List.setIfInBounds_toArray, List.set_cons_zero, List.set_cons_succ]
        refine wpAnyH_take (i := 24) (oi := { dst := some 31, op := Op.pick (Operand.tmp 19) (Operand.const (Value.bool true)) (Operand.tmp 30), type := 4, pos := "store.go:36", after := #[{ on := 12, ground := Ground.data }, { on := 23, ground := Ground.data }], guard := none }) (v := ?_) rfl (by kernel_rfl) (by kernel_rfl) (by kernel_rfl) (fun _ _ _ h => h) (Or.inl ⟨by rfl, ?_⟩) (by assumption) ?_
        rotate_left
        · (intro w hSw; (try dsimp only at hSw); go_simp; try with_reducible rfl)
        simp only [Act.put, List.setIfInBounds_toArray, List.set_cons_zero, List.set_cons_succ]
        refine wpAnyH_take (i := 25) (oi := { dst := some 32, op := Op.move (Operand.tmp 31), type := 4, pos := "store.go:36", after := #[{ on := 24, ground := Ground.data }, { on := 12, ground := Ground.chain }], guard := none }) (v := ?_) rfl (by kernel_rfl) (by kernel_rfl) (by kernel_rfl) (fun _ _ _ h => h) (Or.inl ⟨by rfl, ?_⟩) (by assumption) ?_
        rotate_left
        · (intro w hSw; (try dsimp only at hSw); go_simp; try with_reducible rfl)
        simp only [Act.put, List.setIfInBounds_toArray, List.set_cons_zero, List.set_cons_succ]
        refine wpAnyH_take (i := 26) (oi := { dst := some 33, op := Op.move (Operand.tmp 0), type := 24, pos := "store.go:36", after := #[{ on := 25, ground := Ground.guard }], guard := some (25, false) }) (v := ?_) rfl (by kernel_rfl) (by kernel_rfl) (by kernel_rfl) (fun _ _ _ h => h) (Or.inl ⟨by rfl, ?_⟩) (by assumption) ?_
        rotate_left
        · (intro w hSw; (try dsimp only at hSw); go_simp; try with_reducible rfl)
        simp only [Act.put, List.setIfInBounds_toArray, List.set_cons_zero, List.set_cons_succ]
        refine wpAnyH_take (i := 27) (oi := { dst := some 34, op := Op.load 29 (Operand.tmp 4), type := 29, pos := "store.go:36", after := #[{ on := 25, ground := Ground.guard }], guard := some (25, false) }) (v := ?_) rfl (by kernel_rfl) (by kernel_rfl) (by kernel_rfl) (fun _ _ _ h => h) (Or.inl ⟨by rfl, ?_⟩) (by assumption) ?_
        rotate_left
        · (intro w hSw; (try dsimp only at hSw); go_simp; try with_reducible rfl)
        simp only [Act.put, List.setIfInBounds_toArray, List.set_cons_zero, List.set_cons_succ]
        refine wpAnyH_ready (rs := [28]) (by kernel_rfl) (by simp) ?_
        refine AllReadyH.cons (o := { dst := some 35, op := Op.buildSlice 22 1 #[(0, Operand.tmp 34)], type := 22, pos := "store.go:36", after := #[{ on := 27, ground := Ground.data }, { on := 25, ground := Ground.guard }], guard := some (25, false) }) rfl (fun K hK => ?_) AllReadyH.nil
        go_simp
        have BB := Aside0.mk (below_alloc BA.out (.cells #[.int .u8 (q : Int), .int .u64 s] tID))
        have XB := Aside0.mk (blk_new wa (.cells #[.int .u8 (q : Int), .int .u64 s] tID))
        have zi0 := pw_cell_below BB.out i0
        have zi1 := pw_cell_below BB.out i1
        have zg3 := pw_cell_below BB.out g3
        have zf0 := pw_cell_below BB.out f0
        refine hK.out _ _ ⟨zi0, zi1, zg3, zf0⟩ (fun hHeld => ?_)
        clear hK K
        try simp only [Act.put, List.setIfInBounds_toArray, List.set_cons_zero, List.set_cons_succ]
        refine wpAnyH_ready (rs := [29]) (by kernel_rfl) (by simp) ?_
        refine AllReadyH.cons (o := { dst := some 36, op := Op.call { callee := Callee.value (Operand.func 12), args := #[Operand.tmp 33, Operand.tmp 35], argTypes := #[24, 22] }, type := 4, pos := "store.go:36", after := #[{ on := 26, ground := Ground.data }, { on := 28, ground := Ground.data }, { on := 25, ground := Ground.chain }, { on := 25, ground := Ground.guard }], guard := some (25, false) }) rfl (fun K hK => ?_) AllReadyH.nil
        go_simp
        go_at_call 12
        refine (HX.out _ BB.out XB.out).mono ?_
        rintro e wc ⟨rfl, hb0⟩
        have BC := Aside0.mk (below_step BB.out hb0)
        clear hb0
        have ci0 := pw_cell_below BC.out i0
        have ci1 := pw_cell_below BC.out i1
        have cg3 := pw_cell_below BC.out g3
        have cf0 := pw_cell_below BC.out f0
        try go_wp2_with fail
        refine hK.out _ _ ⟨ci0, ci1, cg3, cf0⟩ (fun hHeld => ?_)
        clear hK K
        try simp only [Act.put, List.setIfInBounds_toArray, List.set_cons_zero, List.set_cons_succ]
        refine wpAnyH_take (i := 30) (oi := { dst := some 37, op := Op.pick (Operand.tmp 32) (Operand.const (Value.bool true)) (Operand.tmp 36), type := 4, pos := "store.go:36", after := #[{ on := 25, ground := Ground.data }, { on := 29, ground := Ground.data }], guard := none }) (v := ?_) rfl (by kernel_rfl) (by kernel_rfl) (by kernel_rfl) (fun _ _ _ h => h) (Or.inl ⟨by rfl, ?_⟩) (by assumption) ?_
        rotate_left
        · (intro w hSw; (try dsimp only at hSw); go_simp; try with_reducible rfl)
        simp only [Act.put, List.setIfInBounds_toArray, List.set_cons_zero, List.set_cons_succ]
        refine wpAnyH_take (i := 31) (oi := { dst := some 38, op := Op.move (Operand.tmp 37), type := 4, pos := "store.go:36", after := #[{ on := 30, ground := Ground.data }, { on := 29, ground := Ground.chain }], guard := none }) (v := ?_) rfl (by kernel_rfl) (by kernel_rfl) (by kernel_rfl) (fun _ _ _ h => h) (Or.inl ⟨by rfl, ?_⟩) (by assumption) ?_
        rotate_left
        · (intro w hSw; (try dsimp only at hSw); go_simp; try with_reducible rfl)
        simp only [Act.put, List.setIfInBounds_toArray, List.set_cons_zero, List.set_cons_succ]
        refine wpAnyH_take (i := 32) (oi := { dst := some 39, op := Op.move (Operand.tmp 2), type := 30, pos := "store.go:36", after := #[{ on := 31, ground := Ground.guard }], guard := some (31, false) }) (v := undef) rfl (by kernel_rfl) (by kernel_rfl) (by kernel_rfl) (fun _ _ _ h => h) (Or.inr ⟨by rfl, rfl⟩) (by assumption) ?_
        simp only [Act.put, List.setIfInBounds_toArray, List.set_cons_zero, List.set_cons_succ]
        refine wpAnyH_take (i := 33) (oi := { dst := some 40, op := Op.call { callee := Callee.builtin Builtin.len, args := #[Operand.tmp 39], argTypes := #[30] }, type := 3, pos := "store.go:36", after := #[{ on := 32, ground := Ground.data }, { on := 31, ground := Ground.guard }], guard := some (31, false) }) (v := undef) rfl (by kernel_rfl) (by kernel_rfl) (by kernel_rfl) (fun _ _ _ h => h) (Or.inr ⟨by rfl, rfl⟩) (by assumption) ?_
        simp only [Act.put, List.setIfInBounds_toArray, List.set_cons_zero, List.set_cons_succ]
        refine wpAnyH_take (i := 34) (oi := { dst := some 41, op := Op.move (Operand.tmp 0), type := 24, pos := "store.go:36", after := #[{ on := 31, ground := Ground.guard }], guard := some (31, false) }) (v := undef) rfl (by kernel_rfl) (by kernel_rfl) (by kernel_rfl) (fun _ _ _ h => h) (Or.inr ⟨by rfl, rfl⟩) (by assumption) ?_
        simp only [Act.put, List.setIfInBounds_toArray, List.set_cons_zero, List.set_cons_succ]
        refine wpAnyH_take (i := 35) (oi := { dst := some 42, op := Op.nilCheck (Operand.tmp 41), type := 0, pos := "store.go:36", after := #[{ on := 34, ground := Ground.data }, { on := 31, ground := Ground.guard }], guard := some (31, false) }) (v := undef) rfl (by kernel_rfl) (by kernel_rfl) (by kernel_rfl) (fun _ _ _ h => h) (Or.inr ⟨by rfl, rfl⟩) (by assumption) ?_
        simp only [Act.put, List.setIfInBounds_toArray, List.set_cons_zero, List.set_cons_succ]
        refine wpAnyH_take (i := 36) (oi := { dst := some 43, op := Op.fieldAddr 56 (Operand.tmp 42) 0, type := 0, pos := "store.go:36", after := #[{ on := 35, ground := Ground.data }, { on := 31, ground := Ground.guard }], guard := some (31, false) }) (v := undef) rfl (by kernel_rfl) (by kernel_rfl) (by kernel_rfl) (fun _ _ _ h => h) (Or.inr ⟨by rfl, rfl⟩) (by assumption) ?_
        simp only [Act.put, List.setIfInBounds_toArray, List.set_cons_zero, List.set_cons_succ]
        refine wpAnyH_take (i := 37) (oi := { dst := some 44, op := Op.load 3 (Operand.tmp 43), type := 3, pos := "store.go:36", after := #[{ on := 36, ground := Ground.data }, { on := 31, ground := Ground.guard }], guard := some (31, false) }) (v := undef) rfl (by kernel_rfl) (by kernel_rfl) (by kernel_rfl) (fun _ _ _ h => h) (Or.inr ⟨by rfl, rfl⟩) (by assumption) ?_
        simp only [Act.put, List.setIfInBounds_toArray, List.set_cons_zero, List.set_cons_succ]
        refine wpAnyH_take (i := 38) (oi := { dst := some 45, op := Op.move (Operand.tmp 0), type := 24, pos := "store.go:36", after := #[{ on := 31, ground := Ground.guard }], guard := some (31, false) }) (v := undef) rfl (by kernel_rfl) (by kernel_rfl) (by kernel_rfl) (fun _ _ _ h => h) (Or.inr ⟨by rfl, rfl⟩) (by assumption) ?_
        simp only [Act.put, List.setIfInBounds_toArray, List.set_cons_zero, List.set_cons_succ]
        refine wpAnyH_take (i := 39) (oi := { dst := some 46, op := Op.nilCheck (Operand.tmp 45), type := 0, pos := "store.go:36", after := #[{ on := 38, ground := Ground.data }, { on := 31, ground := Ground.guard }], guard := some (31, false) }) (v := undef) rfl (by kernel_rfl) (by kernel_rfl) (by kernel_rfl) (fun _ _ _ h => h) (Or.inr ⟨by rfl, rfl⟩) (by assumption) ?_
        simp only [Act.put, List.setIfInBounds_toArray, List.set_cons_zero, List.set_cons_succ]
        refine wpAnyH_take (i := 40) (oi := { dst := some 47, op := Op.fieldAddr 56 (Operand.tmp 46) 1, type := 0, pos := "store.go:36", after := #[{ on := 39, ground := Ground.data }, { on := 31, ground := Ground.guard }], guard := some (31, false) }) (v := undef) rfl (by kernel_rfl) (by kernel_rfl) (by kernel_rfl) (fun _ _ _ h => h) (Or.inr ⟨by rfl, rfl⟩) (by assumption) ?_
        simp only [Act.put, List.setIfInBounds_toArray, List.set_cons_zero, List.set_cons_succ]
        refine wpAnyH_take (i := 41) (oi := { dst := some 48, op := Op.load 3 (Operand.tmp 47), type := 3, pos := "store.go:36", after := #[{ on := 40, ground := Ground.data }, { on := 31, ground := Ground.guard }], guard := some (31, false) }) (v := undef) rfl (by kernel_rfl) (by kernel_rfl) (by kernel_rfl) (fun _ _ _ h => h) (Or.inr ⟨by rfl, rfl⟩) (by assumption) ?_
        simp only [Act.put, List.setIfInBounds_toArray, List.set_cons_zero, List.set_cons_succ]
        refine wpAnyH_take (i := 42) (oi := { dst := some 49, op := Op.binOp BinOp.sub 3 (Operand.tmp 44) (Operand.tmp 48) 3, type := 3, pos := "store.go:36", after := #[{ on := 37, ground := Ground.data }, { on := 41, ground := Ground.data }, { on := 31, ground := Ground.guard }], guard := some (31, false) }) (v := undef) rfl (by kernel_rfl) (by kernel_rfl) (by kernel_rfl) (fun _ _ _ h => h) (Or.inr ⟨by rfl, rfl⟩) (by assumption) ?_
        simp only [Act.put, List.setIfInBounds_toArray, List.set_cons_zero, List.set_cons_succ]
        refine wpAnyH_take (i := 43) (oi := { dst := some 50, op := Op.binOp BinOp.gtr 3 (Operand.tmp 40) (Operand.tmp 49) 3, type := 4, pos := "store.go:36", after := #[{ on := 33, ground := Ground.data }, { on := 42, ground := Ground.data }, { on := 31, ground := Ground.guard }], guard := some (31, false) }) (v := undef) rfl (by kernel_rfl) (by kernel_rfl) (by kernel_rfl) (fun _ _ _ h => h) (Or.inr ⟨by rfl, rfl⟩) (by assumption) ?_
        simp only [Act.put, List.setIfInBounds_toArray, List.set_cons_zero, List.set_cons_succ]
        refine wpAnyH_take (i := 44) (oi := { dst := some 51, op := Op.pick (Operand.tmp 38) (Operand.const (Value.bool true)) (Operand.tmp 50), type := 4, pos := "store.go:36", after := #[{ on := 31, ground := Ground.data }, { on := 43, ground := Ground.data }], guard := none }) (v := ?_) rfl (by kernel_rfl) (by kernel_rfl) (by kernel_rfl) (fun _ _ _ h => h) (Or.inl ⟨by rfl, ?_⟩) (by assumption) ?_
        rotate_left
        · (intro w hSw; (try dsimp only at hSw); go_simp; try with_reducible rfl)
        simp only [Act.put, List.setIfInBounds_toArray, List.set_cons_zero, List.set_cons_succ]
        refine wpAnyH_done (by kernel_rfl) ?_ _
        have SN := Aside0.mk ((HS.out.below (below_step B1.out BC.out)).mono (S' := fun k => S k ∨ w.heap.size ≤ k) (fun k hk => .inl hk))
        have BN : Aside0 (Beside S w _) := ⟨Beside.of_below S (below_step B1.out BC.out)⟩
        go_wp2_with fail
        go_ret
        refine ⟨congrArg (fun z : Bool => Ending.returned (.bool z)) FITS.out.symm, .slice none 0 0, H, ?_, ?_, BN.out⟩
        · rw [FITS.out]; exact SN.out
        · rw [FITS.out]; exact HT.out
      | false =>
        have HX : Aside0 (∀ W : World, Below w1.heap.size w1 (W.alloc (.cells #[.int .u8 (q : Int), .int .u64 s] tID)) → (W.alloc (.cells #[.int .u8 (q : Int), .int .u64 s] tID)).heap[W.heap.size]? = some (.cells #[.int .u8 (q : Int), .int .u64 s] tID (0, 0)) → Calls Try.prog 12 #[.pointer (some ⟨g, 0, none⟩), .slice (some ⟨W.heap.size, 0, none⟩) 1 1] (W.alloc (.cells #[.int .u8 (q : Int), .int .u64 s] tID)) fun e w' => e = .returned (.bool false) ∧ Below (W.alloc (.cells #[.int .u8 (q : Int), .int .u64 s] tID)).heap.size (W.alloc (.cells #[.int .u8 (q : Int), .int .u64 s] tID)) w') := ⟨fun W hW hX => by
          have := Has1_calls (HS.out.below (below_step B1.out hW)) IDR.out hX
          rwa [hh] at this⟩
        obtain ⟨ru, hru⟩ : ∃ ru, ru = room - usedE E := ⟨_, rfl⟩
        have hwr : IntKind.i64.wrap (room - (usedE E : Int)) = ru := by rw [IntKind.wrap_i64, hru]; omega
        have HH := Aside0.mk hh
        have HRU := Aside0.mk hru
        clear hh hru
        by_cases hlen : (p.length : Int) > ru
        · have hlen2 : decide ((p.length : Int) > ru) = true := decide_eq_true hlen
          have FITS : Aside0 (fits n room E F ((q : Int), s) p = false) := ⟨by unfold fits; rw [← HRU.out, show decide ((p.length : Int) ≤ ru) = false from decide_eq_false (by omega)]; simp⟩
          clear hsf
          go_region_held3 (fun w' => w'.cell? ⟨b, 0, none⟩ = some (.int .u8 (q : Int)) ∧ w'.cell? ⟨b, 1, none⟩ = some (.int .u64 s) ∧ w'.cell? ⟨g, 3, none⟩ = some (.slice (some ⟨fb, 0, none⟩) n n) ∧ w'.cell? ⟨fb, q, none⟩ = some (.int .u64 fq) ∧ w'.cell? ⟨g, 0, none⟩ = some (.int .i64 room) ∧ w'.cell? ⟨g, 1, none⟩ = some (.int .i64 (usedE E))) (go_keep)
            ((first
              | (go_at_call 26; refine (ident_May.calls (q : Int) s (n : Int) true _ MAY.out).mono ?_; rintro e wa ⟨rfl, hb0⟩; have BA := Aside0.mk (below_step (below_drew (Below.refl w1.heap.size w1)) hb0); clear hb0; have ai0 := pw_cell_below BA.out i0; have ai1 := pw_cell_below BA.out i1; have ag3 := pw_cell_below BA.out g3; have af0 := pw_cell_below BA.out f0; have ag0 := pw_cell_below BA.out g0; have ag1 := pw_cell_below BA.out g1; skip)
              | (go_at_call 12; have BB := Aside0.mk (below_alloc BA.out (.cells #[.int .u8 (q : Int), .int .u64 s] tID)); have XB := Aside0.mk (blk_new wa (.cells #[.int .u8 (q : Int), .int .u64 s] tID)); refine (HX.out _ BB.out XB.out).mono ?_; rintro e wc ⟨rfl, hb0⟩; have BC := Aside0.mk (below_step BB.out hb0); clear hb0; have ci0 := pw_cell_below BC.out i0; have ci1 := pw_cell_below BC.out i1; have cg3 := pw_cell_below BC.out g3; have cf0 := pw_cell_below BC.out f0; have cg0 := pw_cell_below BC.out g0; have cg1 := pw_cell_below BC.out g1; skip)))
          have SN := Aside0.mk ((HS.out.below (below_step B1.out BC.out)).mono (S' := fun k => S k ∨ w.heap.size ≤ k) (fun k hk => .inl hk))
          have BN : Aside0 (Beside S w _) := ⟨Beside.of_below S (below_step B1.out BC.out)⟩
          go_wp2_with fail
          go_ret
          refine ⟨congrArg (fun z : Bool => Ending.returned (.bool z)) FITS.out.symm, .slice none 0 0, H, ?_, ?_, BN.out⟩
          · rw [FITS.out]; exact SN.out
          · rw [FITS.out]; exact HT.out
        · have hlen2 : decide ((p.length : Int) > ru) = false := decide_eq_false hlen
          have FITS : Aside0 (fits n room E F ((q : Int), s) p = true) := ⟨by unfold fits; rw [HM.out, GF.out, HH.out, ← HRU.out, show decide (fq < (((q : Int), s) : Ix).2) = true from decide_eq_true (by show fq < s; omega), show decide ((p.length : Int) ≤ ru) = true from decide_eq_true (by omega)]; rfl⟩
          go_region_held3 (fun w' => w'.cell? ⟨b, 0, none⟩ = some (.int .u8 (q : Int)) ∧ w'.cell? ⟨b, 1, none⟩ = some (.int .u64 s) ∧ w'.cell? ⟨g, 3, none⟩ = some (.slice (some ⟨fb, 0, none⟩) n n) ∧ w'.cell? ⟨fb, q, none⟩ = some (.int .u64 fq) ∧ w'.cell? ⟨g, 0, none⟩ = some (.int .i64 room) ∧ w'.cell? ⟨g, 1, none⟩ = some (.int .i64 (usedE E))) (go_keep)
            ((first
              | (go_at_call 26; refine (ident_May.calls (q : Int) s (n : Int) true _ MAY.out).mono ?_; rintro e wa ⟨rfl, hb0⟩; have BA := Aside0.mk (below_step (below_drew (Below.refl w1.heap.size w1)) hb0); clear hb0; have ai0 := pw_cell_below BA.out i0; have ai1 := pw_cell_below BA.out i1; have ag3 := pw_cell_below BA.out g3; have af0 := pw_cell_below BA.out f0; have ag0 := pw_cell_below BA.out g0; have ag1 := pw_cell_below BA.out g1; skip)
              | (go_at_call 12; have BB := Aside0.mk (below_alloc BA.out (.cells #[.int .u8 (q : Int), .int .u64 s] tID)); have XB := Aside0.mk (blk_new wa (.cells #[.int .u8 (q : Int), .int .u64 s] tID)); refine (HX.out _ BB.out XB.out).mono ?_; rintro e wc ⟨rfl, hb0⟩; have BC := Aside0.mk (below_step BB.out hb0); clear hb0; have ci0 := pw_cell_below BC.out i0; have ci1 := pw_cell_below BC.out i1; have cg3 := pw_cell_below BC.out g3; have cf0 := pw_cell_below BC.out f0; have cg0 := pw_cell_below BC.out g0; have cg1 := pw_cell_below BC.out g1; skip)))
          clear ci0 ci1 cg3 cf0 cg0 cg1 ai0 ai1 ag3 af0 ag0 ag1 i0 i1 g3 f0 g0 g1
          have BW := Aside0.mk (below_step B1.out BC.out)
          have NS := Aside0.mk (HS.out.below BW.out)
          have ND := Aside0.mk (NS.out.below (below_drew (Below.refl _ _)))
          have XW := Aside0.mk (blk_below BX.out BC.out)
          have CL := Aside0.mk (slices_Clone_byte_byte.calls A c p p wc.drew (Kd.C_below HP.out (below_drew BW.out)) hc (by unfold slices_Clone_byte_byte.f; rw [if_pos (by omega)]))
          have OKX : Aside0 (okE n ((q : Int), s)) := ⟨⟨by show (0 : Int) ≤ q ∧ (q : Int) < n; omega, hsx⟩⟩
          have UR : Aside0 ((usedE E + p.length : Int) ≤ room) := ⟨by have := HRU.out; omega⟩
          have MBB : Aside0 (b ≠ mb) := ⟨by rw [BE.out]; have := HS.out.map.lt; omega⟩
          have GBB : Aside0 (b ≠ g) := ⟨by rw [BE.out]; have := blk_lt HS.out.blk; omega⟩
          have g2 := NS.out.c2
          have i0 : wc.cell? ⟨b, 0, none⟩ = some (.int .u8 (q : Int)) := (blk_cell XW.out 0).trans rfl
          have i1 : wc.cell? ⟨b, 1, none⟩ = some (.int .u64 s) := (blk_cell XW.out 1).trans rfl
          have hwu : IntKind.i64.wrap ((usedE E : Int) + (p.length : Int)) = ((usedE E : Int) + (p.length : Int)) := by rw [IntKind.wrap_i64]; have := UR.out; omega
          have hcq : IntKind.i64.wrap (q : Int) = (q : Int) := by rw [IntKind.wrap_i64]; omega
          go_wp2_with fail
          go_region_held3 (fun w' => w'.cell? ⟨g, 2, none⟩ = some (.map (some mb)) ∧ w'.cell? ⟨b, 0, none⟩ = some (.int .u8 (q : Int)) ∧ w'.cell? ⟨b, 1, none⟩ = some (.int .u64 s)) (go_keep)
            ((go_at_call 27; refine CL.out.mono ?_; rintro e w4 ⟨v, rfl, hR4, hb4⟩; obtain ⟨w5, hup, hg5, hB5, hS5, hBS5⟩ := ND.out.push (x := ((q : Int), s)) OKX.out IDR.out HH.out UR.out hR4 hb4; have G5 := Aside0.mk hg5; have S5 := Aside0.mk hS5; have BS5 := Aside0.mk hBS5; have X4 := Aside0.mk (blk_below XW.out (below_step (below_drew (Below.refl _ _)) hb4)); have X5 : Aside0 (w5.heap[b]? = some (.cells #[.int .u8 (q : Int), .int .u64 s] tID (0, 0))) := ⟨(hB5.block b (blk_lt X4.out) MBB.out).trans X4.out⟩; have y2 : w4.cell? ⟨g, 2, none⟩ = some (.map (some mb)) := pw_cell_below (below_step (below_drew (Below.refl _ _)) hb4) g2; have y0 : w4.cell? ⟨b, 0, none⟩ = some (.int .u8 (q : Int)) := (blk_cell X4.out 0).trans rfl; have y1 : w4.cell? ⟨b, 1, none⟩ = some (.int .u64 s) := (blk_cell X4.out 1).trans rfl; have z2 : w5.cell? ⟨g, 2, none⟩ = some (.map (some mb)) := (blk_cell G5.out 2).trans rfl; have z0 : w5.cell? ⟨b, 0, none⟩ = some (.int .u8 (q : Int)) := (blk_cell X5.out 0).trans rfl; have z1 : w5.cell? ⟨b, 1, none⟩ = some (.int .u64 s) := (blk_cell X5.out 1).trans rfl; clear hR4 hb4 hg5 hB5 hS5 hBS5))
          have u1 : w5.cell? ⟨g, 1, none⟩ = some (.int .i64 (usedE E)) := (blk_cell G5.out 1).trans rfl
          have uz := blk_frozen G5.out 1
          have X6 : Aside0 ((w5.setCell ⟨g, 1, none⟩ (.int .i64 ((usedE E : Int) + (p.length : Int)))).heap[b]? = some (.cells #[.int .u8 (q : Int), .int .u64 s] tID (0, 0))) := ⟨(Below.heap_setCell _ _ _ _ GBB.out).trans X5.out⟩
          clear y0 y1 y2 z0 z1 z2 g2 i0 i1 hup
          go_upto_region 5 with (fail)
          generalize w5.setCell ⟨g, 1, none⟩ (.int .i64 ((usedE E : Int) + (p.length : Int))) = w6 at S5 BS5 X6 ⊢
          have j0 : w6.cell? ⟨b, 0, none⟩ = some (.int .u8 (q : Int)) := (blk_cell X6.out 0).trans rfl
          obtain ⟨hh0, hhq⟩ : ∃ hh0, H[q]? = some hh0 := ⟨_, List.getElem?_eq_getElem (by have := HS.out.lh; omega)⟩
          have RC := Aside0.mk (rise_calls S5.out q fq hh0 HFQ.out hhq (fun s' a1 a2 => by rw [hasE_snoc, (HT.out q fq hh0 HFQ.out hhq).all s' a1 a2]; rfl))
          clear hhq u1 uz
          go_wp2_with fail
          refine RC.out.mono ?_
          rintro e w7 ⟨rfl, t, hTP, _, hS7, hB7⟩
          have TP := Aside0.mk (HT.out.push HFQ.out hTP)
          have hz1 := BS5.out.size
          have hz2 := BW.out.size
          have S7 := Aside0.mk (hS7.mono (S' := fun k => S k ∨ w.heap.size ≤ k) (fun k hk => by
            rcases hk with (hk | hk) | hk
            · exact .inl hk
            · exact .inr (Nat.le_trans hz2 hk)
            · exact .inr (by have hz3 : wc.drew.heap.size = wc.heap.size := rfl; omega)))
          have B7 : Aside0 (Beside S w w7) := ⟨((Beside.of_below S BW.out).drew.trans BS5.out).then_ hB7 (fun k hk => hk.elim .inl (fun h => .inr (Nat.le_trans hz2 h)))⟩
          clear hTP hS7 hB7 RC hz1 hz2
          go_wp2_with fail
          go_ret
          refine ⟨congrArg (fun z : Bool => Ending.returned (.bool z)) FITS.out.symm, v, H.set q t, ?_, ?_, B7.out⟩
          · rw [FITS.out]; exact S7.out
          · rw [FITS.out]; exact TP.out
end

end Go.Proofs.Ytpdglodfgikfkaa.Walk
