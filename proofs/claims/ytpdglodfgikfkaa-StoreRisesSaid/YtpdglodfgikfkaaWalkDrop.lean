/- Drop. Conditions: none beyond the statement's own. -/
import Derived.Test.YtpdglodfgikfkaaWalkHeldZ
import Derived.Test.YtpdglodfgikfkaaArgs
import Derived.Deep.QuietTactic
import Derived.BigQuiet
import Derived.Lib.QuietBelow
import Derived.Outline
import Derived.Deep.RegionHeld3
import Derived.Deep.CutRange
namespace Go.Proofs.Ytpdglodfgikfkaa.Walk
open Go.RowKit Go.Proofs.Ytpdglodfgikfkaa.F Go.Proofs.YtpdglodfgikfkaaW.PrintWords Go.Proofs.YtpdglodfgikfkaaW.PrintLast Go.Proofs.YtpdglodfgikfkaaW.PrintMore Go.Proofs.Ytpdglodfgikfkaa.Open
open Go.Sort (grow)
attribute [local go_sem] max2_int min2_int max_two min_two max_three min_three max_four min_four
set_option linter.unusedVariables false
set_option linter.unusedSimpArgs false

/-! ### Drop -/
section
variable {w : World} {S : Nat → Prop} {g mb fb hb n : Nat} {room : Int} {E : Es} {F H : List Int}
/-- A floor is written. -/
theorem St.floor (h : St w S g mb fb hb n room E F H) (i : Nat) (x : Int) (hx : 0 ≤ x ∧ x ≤ 4611686018427387904) : St (w.setCell ⟨fb, i, none⟩ (.int .u64 x)) S g mb fb hb n room E (F.set i x) H ∧ Beside S w (w.setCell ⟨fb, i, none⟩ (.int .u64 x)) := by
  have hB := (Beside.refl (fun k => k = fb) w).setCell (p := ⟨fb, i, none⟩) rfl (.int .u64 x)
  have hn := h.ne
  refine ⟨⟨h.S_g, h.S_m, h.S_f, h.S_h, h.ne, h.n1, h.n2, h.r0, h.us, by simpa using h.lf, h.lh, fun y hy => ?_, h.uh, h.ks, (hB.block g (blk_lt h.blk) (by omega)).trans h.blk, blk_put h.fblk i _ (u64c_set F i x), (hB.block hb (blk_lt h.hblk) (by omega)).trans h.hblk, h.map.beside hB (by omega), fun e he => Kd.R_far (p := ⟨fb, i, none⟩) (h.pays e he) (fun k hk => hk.2.2.2.1) _⟩, (Beside.refl S w).setCell (p := ⟨fb, i, none⟩) h.S_f _⟩
  rcases List.mem_or_eq_of_mem_set hy with hy | rfl
  · exact h.uf y hy
  · exact hx
end
def capq (m : Int) : Int := if 4611686018427387904 < m then 4611686018427387904 else m
def fl1 (f m : Int) : Int := if f < capq m then capq m else f
theorem fl1_ge (f m : Int) : f ≤ fl1 f m := by unfold fl1; split <;> omega
theorem fl1_ok {f m : Int} (h : 0 ≤ f ∧ f ≤ 4611686018427387904) : 0 ≤ fl1 f m ∧ fl1 f m ≤ 4611686018427387904 := by unfold fl1 capq; split <;> split <;> omega
def floK (M F : List Int) (k : Nat) : List Int := F.mapIdx fun j f => if j < k then fl1 f (rd M j) else f
def flo (M F : List Int) : List Int := F.mapIdx fun j f => fl1 f (rd M j)
theorem floK_zero (M F : List Int) : floK M F 0 = F := by
  unfold floK
  apply List.ext_getElem?
  intro j
  rw [List.getElem?_mapIdx]
  cases F[j]? <;> simp
theorem floK_full (M F : List Int) : floK M F F.length = flo M F := by
  unfold floK flo
  apply List.ext_getElem?
  intro j
  rw [List.getElem?_mapIdx, List.getElem?_mapIdx]
  cases h : F[j]? with
  | none => rfl
  | some f =>
    have := (List.getElem?_eq_some_iff.1 h).1
    simp [this]
theorem floK_at {M F : List Int} {i : Nat} {f : Int} (h : F[i]? = some f) : (floK M F i)[i]? = some f := by
  unfold floK
  rw [List.getElem?_mapIdx, h]
  simp
theorem floK_set {M F : List Int} {i : Nat} {f : Int} (h : F[i]? = some f) : (floK M F i).set i (fl1 f (rd M i)) = floK M F (i + 1) := by
  apply List.ext_getElem?
  intro j
  have hi := (List.getElem?_eq_some_iff.1 h).1
  by_cases e : i = j
  · subst e
    rw [List.getElem?_set_self (by unfold floK; simpa using hi)]
    unfold floK
    rw [List.getElem?_mapIdx, h]
    simp
  · rw [List.getElem?_set_ne e]
    unfold floK
    rw [List.getElem?_mapIdx, List.getElem?_mapIdx]
    cases F[j]? with
    | none => rfl
    | some y =>
      have : (j < i) = (j < i + 1) := propext (by omega)
      simp only [Option.map_some, this]
theorem flo_len (M F : List Int) : (flo M F).length = F.length := by unfold flo; simp
theorem flo_at {M F : List Int} {i : Nat} {f : Int} (h : F[i]? = some f) : (flo M F)[i]? = some (fl1 f (rd M i)) := by
  unfold flo
  rw [List.getElem?_mapIdx, h]
  rfl
theorem keep_has {E : Es} {F : List Int} {i : Nat} {s f : Int} (hf : F[i]? = some f) (h : f < s) : hasE (E.filter (keepE F)) ((i : Int), s) = hasE E ((i : Int), s) := by
  have hk : ∀ v, keepE F (((i : Int), s), v) = true := fun v => by
    unfold keepE
    dsimp only
    rw [Int.toNat_natCast, List.getD_eq_getElem?_getD, hf]
    exact decide_eq_true h
  unfold hasE
  cases hm : mlk E ((i : Int), s) with
  | some v =>
    have h1 := List.mem_filter.2 ⟨mlk_some hm, hk v⟩
    cases hm2 : mlk (E.filter (keepE F)) ((i : Int), s) with
    | some _ => rfl
    | none => exact absurd rfl (mlk_none hm2 _ h1)
  | none =>
    cases hm2 : mlk (E.filter (keepE F)) ((i : Int), s) with
    | none => rfl
    | some v => exact absurd rfl (mlk_none hm _ (List.mem_filter.1 (mlk_some hm2)).1)
section
variable {w : World} {S : Nat → Prop} {g mb fb hb n : Nat} {room : Int} {E : Es} {F H : List Int}
abbrev kRows : Kd (List Int) := Kd.slice tU kU
/-- Behind the floors: what is held rises, sender for sender. -/
def RunE (E : Es) (F H : List Int) (k : Nat) : Prop := ∀ (j : Nat) (f h : Int), F[j]? = some f → H[j]? = some h → (∀ s, f < s → s ≤ h → hasE E ((j : Int), s) = true) ∧ (j < k → IsTop E j f h)
theorem RunE.tops {k : Nat} (h : RunE E F H k) (hk : F.length ≤ k) : Tops E F H := fun i f h0 hf hh => (h i f h0 hf hh).2 (by have := (List.getElem?_eq_some_iff.1 hf).1; omega)
theorem RunE.set {k : Nat} {f t : Int} (h : RunE E F H k) (hf : F[k]? = some f) (ht : IsTop E k f t) : RunE E F (H.set k t) (k + 1) := by
  intro j f' h' hf' hh'
  by_cases e : k = j
  · subst e
    have hl : k < H.length := by
      have := (List.getElem?_eq_some_iff.1 hh').1
      simpa using this
    rw [List.getElem?_set_self hl] at hh'
    obtain rfl := Option.some.inj hh'
    rw [hf] at hf'
    obtain rfl := Option.some.inj hf'
    exact ⟨ht.all, fun _ => ht⟩
  · rw [List.getElem?_set_ne e] at hh'
    obtain ⟨h1, h2⟩ := h j f' h' hf' hh'
    exact ⟨h1, fun hj => h2 (by omega)⟩
theorem Tops.run {M : List Int} (h : Tops E F H) : RunE (E.filter (keepE (flo M F))) (flo M F) H 0 := by
  intro j f' h' hf' hh'
  refine ⟨fun s h1 h2 => ?_, fun hj => absurd hj (Nat.not_lt_zero _)⟩
  have hj : j < F.length := by
    have := (List.getElem?_eq_some_iff.1 hf').1
    rwa [flo_len] at this
  have hF := List.getElem?_eq_getElem hj
  rw [flo_at hF] at hf'
  obtain rfl := Option.some.inj hf'
  rw [keep_has (flo_at hF) h1]
  exact (h j _ h' hF hh').all s (by have := fl1_ge F[j] (rd M (j : Int)); omega) h2
set_option maxHeartbeats 8000000 in
set_option maxRecDepth 100000 in
theorem Drop_calls {A : Option Addr} {c : Nat} (h : St w S g mb fb hb n room E F H) (ht : Tops E F H) (hS : ∀ k, S k → k < w.heap.size) (l : List (List Int)) (hr : Kd.C kRows w A l.length l) (hc : l.length ≤ c) (hok : okV l) (M : List Int) (hM : M = foldAll mx l) (hE : E.length ≤ 1000000) :
    Calls Try.prog 18 #[.pointer (some ⟨g, 0, none⟩), .slice A l.length c] w fun e w' => e = .returned (.int .i64 ((E.length : Int) - ((E.filter (keepE (flo M F))).length : Int))) ∧ ∃ H',
      St w' (fun k => S k ∨ w.heap.size ≤ k) g mb fb hb n room (E.filter (keepE (flo M F))) (flo M F) H' ∧ Tops (E.filter (keepE (flo M F))) (flo M F) H' ∧ Beside S w w' := by
  have HS := Aside0.mk h
  have RUN := Aside0.mk (ht.run (M := M))
  have SB := Aside0.mk hS
  have B1 := Aside0.mk (below_alloc (Below.refl w.heap.size w) (.cells #[.pointer (some ⟨g, 0, none⟩)] 24))
  have X1 := Aside0.mk (blk_new w (.cells #[.pointer (some ⟨g, 0, none⟩)] 24))
  have VM := Aside0.mk (vec_Max.calls A c l M _ (Kd.C_below hr B1.out) hc (by rw [hM]; exact if_pos hok))
  have hn64 := h.n2
  have hn1 := h.n1
  have NS : Aside0 (¬ S w.heap.size) := ⟨fun hk => by have := hS _ hk; omega⟩
  clear h ht hS hr hM hok
  go_enter Try.func18, Try.ntmps18
  go_upto_region 1 with (fail)
  generalize w.alloc (.cells #[.pointer (some ⟨g, 0, none⟩)] 24) = w1 at B1 X1 VM ⊢
  have S1 := Aside0.mk (HS.out.below B1.out)
  have hb0 := Aside0.mk (Nat.le_refl w.heap.size)
  generalize hb0e : w.heap.size = b0 at X1 NS hb0 ⊢
  have B0E := Aside0.mk hb0e
  clear hb0e
  have bx : w1.cell? ⟨b0, 0, none⟩ = some (.pointer (some ⟨g, 0, none⟩)) := (blk_cell X1.out 0).trans rfl
  go_wp2_with fail
  refine VM.out.mono ?_
  rintro e w2 ⟨v, rfl, hR, hbw⟩
  obtain ⟨Am, cm, rfl⟩ := Kd.R_slice hR
  have R2 := Aside0.mk hR
  have S2 := Aside0.mk (S1.out.below hbw)
  have B2 := Aside0.mk (below_step B1.out hbw)
  have X2 := Aside0.mk (blk_below X1.out hbw)
  have SZ1 := Aside0.mk B1.out.size
  clear hR hbw VM bx S1 B1 X1
  have bx : w2.cell? ⟨b0, 0, none⟩ = some (.pointer (some ⟨g, 0, none⟩)) := (blk_cell X2.out 0).trans rfl
  have g3 := S2.out.c3
  go_wp2_with fail
  clear bx g3
  have S20 : Aside0 (St w2 S g mb fb hb n room E (floK M F 0) H) := ⟨by rw [floK_zero]; exact S2.out⟩
  have BE0 : Aside0 (Beside S w2 w2) := ⟨Beside.refl S w2⟩
  go_loopg [18] n (fun gg s18 wr => ∃ i : Nat, s18 = .int .i64 i ∧ i ≤ n ∧ n - i ≤ gg ∧ Aside0 (St wr S g mb fb hb n room E (floK M F i) H) ∧ Aside0 (Beside S w2 wr))
  case atStart => exact ⟨0, rfl, Nat.zero_le _, by omega, S20, BE0⟩
  case round =>
    clear S20 BE0
    obtain ⟨i, rfl, hi, hgg, SI, BI⟩ := hrel
    have X3 := Aside0.mk (BI.out.blk X2.out NS.out)
    have bx : wr.cell? ⟨b0, 0, none⟩ = some (.pointer (some ⟨g, 0, none⟩)) := (blk_cell X3.out 0).trans rfl
    by_cases hlt : i < n
    · have hltz : (i : Int) < (n : Int) := by omega
      have hiF : i < F.length := by have := HS.out.lf; omega
      obtain ⟨f, hf⟩ : ∃ f, f = F[i] := ⟨_, rfl⟩
      have HF : Aside0 (F[i]? = some f) := ⟨by rw [hf]; exact List.getElem?_eq_getElem hiF⟩
      clear hf hiF
      have g3 := SI.out.c3
      have cf : wr.cell? ⟨fb, i, none⟩ = some (.int .u64 f) := (blk_cell SI.out.fblk i).trans (u64c_get (floK_at HF.out))
      have zf : wr.frozen? ⟨fb, i, none⟩ = false := blk_frozen SI.out.fblk i
      have RM := Kd.R_step (Kd.R_bound R2.out) (fun k hk hlt => BI.out.block k hlt (fun h => by have := SB.out k h; have := hk.2.1; have := SZ1.out; omega))
      have CM := Aside0.mk (Kd.R_reads' RM).2
      clear RM
      have UF := Aside0.mk (fl1_ok (m := rd M i) (HS.out.uf f (List.mem_of_getElem? HF.out)))
      have hmin : Builtin.min2 (.int .u64 (rd M i)) (.int .u64 4611686018427387904) = pure (.int .u64 (capq (rd M i))) := by rw [min2_int]; rfl
      have hmax : Builtin.max2 (.int .u64 f) (.int .u64 (capq (rd M i))) = pure (.int .u64 (fl1 f (rd M i))) := by rw [max2_int]; rfl
      have hwi : IntKind.i64.wrap ((i : Int) + 1) = ((i + 1 : Nat) : Int) := by rw [IntKind.wrap_i64]; omega
      go_upto_region 7 with (fail)
      refine wp_region_Z (S := fun w' => w'.cell? ⟨b0, 0, none⟩ = some (.pointer (some ⟨g, 0, none⟩)) ∧ w'.cell? ⟨g, 3, none⟩ = some (.slice (some ⟨fb, 0, none⟩) n n) ∧ w'.cell? ⟨fb, i, none⟩ = some (.int .u64 f) ∧ w'.frozen? ⟨fb, i, none⟩ = false) 18 (by kernel_rfl) (by go_keep) (fun hHeld => ?_)
      refine wpAnyZ_take (i := 0) (oi := { dst := some 21, op := Op.load 24 (Operand.tmp 2), type := 24, pos := "store.go:74", after := #[], guard := none }) (v := ?_) rfl (by kernel_rfl) (by kernel_rfl) (by kernel_rfl) (by kernel_rfl) (fun _ _ _ h => h) (Or.inl ⟨by rfl, ?_⟩) (by assumption) ?_
      rotate_left
      · (intro w hSw; (try dsimp only at hSw); go_simp; try with_reducible rfl)
      simp only [Act.put, List.setIfInBounds_toArray, List.set_cons_zero, List.set_cons_succ]
      refine wpAnyZ_take (i := 1) (oi := { dst := some 22, op := Op.nilCheck (Operand.tmp 21), type := 0, pos := "store.go:74", after := #[{ on := 0, ground := Ground.data }], guard := none }) (v := ?_) rfl (by kernel_rfl) (by kernel_rfl) (by kernel_rfl) (by kernel_rfl) (fun _ _ _ h => h) (Or.inl ⟨by rfl, ?_⟩) (by assumption) ?_
      rotate_left
      · (intro w hSw; (try dsimp only at hSw); go_simp; try with_reducible rfl)
      simp only [Act.put, List.setIfInBounds_toArray, List.set_cons_zero, List.set_cons_succ]
      refine wpAnyZ_take (i := 2) (oi := { dst := some 23, op := Op.fieldAddr 56 (Operand.tmp 22) 3, type := 0, pos := "store.go:74", after := #[{ on := 1, ground := Ground.data }], guard := none }) (v := ?_) rfl (by kernel_rfl) (by kernel_rfl) (by kernel_rfl) (by kernel_rfl) (fun _ _ _ h => h) (Or.inl ⟨by rfl, ?_⟩) (by assumption) ?_
      rotate_left
      · (intro w hSw; (try dsimp only at hSw); go_simp; try with_reducible rfl)
      simp only [Act.put, List.setIfInBounds_toArray, List.set_cons_zero, List.set_cons_succ]
      refine wpAnyZ_take (i := 3) (oi := { dst := some 24, op := Op.load 35 (Operand.tmp 23), type := 35, pos := "store.go:74", after := #[{ on := 2, ground := Ground.data }], guard := none }) (v := ?_) rfl (by kernel_rfl) (by kernel_rfl) (by kernel_rfl) (by kernel_rfl) (fun _ _ _ h => h) (Or.inl ⟨by rfl, ?_⟩) (by assumption) ?_
      rotate_left
      · (intro w hSw; (try dsimp only at hSw); go_simp; try with_reducible rfl)
      simp only [Act.put, List.setIfInBounds_toArray, List.set_cons_zero, List.set_cons_succ]
      refine wpAnyZ_take (i := 4) (oi := { dst := some 25, op := Op.move (Operand.tmp 6), type := 3, pos := "store.go:74", after := #[], guard := none }) (v := ?_) rfl (by kernel_rfl) (by kernel_rfl) (by kernel_rfl) (by kernel_rfl) (fun _ _ _ h => h) (Or.inl ⟨by rfl, ?_⟩) (by assumption) ?_
      rotate_left
      · (intro w hSw; (try dsimp only at hSw); go_simp; try with_reducible rfl)
      simp only [Act.put, List.setIfInBounds_toArray, List.set_cons_zero, List.set_cons_succ]
      refine wpAnyZ_take (i := 5) (oi := { dst := some 26, op := Op.load 24 (Operand.tmp 2), type := 24, pos := "store.go:74", after := #[], guard := none }) (v := ?_) rfl (by kernel_rfl) (by kernel_rfl) (by kernel_rfl) (by kernel_rfl) (fun _ _ _ h => h) (Or.inl ⟨by rfl, ?_⟩) (by assumption) ?_
      rotate_left
      · (intro w hSw; (try dsimp only at hSw); go_simp; try with_reducible rfl)
      simp only [Act.put, List.setIfInBounds_toArray, List.set_cons_zero, List.set_cons_succ]
      refine wpAnyZ_take (i := 6) (oi := { dst := some 27, op := Op.nilCheck (Operand.tmp 26), type := 0, pos := "store.go:74", after := #[{ on := 5, ground := Ground.data }], guard := none }) (v := ?_) rfl (by kernel_rfl) (by kernel_rfl) (by kernel_rfl) (by kernel_rfl) (fun _ _ _ h => h) (Or.inl ⟨by rfl, ?_⟩) (by assumption) ?_
      rotate_left
      · (intro w hSw; (try dsimp only at hSw); go_simp; try with_reducible rfl)
      simp only [Act.put, List.setIfInBounds_toArray, List.set_cons_zero, List.set_cons_succ]
      refine wpAnyZ_take (i := 7) (oi := { dst := some 28, op := Op.fieldAddr 56 (Operand.tmp 27) 3, type := 0, pos := "store.go:74", after := #[{ on := 6, ground := Ground.data }], guard := none }) (v := ?_) rfl (by kernel_rfl) (by kernel_rfl) (by kernel_rfl) (by kernel_rfl) (fun _ _ _ h => h) (Or.inl ⟨by rfl, ?_⟩) (by assumption) ?_
      rotate_left
      · (intro w hSw; (try dsimp only at hSw); go_simp; try with_reducible rfl)
      simp only [Act.put, List.setIfInBounds_toArray, List.set_cons_zero, List.set_cons_succ]
      refine wpAnyZ_take (i := 8) (oi := { dst := some 29, op := Op.load 35 (Operand.tmp 28), type := 35, pos := "store.go:74", after := #[{ on := 7, ground := Ground.data }], guard := none }) (v := ?_) rfl (by kernel_rfl) (by kernel_rfl) (by kernel_rfl) (by kernel_rfl) (fun _ _ _ h => h) (Or.inl ⟨by rfl, ?_⟩) (by assumption) ?_
      rotate_left
      · (intro w hSw; (try dsimp only at hSw); go_simp; try with_reducible rfl)
      simp only [Act.put, List.setIfInBounds_toArray, List.set_cons_zero, List.set_cons_succ]
      refine wpAnyZ_take (i := 9) (oi := { dst := some 30, op := Op.move (Operand.tmp 6), type := 3, pos := "store.go:74", after := #[], guard := none }) (v := ?_) rfl (by kernel_rfl) (by kernel_rfl) (by kernel_rfl) (by kernel_rfl) (fun _ _ _ h => h) (Or.inl ⟨by rfl, ?_⟩) (by assumption) ?_
      rotate_left
      · (intro w hSw; (try dsimp only at hSw); go_simp; try with_reducible rfl)
      simp only [Act.put, List.setIfInBounds_toArray, List.set_cons_zero, List.set_cons_succ]
      refine wpAnyZ_take (i := 10) (oi := { dst := some 31, op := Op.indexAddr 35 (Operand.tmp 29) (Operand.tmp 30), type := 0, pos := "store.go:74", after := #[{ on := 8, ground := Ground.data }, { on := 9, ground := Ground.data }], guard := none }) (v := ?_) rfl (by kernel_rfl) (by kernel_rfl) (by kernel_rfl) (by kernel_rfl) (fun _ _ _ h => h) (Or.inl ⟨by rfl, ?_⟩) (by assumption) ?_
      rotate_left
      · (intro w hSw; (try dsimp only at hSw); go_simp; try with_reducible rfl)
      simp only [Act.put, List.setIfInBounds_toArray, List.set_cons_zero, List.set_cons_succ]
      refine wpAnyZ_take (i := 11) (oi := { dst := some 32, op := Op.load 27 (Operand.tmp 31), type := 27, pos := "store.go:74", after := #[{ on := 10, ground := Ground.data }], guard := none }) (v := ?_) rfl (by kernel_rfl) (by kernel_rfl) (by kernel_rfl) (by kernel_rfl) (fun _ _ _ h => h) (Or.inl ⟨by rfl, ?_⟩) (by assumption) ?_
      rotate_left
      · (intro w hSw; (try dsimp only at hSw); go_simp; try with_reducible rfl)
      simp only [Act.put, List.setIfInBounds_toArray, List.set_cons_zero, List.set_cons_succ]
      refine wpAnyZ_take (i := 12) (oi := { dst := some 33, op := Op.move (Operand.tmp 5), type := 35, pos := "store.go:74", after := #[], guard := none }) (v := ?_) rfl (by kernel_rfl) (by kernel_rfl) (by kernel_rfl) (by kernel_rfl) (fun _ _ _ h => h) (Or.inl ⟨by rfl, ?_⟩) (by assumption) ?_
      rotate_left
      · (intro w hSw; (try dsimp only at hSw); go_simp; try with_reducible rfl)
      simp only [Act.put, List.setIfInBounds_toArray, List.set_cons_zero, List.set_cons_succ]
      refine wpAnyZ_take (i := 13) (oi := { dst := some 34, op := Op.move (Operand.tmp 6), type := 3, pos := "store.go:74", after := #[], guard := none }) (v := ?_) rfl (by kernel_rfl) (by kernel_rfl) (by kernel_rfl) (by kernel_rfl) (fun _ _ _ h => h) (Or.inl ⟨by rfl, ?_⟩) (by assumption) ?_
      rotate_left
      · (intro w hSw; (try dsimp only at hSw); go_simp; try with_reducible rfl)
      simp only [Act.put, List.setIfInBounds_toArray, List.set_cons_zero, List.set_cons_succ]
      refine wpAnyZ_one (i := 14) (o := { dst := some 35, op := Op.call { callee := Callee.value (Operand.func 32), args := #[Operand.tmp 33, Operand.tmp 34], argTypes := #[35, 3] }, type := 27, pos := "store.go:74", after := #[{ on := 12, ground := Ground.data }, { on := 13, ground := Ground.data }], guard := none }) (by kernel_rfl) rfl (fun K hK => ?_)
      go_simp
      go_at_call 32
      refine (vec_At.calls Am cm M (i : Int) _ _ (Kd.C_below CM.out.2 (below_drew (Below.refl _ _))) CM.out.1 (At_eq M i (by omega))).mono ?_
      rintro e w4 ⟨rfl, hd4⟩
      have D4 := Aside0.mk (below_step (below_drew (Below.refl wr.heap.size wr)) hd4.below)
      clear hd4
      have bx4 := pw_cell_below D4.out bx
      have g34 := pw_cell_below D4.out g3
      have cf4 := pw_cell_below D4.out cf
      have zf4 : w4.frozen? ⟨fb, i, none⟩ = false := blk_frozen ((D4.out.block fb (blk_lt SI.out.fblk)).trans SI.out.fblk) i
      try go_wp2_with fail
      refine hK.out _ _ (fun _ => ⟨bx4, g34, cf4, zf4⟩) (fun hHeld => ?_)
      have hHeld := hHeld (by decide)
      clear hK K
      try simp only [Act.put, List.setIfInBounds_toArray, List.set_cons_zero, List.set_cons_succ]
      refine wpAnyZ_take (i := 15) (oi := { dst := some 36, op := Op.call { callee := Callee.builtin Builtin.min, args := #[Operand.tmp 35, Operand.const (Value.int IntKind.u64 4611686018427387904)], argTypes := #[27, 27] }, type := 27, pos := "store.go:74", after := #[{ on := 14, ground := Ground.data }], guard := none }) (v := ?_) rfl (by kernel_rfl) (by kernel_rfl) (by kernel_rfl) (by kernel_rfl) (fun _ _ _ h => h) (Or.inl ⟨by rfl, ?_⟩) (by assumption) ?_
      rotate_left
      · (intro w hSw; (try dsimp only at hSw); go_simp; try with_reducible rfl)
      simp only [Act.put, List.setIfInBounds_toArray, List.set_cons_zero, List.set_cons_succ]
      refine wpAnyZ_take (i := 16) (oi := { dst := some 37, op := Op.call { callee := Callee.builtin Builtin.max, args := #[Operand.tmp 32, Operand.tmp 36], argTypes := #[27, 27] }, type := 27, pos := "store.go:74", after := #[{ on := 11, ground := Ground.data }, { on := 15, ground := Ground.data }], guard := none }) (v := ?_) rfl (by kernel_rfl) (by kernel_rfl) (by kernel_rfl) (by kernel_rfl) (fun _ _ _ h => h) (Or.inl ⟨by rfl, ?_⟩) (by assumption) ?_
      rotate_left
      · (intro w hSw; (try dsimp only at hSw); go_simp; try with_reducible rfl)
      simp only [Act.put, List.setIfInBounds_toArray, List.set_cons_zero, List.set_cons_succ]
      refine wpAnyZ_take (i := 17) (oi := { dst := some 38, op := Op.indexAddr 35 (Operand.tmp 24) (Operand.tmp 25), type := 0, pos := "store.go:74", after := #[{ on := 3, ground := Ground.data }, { on := 4, ground := Ground.data }, { on := 0, ground := Ground.phase }, { on := 1, ground := Ground.phase }, { on := 2, ground := Ground.phase }, { on := 3, ground := Ground.phase }, { on := 4, ground := Ground.phase }, { on := 5, ground := Ground.phase }, { on := 6, ground := Ground.phase }, { on := 7, ground := Ground.phase }, { on := 8, ground := Ground.phase }, { on := 9, ground := Ground.phase }, { on := 10, ground := Ground.phase }, { on := 11, ground := Ground.phase }, { on := 12, ground := Ground.phase }, { on := 13, ground := Ground.phase }, { on := 14, ground := Ground.phase }, { on := 15, ground := Ground.phase }, { on := 16, ground := Ground.phase }], guard := none }) (v := ?_) rfl (by kernel_rfl) (by kernel_rfl) (by kernel_rfl) (by kernel_rfl) (fun _ _ _ h => h) (Or.inl ⟨by rfl, ?_⟩) (by assumption) ?_
      rotate_left
      · (intro w hSw; (try dsimp only at hSw); go_simp; try with_reducible rfl)
      simp only [Act.put, List.setIfInBounds_toArray, List.set_cons_zero, List.set_cons_succ]
      refine wpAnyZ_one (i := 18) (o := { dst := none, op := Op.store 27 (Operand.tmp 38) (Operand.tmp 37), type := 0, pos := "store.go:74", after := #[{ on := 17, ground := Ground.data }, { on := 16, ground := Ground.data }, { on := 14, ground := Ground.chain }, { on := 0, ground := Ground.phase }, { on := 1, ground := Ground.phase }, { on := 2, ground := Ground.phase }, { on := 3, ground := Ground.phase }, { on := 4, ground := Ground.phase }, { on := 5, ground := Ground.phase }, { on := 6, ground := Ground.phase }, { on := 7, ground := Ground.phase }, { on := 8, ground := Ground.phase }, { on := 9, ground := Ground.phase }, { on := 10, ground := Ground.phase }, { on := 11, ground := Ground.phase }, { on := 12, ground := Ground.phase }, { on := 13, ground := Ground.phase }, { on := 14, ground := Ground.phase }, { on := 15, ground := Ground.phase }, { on := 16, ground := Ground.phase }], guard := none }) (by kernel_rfl) rfl (fun K hK => ?_)
      go_simp
      refine hK.out _ _ (fun h => absurd rfl h) (fun hHeld => ?_)
      clear hK K
      try simp only [Act.put, List.setIfInBounds_toArray, List.set_cons_zero, List.set_cons_succ]
      refine wpAnyZ_done (by kernel_rfl) ?_ _
      have S4 := (SI.out.below D4.out).floor i (fl1 f (rd M i)) UF.out
      rw [floK_set HF.out] at S4
      have S5 := Aside0.mk S4.1
      have BE5 := Aside0.mk ((BI.out.then_below D4.out).trans S4.2)
      clear S4 hHeld bx4 g34 cf4 zf4 bx g3 cf zf SI BI hmin hmax
      generalize w4.setCell ⟨fb, i, none⟩ (.int .u64 (fl1 f (rd M i))) = w5 at S5 BE5 ⊢
      go_wp2_with fail
      go_roundg (n - (i + 1))
      case measure => omega
      case rel => exact ⟨i + 1, by go_num, by omega, by omega, S5, BE5⟩
    · obtain rfl : i = n := by omega
      have hltz : ¬ (i : Int) < (i : Int) := by omega
      have FE := floK_full M F
      rw [HS.out.lf] at FE
      rw [FE] at SI
      have LF : Aside0 ((flo M F).length = i) := ⟨by rw [flo_len]; exact HS.out.lf⟩
      have SZ : Aside0 (w.heap.size ≤ wr.heap.size) := ⟨Nat.le_trans B2.out.size BI.out.size⟩
      have DF := Aside0.mk (DelF_calls (b0 := b0) SI.out (fun k hk => Nat.lt_of_lt_of_le (SB.out k hk) SZ.out) X3.out NS.out)
      have g2 := SI.out.c2
      have hl := fun ty => SI.out.map.len Try.underlying54 ty
      clear FE hgg hlt hi R2
      go_wp2_with fail
      refine DF.out.mono ?_
      rintro e w5 ⟨rfl, hS5, hB5⟩
      have S5 := Aside0.mk hS5
      have X5 := Aside0.mk (hB5.blk X3.out NS.out)
      have BE5 : Aside0 (Beside S w w5) := ⟨(Beside.of_below S B2.out).trans (BI.out.trans hB5)⟩
      clear hS5 hB5 g2 hl bx DF SI BI X3 hltz
      have bx : w5.cell? ⟨b0, 0, none⟩ = some (.pointer (some ⟨g, 0, none⟩)) := (blk_cell X5.out 0).trans rfl
      have g3 := S5.out.c3
      generalize hE' : E.filter (keepE (flo M F)) = E' at S5 RUN
      have EE := Aside0.mk hE'
      have hEl : E'.length ≤ E.length := by rw [← hE']; exact List.length_filter_le _ _
      clear hE'
      go_wp2_with fail
      clear bx g3
      have S50 : Aside0 (St w5 (fun k => S k ∨ w5.heap.size ≤ k) g mb fb hb i room E' (flo M F) H) := ⟨S5.out.mono fun k hk => .inl hk⟩
      have BE0 : Aside0 (Beside S w5 w5) := ⟨Beside.refl S w5⟩
      go_loopg [56] i (fun gg s56 wk => ∃ (j : Nat) (H' : List Int), s56 = .int .i64 j ∧ j ≤ i ∧ i - j ≤ gg ∧ Aside0 (RunE E' (flo M F) H' j) ∧ Aside0 (St wk (fun k => S k ∨ w5.heap.size ≤ k) g mb fb hb i room E' (flo M F) H') ∧ Aside0 (Beside S w5 wk))
      case atStart => exact ⟨0, H, rfl, Nat.zero_le _, by omega, RUN, S50, BE0⟩
      case round =>
        clear S50 BE0 RUN
        obtain ⟨j, H', rfl, hj, hgj, RJ, SJ, BJ⟩ := hrel
        have X6 := Aside0.mk (BJ.out.blk X5.out NS.out)
        have bx : wr.cell? ⟨b0, 0, none⟩ = some (.pointer (some ⟨g, 0, none⟩)) := (blk_cell X6.out 0).trans rfl
        by_cases hlj : j < i
        · have hljz : (j : Int) < (i : Int) := by omega
          have hjF : j < (flo M F).length := by have := LF.out; omega
          have hjH : j < H'.length := by have := SJ.out.lh; omega
          have HF := Aside0.mk (List.getElem?_eq_getElem hjF)
          have HH := Aside0.mk (List.getElem?_eq_getElem hjH)
          generalize (flo M F)[j] = f at HF
          generalize H'[j] = h0 at HH
          have RC := Aside0.mk (rise_calls SJ.out j f h0 HF.out HH.out (RJ.out j f h0 HF.out HH.out).1)
          have hwj : IntKind.i64.wrap ((j : Int) + 1) = ((j + 1 : Nat) : Int) := by rw [IntKind.wrap_i64]; omega
          clear hjF hjH
          go_wp2_with fail
          refine RC.out.mono ?_
          rintro e w6 ⟨rfl, t, htop, hle, hS6, hB6⟩
          have S6 : Aside0 (St w6 (fun k => S k ∨ w5.heap.size ≤ k) g mb fb hb i room E' (flo M F) (H'.set j t)) := ⟨hS6.mono fun k hk => hk.elim id (fun h => .inr (Nat.le_trans BJ.out.size h))⟩
          have R6 := Aside0.mk (RJ.out.set HF.out htop)
          have B6 := Aside0.mk (BJ.out.then_ hB6 (fun k hk => hk))
          clear RC htop hle hS6 hB6 bx
          go_wp2_with fail
          go_roundg (i - (j + 1))
          case measure => omega
          case rel => exact ⟨j + 1, _, by go_num, by omega, by omega, R6, S6, B6⟩
        · obtain rfl : j = i := by omega
          have hljz : ¬ (j : Int) < (j : Int) := by omega
          have g2 := SJ.out.c2
          have hl := fun ty => SJ.out.map.len Try.underlying54 ty
          have hws : IntKind.i64.wrap ((E.length : Int) - (E'.length : Int)) = (E.length : Int) - (E'.length : Int) := by rw [IntKind.wrap_i64]; omega
          have TP := Aside0.mk (RJ.out.tops (by rw [LF.out]; exact Nat.le_refl _))
          have S7 : Aside0 (St wr (fun k => S k ∨ w.heap.size ≤ k) g mb fb hb j room E' (flo M F) H') := ⟨SJ.out.mono fun k hk => hk.elim .inl (fun h => .inr (Nat.le_trans BE5.out.size h))⟩
          have B7 := Aside0.mk (BE5.out.trans BJ.out)
          clear SJ RJ BJ
          go_wp2_with fail
          go_ret
          rw [EE.out]
          exact ⟨rfl, H', S7.out, TP.out, B7.out⟩
end

end Go.Proofs.Ytpdglodfgikfkaa.Walk
