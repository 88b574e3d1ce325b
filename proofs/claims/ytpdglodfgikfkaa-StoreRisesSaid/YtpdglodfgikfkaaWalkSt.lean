/- The store's state, its small functions. Conditions: none beyond the statement's own. -/
import Derived.Test.YtpdglodfgikfkaaWalkMapE
import Derived.Test.YtpdglodfgikfkaaF2
import Derived.Test.YtpdglodfgikfkaaArgs
import Derived.Deep.QuietTactic
import Derived.BigQuiet
import Derived.Lib.QuietBelow
import Derived.Outline
import Derived.Deep.RegionHeld3
import Derived.Deep.CutRange
namespace Go.Proofs.Ytpdglodfgikfkaa.Walk
open Go.RowKit Go.Proofs.Ytpdglodfgikfkaa.F Go.Proofs.YtpdglodfgikfkaaW.PrintWords Go.Proofs.YtpdglodfgikfkaaW.PrintLast Go.Proofs.YtpdglodfgikfkaaW.PrintMore Go.Proofs.Ytpdglodfgikfkaa.Open
open Go.Sort (grow)
attribute [local go_sem] max2_int min2_int max_two min_two max_three min_three max_four min_four
set_option linter.unusedVariables false
set_option linter.unusedSimpArgs false

/-! ### The store -/
abbrev tSt : Nat := 56
abbrev tID : Nat := 29
abbrev tPM : Nat := 54
abbrev tU : Nat := 27
abbrev kU : Kd Int := Kd.int .u64
theorem laidOut : laidOutB Try.prog = true := by kernel_rfl
theorem rowID : tID < Try.prog.types.size := of_decide_eq_true (by kernel_rfl)
theorem wideID : (match Try.prog.underlying tID with | some (.array _ _) | some (.struct _) => true | _ => false) = true := by kernel_rfl
theorem lawID : Go.Maps.Keyed Try.prog tID := Go.Maps.Keyed.of_law (deep_law_laid laidOut (m := 2) (by omega) rowID (by kernel_rfl) wideID)
abbrev Ix := Int × Int
structure Pay where
  v : Value
  x : List Int
def fkD (x : Ix) : Value := .agg #[.int .u8 x.1, .int .u64 x.2]
def fvP (p : Pay) : Value := p.v
theorem fkD_inj (x y : Ix) (h : fkD x = fkD y) : x = y := by simpa [fkD, Prod.ext_iff] using h
structure idr (x : Ix) : Prop where
  a : 0 ≤ x.1 ∧ x.1 ≤ 255
  b : 0 ≤ x.2 ∧ x.2 ≤ 18446744073709551615
theorem u8_wf {x : Int} (h : 0 ≤ x ∧ x ≤ 255) : (Lit.int .u8 x).wf = true := by
  simp only [Lit.wf, Bool.and_eq_true, decide_eq_true_eq, show IntKind.u8.min = 0 from rfl, show IntKind.u8.max = 255 from rfl]
  exact h
theorem u64_wf {x : Int} (h : 0 ≤ x ∧ x ≤ 18446744073709551615) : (Lit.int .u64 x).wf = true := by
  simp only [Lit.wf, Bool.and_eq_true, decide_eq_true_eq, show IntKind.u64.min = 0 from rfl, show IntKind.u64.max = 18446744073709551615 from rfl]
  exact h
theorem sizeT : ∃ m, Try.prog.types.size = m + 1 := ⟨Try.prog.types.size - 1, by have := rowID; omega⟩
theorem id_key {x : Ix} (h : idr x) : ∃ l, keyOf Try.prog tID (fkD x) = some l := by
  have hk : Try.prog.keyType tID = true := by kernel_rfl
  have hu := Try.underlying29
  have hi := Try.underlying5
  have hj := Try.underlying27
  have hc : Try.prog.cellsOf tID = 2 := by kernel_rfl
  have hc2 : Try.prog.cellsOf 5 = 1 := by kernel_rfl
  have hc3 : Try.prog.cellsOf 27 = 1 := by kernel_rfl
  obtain ⟨m, hm⟩ := sizeT
  have w1 := u8_wf h.a
  have w2 := u64_wf h.b
  have hf : (fkD x).formed Try.prog tID = true := by simp [fkD, Value.formed, hu, hc]
  have hl : ∃ ls, Try.prog.keyLits (Try.prog.types.size + 1) tID (fkD x).cells.toList = some ls := by
    rw [hm]
    simp [Program.keyLits, hu, hi, hj, hc, hc2, hc3, fkD, Value.cells, w1, w2]
  obtain ⟨ls, hl⟩ := hl
  unfold keyOf
  rw [hu]
  simp only [hk, hf, hl, Bool.and_self, if_true, Option.map_some]
  exact ⟨_, rfl⟩
/-! ### How far a sender's payloads go -/
abbrev Es := List (Ix × Pay)
def hasE (E : Es) (x : Ix) : Bool := (mlk E x).isSome
def usedE (E : Es) : Nat := (E.map fun e => e.2.x.length).sum
structure IsTop (E : Es) (i : Int) (f h : Int) : Prop where
  le : f ≤ h
  all : ∀ s, f < s → s ≤ h → hasE E (i, s) = true
  stop : hasE E (i, h + 1) = false
theorem IsTop.uniq {E E' : Es} {i f h h' : Int} (t : IsTop E i f h) (t' : IsTop E' i f h') (he : ∀ s, hasE E (i, s) = hasE E' (i, s)) : h = h' := by
  rcases Int.lt_trichotomy h h' with hlt | heq | hgt
  · have := t'.all (h + 1) (by have := t.le; omega) (by omega)
    rw [← he, t.stop] at this
    cases this
  · exact heq
  · have := t.all (h' + 1) (by have := t'.le; omega) (by omega)
    rw [he, t'.stop] at this
    cases this
def maxSeq : Int := 4611686018427387904
structure okE (n : Nat) (x : Ix) : Prop where
  a : 0 ≤ x.1 ∧ x.1 < n
  b : 1 ≤ x.2 ∧ x.2 ≤ 4611686018427387904
def u64c (l : List Int) : Array Value := (l.map (Value.int .u64)).toArray
theorem u64c_get {l : List Int} {i : Nat} {x : Int} (h : l[i]? = some x) : (u64c l)[i]? = some (.int .u64 x) := by
  unfold u64c
  rw [List.getElem?_toArray, List.getElem?_map, h]
  rfl
theorem u64c_set (l : List Int) (i : Nat) (x : Int) : (u64c l).setIfInBounds i (.int .u64 x) = u64c (l.set i x) := by
  unfold u64c
  rw [List.map_set, List.setIfInBounds_toArray]
theorem u64c_zero (n : Nat) : madeCells #[.int .u64 0] n = u64c (List.replicate n 0) := by
  unfold u64c madeCells
  apply Array.ext_getElem?
  intro i
  by_cases h : i < n
  · simp [h, Nat.mod_one]
  · simp [h]
/-- A row of numbers that fills its block. -/
theorem u64_C {w : World} {g : Nat} {l : List Int} (hb : w.heap[g]? = some (.cells (u64c l) tU (0, 0))) (hl : l.length ≤ 9223372036854775807) : Kd.C kU w (some ⟨g, 0, none⟩) l.length l := by
  refine ⟨rfl, hl, fun _ => ⟨_, rfl, fun j p hj => ⟨[.int .u64 p], rfl, rfl, fun i u hu => ?_⟩⟩⟩
  obtain ⟨hi, rfl⟩ := List.getElem?_eq_some_iff.1 hu
  obtain rfl : i = 0 := by simpa using hi
  rw [add_plain]
  have := (blk_cell hb (j * 1 + 0)).trans (u64c_get (by rw [show j * 1 + 0 = j by omega]; exact hj))
  exact this
/-- The store at block g. -/
structure St (w : World) (S : Nat → Prop) (g mb fb hb n : Nat) (room : Int) (E : Es) (F H : List Int) : Prop where
  S_g : S g
  S_m : S mb
  S_f : S fb
  S_h : S hb
  ne : g ≠ mb ∧ g ≠ fb ∧ g ≠ hb ∧ mb ≠ fb ∧ mb ≠ hb ∧ fb ≠ hb
  n1 : 1 ≤ n
  n2 : n ≤ 64
  r0 : 0 ≤ room ∧ room ≤ 9223372036854775807
  us : (usedE E : Int) ≤ room
  lf : F.length = n
  lh : H.length = n
  uf : ∀ x ∈ F, 0 ≤ x ∧ x ≤ 4611686018427387904
  uh : ∀ x ∈ H, 0 ≤ x ∧ x ≤ 4611686018427387904
  ks : ∀ e ∈ E, okE n e.1
  blk : w.heap[g]? = some (.cells #[.int .i64 room, .int .i64 (usedE E), .map (some mb), .slice (some ⟨fb, 0, none⟩) n n, .slice (some ⟨hb, 0, none⟩) n n] tSt (0, 0))
  fblk : w.heap[fb]? = some (.cells (u64c F) tU (0, 0))
  hblk : w.heap[hb]? = some (.cells (u64c H) tU (0, 0))
  map : MapE Try.prog tID fkD fvP w mb E
  pays : ∀ e ∈ E, Kd.R (Kd.int .u8) 5 w 0 (fun k => S k ∧ k ≠ g ∧ k ≠ mb ∧ k ≠ fb ∧ k ≠ hb) e.2.v e.2.x
/-- All that is held is held to the end. -/
def Tops (E : Es) (F H : List Int) : Prop := ∀ (i : Nat) (f h : Int), F[i]? = some f → H[i]? = some h → IsTop E i f h
section
variable {w w1 : World} {S S' S2 : Nat → Prop} {g mb fb hb n : Nat} {room : Int} {E : Es} {F H : List Int}
theorem St.mono (h : St w S g mb fb hb n room E F H) (hs : ∀ k, S k → S' k) : St w S' g mb fb hb n room E F H :=
  ⟨hs _ h.S_g, hs _ h.S_m, hs _ h.S_f, hs _ h.S_h, h.ne, h.n1, h.n2, h.r0, h.us, h.lf, h.lh, h.uf, h.uh, h.ks, h.blk, h.fblk, h.hblk, h.map, fun e he => Kd.R_mono (h.pays e he) fun k hk => ⟨hs k hk.1, hk.2⟩⟩
theorem St.step (h : St w S g mb fb hb n room E F H) (hm : ∀ k, S k → k < w.heap.size → w1.heap[k]? = w.heap[k]?) : St w1 S g mb fb hb n room E F H :=
  ⟨h.S_g, h.S_m, h.S_f, h.S_h, h.ne, h.n1, h.n2, h.r0, h.us, h.lf, h.lh, h.uf, h.uh, h.ks, (hm g h.S_g (blk_lt h.blk)).trans h.blk, (hm fb h.S_f (blk_lt h.fblk)).trans h.fblk, (hm hb h.S_h (blk_lt h.hblk)).trans h.hblk, h.map.step (hm mb h.S_m h.map.lt), fun e he => Kd.R_step (h.pays e he) fun k hk hlt => hm k hk.1 hlt⟩
theorem St.bound (h : St w S g mb fb hb n room E F H) : St w (fun k => S k ∧ k < w.heap.size) g mb fb hb n room E F H :=
  ⟨⟨h.S_g, blk_lt h.blk⟩, ⟨h.S_m, h.map.lt⟩, ⟨h.S_f, blk_lt h.fblk⟩, ⟨h.S_h, blk_lt h.hblk⟩, h.ne, h.n1, h.n2, h.r0, h.us, h.lf, h.lh, h.uf, h.uh, h.ks, h.blk, h.fblk, h.hblk, h.map, fun e he => Kd.R_mono (Kd.R_bound (h.pays e he)) fun k hk => ⟨⟨hk.1.1, hk.2.2.1⟩, hk.1.2⟩⟩
theorem St.below (h : St w S g mb fb hb n room E F H) (hb' : Below w.heap.size w w1) : St w1 S g mb fb hb n room E F H := h.step fun k _ hlt => hb'.block k hlt
theorem St.beside (h : St w S g mb fb hb n room E F H) (hb' : Beside S2 w w1) (hs : ∀ k, S k → ¬ S2 k) : St w1 S g mb fb hb n room E F H := h.step fun k hk hlt => hb'.block k hlt (hs k hk)
theorem St.c0 (h : St w S g mb fb hb n room E F H) : w.cell? ⟨g, 0, none⟩ = some (.int .i64 room) := (blk_cell h.blk 0).trans rfl
theorem St.c1 (h : St w S g mb fb hb n room E F H) : w.cell? ⟨g, 1, none⟩ = some (.int .i64 (usedE E)) := (blk_cell h.blk 1).trans rfl
theorem St.c2 (h : St w S g mb fb hb n room E F H) : w.cell? ⟨g, 2, none⟩ = some (.map (some mb)) := (blk_cell h.blk 2).trans rfl
theorem St.c3 (h : St w S g mb fb hb n room E F H) : w.cell? ⟨g, 3, none⟩ = some (.slice (some ⟨fb, 0, none⟩) n n) := (blk_cell h.blk 3).trans rfl
theorem St.c4 (h : St w S g mb fb hb n room E F H) : w.cell? ⟨g, 4, none⟩ = some (.slice (some ⟨hb, 0, none⟩) n n) := (blk_cell h.blk 4).trans rfl
/-- What is held of a sender is written. -/
theorem St.held (h : St w S g mb fb hb n room E F H) (i : Nat) (x : Int) (hx : 0 ≤ x ∧ x ≤ 4611686018427387904) : St (w.setCell ⟨hb, i, none⟩ (.int .u64 x)) S g mb fb hb n room E F (H.set i x) ∧ Beside S w (w.setCell ⟨hb, i, none⟩ (.int .u64 x)) := by
  have hB := (Beside.refl (fun k => k = hb) w).setCell (p := ⟨hb, i, none⟩) rfl (.int .u64 x)
  have hn := h.ne
  refine ⟨⟨h.S_g, h.S_m, h.S_f, h.S_h, h.ne, h.n1, h.n2, h.r0, h.us, h.lf, by simpa using h.lh, h.uf, fun y hy => ?_, h.ks, (hB.block g (blk_lt h.blk) (by omega)).trans h.blk, (hB.block fb (blk_lt h.fblk) (by omega)).trans h.fblk, blk_put h.hblk i _ (u64c_set H i x), h.map.beside hB (by omega), fun e he => Kd.R_far (p := ⟨hb, i, none⟩) (h.pays e he) (fun k hk => hk.2.2.2.2) _⟩, (Beside.refl S w).setCell (p := ⟨hb, i, none⟩) h.S_h _⟩
  rcases List.mem_or_eq_of_mem_set hy with hy | rfl
  · exact h.uh y hy
  · exact hx
end
/-! ### Its small functions -/
section
variable {w : World} {S : Nat → Prop} {g mb fb hb n : Nat} {room : Int} {E : Es} {F H : List Int}
theorem Used_calls (h : St w S g mb fb hb n room E F H) : Calls Try.prog 16 #[.pointer (some ⟨g, 0, none⟩)] w fun e w' => e = .returned (.int .i64 (usedE E)) ∧ w' = w := by
  have c1 := h.c1
  clear h
  go_enter Try.func16, Try.ntmps16
  go_wp2
  go_ret
  exact ⟨rfl, rfl⟩
theorem Len_calls (h : St w S g mb fb hb n room E F H) : Calls Try.prog 15 #[.pointer (some ⟨g, 0, none⟩)] w fun e w' => e = .returned (.int .i64 E.length) ∧ w' = w := by
  have c2 := h.c2
  have hl := fun ty => h.map.len Try.underlying54 ty
  clear h
  go_enter Try.func15, Try.ntmps15
  go_wp2
  go_ret
  exact ⟨rfl, rfl⟩
theorem Held_calls (h : St w S g mb fb hb n room E F H) : Calls Try.prog 14 #[.pointer (some ⟨g, 0, none⟩)] w fun e w' => ∃ v, e = .returned v ∧ Kd.R kU tU w' w.heap.size (fun _ => True) v H ∧ Below w.heap.size w w' := by
  have c4 := h.c4
  have hC := u64_C h.hblk (by have := h.lh; have := h.n2; omega)
  have hl := h.lh
  have h2 := h.n2
  rw [← hl] at c4
  have CL := Aside0.mk (slices_Clone_uint64_uint64.calls (some ⟨hb, 0, none⟩) H.length H H w hC (Nat.le_refl _) (by unfold slices_Clone_uint64_uint64.f; rw [if_pos (by omega)]))
  clear h hC hl
  go_enter Try.func14, Try.ntmps14
  go_wp2_with fail
  refine (CL.out).mono ?_
  rintro e w2 ⟨v, rfl, hR, hb⟩
  have R2 := Aside0.mk hR
  have B2 := Aside0.mk hb
  clear hR hb
  go_wp2_with fail
  go_ret
  exact ⟨_, rfl, R2.out, B2.out⟩
theorem Floor_calls (h : St w S g mb fb hb n room E F H) : Calls Try.prog 17 #[.pointer (some ⟨g, 0, none⟩)] w fun e w' => ∃ v, e = .returned v ∧ Kd.R kU tU w' w.heap.size (fun _ => True) v F ∧ Below w.heap.size w w' := by
  have c3 := h.c3
  have hC := u64_C h.fblk (by have := h.lf; have := h.n2; omega)
  have hl := h.lf
  have h2 := h.n2
  rw [← hl] at c3
  have CL := Aside0.mk (slices_Clone_uint64_uint64.calls (some ⟨fb, 0, none⟩) F.length F F w hC (Nat.le_refl _) (by unfold slices_Clone_uint64_uint64.f; rw [if_pos (by omega)]))
  clear h hC hl
  go_enter Try.func17, Try.ntmps17
  go_wp2_with fail
  refine (CL.out).mono ?_
  rintro e w2 ⟨v, rfl, hR, hb⟩
  have R2 := Aside0.mk hR
  have B2 := Aside0.mk hb
  clear hR hb
  go_wp2_with fail
  go_ret
  exact ⟨_, rfl, R2.out, B2.out⟩
end
theorem Used_nil (w : World) : Calls Try.prog 16 #[.pointer none] w fun e w' => e = .returned (.int .i64 0) ∧ w' = w := by
  go_enter Try.func16, Try.ntmps16
  go_wp2
  go_ret
  exact ⟨rfl, rfl⟩
theorem Len_nil (w : World) : Calls Try.prog 15 #[.pointer none] w fun e w' => e = .returned (.int .i64 0) ∧ w' = w := by
  go_enter Try.func15, Try.ntmps15
  go_wp2
  go_ret
  exact ⟨rfl, rfl⟩
theorem Held_nil (w : World) : Calls Try.prog 14 #[.pointer none] w fun e w' => e = .returned (.slice none 0 0) ∧ w' = w := by
  go_enter Try.func14, Try.ntmps14
  go_wp2
  go_ret
  exact ⟨rfl, rfl⟩
theorem Floor_nil (w : World) : Calls Try.prog 17 #[.pointer none] w fun e w' => e = .returned (.slice none 0 0) ∧ w' = w := by
  go_enter Try.func17, Try.ntmps17
  go_wp2
  go_ret
  exact ⟨rfl, rfl⟩

end Go.Proofs.Ytpdglodfgikfkaa.Walk
