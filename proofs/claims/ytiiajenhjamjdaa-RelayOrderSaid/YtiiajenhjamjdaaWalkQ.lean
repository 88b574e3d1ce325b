/- The queue's state. Conditions: none beyond the statement's own. -/
import Derived.Test.YtiiajenhjamjdaaWalkOwn
import Derived.Test.YtiiajenhjamjdaaF3
import Derived.Test.YtiiajenhjamjdaaArgs
import Derived.Deep.QuietTactic
import Derived.BigQuiet
import Derived.Lib.QuietBelow
import Derived.Outline
import Derived.Deep.RegionHeld3
import Derived.Deep.CutRange
namespace Go.Proofs.Ytiiajenhjamjdaa.Walk
open Go.RowKit Go.Proofs.Ytiiajenhjamjdaa.F Go.Proofs.YtiiajenhjamjdaaW.PrintWords Go.Proofs.YtiiajenhjamjdaaW.PrintLast Go.Proofs.YtiiajenhjamjdaaW.PrintMore Go.Proofs.Ytiiajenhjamjdaa.Open
open Go.Sort (grow)
attribute [local go_sem] max2_int min2_int max_two min_two max_three min_three max_four min_four
set_option linter.unusedVariables false
set_option linter.unusedSimpArgs false

/-! ### The queue -/
abbrev tQ : Nat := 62
abbrev tPl : Nat := 66
abbrev tPM : Nat := 60
theorem laidOut : laidOutB Try.prog = true := by kernel_rfl
theorem rowPl : tPl < Try.prog.types.size := of_decide_eq_true (by kernel_rfl)
theorem widePl : (match Try.prog.underlying tPl with | some (.array _ _) | some (.struct _) => true | _ => false) = true := by kernel_rfl
theorem lawPl : Go.Maps.Keyed Try.prog tPl := Go.Maps.Keyed.of_law (deep_law_laid laidOut (m := 3) (by omega) rowPl (by kernel_rfl) widePl)
abbrev Pl := Int × Int × Int
def fkP (x : Pl) : Value := .agg #[.int .u8 x.1, .int .u64 x.2.1, .int .u32 x.2.2]
def fvN (_ : Unit) : Value := .agg #[]
theorem fkP_inj (x y : Pl) (h : fkP x = fkP y) : x = y := by simpa [fkP, Prod.ext_iff] using h
structure plr (x : Pl) : Prop where
  a : 0 ≤ x.1 ∧ x.1 ≤ 255
  b : 0 ≤ x.2.1 ∧ x.2.1 ≤ 18446744073709551615
  c : 0 ≤ x.2.2 ∧ x.2.2 ≤ 4294967295
theorem u8_wf {x : Int} (h : 0 ≤ x ∧ x ≤ 255) : (Lit.int .u8 x).wf = true := by
  simp only [Lit.wf, Bool.and_eq_true, decide_eq_true_eq, show IntKind.u8.min = 0 from rfl, show IntKind.u8.max = 255 from rfl]
  exact h
theorem u64_wf {x : Int} (h : 0 ≤ x ∧ x ≤ 18446744073709551615) : (Lit.int .u64 x).wf = true := by
  simp only [Lit.wf, Bool.and_eq_true, decide_eq_true_eq, show IntKind.u64.min = 0 from rfl, show IntKind.u64.max = 18446744073709551615 from rfl]
  exact h
theorem u32_wf {x : Int} (h : 0 ≤ x ∧ x ≤ 4294967295) : (Lit.int .u32 x).wf = true := by
  simp only [Lit.wf, Bool.and_eq_true, decide_eq_true_eq, show IntKind.u32.min = 0 from rfl, show IntKind.u32.max = 4294967295 from rfl]
  exact h
theorem sizeT : ∃ m, Try.prog.types.size = m + 2 := ⟨Try.prog.types.size - 2, by have := rowPl; unfold tPl at this; omega⟩
theorem pl_key {x : Pl} (h : plr x) : ∃ l, keyOf Try.prog tPl (fkP x) = some l := by
  have hk : Try.prog.keyType tPl = true := by kernel_rfl
  have hu := Try.underlying66
  have hv := Try.underlying33
  have hi := Try.underlying5
  have hj := Try.underlying31
  have hl2 := Try.underlying28
  have hc : Try.prog.cellsOf tPl = 3 := by kernel_rfl
  have hc0 : Try.prog.cellsOf 33 = 2 := by kernel_rfl
  have hc2 : Try.prog.cellsOf 5 = 1 := by kernel_rfl
  have hc3 : Try.prog.cellsOf 31 = 1 := by kernel_rfl
  have hc4 : Try.prog.cellsOf 28 = 1 := by kernel_rfl
  obtain ⟨m, hm⟩ := sizeT
  have w1 := u8_wf h.a
  have w2 := u64_wf h.b
  have w3 := u32_wf h.c
  have hf : (fkP x).formed Try.prog tPl = true := by simp [fkP, Value.formed, hu, hc]
  have hID : ∀ d, Try.prog.keyLits (d + 2) 33 [.int .u8 x.1, .int .u64 x.2.1] = some [.int .u8 x.1, .int .u64 x.2.1] := fun d => by
    simp [Program.keyLits, hv, hi, hj, hc0, hc2, hc3, w1, w2]
  have h32 : ∀ d, Try.prog.keyLits (d + 2) 28 [.int .u32 x.2.2] = some [.int .u32 x.2.2] := fun d => by
    simp [Program.keyLits, hl2, w3]
  have hl : ∃ ls, Try.prog.keyLits (Try.prog.types.size + 1) tPl (fkP x).cells.toList = some ls := by
    rw [hm]
    unfold Program.keyLits
    simp [hu, hc, hc0, hc4, fkP, Value.cells, hID, h32]
  obtain ⟨ls, hl⟩ := hl
  unfold keyOf
  rw [hu]
  simp only [hk, hf, hl, Bool.and_self, if_true, Option.map_some]
  exact ⟨_, rfl⟩
/-- A chunk's place. -/
def pl (f : Fr) : Pl := (f.f1.f0, f.f1.f1, f.f3)
abbrev Ps := List (Pl × Unit)
def plE (L : List Fr) : Ps := L.map fun f => (pl f, ())
def hasP (L : List Fr) (x : Pl) : Bool := (mlk (plE L) x).isSome
theorem hasP_mem {L : List Fr} {x : Pl} : hasP L x = true ↔ ∃ f ∈ L, pl f = x := by
  unfold hasP plE
  constructor
  · intro h
    obtain ⟨v, hv⟩ := Option.isSome_iff_exists.1 h
    obtain ⟨f, hf, e⟩ := List.mem_map.1 (mlk_some hv)
    injection e with e _
    exact ⟨f, hf, e⟩
  · rintro ⟨f, hf, rfl⟩
    cases hm : mlk (L.map fun f => (pl f, ())) (pl f) with
    | some v => rfl
    | none => exact absurd rfl (mlk_none hm (pl f, ()) (List.mem_map.2 ⟨f, hf, rfl⟩))
theorem zeroN (w : World) : (zeroValue 63).run Try.prog w = .ok (.agg #[]) w := by kernel_rfl
theorem look_pl {w : World} {mb : Nat} {L : List Fr} (h : MapE Try.prog tPl fkP fvN w mb (plE L)) {f : Fr} (hx : plr (pl f)) : (Instr.lookup tPM (.map (some mb)) (.agg #[.int .u8 f.f1.f0, .int .u64 f.f1.f1, .int .u32 f.f3]) true).run Try.prog w = .ok (.tuple #[.agg #[], .bool (hasP L (pl f))]) w := by
  obtain ⟨l, hl⟩ := pl_key hx
  have := h.look true lawPl fkP_inj Try.underlying60 (zeroN w) (x := pl f) hl
  rw [show fkP (pl f) = .agg #[.int .u8 f.f1.f0, .int .u64 f.f1.f1, .int .u32 f.f3] from rfl] at this
  rw [this]
  unfold hasP
  cases mlk (plE L) (pl f) <;> rfl
theorem cell_step {S : Nat → Prop} {w w1 : World} {p : Addr} {v : Value} (h : w.cell? p = some v) (hB : Beside S w w1) (hn : ¬ S p.block) : w1.cell? p = some v := by
  have hlt : p.block < w.heap.size := by
    rcases Nat.lt_or_ge p.block w.heap.size with h1 | h1
    · exact h1
    · unfold World.cell? at h
      rw [Array.getElem?_eq_none h1] at h
      cases h
  have hb := hB.block _ hlt hn
  rw [← h]
  unfold World.cell?
  rw [hb]
/-- A queue into which chunks were put, and of which none was taken yet. -/
structure Que (w : World) (S : Nat → Prop) (g mb n : Nat) (lost : Int) (v : Value) (L : List Fr) : Prop where
  S_g : S g
  S_m : S mb
  ne : g ≠ mb
  n1 : 1 ≤ n
  n2 : n ≤ 4096
  len : L.length ≤ n
  l0 : 0 ≤ lost ∧ lost ≤ 4611686018427387904
  blk : w.heap[g]? = some (.cells #[.int .i64 n, v, .map (some mb), .int .i64 lost] tQ (0, 0))
  row : Kd.R kF eF w 0 (fun k => S k ∧ k ≠ g ∧ k ≠ mb) v L
  map : MapE Try.prog tPl fkP fvN w mb (plE L)
section
variable {w w1 : World} {S S' S2 : Nat → Prop} {g mb n : Nat} {lost : Int} {v : Value} {L : List Fr}
theorem Que.mono (h : Que w S g mb n lost v L) (hs : ∀ k, S k → S' k) : Que w S' g mb n lost v L :=
  ⟨hs _ h.S_g, hs _ h.S_m, h.ne, h.n1, h.n2, h.len, h.l0, h.blk, Kd.R_mono h.row fun k hk => ⟨hs k hk.1, hk.2⟩, h.map⟩
theorem Que.step (h : Que w S g mb n lost v L) (hm : ∀ k, S k → k < w.heap.size → w1.heap[k]? = w.heap[k]?) : Que w1 S g mb n lost v L :=
  ⟨h.S_g, h.S_m, h.ne, h.n1, h.n2, h.len, h.l0, (hm g h.S_g (blk_lt h.blk)).trans h.blk, Kd.R_step h.row fun k hk hlt => hm k hk.1 hlt, h.map.step (hm mb h.S_m h.map.lt)⟩
theorem Que.bound (h : Que w S g mb n lost v L) : Que w (fun k => S k ∧ k < w.heap.size) g mb n lost v L :=
  ⟨⟨h.S_g, blk_lt h.blk⟩, ⟨h.S_m, h.map.lt⟩, h.ne, h.n1, h.n2, h.len, h.l0, h.blk, Kd.R_mono (Kd.R_bound h.row) fun k hk => ⟨⟨hk.1.1, hk.2.2.1⟩, hk.1.2⟩, h.map⟩
theorem Que.below (h : Que w S g mb n lost v L) (hb' : Below w.heap.size w w1) : Que w1 S g mb n lost v L := h.step fun k _ hlt => hb'.block k hlt
theorem Que.beside (h : Que w S g mb n lost v L) (hb' : Beside S2 w w1) (hs : ∀ k, S k → ¬ S2 k) : Que w1 S g mb n lost v L := h.step fun k hk hlt => hb'.block k hlt (hs k hk)
theorem Que.cell (h : Que w S g mb n lost v L) : ∃ A c, v = .slice A L.length c ∧ w.cell? ⟨g, 0, none⟩ = some (.int .i64 n) ∧ w.cell? ⟨g, 1, none⟩ = some (.slice A L.length c) ∧ w.cell? ⟨g, 2, none⟩ = some (.map (some mb)) ∧ w.cell? ⟨g, 3, none⟩ = some (.int .i64 lost) := by
  obtain ⟨A, c, rfl⟩ := Kd.R_slice h.row
  exact ⟨A, c, rfl, (blk_cell h.blk 0).trans rfl, (blk_cell h.blk 1).trans rfl, (blk_cell h.blk 2).trans rfl, (blk_cell h.blk 3).trans rfl⟩
/-- How many are lost is written. -/
theorem Que.lose (h : Que w S g mb n lost v L) (x : Int) (hx : 0 ≤ x ∧ x ≤ 4611686018427387904) : Que (w.setCell ⟨g, 3, none⟩ (.int .i64 x)) S g mb n x v L ∧ Beside S w (w.setCell ⟨g, 3, none⟩ (.int .i64 x)) :=
  ⟨⟨h.S_g, h.S_m, h.ne, h.n1, h.n2, h.len, hx, blk_put h.blk 3 _ rfl, Kd.R_far (p := ⟨g, 3, none⟩) h.row (fun k hk => hk.2.1) _, h.map.beside ((Beside.refl (fun k => k = g) w).setCell (p := ⟨g, 3, none⟩) rfl _) (fun e => h.ne e.symm)⟩, (Beside.refl S w).setCell (p := ⟨g, 3, none⟩) h.S_g _⟩
theorem Len_calls (h : Que w S g mb n lost v L) : Calls Try.prog 10 #[.pointer (some ⟨g, 0, none⟩)] w fun e w' => e = .returned (.int .i64 L.length) ∧ w' = w := by
  obtain ⟨A, c, rfl, _, c1, _, _⟩ := h.cell
  clear h
  go_enter Try.func10, Try.ntmps10
  go_wp2
  go_ret
  exact ⟨rfl, rfl⟩
theorem Lost_calls (h : Que w S g mb n lost v L) : Calls Try.prog 12 #[.pointer (some ⟨g, 0, none⟩)] w fun e w' => e = .returned (.int .i64 lost) ∧ w' = w := by
  obtain ⟨A, c, rfl, _, _, _, c3⟩ := h.cell
  clear h
  go_enter Try.func12, Try.ntmps12
  go_wp2
  go_ret
  exact ⟨rfl, rfl⟩
end
theorem Len_nil (w : World) : Calls Try.prog 10 #[.pointer none] w fun e w' => e = .returned (.int .i64 0) ∧ w' = w := by
  go_enter Try.func10, Try.ntmps10
  go_wp2
  go_ret
  exact ⟨rfl, rfl⟩
theorem Lost_nil (w : World) : Calls Try.prog 12 #[.pointer none] w fun e w' => e = .returned (.int .i64 0) ∧ w' = w := by
  go_enter Try.func12, Try.ntmps12
  go_wp2
  go_ret
  exact ⟨rfl, rfl⟩
/-! ### A new queue -/
def rn (room : Int) : Nat := if 4096 < room then 4096 else if 1 < room then room.toNat else 1
theorem rn_ok (room : Int) : 1 ≤ rn room ∧ rn room ≤ 4096 := by
  unfold rn
  split
  · omega
  · split <;> omega
theorem New_calls (room : Int) (w : World) : Calls Try.prog 8 #[.int .i64 room] w fun e w' => ∃ g mb : Nat, e = .returned (.pointer (some ⟨g, 0, none⟩)) ∧ Que w' (fun k => w.heap.size ≤ k) g mb (rn room) 0 (.slice none 0 0) [] ∧ Below w.heap.size w w' := by
  obtain ⟨mm, hmm⟩ : ∃ mm : Int, mm = if 4096 < room then 4096 else room := ⟨_, rfl⟩
  have hmin : Builtin.min2 (.int .i64 room) (.int .i64 4096) = pure (.int .i64 mm) := by
    rw [min2_int]
    congr 2
    rw [hmm]
  have hmax : Builtin.max2 (.int .i64 1) (.int .i64 mm) = pure (.int .i64 (rn room : Nat)) := by
    rw [max2_int]
    congr 2
    rw [hmm]
    unfold rn
    repeat (first | rfl | omega | split)
  have hmk := @run_makeMap Try.prog
  have hn := rn_ok room
  clear hmm
  go_enter Try.func8, Try.ntmps8
  go_wp2_with fail
  go_ret
  have hlt : w.heap.size < (w.alloc (.map #[] 0)).heap.size := by simp
  have hsz : (w.alloc (.map #[] 0)).heap.size = w.heap.size + 1 := by simp
  refine ⟨w.heap.size + 1, w.heap.size, rfl, ⟨by omega, Nat.le_refl _, by omega, hn.1, hn.2, Nat.zero_le _, by omega, ?_, Kd.R_nil _ _ _ _ _, (MapE.made w Try.prog tPl fkP fvN).below (below_alloc (Below.refl _ _) _)⟩, below_alloc (below_alloc (Below.refl _ _) _) _⟩
  rw [← hsz]
  exact blk_new _ _

end Go.Proofs.Ytiiajenhjamjdaa.Walk
