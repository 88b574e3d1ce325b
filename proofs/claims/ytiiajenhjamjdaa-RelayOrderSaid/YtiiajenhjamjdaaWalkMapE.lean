/- A map's block, entry for entry. Conditions: none beyond the statement's own. -/
import Derived.Test.YtiiajenhjamjdaaF0
import Derived.Test.YtiiajenhjamjdaaArgs
import Derived.Deep.QuietTactic
import Derived.BigQuiet
import Derived.Lib.QuietBelow
import Derived.Outline
import Derived.Deep.RegionHeld3
import Derived.Deep.CutRange
import Derived.Maps.Keyed
import Derived.Maps.RangeRun
import Derived.DeepKeys4
namespace Go.Proofs.Ytiiajenhjamjdaa.Walk
open Go.RowKit Go.Proofs.Ytiiajenhjamjdaa.F Go.Proofs.YtiiajenhjamjdaaW.PrintWords Go.Proofs.YtiiajenhjamjdaaW.PrintLast Go.Proofs.YtiiajenhjamjdaaW.PrintMore Go.Proofs.Ytiiajenhjamjdaa.Open
open Go.Sort (grow)
attribute [local go_sem] max2_int min2_int max_two min_two max_three min_three max_four min_four
set_option linter.unusedVariables false
set_option linter.unusedSimpArgs false

/-- Beside the blocks of S the world w' is as w was. -/
structure Beside (S : Nat → Prop) (w w' : World) : Prop where
  os : w'.os = w.os
  tape : w'.tape = w.tape
  output : w'.output = w.output
  size : w.heap.size ≤ w'.heap.size
  block : ∀ k, k < w.heap.size → ¬ S k → w'.heap[k]? = w.heap[k]?
namespace Beside
variable {S S' S2 : Nat → Prop} {w w1 w2 : World}
theorem refl (S : Nat → Prop) (w : World) : Beside S w w := ⟨rfl, rfl, rfl, Nat.le_refl _, fun _ _ _ => rfl⟩
theorem of_below (S : Nat → Prop) (h : Below w.heap.size w w1) : Beside S w w1 := ⟨h.os, h.tape, h.output, h.size, fun k hk _ => h.block k hk⟩
/-- A later step that turns the blocks of S, or new ones. -/
theorem then_ (h : Beside S w w1) (k : Beside S2 w1 w2) (hs : ∀ k, S2 k → S k ∨ w.heap.size ≤ k) : Beside S w w2 :=
  ⟨k.os.trans h.os, k.tape.trans h.tape, k.output.trans h.output, Nat.le_trans h.size k.size, fun i hi hn => (k.block i (Nat.lt_of_lt_of_le hi h.size) (fun h2 => (hs i h2).elim hn (fun h3 => by omega))).trans (h.block i hi hn)⟩
theorem trans (h : Beside S w w1) (k : Beside S w1 w2) : Beside S w w2 := h.then_ k (fun _ h => .inl h)
theorem mono (h : Beside S w w1) (hs : ∀ k, S k → S' k) : Beside S' w w1 := ⟨h.os, h.tape, h.output, h.size, fun k hk hn => h.block k hk (fun h1 => hn (hs k h1))⟩
theorem below (h : Beside S w w1) (hs : ∀ k, S k → w.heap.size ≤ k) : Below w.heap.size w w1 := ⟨h.os, h.tape, h.output, h.size, fun k hk => h.block k hk (fun h1 => by have := hs k h1; omega)⟩
theorem then_below (h : Beside S w w1) (k : Below w1.heap.size w1 w2) : Beside S w w2 := h.trans (of_below S k)
theorem alloc (h : Beside S w w1) (o : Obj) : Beside S w (w1.alloc o) := h.then_below (below_alloc (Below.refl _ _) o)
theorem drew (h : Beside S w w1) : Beside S w w1.drew := ⟨h.os, h.tape, h.output, h.size, h.block⟩
theorem drewN (h : Beside S w w1) (n : Nat) : Beside S w (w1.drewN n) := h.then_below (pw_below_drewN (Below.refl _ _) n)
theorem setCell (h : Beside S w w1) {p : Addr} (hp : S p.block) (u : Value) : Beside S w (w1.setCell p u) :=
  h.trans ⟨rfl, rfl, rfl, by simp [World.setCell], fun k _ hn => Below.heap_setCell _ _ _ _ (fun e => hn (by rw [e]; exact hp))⟩
/-- What a step on other blocks leaves: a block. -/
theorem blk (h : Beside S w w1) {g : Nat} {o : Obj} (hb : w.heap[g]? = some o) (hn : ¬ S g) : w1.heap[g]? = some o := (h.block g (blk_lt hb) hn).trans hb
theorem kept (h : Beside S w w1) : Kept w w1 S := ⟨h.size, fun k hk hn => h.block k hk hn⟩
/-- Beneath all blocks of S. -/
theorem step {w0 : World} (h0 : Below w0.heap.size w0 w) (h : Beside S w w1) (hs : ∀ k, S k → w0.heap.size ≤ k) : Below w0.heap.size w0 w1 :=
  ⟨h.os.trans h0.os, h.tape.trans h0.tape, h.output.trans h0.output, Nat.le_trans h0.size h.size, fun k hk => (h.block k (Nat.lt_of_lt_of_le hk h0.size) (fun h1 => by have := hs k h1; omega)).trans (h0.block k hk)⟩
end Beside

/-! ### A map's block, entry for entry, in the order in which they were laid -/
open Go.MapKept (Stamped stamped_iff stamped_empty stamped_push stamped_modify stamped_erase)
open Go.ChangeMaps (setBlock)
section
variable {κ ν : Type} {P : Program} {k : TypeId} {fk : κ → Value} {fv : ν → Value} {w w1 : World} {b r : Nat} {E : List (κ × ν)}
def kvs (es : Array MapEntry) : List (Value × Value) := es.toList.map fun x => (x.key, x.val)
def evs (fk : κ → Value) (fv : ν → Value) (E : List (κ × ν)) : List (Value × Value) := E.map fun p => (fk p.1, fv p.2)
structure MapE (P : Program) (k : TypeId) (fk : κ → Value) (fv : ν → Value) (w : World) (b : Nat) (E : List (κ × ν)) : Prop where
  keys : ∀ p ∈ E, ∃ l, keyOf P k (fk p.1) = some l
  ex : ∃ es clock, w.heap[b]? = some (.map es clock) ∧ Stamped es clock ∧ kvs es = evs fk fv E
theorem MapE.lt (h : MapE P k fk fv w b E) : b < w.heap.size := by
  obtain ⟨_, es, clock, hb, _⟩ := h
  exact (Array.getElem?_eq_some_iff.1 hb).1
theorem MapE.step (h : MapE P k fk fv w b E) (hm : w1.heap[b]? = w.heap[b]?) : MapE P k fk fv w1 b E := by
  obtain ⟨h0, es, clock, hb, hs, he⟩ := h
  exact ⟨h0, es, clock, hm.trans hb, hs, he⟩
theorem MapE.below (h : MapE P k fk fv w b E) (hb : Below w.heap.size w w1) : MapE P k fk fv w1 b E := h.step (hb.block b h.lt)
theorem MapE.beside {S : Nat → Prop} (h : MapE P k fk fv w b E) (hb : Beside S w w1) (hs : ¬ S b) : MapE P k fk fv w1 b E := h.step (hb.block b h.lt hs)
theorem MapE.made (w : World) (P : Program) (k : TypeId) (fk : κ → Value) (fv : ν → Value) : MapE P k fk fv (w.alloc (.map #[] 0)) w.heap.size [] :=
  ⟨by simp, #[], 0, (MapKept.heap_alloc w _).1, stamped_empty 0, rfl⟩
theorem kvs_key {es : Array MapEntry} (he : kvs es = evs fk fv E) {x : MapEntry} (hx : x ∈ es.toList) : ∃ p ∈ E, x.key = fk p.1 ∧ x.val = fv p.2 := by
  have : (x.key, x.val) ∈ evs fk fv E := he ▸ List.mem_map.2 ⟨x, hx, rfl⟩
  obtain ⟨p, hp, e⟩ := List.mem_map.1 this
  injection e with e1 e2
  exact ⟨p, hp, e1.symm, e2.symm⟩
theorem kvs_at {es : Array MapEntry} (he : kvs es = evs fk fv E) {p : κ × ν} (hp : p ∈ E) : ∃ x ∈ es.toList, x.key = fk p.1 ∧ x.val = fv p.2 := by
  have : (fk p.1, fv p.2) ∈ kvs es := he ▸ List.mem_map.2 ⟨p, hp, rfl⟩
  obtain ⟨x, hx, e⟩ := List.mem_map.1 this
  injection e with e1 e2
  exact ⟨x, hx, e1, e2⟩
/-- No key stands twice. -/
theorem MapE.nodup (h : MapE P k fk fv w b E) : (E.map (·.1)).Nodup := by
  obtain ⟨_, es, clock, _, hs, he⟩ := h
  have h1 := hs.2.2
  have e1 : es.toList.map (·.key) = (E.map (·.1)).map fk := by
    have := congrArg (List.map (·.1)) he
    simpa [kvs, evs, Function.comp_def] using this
  rw [e1] at h1
  exact List.Pairwise.of_map fk (fun a b hne e => hne (congrArg fk e)) h1
variable [DecidableEq κ]
def mlk (E : List (κ × ν)) (x : κ) : Option ν := (E.find? fun p => decide (p.1 = x)).map (·.2)
theorem mlk_none {x : κ} (h : mlk E x = none) : ∀ p ∈ E, p.1 ≠ x := by
  unfold mlk at h
  rw [Option.map_eq_none_iff, List.find?_eq_none] at h
  exact fun p hp e => h p hp (by simp [e])
theorem mlk_some {x : κ} {v : ν} (h : mlk E x = some v) : (x, v) ∈ E := by
  unfold mlk at h
  obtain ⟨p, hp, rfl⟩ := Option.map_eq_some_iff.1 h
  have h1 := List.find?_some hp
  have h2 := List.mem_of_find?_eq_some hp
  have : p.1 = x := by simpa using h1
  subst this
  exact h2
theorem mlk_nil (x : κ) : mlk ([] : List (κ × ν)) x = none := rfl
theorem mlk_cons (p : κ × ν) (E : List (κ × ν)) (x : κ) : mlk (p :: E) x = if p.1 = x then some p.2 else mlk E x := by
  unfold mlk
  rw [List.find?_cons]
  by_cases h : p.1 = x <;> simp [h]
theorem mlk_append (E F : List (κ × ν)) (x : κ) : mlk (E ++ F) x = (mlk E x).or (mlk F x) := by
  induction E with
  | nil => rfl
  | cons p E ih =>
    rw [List.cons_append, mlk_cons, mlk_cons, ih]
    split <;> rfl
theorem mlk_mem {x : κ} {v : ν} (hn : (E.map (·.1)).Nodup) (h : (x, v) ∈ E) : mlk E x = some v := by
  induction E with
  | nil => cases h
  | cons p E ih =>
    rw [mlk_cons]
    obtain ⟨n1, n2⟩ := List.nodup_cons.1 hn
    rcases List.mem_cons.1 h with rfl | h
    · exact if_pos rfl
    · rw [if_neg (fun e => n1 (by show p.1 ∈ _; rw [e]; exact List.mem_map.2 ⟨_, h, rfl⟩))]
      exact ih n2 h
theorem mlk_filter {x y : κ} : mlk (E.filter fun p => decide (p.1 ≠ y)) x = if x = y then none else mlk E x := by
  induction E with
  | nil => rw [List.filter_nil, mlk_nil]; split <;> rfl
  | cons p E ih =>
    rw [List.filter_cons]
    by_cases h : p.1 = y
    · rw [if_neg (by simp [h]), ih]
      by_cases e : x = y
      · rw [if_pos e, if_pos e]
      · rw [if_neg e, if_neg e, mlk_cons, if_neg (fun e2 => e (by rw [← e2, h]))]
    · rw [if_pos (by simp [h]), mlk_cons, ih, mlk_cons]
      by_cases e : p.1 = x
      · rw [if_pos e, if_pos e, if_neg (fun e2 => h (by rw [e, e2]))]
      · rw [if_neg e, if_neg e]
/-- The entry at a key, or none. -/
theorem MapE.find (h : MapE P k fk fv w b E) (K : Go.Maps.Keyed P k) (hinj : ∀ x y, fk x = fk y → x = y) {x : κ} {l : Lit} (hx : keyOf P k (fk x) = some l) {es : Array MapEntry} {clock : Nat} (hs : Stamped es clock) (he : kvs es = evs fk fv E) :
    ((Instr.findKey k (fk x) es.toList).run P w = .ok none w ∧ mlk E x = none ∧ ∀ e ∈ es.toList, e.key ≠ fk x) ∨ ∃ j e v, (Instr.findKey k (fk x) es.toList).run P w = .ok (some (j, fv v)) w ∧ es.toList[j]? = some e ∧ e.key = fk x ∧ e.val = fv v ∧ mlk E x = some v ∧ E[j]? = some (x, v) := by
  rcases K.find w hx es.toList (fun e hm => by obtain ⟨p, hp, e1, _⟩ := kvs_key he hm; rw [e1]; exact h.keys p hp) with ⟨h1, h2⟩ | ⟨j, e, h1, h2, h3⟩
  · refine .inl ⟨h1, ?_, h2⟩
    cases hl : mlk E x with
    | none => rfl
    | some v =>
      obtain ⟨y, hy, e1, _⟩ := kvs_at he (mlk_some hl)
      exact absurd e1 (h2 y hy)
  · have hj : (kvs es)[j]? = some (e.key, e.val) := by unfold kvs; rw [List.getElem?_map, h2]; rfl
    rw [he] at hj
    unfold evs at hj
    rw [List.getElem?_map] at hj
    obtain ⟨p, hp, e1⟩ := Option.map_eq_some_iff.1 hj
    injection e1 with e2 e3
    have e4 : p.1 = x := hinj _ _ (e2.trans h3)
    subst e4
    exact .inr ⟨j, e, p.2, by rw [e3]; exact h1, h2, h3, e3.symm, mlk_mem h.nodup (List.mem_of_getElem? hp), hp⟩
theorem MapE.look {t e : TypeId} (c : Bool) (h : MapE P k fk fv w b E) (K : Go.Maps.Keyed P k) (hinj : ∀ x y, fk x = fk y → x = y) (ht : P.underlying t = some (.map k e)) {z : Value} (hz : (zeroValue e).run P w = .ok z w) {x : κ} {l : Lit} (hx : keyOf P k (fk x) = some l) :
    (Instr.lookup t (.map (some b)) (fk x) c).run P w = .ok (match mlk E x with | some v => if c then .tuple #[fv v, .bool true] else fv v | none => if c then .tuple #[z, .bool false] else z) w := by
  have h' := h
  obtain ⟨_, es, clock, hb, hs, he⟩ := h'
  rcases h.find K hinj hx hs he with ⟨h1, h2, _⟩ | ⟨j, y, v, h1, _, _, _, h2, _⟩
  · rw [h2]
    simp [Instr.lookup, run_underlying ht, MapKept.run_getObj_map hb, K.check w _ hx, h1, hz, Result.andThen]
  · rw [h2]
    simp [Instr.lookup, run_underlying ht, MapKept.run_getObj_map hb, K.check w _ hx, h1, Result.andThen]
omit [DecidableEq κ] in
theorem MapE.len {t e : TypeId} (h : MapE P k fk fv w b E) (ht : P.underlying t = some (.map k e)) (ty : TypeId) : (Builtin.len_ #[t] ty #[.map (some b)]).run P w = .ok (.int .i64 E.length) w := by
  obtain ⟨_, es, clock, hb, hs, he⟩ := h
  have e1 : E.length = es.size := by
    have := congrArg List.length he
    simpa [kvs, evs] using this.symm
  rw [e1]
  simp [Builtin.len_, run_underlying ht, MapKept.run_getObj_map hb, goInt, Result.andThen]
theorem beside_setBlock {es es' : Array MapEntry} {clock clock' : Nat} (hb : w.heap[b]? = some (.map es clock)) : Beside (fun j => j = b) w (setBlock w b (.map es' clock')) :=
  ⟨rfl, rfl, rfl, by simp [setBlock], fun j _ hn => ChangeMaps.heap_setBlock_other hb _ hn⟩
/-- A new entry. -/
theorem MapE.push {t e : TypeId} (h : MapE P k fk fv w b E) (K : Go.Maps.Keyed P k) (hinj : ∀ x y, fk x = fk y → x = y) (ht : P.underlying t = some (.map k e)) {x : κ} {l : Lit} (hx : keyOf P k (fk x) = some l) (hn : mlk E x = none) (v : ν) :
    ∃ w', (Instr.mapUpdate t (.map (some b)) (fk x) (fv v)).run P w = .ok () w' ∧ MapE P k fk fv w' b (E ++ [(x, v)]) ∧ Beside (fun j => j = b) w w' ∧ w'.heap.size = w.heap.size := by
  have h' := h
  obtain ⟨hk, es, clock, hb, hs, he⟩ := h'
  rcases h.find K hinj hx hs he with ⟨h1, _, h3⟩ | ⟨j, y, v', h1, _, _, _, h2, _⟩
  · refine ⟨setBlock w b (.map (es.push ⟨fk x, fv v, clock⟩) (clock + 1)), ?_, ⟨fun p hp => ?_, es.push ⟨fk x, fv v, clock⟩, clock + 1, ChangeMaps.heap_setBlock_same hb _, stamped_push hs h3, ?_⟩, beside_setBlock hb, by simp [setBlock]⟩
    · simp [Instr.mapUpdate, run_underlying ht, MapKept.run_getObj_map hb, K.check w false hx, h1, MapKept.run_setObj_map _ hb, Result.andThen, setBlock]
    · rcases List.mem_append.1 hp with hp | hp
      · exact hk p hp
      · rw [List.mem_singleton.1 hp]
        exact ⟨l, hx⟩
    · unfold kvs evs at he ⊢
      rw [Array.toList_push, List.map_append, he, List.map_append]
      rfl
  · rw [hn] at h2
    cases h2
/-- An entry anew. -/
theorem MapE.again {t e : TypeId} (h : MapE P k fk fv w b E) (K : Go.Maps.Keyed P k) (hinj : ∀ x y, fk x = fk y → x = y) (ht : P.underlying t = some (.map k e)) {x : κ} {l : Lit} (hx : keyOf P k (fk x) = some l) {v0 : ν} (hn : mlk E x = some v0) (v : ν) :
    ∃ w' j, (Instr.mapUpdate t (.map (some b)) (fk x) (fv v)).run P w = .ok () w' ∧ E[j]? = some (x, v0) ∧ MapE P k fk fv w' b (E.set j (x, v)) ∧ Beside (fun j => j = b) w w' ∧ w'.heap.size = w.heap.size := by
  have h' := h
  obtain ⟨hk, es, clock, hb, hs, he⟩ := h'
  rcases h.find K hinj hx hs he with ⟨_, h2, _⟩ | ⟨j, e0, v', h1, h2, h3, h4, h5, h6⟩
  · rw [hn] at h2
    cases h2
  · rw [hn] at h5
    cases h5
    have hj : es[j]? = some e0 := by simpa using h2
    have hlist : (es.modify j (fun e' => { e' with key := fk x, val := fv v })).toList = es.toList.set j { e0 with key := fk x, val := fv v } := by rw [Array.toList_modify, ChangeMaps.modify_eq_set _ _ _ _ h2]
    refine ⟨setBlock w b (.map (es.modify j (fun e' => { e' with key := fk x, val := fv v })) clock), j, ?_, h6, ⟨fun p hp => ?_, _, clock, ChangeMaps.heap_setBlock_same hb _, stamped_modify hs _ _ (fun _ _ => rfl) (fun e' _ he' => by rw [hj] at he'; cases he'; exact h3.symm), ?_⟩, beside_setBlock hb, by simp [setBlock]⟩
    · simp [Instr.mapUpdate, run_underlying ht, MapKept.run_getObj_map hb, K.check w false hx, h1, hj, h3, K.stays w hx, MapKept.run_setObj_map _ hb, Result.andThen, setBlock]
    · rcases List.mem_or_eq_of_mem_set hp with hp | rfl
      · exact hk p hp
      · exact ⟨l, hx⟩
    · unfold kvs evs at he ⊢
      rw [hlist, List.map_set, he, List.map_set]
theorem erase_filter {p : κ × ν} : ∀ {E : List (κ × ν)} {j : Nat}, (E.map (·.1)).Nodup → E[j]? = some p → E.eraseIdx j = E.filter fun q => decide (q.1 ≠ p.1)
  | [], _, _, h => by simp at h
  | q :: E, 0, hn, h => by
    obtain rfl : q = p := by simpa using h
    obtain ⟨n1, _⟩ := List.nodup_cons.1 hn
    rw [List.eraseIdx_cons_zero, List.filter_cons, if_neg (by simp)]
    exact (List.filter_eq_self.2 (fun z hz => by
      simp only [ne_eq, decide_not, Bool.not_eq_true', decide_eq_false_iff_not]
      exact fun e => n1 (by show q.1 ∈ _; rw [← e]; exact List.mem_map.2 ⟨z, hz, rfl⟩))).symm
  | q :: E, j + 1, hn, h => by
    obtain ⟨n1, n2⟩ := List.nodup_cons.1 hn
    have hm : p ∈ E := List.mem_of_getElem? (by simpa using h)
    rw [List.eraseIdx_cons_succ, List.filter_cons, if_pos (by simp only [ne_eq, decide_not, Bool.not_eq_true', decide_eq_false_iff_not]; exact fun e => n1 (by show q.1 ∈ _; rw [e]; exact List.mem_map.2 ⟨p, hm, rfl⟩))]
    rw [erase_filter n2 (by simpa using h)]
omit [DecidableEq κ] in
theorem kvs_erase {es : Array MapEntry} {j : Nat} (he : kvs es = evs fk fv E) : kvs (es.eraseIdxIfInBounds j) = evs fk fv (E.eraseIdx j) := by
  have e1 : (es.eraseIdxIfInBounds j).toList = es.toList.eraseIdx j := by
    unfold Array.eraseIdxIfInBounds
    split
    · simp
    · rw [List.eraseIdx_of_length_le (by simp; omega)]
  unfold kvs evs at he ⊢
  rw [e1, ChangeMaps.map_eraseIdx, he, ChangeMaps.map_eraseIdx]
/-- An entry is struck. -/
theorem MapE.drop {t e : TypeId} (h : MapE P k fk fv w b E) (K : Go.Maps.Keyed P k) (hinj : ∀ x y, fk x = fk y → x = y) (ht : P.underlying t = some (.map k e)) {x : κ} {l : Lit} (hx : keyOf P k (fk x) = some l) (ty : TypeId) :
    ∃ w', (Builtin.delete_ #[t, k] ty #[.map (some b), fk x]).run P w = .ok (.tuple #[]) w' ∧ MapE P k fk fv w' b (E.filter fun q => decide (q.1 ≠ x)) ∧ Beside (fun j => j = b) w w' ∧ w'.heap.size = w.heap.size := by
  have h' := h
  obtain ⟨hk, es, clock, hb, hs, he⟩ := h'
  rcases h.find K hinj hx hs he with ⟨h1, h2, _⟩ | ⟨j, e0, v', h1, h2, h3, h4, h5, h6⟩
  · refine ⟨setBlock w b (.map es clock), ?_, ⟨fun p hp => hk p (List.mem_filter.1 hp).1, es, clock, ChangeMaps.heap_setBlock_same hb _, hs, ?_⟩, beside_setBlock hb, by simp [setBlock]⟩
    · simp [Builtin.delete_, run_underlying ht, MapKept.run_getObj_map hb, K.check w _ hx, h1, MapKept.run_setObj_map _ hb, Result.andThen, setBlock]
    · rw [List.filter_eq_self.2 (fun p hp => by simpa using mlk_none h2 p hp)]
      exact he
  · refine ⟨setBlock w b (.map (es.eraseIdxIfInBounds j) clock), ?_, ⟨fun p hp => hk p (List.mem_filter.1 hp).1, _, clock, ChangeMaps.heap_setBlock_same hb _, stamped_erase hs j, ?_⟩, beside_setBlock hb, by simp [setBlock]⟩
    · simp [Builtin.delete_, run_underlying ht, MapKept.run_getObj_map hb, K.check w _ hx, h1, MapKept.run_setObj_map _ hb, Result.andThen, setBlock]
    · rw [← erase_filter h.nodup h6]
      exact kvs_erase he
end
/-! ### A map that is gone through: 'left' is still to come -/
section
variable {κ ν : Type} {P : Program} {k : TypeId} {fk : κ → Value} {fv : ν → Value} {w w1 : World} {b r : Nat} {E left : List (κ × ν)}
structure MapR (P : Program) (k : TypeId) (fk : κ → Value) (fv : ν → Value) (w : World) (b r : Nat) (E left : List (κ × ν)) : Prop where
  keys : ∀ p ∈ E, ∃ l, keyOf P k (fk p.1) = some l
  ex : ∃ es clock since seen c0, w.heap[b]? = some (.map es clock) ∧ Stamped es clock ∧ kvs es = evs fk fv E ∧ w.heap[r]? = some (.mapIter (some b) since seen c0) ∧ (∀ x ∈ es.toList, x.born < since) ∧ since ≤ c0 ∧ since ≤ clock ∧ kvs (leftOf es seen) = evs fk fv left
theorem MapR.map (h : MapR P k fk fv w b r E left) : MapE P k fk fv w b E := by
  obtain ⟨h0, es, clock, _, _, _, hb, hs, he, _⟩ := h
  exact ⟨h0, es, clock, hb, hs, he⟩
theorem MapR.lt (h : MapR P k fk fv w b r E left) : r < w.heap.size := by
  obtain ⟨_, _, _, _, _, _, _, _, _, hr, _⟩ := h
  exact (Array.getElem?_eq_some_iff.1 hr).1
theorem MapR.ne (h : MapR P k fk fv w b r E left) : r ≠ b := by
  obtain ⟨_, _, _, _, _, _, hb, _, _, hr, _⟩ := h
  intro e
  rw [e, hb] at hr
  cases hr
theorem MapR.step (h : MapR P k fk fv w b r E left) (hm : w1.heap[b]? = w.heap[b]?) (hm2 : w1.heap[r]? = w.heap[r]?) : MapR P k fk fv w1 b r E left := by
  obtain ⟨h0, es, clock, since, seen, c0, hb, hs, he, hr, rest⟩ := h
  exact ⟨h0, es, clock, since, seen, c0, hm.trans hb, hs, he, hm2.trans hr, rest⟩
theorem MapR.below (h : MapR P k fk fv w b r E left) (hb : Below w.heap.size w w1) : MapR P k fk fv w1 b r E left := h.step (hb.block b h.map.lt) (hb.block r h.lt)
theorem MapR.beside {S : Nat → Prop} (h : MapR P k fk fv w b r E left) (hb : Beside S w w1) (hs : ¬ S b) (hs2 : ¬ S r) : MapR P k fk fv w1 b r E left := h.step (hb.block b h.map.lt hs) (hb.block r h.lt hs2)
theorem MapE.range {t e : TypeId} (h : MapE P k fk fv w b E) (ht : P.underlying t = some (.map k e)) :
    ∃ w', (Instr.range t (.map (some b))).run P w = .ok (.pointer (some ⟨w.heap.size, 0, none⟩)) w' ∧ MapR P k fk fv w' b w.heap.size E E ∧ Below w.heap.size w w' ∧ w'.heap.size = w.heap.size + 1 := by
  have hlt := h.lt
  obtain ⟨h0, es, clock, hb, hs, he⟩ := h
  refine ⟨_, run_range_map w t k e b es clock ht hb, ⟨h0, es, clock, clock, #[], clock, ((MapKept.heap_alloc w _).2 b hlt).trans hb, hs, he, (MapKept.heap_alloc w _).1, hs.1, Nat.le_refl _, Nat.le_refl _, ?_⟩, below_alloc (Below.refl _ _) _, by simp⟩
  have : leftOf es #[] = es := by
    unfold leftOf
    exact Array.filter_eq_self.2 (fun x _ => by simp)
  rw [this]
  exact he
theorem left_split {es : Array MapEntry} {seen : Array Nat} (hn : (es.toList.map (·.born)).Nodup) {e : MapEntry} {a c : List MapEntry} (h : (leftOf es seen).toList = a ++ e :: c) : (leftOf es (seen.push e.born)).toList = a ++ c := by
  have e1 : ∀ s, (leftOf es s).toList = es.toList.filter (fun x => !s.contains x.born) := fun s => by unfold leftOf; rw [Array.toList_filter]
  have hn2 : ((leftOf es seen).toList.map (·.born)).Nodup := by
    rw [e1]
    exact ((List.filter_sublist (p := fun x => !seen.contains x.born) (l := es.toList)).map _).nodup hn
  have e2 : (leftOf es (seen.push e.born)).toList = (leftOf es seen).toList.filter (fun x => !(x.born == e.born)) := by
    rw [e1, e1, List.filter_filter]
    congr 1
    funext x
    rw [contains_push]
    cases seen.contains x.born <;> cases (x.born == e.born) <;> rfl
  rw [e2, h]
  rw [h, List.map_append, List.map_cons] at hn2
  obtain ⟨n1, n2, n3⟩ := List.nodup_append.1 hn2
  obtain ⟨n4, n5⟩ := List.nodup_cons.1 n2
  rw [List.filter_append, List.filter_cons, if_neg (by simp)]
  congr 1
  · exact List.filter_eq_self.2 (fun x hx => by
      have := n3 x.born (List.mem_map.2 ⟨x, hx, rfl⟩) e.born (List.mem_cons_self)
      simpa using this)
  · exact List.filter_eq_self.2 (fun x hx => by
      have : x.born ≠ e.born := fun e9 => n4 (by rw [← e9]; exact List.mem_map.2 ⟨x, hx, rfl⟩)
      simpa using this)
theorem map_split {α β γ : Type} {f : α → γ} {g : β → γ} {e : α} : ∀ {a c : List α} {l : List β}, (a ++ e :: c).map f = l.map g → ∃ l1 p l2, l = l1 ++ p :: l2 ∧ g p = f e ∧ a.map f = l1.map g ∧ c.map f = l2.map g
  | [], c, [], h => by simp at h
  | [], c, p :: l, h => by
    simp only [List.nil_append, List.map_cons, List.cons.injEq] at h
    exact ⟨[], p, l, rfl, h.1.symm, rfl, h.2⟩
  | x :: a, c, [], h => by simp at h
  | x :: a, c, p :: l, h => by
    simp only [List.cons_append, List.map_cons, List.cons.injEq] at h
    obtain ⟨l1, q, l2, rfl, h1, h2, h3⟩ := map_split (a := a) (c := c) h.2
    exact ⟨p :: l1, q, l2, rfl, h1, by simp [h.1, h2], h3⟩
/-- The step: nothing is left; or one that is left, whichever. -/
theorem MapR.next (h : MapR P k fk fv w b r E left) :
    (left = [] ∧ ∀ ty, (Instr.next (.pointer (some ⟨r, 0, none⟩)) false ty).run P w = .ok (.tuple #[.bool false]) w) ∨
    ∃ l1 p l2 w', left = l1 ++ p :: l2 ∧ (∀ ty, (Instr.next (.pointer (some ⟨r, 0, none⟩)) false ty).run P w = .ok (.tuple #[.bool true, fk p.1, fv p.2]) w') ∧ MapR P k fk fv w' b r E (l1 ++ l2) ∧ Beside (fun j => j = r) w w' ∧ w'.heap.size = w.heap.size ∧ (Instr.entry (.pointer (some ⟨r, 0, none⟩))).run P w' = .ok (.tuple #[fk p.1, fv p.2]) w' := by
  have hne := h.ne
  obtain ⟨h0, es, clock, since, seen, c0, hb, hs, he, hr, hold, hsc, hsk, hl⟩ := h
  rcases run_next_at (P := P) w 0 r b since c0 seen es clock hr hb hold hsc with ⟨h1, hrun⟩ | ⟨e, hm, w1, hal, hrun⟩
  · refine .inl ⟨?_, fun _ => hrun⟩
    have : (kvs (leftOf es seen)).length = 0 := by unfold kvs; simpa using h1
    rw [hl] at this
    unfold evs at this
    exact List.length_eq_zero_iff.1 (by simpa using this)
  · obtain ⟨hem, hes⟩ := mem_left hm
    obtain ⟨a, c, hac⟩ := List.append_of_mem hm
    have hl' := hl
    unfold kvs evs at hl'
    rw [hac] at hl'
    obtain ⟨l1, p, l2, rfl, hp, q1, q2⟩ := map_split hl'
    injection hp with hp1 hp2
    have hr1 : w1.heap[r]? = some (.mapIter (some b) since seen c0) := by rcases hal with rfl | rfl <;> exact hr
    have hb1 : w1.heap[b]? = some (.map es clock) := by rcases hal with rfl | rfl <;> exact hb
    have hset := MapKept.heap_set (o' := .mapIter (some b) since (seen.push e.born) clock) hr1
    have hb' : (setBlock w1 r (.mapIter (some b) since (seen.push e.born) clock)).heap[b]? = some (.map es clock) := (hset.2 b (fun e1 => hne e1.symm)).trans hb1
    have hn := ((stamped_iff es clock).1 hs).2.1
    refine .inr ⟨l1, p, l2, _, rfl, fun _ => by rw [hp1, hp2]; exact hrun, ⟨h0, es, clock, since, seen.push e.born, clock, hb', hs, he, hset.1, hold, hsk, hsk, ?_⟩, ?_, ?_, by rw [hp1, hp2]; exact run_entry_at _ r b since seen es clock e hset.1 hb' hem hn⟩
    · unfold kvs evs
      rw [left_split hn hac, List.map_append, q1, q2, List.map_append]
    · rcases hal with rfl | rfl <;> exact ⟨rfl, rfl, rfl, by simp [setBlock], fun i _ hi => hset.2 i hi⟩
    · rcases hal with rfl | rfl <;> simp [setBlock]
variable [DecidableEq κ]
/-- An entry that has come is struck. -/
theorem MapR.drop {t e : TypeId} (h : MapR P k fk fv w b r E left) (K : Go.Maps.Keyed P k) (hinj : ∀ x y, fk x = fk y → x = y) (ht : P.underlying t = some (.map k e)) {x : κ} {l : Lit} (hx : keyOf P k (fk x) = some l) (hnl : ∀ p ∈ left, p.1 ≠ x) (ty : TypeId) :
    ∃ w', (Builtin.delete_ #[t, k] ty #[.map (some b), fk x]).run P w = .ok (.tuple #[]) w' ∧ MapR P k fk fv w' b r (E.filter fun q => decide (q.1 ≠ x)) left ∧ Beside (fun j => j = b) w w' ∧ w'.heap.size = w.heap.size := by
  have hM := h.map
  have hne := h.ne
  obtain ⟨h0, es, clock, since, seen, c0, hb, hs, he, hr, hold, hsc, hsk, hl⟩ := h
  rcases hM.find K hinj hx hs he with ⟨h1, h2, _⟩ | ⟨j, e0, v', h1, h2, h3, h4, h5, h6⟩
  · refine ⟨setBlock w b (.map es clock), ?_, ⟨fun p hp => h0 p (List.mem_filter.1 hp).1, es, clock, since, seen, c0, ChangeMaps.heap_setBlock_same hb _, hs, ?_, (ChangeMaps.heap_setBlock_other hb _ hne).trans hr, hold, hsc, hsk, hl⟩, beside_setBlock hb, by simp [setBlock]⟩
    · simp [Builtin.delete_, run_underlying ht, MapKept.run_getObj_map hb, K.check w _ hx, h1, MapKept.run_setObj_map _ hb, Result.andThen, setBlock]
    · rw [List.filter_eq_self.2 (fun p hp => by simpa using mlk_none h2 p hp)]
      exact he
  · have e1 : (es.eraseIdxIfInBounds j).toList = es.toList.eraseIdx j := by
      unfold Array.eraseIdxIfInBounds
      split
      · simp
      · rw [List.eraseIdx_of_length_le (by simp; omega)]
    have hsub : ∀ x ∈ (es.eraseIdxIfInBounds j).toList, x ∈ es.toList := fun x hx => by rw [e1] at hx; exact (List.eraseIdx_sublist _ _).subset hx
    have e0m : e0 ∈ es.toList := List.mem_of_getElem? h2
    have hseen : seen.contains e0.born = true := by
      cases hc : seen.contains e0.born with
      | true => rfl
      | false =>
        have hm : (e0.key, e0.val) ∈ kvs (leftOf es seen) := by
          unfold kvs
          refine List.mem_map.2 ⟨e0, ?_, rfl⟩
          unfold leftOf
          rw [Array.toList_filter]
          exact List.mem_filter.2 ⟨e0m, by rw [hc]; rfl⟩
        rw [hl] at hm
        obtain ⟨p, hp, e9⟩ := List.mem_map.1 hm
        injection e9 with e9 _
        exact absurd (hinj _ _ (e9.trans h3)) (hnl p hp)
    refine ⟨setBlock w b (.map (es.eraseIdxIfInBounds j) clock), ?_, ⟨fun p hp => h0 p (List.mem_filter.1 hp).1, _, clock, since, seen, c0, ChangeMaps.heap_setBlock_same hb _, stamped_erase hs j, ?_, (ChangeMaps.heap_setBlock_other hb _ hne).trans hr, fun x hx => hold x (hsub x hx), hsc, hsk, ?_⟩, beside_setBlock hb, by simp [setBlock]⟩
    · simp [Builtin.delete_, run_underlying ht, MapKept.run_getObj_map hb, K.check w _ hx, h1, MapKept.run_setObj_map _ hb, Result.andThen, setBlock]
    · rw [← erase_filter hM.nodup h6]
      exact kvs_erase he
    · rw [← hl]
      unfold kvs
      congr 1
      unfold leftOf
      rw [Array.toList_filter, Array.toList_filter, e1]
      have key : ∀ (L : List MapEntry) (j : Nat), L[j]? = some e0 → (L.eraseIdx j).filter (fun x => !seen.contains x.born) = L.filter (fun x => !seen.contains x.born) := by
        intro L
        induction L with
        | nil => intro j hj; simp at hj
        | cons y L ih =>
          intro j hj
          match j with
          | 0 =>
            obtain rfl : y = e0 := by simpa using hj
            rw [List.eraseIdx_cons_zero, List.filter_cons, if_neg (by rw [hseen]; decide)]
          | j + 1 =>
            rw [List.eraseIdx_cons_succ, List.filter_cons, List.filter_cons, ih j (by simpa using hj)]
      exact key _ _ h2
end

end Go.Proofs.Ytiiajenhjamjdaa.Walk
