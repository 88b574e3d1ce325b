/- What is proved: an argument that reads as data holds, in the words of the functions' contracts, a value of its kind; ints are of their kind, slices no longer than an int tells. Conditions: none beyond each theorem's own. -/
import Derived.Test.YtncofecfljocgaaF0
import Derived.Test.YtncofecfljocgaaWWords
import Derived.Deep.Slices
import Derived.ChangeArms
import Derived.ProofKit
import Derived.SizedLaws
namespace Go.Proofs.Ytncofecfljocgaa.Open
open Go.RowKit Go.Deep Go.Proofs.YtncofecfljocgaaW.PrintWords Go.Proofs.Ytncofecfljocgaa.F

def Opens (P : Program) (t : TypeId) {α : Type} (d : Kd α) (wf : α → Prop) : Prop :=
  ∀ (H : Type) (enc : TypeId × Value → H) (w : World) (base : Nat) (spare : Nat → Bool) (held : Bool) (fuel : Nat) (cs : List Value) (x : DataW H × List MemPlace),
    DataW.trod enc P w base spare held fuel t cs = some x → ∃ v : α, d.K w v cs ∧ wf v

theorem opens_int {P : Program} {t : TypeId} {k : IntKind} (ht : P.underlying t = some (.int k)) : Opens P t (Kd.int k) (fun n => (Lit.int k n).wf = true) := by
  intro H enc w base spare held fuel cs x h
  obtain ⟨n, rfl, _, hw⟩ := DataW.trod_int ht h
  exact ⟨n, rfl, hw⟩

theorem opens_bool {P : Program} {t : TypeId} (ht : P.underlying t = some .bool) : Opens P t Kd.bool (fun _ => True) := by
  intro H enc w base spare held fuel cs x h
  obtain ⟨b, rfl, _⟩ := DataW.trod_bool ht h
  exact ⟨b, rfl, trivial⟩

theorem list_of {α : Type} {Q : Nat → α → Prop} : ∀ n : Nat, (∀ i, i < n → ∃ v, Q i v) → ∃ xs : List α, xs.length = n ∧ ∀ j p, xs[j]? = some p → Q j p
  | 0, _ => ⟨[], rfl, fun j p h => by simp at h⟩
  | n + 1, h => by
    obtain ⟨xs, hl, hx⟩ := list_of n (fun i hi => h i (by omega))
    obtain ⟨v, hv⟩ := h n (by omega)
    refine ⟨xs ++ [v], by simp [hl], fun j p hj => ?_⟩
    rcases Nat.lt_or_ge j xs.length with hlt | hge
    · rw [List.getElem?_append_left hlt] at hj
      exact hx j p hj
    · have : j = xs.length := by
        have := (List.getElem?_eq_some_iff.1 hj).1
        simp at this
        omega
      subst this
      rw [List.getElem?_append_right (Nat.le_refl _)] at hj
      simp at hj
      subst hj
      rw [hl]
      exact hv

theorem opens_slice {P : Program} {t e : TypeId} {α : Type} {d : Kd α} {wf : α → Prop} (ht : P.underlying t = some (.slice e)) (hc : P.cellsOf e = d.sz) (hd : Opens P e d wf) :
    Opens P t (Kd.slice e d) (fun xs => xs.length ≤ maxLen ∧ ∀ x ∈ xs, wf x) := by
  intro H enc w base spare held fuel cs x h
  rcases open_slice ht h with ⟨rfl, _⟩ | ⟨a, len, cap, m, n, D, Pl, rfl, hb, hl, hcap, hm, _, hel⟩
  · exact ⟨[], ⟨none, 0, rfl, Nat.le_refl _, Kd.C_nil d w⟩, Nat.zero_le _, fun x hx => by cases hx⟩
  · have hml : len ≤ m := by rw [hm]; split <;> omega
    obtain ⟨xs, hxl, hx⟩ := list_of (Q := fun i v => wf v ∧ ∃ c, c.length = d.sz ∧ d.K w v c ∧ ∀ j u, c[j]? = some u → w.cell? (a.add (i * d.sz + j)) = some u) len (fun i hi => by
      obtain ⟨cs', hcs, htr⟩ := hel i (by omega)
      obtain ⟨v, hK, hw⟩ := hd H enc w base spare held n cs' _ htr
      refine ⟨v, hw, cs', d.K_len hK, hK, fun j u hj => ?_⟩
      obtain ⟨_, h2, h3⟩ := World.cells?_some hcs
      have hj2 : j < cs'.length := (List.getElem?_eq_some_iff.1 hj).1
      have := h3 j (by omega)
      rw [hc, Addr.add_add, hj] at this
      exact this)
    refine ⟨xs, ⟨some a, cap, by rw [hxl], by omega, ?_⟩, by omega, fun x hxm => ?_⟩
    · rw [hxl]
      refine ⟨hxl, ?_, fun _ => ⟨a, rfl, fun j p hj => ?_⟩⟩
      · simp only [maxLen] at hcap; omega
      · obtain ⟨_, c, h1, h2, h3⟩ := hx j p hj
        exact ⟨c, h1, h2, h3⟩
    · obtain ⟨j, hj, rfl⟩ := List.getElem_of_mem hxm
      exact (hx j _ (List.getElem?_eq_getElem hj)).1

/-- A parameter that is a slice, by its parts. -/
theorem slice_arg {P : Program} {t e : TypeId} {α : Type} {d : Kd α} {wf : List α → Prop} (hd : Opens P t (Kd.slice e d) wf) {H : Type} {enc : TypeId × Value → H} {W : World} {base : Nat} {sp : Nat → Bool} {held : Bool} {v : Value} {x : DataW H} {ps : List MemPlace}
    (h : DataW.Trod enc P W base sp held t v x ps) (hv : v.cells = #[v]) : ∃ A c xs, v = .slice A xs.length c ∧ xs.length ≤ c ∧ d.C W A xs.length xs ∧ wf xs := by
  obtain ⟨fuel, hf⟩ := h
  obtain ⟨xs, ⟨A, c, hcs, hl, hC⟩, hw⟩ := hd _ _ _ _ _ _ _ _ _ hf
  rw [hv] at hcs
  simp at hcs
  exact ⟨A, c, xs, hcs, hl, hC, hw⟩

/-! structs -/
def OpensFs (P : Program) (fs : List Field) {α : Type} (d : Kd α) (wf : α → Prop) (off : Nat) : Prop :=
  ∀ (H : Type) (enc : TypeId × Value → H) (w : World) (base : Nat) (spare : Nat → Bool) (held : Bool) (n : Nat) (cs : List Value),
    (∀ f ∈ fs, ∃ y : DataW H × List MemPlace, DataW.trod enc P w base spare held n f.type ((cs.drop f.offset).take (P.cellsOf f.type)) = some y) → cs.length = off + d.sz → ∃ v : α, d.K w v (cs.drop off) ∧ wf v
theorem fs_one {P : Program} {f : Field} {α : Type} {d : Kd α} {wf : α → Prop} {off : Nat} (ho : f.offset = off) (hc : P.cellsOf f.type = d.sz) (hd : Opens P f.type d wf) : OpensFs P [f] d wf off := by
  intro H enc w base spare held n cs h hl
  obtain ⟨y, hy⟩ := h f List.mem_cons_self
  rw [ho, hc, List.take_of_length_le (by rw [List.length_drop]; omega)] at hy
  exact hd _ _ _ _ _ _ _ _ _ hy
theorem fs_cons {P : Program} {f : Field} {fs : List Field} {α β : Type} {d : Kd α} {d2 : Kd β} {wf : α → Prop} {wf2 : β → Prop} {off : Nat} (ho : f.offset = off) (hc : P.cellsOf f.type = d.sz) (hd : Opens P f.type d wf) (hs : OpensFs P fs d2 wf2 (off + d.sz)) :
    OpensFs P (f :: fs) (Kd.pair d d2) (fun x => wf x.1 ∧ wf2 x.2) off := by
  intro H enc w base spare held n cs h hl
  obtain ⟨y, hy⟩ := h f List.mem_cons_self
  rw [ho, hc] at hy
  obtain ⟨v, hv, hw⟩ := hd _ _ _ _ _ _ _ _ _ hy
  obtain ⟨v2, hv2, hw2⟩ := hs H enc w base spare held n cs (fun g hg => h g (List.mem_cons_of_mem _ hg)) (by have : (Kd.pair d d2).sz = d.sz + d2.sz := rfl; omega)
  refine ⟨(v, v2), ⟨(cs.drop off).take d.sz, cs.drop (off + d.sz), ?_, hv, hv2⟩, hw, hw2⟩
  rw [← List.drop_drop, List.take_append_drop]
theorem opens_struct {P : Program} {t : TypeId} {fs : Array Field} {α : Type} {d : Kd α} {wf : α → Prop} (ht : P.underlying t = some (.struct fs)) (hc : P.cellsOf t = d.sz) (hs : OpensFs P fs.toList d wf 0) : Opens P t d wf := by
  intro H enc w base spare held fuel cs x h
  obtain ⟨xs, n, _, _, hl, hlen, hf⟩ := DataW.trod_struct ht h
  obtain ⟨v, hv, hw⟩ := hs H enc w base spare held n cs (fun f hfm => by
    obtain ⟨i, hi, rfl⟩ := List.getElem_of_mem hfm
    have hi2 : i < fs.size := by simpa using hi
    have := hf i _ (Array.getElem?_eq_getElem hi2)
    rw [List.getElem?_eq_getElem (by omega)] at this
    exact ⟨_, by simpa using this⟩) (by omega)
  exact ⟨v, by simpa using hv, hw⟩
theorem opens_iso {P : Program} {t : TypeId} {α β : Type} {d : Kd α} {wf : α → Prop} {f : β → α} {g : α → β} (hg : ∀ x, f (g x) = x) (h : Opens P t d wf) : Opens P t (Kd.iso d f) (fun y => wf (f y)) := by
  intro H enc w base spare held fuel cs x hx
  obtain ⟨v, hv, hw⟩ := h _ _ _ _ _ _ _ _ _ hx
  exact ⟨g v, by show d.K w (f (g v)) cs; rw [hg]; exact hv, by show wf (f (g v)); rw [hg]; exact hw⟩
end Go.Proofs.Ytncofecfljocgaa.Open
