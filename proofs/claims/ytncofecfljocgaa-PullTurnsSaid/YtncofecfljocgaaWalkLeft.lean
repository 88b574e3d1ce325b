/- Rows as headers. Conditions: none beyond the statement's own. -/
import Derived.Test.YtncofecfljocgaaWalkNew
import Derived.Test.YtncofecfljocgaaWalkGet
import Derived.Test.YtncofecfljocgaaF1
import Derived.Test.YtncofecfljocgaaArgs
import Derived.Deep.QuietTactic
import Derived.BigQuiet
import Derived.Lib.QuietBelow
import Derived.Outline
import Derived.Deep.RegionHeld3
import Derived.Deep.CutRange
namespace Go.Proofs.Ytncofecfljocgaa.Walk
open Go.RowKit Go.Proofs.Ytncofecfljocgaa.F Go.Proofs.YtncofecfljocgaaW.PrintWords Go.Proofs.YtncofecfljocgaaW.PrintLast Go.Proofs.YtncofecfljocgaaW.PrintMore Go.Proofs.Ytncofecfljocgaa.Open
open Go.Sort (grow)
attribute [local go_sem] max2_int min2_int max_two min_two max_three min_three max_four min_four
set_option linter.unusedVariables false
set_option linter.unusedSimpArgs false

/-! ### rows whose inner rows are shared -/
structure Hd where
  A : Option Addr
  n : Nat
  c : Nat
structure V where
  i : Int
  h1 : Hd
  h2 : Hd
  g : Bool
instance : Inhabited V := ⟨⟨0, ⟨none, 0, 0⟩, ⟨none, 0, 0⟩, false⟩⟩
def zV : V := default
def hv (h : Hd) : Value := .slice h.A h.n h.c
abbrev kH : Kd Hd := Kd.scalar hv (fun _ => rfl)
abbrev kV : Kd V := Kd.iso (Kd.pair (Kd.int .u64) (Kd.pair kH (Kd.pair kH Kd.bool))) (fun x => (x.i, x.h1, x.h2, x.g))
def encV (x : V) : List Value := [.int .u64 x.i, .slice x.h1.A x.h1.n x.h1.c, .slice x.h2.A x.h2.n x.h2.c, .bool x.g]
theorem kV_open {w : World} {x : V} {cs : List Value} (h : kV.K w x cs) : cs = encV x := by
  obtain ⟨_, _, rfl, rfl, ⟨_, _, rfl, rfl, ⟨_, _, rfl, rfl, rfl⟩⟩⟩ := h
  rfl
theorem kV_openM {w : World} {base : Nat} {ok : Nat → Prop} {x : V} {cs : List Value} (h : kV.M w base ok x cs) : cs = encV x := kV_open (kV.K_of_M h)
theorem kV_mk (w : World) (x : V) : kV.K w x (encV x) := ⟨[.int .u64 x.i], [hv x.h1, hv x.h2, .bool x.g], rfl, rfl, ⟨[hv x.h1], [hv x.h2, .bool x.g], rfl, rfl, ⟨[hv x.h2], [.bool x.g], rfl, rfl, rfl⟩⟩⟩
theorem kV_mkM (w : World) (base : Nat) (ok : Nat → Prop) (x : V) : kV.M w base ok x (encV x) := ⟨[.int .u64 x.i], [hv x.h1, hv x.h2, .bool x.g], rfl, rfl, ⟨[hv x.h1], [hv x.h2, .bool x.g], rfl, rfl, ⟨[hv x.h2], [.bool x.g], rfl, rfl, rfl⟩⟩⟩
/-- A header leads to what a row says. -/
structure VX (w : World) (ok : Nat → Prop) (v : V) (x : X) : Prop where
  i : v.i = x.f0
  g : v.g = x.f3
  n1 : v.h1.n = x.f1.length
  n2 : v.h2.n = x.f2.length
  r1 : Kd.R kU tU w 0 ok (.slice v.h1.A v.h1.n v.h1.c) x.f1
  r2 : Kd.R kU tU w 0 ok (.slice v.h2.A v.h2.n v.h2.c) x.f2
theorem VX.step {w w1 : World} {ok : Nat → Prop} {v : V} {x : X} (h : VX w ok v x) (hm : ∀ k, ok k → k < w.heap.size → w1.heap[k]? = w.heap[k]?) : VX w1 ok v x := ⟨h.i, h.g, h.n1, h.n2, Kd.R_step h.r1 hm, Kd.R_step h.r2 hm⟩
theorem Mat.views {w : World} {S : Nat → Prop} {g rb cp : Nat} {L : List X} (h : Mat w S g rb cp L) : L.length ≤ cp ∧ ∃ K : List V, K.length = L.length ∧ Kd.C kV w (some ⟨rb, 0, none⟩) L.length K ∧ ∀ (j : Nat) (v : V), K[j]? = some v → ∃ x, L[j]? = some x ∧ VX w S v x := by
  have hr := Kd.R_reads' h.rows
  refine ⟨hr.2.1, ?_⟩
  obtain ⟨K, hl, hK⟩ := Go.Proofs.Ytncofecfljocgaa.Open.list_of (Q := fun j (v : V) => ∃ x, L[j]? = some x ∧ VX w S v x ∧ ∀ i u, (encV v)[i]? = some u → w.cell? ⟨rb, j * 4 + i, none⟩ = some u) L.length (fun j hj => by
    have hx : L[j]? = some L[j] := List.getElem?_eq_getElem hj
    obtain ⟨A1, c1, A2, c2, ⟨k0, k1, k2, k3⟩, _, r1, r2⟩ := h.elem hx
    refine ⟨⟨L[j].f0, ⟨A1, L[j].f1.length, c1⟩, ⟨A2, L[j].f2.length, c2⟩, L[j].f3⟩, L[j], hx, ⟨rfl, rfl, rfl, rfl, Kd.R_mono r1 (fun k hk => hk.1), Kd.R_mono r2 (fun k hk => hk.1)⟩, fun i u hi => ?_⟩
    match i, hi with
    | 0, hi => cases hi; exact k0
    | 1, hi => cases hi; exact k1
    | 2, hi => cases hi; exact k2
    | 3, hi => cases hi; exact k3)
  refine ⟨K, hl, ⟨hl, by have := h.ok.n2; omega, fun _ => ⟨_, rfl, fun j v hv => ?_⟩⟩, fun j v hv => ?_⟩
  · obtain ⟨x, _, _, hc⟩ := hK j v hv
    refine ⟨encV v, rfl, kV_mk w v, fun i u hu => ?_⟩
    rw [add_plain]
    exact hc i u hu
  · obtain ⟨x, hx, hvx, _⟩ := hK j v hv
    exact ⟨x, hx, hvx⟩
inductive All2 {α β : Type} (R : α → β → Prop) : List α → List β → Prop
  | nil : All2 R [] []
  | cons {a : α} {b : β} {l : List α} {m : List β} : R a b → All2 R l m → All2 R (a :: l) (b :: m)
namespace All2
variable {α β : Type} {R R' : α → β → Prop}
theorem of_get : ∀ {K : List α} {L : List β}, K.length = L.length → (∀ (j : Nat) (v : α), K[j]? = some v → ∃ x, L[j]? = some x ∧ R v x) → All2 R K L
  | [], [], _, _ => .nil
  | a :: K, b :: L, hl, h => .cons (by obtain ⟨x, hx, hr⟩ := h 0 a rfl; cases hx; exact hr) (of_get (by simpa using hl) (fun j v hv => h (j + 1) v hv))
  | [], _ :: _, hl, _ => by cases hl
  | _ :: _, [], hl, _ => by cases hl
theorem len {K : List α} {L : List β} (h : All2 R K L) : K.length = L.length := by
  induction h with
  | nil => rfl
  | cons _ _ ih => simp [ih]
theorem get {K : List α} {L : List β} (h : All2 R K L) : ∀ {j : Nat} {v : α}, K[j]? = some v → ∃ x, L[j]? = some x ∧ R v x := by
  induction h with
  | nil => intro j v hv; cases hv
  | cons hr _ ih =>
    intro j v hv
    match j with
    | 0 => cases hv; exact ⟨_, rfl, hr⟩
    | j + 1 => exact ih hv
theorem mono {K : List α} {L : List β} (h : All2 R K L) (hm : ∀ a b, R a b → R' a b) : All2 R' K L := by
  induction h with
  | nil => exact .nil
  | cons hr _ ih => exact .cons (hm _ _ hr) ih
theorem filt {K : List α} {L : List β} (h : All2 R K L) {p : α → Bool} {q : β → Bool} (hpq : ∀ a b, R a b → p a = q b) : All2 R (K.filter p) (L.filter q) := by
  induction h with
  | nil => exact .nil
  | @cons a b l m hr _ ih =>
    have := hpq a b hr
    cases hp : p a with
    | true => rw [List.filter_cons_of_pos hp, List.filter_cons_of_pos (by rw [← this, hp])]; exact .cons hr ih
    | false => rw [List.filter_cons_of_neg (by simp [hp]), List.filter_cons_of_neg (by rw [← this, hp]; decide)]; exact ih
end All2
theorem longest_le {m : Nat} : ∀ (l : List (List Int)), (∀ a ∈ l, a.length ≤ m) → longest l ≤ m
  | [], _ => Nat.zero_le _
  | a :: l, h => Nat.max_le.2 ⟨h a List.mem_cons_self, longest_le l (fun b hb => h b (List.mem_cons_of_mem _ hb))⟩

end Go.Proofs.Ytncofecfljocgaa.Walk
