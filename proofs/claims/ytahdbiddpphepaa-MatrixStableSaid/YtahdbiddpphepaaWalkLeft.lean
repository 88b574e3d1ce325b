/- Rows whose inner rows are shared. Conditions: none beyond the statement's own. -/
import Derived.Test.YtahdbiddpphepaaWalkMat
import Derived.Test.YtahdbiddpphepaaF1
import Derived.Test.YtahdbiddpphepaaArgs
import Derived.Deep.QuietTactic
import Derived.BigQuiet
import Derived.Lib.QuietBelow
import Derived.Outline
import Derived.Deep.RegionHeld3
import Derived.Deep.CutRange
namespace Go.Proofs.Ytahdbiddpphepaa.Walk
open Go.RowKit Go.Proofs.Ytahdbiddpphepaa.F Go.Proofs.YtahdbiddpphepaaW.PrintWords Go.Proofs.YtahdbiddpphepaaW.PrintLast Go.Proofs.YtahdbiddpphepaaW.PrintMore Go.Proofs.Ytahdbiddpphepaa.Open
open Go.Sort (grow)
attribute [local go_sem] max2_int min2_int max_two min_two max_three min_three max_four min_four
set_option linter.unusedVariables false
set_option linter.unusedSimpArgs false

/-! ### rows whose inner rows are shared -/
structure Hd where
  A : Option Addr
  n : Nat
  c : Nat
structure V where
  i : Int
  h1 : Hd
  h2 : Hd
  g : Bool
instance : Inhabited V := ⟨⟨0, ⟨none, 0, 0⟩, ⟨none, 0, 0⟩, false⟩⟩
def zV : V := default
def hv (h : Hd) : Value := .slice h.A h.n h.c
abbrev kH : Kd Hd := Kd.scalar hv (fun _ => rfl)
abbrev kV : Kd V := Kd.iso (Kd.pair (Kd.int .u64) (Kd.pair kH (Kd.pair kH Kd.bool))) (fun x => (x.i, x.h1, x.h2, x.g))
def encV (x : V) : List Value := [.int .u64 x.i, .slice x.h1.A x.h1.n x.h1.c, .slice x.h2.A x.h2.n x.h2.c, .bool x.g]
theorem kV_open {w : World} {x : V} {cs : List Value} (h : kV.K w x cs) : cs = encV x := by
  obtain ⟨_, _, rfl, rfl, ⟨_, _, rfl, rfl, ⟨_, _, rfl, rfl, rfl⟩⟩⟩ := h
  rfl
theorem kV_openM {w : World} {base : Nat} {ok : Nat → Prop} {x : V} {cs : List Value} (h : kV.M w base ok x cs) : cs = encV x := kV_open (kV.K_of_M h)
theorem kV_mk (w : World) (x : V) : kV.K w x (encV x) := ⟨[.int .u64 x.i], [hv x.h1, hv x.h2, .bool x.g], rfl, rfl, ⟨[hv x.h1], [hv x.h2, .bool x.g], rfl, rfl, ⟨[hv x.h2], [.bool x.g], rfl, rfl, rfl⟩⟩⟩
theorem kV_mkM (w : World) (base : Nat) (ok : Nat → Prop) (x : V) : kV.M w base ok x (encV x) := ⟨[.int .u64 x.i], [hv x.h1, hv x.h2, .bool x.g], rfl, rfl, ⟨[hv x.h1], [hv x.h2, .bool x.g], rfl, rfl, ⟨[hv x.h2], [.bool x.g], rfl, rfl, rfl⟩⟩⟩
/-- A header leads to what a row says. -/
structure VX (w : World) (ok : Nat → Prop) (v : V) (x : X) : Prop where
  i : v.i = x.f0
  g : v.g = x.f3
  n1 : v.h1.n = x.f1.length
  n2 : v.h2.n = x.f2.length
  r1 : Kd.R kU tU w 0 ok (.slice v.h1.A v.h1.n v.h1.c) x.f1
  r2 : Kd.R kU tU w 0 ok (.slice v.h2.A v.h2.n v.h2.c) x.f2
theorem VX.step {w w1 : World} {ok : Nat → Prop} {v : V} {x : X} (h : VX w ok v x) (hm : ∀ k, ok k → k < w.heap.size → w1.heap[k]? = w.heap[k]?) : VX w1 ok v x := ⟨h.i, h.g, h.n1, h.n2, Kd.R_step h.r1 hm, Kd.R_step h.r2 hm⟩
theorem Mat.views {w : World} {S : Nat → Prop} {g rb cp : Nat} {L : List X} (h : Mat w S g rb cp L) : L.length ≤ cp ∧ ∃ K : List V, K.length = L.length ∧ Kd.C kV w (some ⟨rb, 0, none⟩) L.length K ∧ ∀ (j : Nat) (v : V), K[j]? = some v → ∃ x, L[j]? = some x ∧ VX w S v x := by
  have hr := Kd.R_reads' h.rows
  refine ⟨hr.2.1, ?_⟩
  obtain ⟨K, hl, hK⟩ := Go.Proofs.Ytahdbiddpphepaa.Open.list_of (Q := fun j (v : V) => ∃ x, L[j]? = some x ∧ VX w S v x ∧ ∀ i u, (encV v)[i]? = some u → w.cell? ⟨rb, j * 4 + i, none⟩ = some u) L.length (fun j hj => by
    have hx : L[j]? = some L[j] := List.getElem?_eq_getElem hj
    obtain ⟨A1, c1, A2, c2, ⟨k0, k1, k2, k3⟩, _, r1, r2⟩ := h.elem hx
    refine ⟨⟨L[j].f0, ⟨A1, L[j].f1.length, c1⟩, ⟨A2, L[j].f2.length, c2⟩, L[j].f3⟩, L[j], hx, ⟨rfl, rfl, rfl, rfl, Kd.R_mono r1 (fun k hk => hk.1), Kd.R_mono r2 (fun k hk => hk.1)⟩, fun i u hi => ?_⟩
    match i, hi with
    | 0, hi => cases hi; exact k0
    | 1, hi => cases hi; exact k1
    | 2, hi => cases hi; exact k2
    | 3, hi => cases hi; exact k3)
  refine ⟨K, hl, ⟨hl, by have := h.ok.n2; omega, fun _ => ⟨_, rfl, fun j v hv => ?_⟩⟩, fun j v hv => ?_⟩
  · obtain ⟨x, _, _, hc⟩ := hK j v hv
    refine ⟨encV v, rfl, kV_mk w v, fun i u hu => ?_⟩
    rw [add_plain]
    exact hc i u hu
  · obtain ⟨x, hx, hvx, _⟩ := hK j v hv
    exact ⟨x, hx, hvx⟩
section
variable {w : World} {base b n c : Nat} {ok : Nat → Prop} {L : List V}
theorem V_elem (h : Kd.R kV tX w base ok (.slice (some ⟨b, 0, none⟩) n c) L) {p : Nat} {x : V} (hx : L[p]? = some x) :
    (w.cell? ⟨b, p * 4, none⟩ = some (.int .u64 x.i) ∧ w.cell? ⟨b, p * 4 + 1, none⟩ = some (.slice x.h1.A x.h1.n x.h1.c) ∧ w.cell? ⟨b, p * 4 + 2, none⟩ = some (.slice x.h2.A x.h2.n x.h2.c) ∧ w.cell? ⟨b, p * 4 + 3, none⟩ = some (.bool x.g)) ∧ ∀ j, w.frozen? ⟨b, p * 4 + j, none⟩ = false := by
  have hp : p < L.length := (List.getElem?_eq_some_iff.1 hx).1
  have hn : n = L.length := (Kd.R_reads' h).1
  subst hn
  obtain ⟨cc, hcl, hM, hcc, hcf⟩ := Kd.R_elem h zV (p : Int) (by omega) (by omega)
  have e : L.getD ((p : Int)).toNat zV = x := by simp [List.getD, hx]
  rw [e] at hM
  rw [Int.toNat_natCast] at hcc hcf
  obtain rfl := kV_openM hM
  exact ⟨⟨hcc 0 _ rfl, hcc 1 _ rfl, hcc 2 _ rfl, hcc 3 _ rfl⟩, hcf⟩
theorem V_set (h : Kd.R kV tX w base ok (.slice (some ⟨b, 0, none⟩) n c) L) {p : Nat} (hp : p < L.length) (y : V) :
    Kd.R kV tX ((((w.setCell ⟨b, p * 4, none⟩ (.int .u64 y.i)).setCell ⟨b, p * 4 + 1, none⟩ (.slice y.h1.A y.h1.n y.h1.c)).setCell ⟨b, p * 4 + 2, none⟩ (.slice y.h2.A y.h2.n y.h2.c)).setCell ⟨b, p * 4 + 3, none⟩ (.bool y.g)) base ok (.slice (some ⟨b, 0, none⟩) n c) (L.set p y) := by
  have hn : n = L.length := (Kd.R_reads' h).1
  subst hn
  obtain ⟨⟨k0, k1, k2, k3⟩, _⟩ := V_elem h (List.getElem?_eq_getElem hp)
  have key := Kd.R_seg h (x' := y) (p : Int) (by omega) (by omega) (c := encV L[p]) rfl (by
    rw [Int.toNat_natCast]
    intro j u hj
    match j, hj with
    | 0, hj => cases hj; exact k0
    | 1, hj => cases hj; exact k1
    | 2, hj => cases hj; exact k2
    | 3, hj => cases hj; exact k3) (j := 0) (seg := encV y) (by show 0 + 4 ≤ 4; exact Nat.le_refl _) (kV_mkM w base (fun _ => False) y) (fun _ hk => hk.elim)
  rw [Int.toNat_natCast] at key
  exact key.1
end
/-! ### slices.Clone at rows -/
set_option maxHeartbeats 1000000 in
theorem CloneV_calls (a : Addr) (c0 : Nat) (K : List V) (w : World) (hr : Kd.C kV w (some a) K.length K) (hc : K.length ≤ c0) (hl : K.length ≤ 64) :
    Calls Try.prog 45 #[.slice (some a) K.length c0] w fun e w' => ∃ v0_ : Value, e = .returned v0_ ∧ Kd.R kV tX w' w.heap.size (fun _ => True) v0_ K ∧ Below w.heap.size w w' := by
  have HR := Aside0.mk hr
  have hq : ∀ (w : World) (a : Option Addr) (n c n' c' : Nat), (binOp .eql 58 (.slice a n c) (.slice none n' c')).run Try.prog w = .ok (.bool a.isNone) w := fun w a n c n' c' => Lib.run_eql_slice_nil w 58 tX a n c n' c' Try.underlying58
  have hm : Kd.R kV tX (w.alloc (.cells #[] tX)) w.heap.size (fun _ => True) (.slice (some ⟨w.heap.size, 0, none⟩) 0 0) [] :=
    ⟨fun _ _ => trivial, [], World.ownsRow_made w #[] 0 (Nat.le_refl _) (by simp) (by simp), Reps.none _ _⟩
  have HM := Aside0.mk hm
  clear hm hr
  go_enter Try.func45, Try.ntmps45
  go_wp2_with ((with_reducible refine gate_dst (N := 7) rfl ?_); refine Kd.R_append_rows kV (Rr := fun x cs => Kd.K kV (w.alloc (.cells #[] tX)) x cs) (w0 := w) w.heap.size rfl (.tmp 5) (.tmp 6) 58 tX (.agg #[.int .u64 0, .slice none 0 0, .slice none 0 0, .bool false]) 64 rfl Try.underlying58 infoX rfl (by decide) (by decide) _ [] K (some a) K.length c0 (fun _ => True) (fun _ => False) rfl rfl HM.out (Kd.C_alloc HR.out _) (fun x cs hx => by obtain rfl := kV_open hx; exact kV_mkM _ _ _ x) (fun _ hf => hf.elim) (fun _ _ => trivial) (below_alloc (Below.refl _ _) _) (by simp) (by simp only [List.length_nil, Nat.zero_add]; omega) ?_; intro v1 w1 ho1 hb1 _ _; have HO := Aside0.mk ho1; have HB := Aside0.mk hb1; clear ho1 hb1)
  go_ret
  exact ⟨_, rfl, HO.out, HB.out⟩
/-! ### slices.DeleteFunc at rows -/
theorem left_closure (x : V) (W : World) : Calls Try.prog 46 #[.agg #[.int .u64 x.i, .slice x.h1.A x.h1.n x.h1.c, .slice x.h2.A x.h2.n x.h2.c, .bool x.g]] W fun e w' => e = .returned (.bool x.g) ∧ Below W.heap.size W w' := by
  have hu := Try.underlying62
  go_enter Try.func46, Try.ntmps46
  go_wp2
  go_ret
  exact ⟨rfl, below_alloc (Below.refl _ _) _⟩

end Go.Proofs.Ytahdbiddpphepaa.Walk
