/- The window beside the one of the document. Conditions: none beyond the statement's own. -/
import Derived.Test.YtdeknknefjepnaaWalkRefP
import Derived.Test.YtdeknknefjepnaaWalkLoad
import Derived.Test.YtdeknknefjepnaaF4
import Derived.Test.YtdeknknefjepnaaArgs
import Derived.Deep.QuietTactic
import Derived.BigQuiet
import Derived.Lib.QuietBelow
import Derived.Outline
import Derived.Deep.RegionHeld3
import Derived.Deep.CutRange
namespace Go.Proofs.Ytdeknknefjepnaa.Walk
open Go.RowKit Go.Proofs.Ytdeknknefjepnaa.F Go.Proofs.YtdeknknefjepnaaW.PrintWords Go.Proofs.YtdeknknefjepnaaW.PrintLast Go.Proofs.YtdeknknefjepnaaW.PrintMore Go.Proofs.Ytdeknknefjepnaa.Open
open Go.Sort (grow)
attribute [local go_sem] max2_int min2_int max_two min_two max_three min_three max_four min_four
set_option linter.unusedVariables false
set_option linter.unusedSimpArgs false

/-! ### The window beside the document's -/
abbrev tRW : Nat := 42
theorem heapRun : Kd.Heap k66 := by unfold k66; exact Kd.heap_iso _ (Kd.heap_pair (Kd.heap_int _) (Kd.heap_pair (Kd.heap_int _) (Kd.heap_int _)))
theorem heapF : Kd.Heap kF := by
  unfold kF k36
  refine Kd.heap_iso _ ?_
  repeat (first
    | exact Kd.heap_int _
    | exact heapRun
    | (refine Kd.heap_slice _ ?_)
    | (refine Kd.heap_pair ?_ ?_)
    | (unfold k30; refine Kd.heap_iso _ ?_)
    | (unfold k32; refine Kd.heap_iso _ ?_))
/-- What came in is read whatever becomes of later blocks. -/
theorem C_F {α : Type} {d : Kd α} (hd : Kd.Heap d) {w : World} {A : Option Addr} {n : Nat} {xs : List α} (h : d.C w A n xs) {W : World} (hb : Below w.heap.size w W) : Kd.F d W (fun k => k < w.heap.size) A n xs := fun W' hW =>
  hd.C (fun k hk => (hW k hk (by have := hb.size; omega)).trans (hb.block k hk)) h
/-- The document's window in block mb: what waits in it. -/
structure RB (w : World) (Q : Nat → Prop) (mb n : Nat) (last : Int) (L : List Fr) (A : Option Addr) (c : Nat) : Prop where
  row : Kd.F kF w Q A L.length L
  cap : L.length ≤ c
  blk : w.heap[mb]? = some (.cells #[.int .i64 n, .slice A L.length c, .int .u64 last] tRW (0, 0))
  mbQ : ¬ Q mb
  Q0 : ∀ k, Q k → k < w.heap.size
section
variable {w w1 : World} {Q S : Nat → Prop} {mb n : Nat} {last : Int} {L : List Fr} {A : Option Addr} {c : Nat}
theorem RB.step (h : RB w Q mb n last L A c) (hs : w.heap.size ≤ w1.heap.size) (hm : ∀ k, (Q k ∨ k = mb) → k < w.heap.size → w1.heap[k]? = w.heap[k]?) : RB w1 Q mb n last L A c :=
  ⟨Kd.F_step h.row (fun k hk hlt => hm k (Or.inl hk) hlt), h.cap, (hm mb (Or.inr rfl) (blk_lt h.blk)).trans h.blk, h.mbQ, fun k hk => Nat.lt_of_lt_of_le (h.Q0 k hk) hs⟩
theorem RB.below (h : RB w Q mb n last L A c) (hb : Below w.heap.size w w1) : RB w1 Q mb n last L A c := h.step hb.size (fun k _ hlt => hb.block k hlt)
theorem RB.beside (h : RB w Q mb n last L A c) (hb : Beside S w w1) (hq : ∀ k, S k → ¬ Q k) (hm : ¬ S mb) : RB w1 Q mb n last L A c :=
  h.step hb.size (fun k hk hlt => hb.block k hlt (fun hS => hk.elim (fun h1 => hq k hS h1) (fun h1 => hm (h1 ▸ hS))))
end
/-- Both windows hold the same. -/
structure SW (w0 w : World) (S Q : Nat → Prop) (g mb n : Nat) (last : Int) (L : List Fr) (A : Option Addr) (c : Nat) : Prop where
  win : Win w S g n last L
  rb : RB w Q mb n last L A c
  dis : ∀ k, S k → ¬ Q k
  mbS : ¬ S mb
  S0 : ∀ k, S k → w0.heap.size ≤ k ∧ k < w.heap.size
  mb0 : w0.heap.size ≤ mb
  sq : sq L (last + 1 - L.length)
  fn : ∀ x ∈ L, fnum x
  below : Below w0.heap.size w0 w
  big : 0 ≤ last ∧ last ≤ 1000000
theorem SW.step {w0 w w1 : World} {S Q : Nat → Prop} {g mb n : Nat} {last : Int} {L : List Fr} {A : Option Addr} {c : Nat} (h : SW w0 w S Q g mb n last L A c) (hb : Below w.heap.size w w1) : SW w0 w1 S Q g mb n last L A c :=
  ⟨h.win.below hb, h.rb.below hb, h.dis, h.mbS, fun k hk => ⟨(h.S0 k hk).1, Nat.lt_of_lt_of_le (h.S0 k hk).2 hb.size⟩, h.mb0, h.sq, h.fn, below_step h.below hb, h.big⟩
/-- A frame that came in: what its rows lead to. -/
theorem great_no {x : Fr} (h : unisonref06_Great.f x.f0.f0 x.f0.f1 x.f0.f2 x.f1.f0 x.f1.f1 x.f2 x.f3 x.f4 x.f5 x.f6 x.f7 x.f8 x.f9 x.f10 x.f11 x.f12 = some false) : fok x := by
  unfold unisonref06_Great.f at h
  by_cases h1 : (x.f8.length : Int) > 100
  · rw [if_pos h1] at h; cases h
  rw [if_neg h1] at h
  by_cases h2 : (x.f9.length : Int) > 100
  · rw [if_pos h2] at h; cases h
  rw [if_neg h2] at h
  by_cases h3 : (x.f10.length : Int) > 100
  · rw [if_pos h3] at h; cases h
  rw [if_neg h3] at h
  by_cases h4 : (x.f11.length : Int) > 100
  · rw [if_pos h4] at h; cases h
  rw [if_neg h4] at h
  have h5 := of_decide_eq_false (Option.some.inj h)
  exact ⟨by omega, by omega, by omega, by omega, by omega⟩
theorem great_any (x : Fr) : ∃ b, unisonref06_Great.f x.f0.f0 x.f0.f1 x.f0.f2 x.f1.f0 x.f1.f1 x.f2 x.f3 x.f4 x.f5 x.f6 x.f7 x.f8 x.f9 x.f10 x.f11 x.f12 = some b := by
  unfold unisonref06_Great.f
  repeat (first | exact ⟨_, rfl⟩ | split)
abbrev kA : Kd S45 := k45
/-- An act in the row that came in: its cells, the frame's among them. -/
theorem act_at {w : World} {A : Option Addr} {n : Nat} {xs : List S45} (h : Kd.C kA w A n xs) (j : Nat) (hj : j < n) :
    ∃ (y : S45) (ad : Addr) (XL : List Value), xs[j]? = some y ∧ A = some ad ∧ kF.K w y.f1 XL ∧ (∀ i v, ([.bool y.f0] ++ (XL ++ [.int .u64 y.f2]))[i]? = some v → w.cell? ((ad.add (j * 18)).add i) = some v) := by
  obtain ⟨ad, c, e, hcl, hK, hcc⟩ := Kd.C_get h z45 (j : Int) (by omega) (by omega)
  rw [Int.toNat_natCast] at hK hcc
  have hl := h.1
  have hy : xs[j]? = some (xs.getD j z45) := by simp [List.getD, show j < xs.length by omega]
  generalize xs.getD j z45 = y at *
  obtain ⟨c0, c1, rfl, h0, XL, c3, rfl, hX, h3⟩ := hK
  obtain rfl : c0 = [.bool y.f0] := h0
  obtain rfl : c3 = [.int .u64 y.f2] := h3
  exact ⟨y, ad, XL, hy, e, hX, fun i v hv => by rw [add_add]; exact hcc i v hv⟩
theorem K_len16 {w : World} {x : Fr} {XL : List Value} (h : kF.K w x XL) : XL.length = 16 := kF.K_len h
theorem Great_X {w : World} {x : Fr} {XL : List Value} (hX : kF.K w x XL) : ∃ b, (b = false → fok x) ∧ ∀ W, Below w.heap.size w W → Calls Try.prog 12 #[.agg XL.toArray] W fun e w' => e = .returned (.bool b) ∧ Below W.heap.size W w' := by
  obtain ⟨b, hb⟩ := great_any x
  refine ⟨b, fun h => great_no (by rw [hb, h]), fun W hW => ?_⟩
  obtain ⟨A11, c11, A12, c12, A13, c13, A14, c14, A15, c15, rfl, l11, g11, l12, g12, l13, g13, l14, g14, l15, g15⟩ := k36_open (kF.K_below hW hX)
  exact unisonref06_Great.calls _ _ _ _ _ _ _ _ _ _ _ _ _ _ _ _ _ _ _ _ _ _ _ _ _ _ _ W g11 l11 g12 l12 g13 l13 g14 l14 g15 l15 hb
section
variable {W : World} {Q P : Nat → Prop} {mb n : Nat} {last : Int} {L : List Fr} {A : Option Addr} {c : Nat}
theorem refAcked (h : RB W Q mb n last L A c) (u : Int) (hl : L.length ≤ 1000000) (hs : sq L (last + 1 - L.length)) (d : Nat) (hd : d = if u > last then 0 else (u - (last - L.length)).toNat) :
    Calls Try.prog 13 #[.agg #[.int .i64 n, .slice A L.length c, .int .u64 last], .int .u64 u] W fun e w' => ∃ (A' : Option Addr) (c' : Nat), e = .returned (.tuple #[.agg #[.int .i64 n, .slice A' (L.drop d).length c', .int .u64 last], .int .i64 (d : Int)]) ∧ Kd.F kF w' (fun k => Q k ∨ W.heap.size ≤ k) A' (L.drop d).length (L.drop d) ∧ (L.drop d).length ≤ c' ∧ Below W.heap.size W w' := by
  have hf := acked_f n last u L hl hs
  have hf' : unisonref08_W_Acked.f (L.length + 1) n L last u = some ((n : Int), L.drop d, last, (L.length : Int) - ((L.drop d).length : Int)) := by
    rw [hf, hd]
    by_cases hu : u > last
    · rw [if_pos hu, if_pos hu]
      simp
    · rw [if_neg hu, if_neg hu]
  have e9 : (L.length : Int) - ((L.drop d).length : Int) = d := by
    have : d ≤ L.length := by rw [hd]; split <;> omega
    simp
    omega
  rw [e9] at hf'
  refine (unisonref08_W_Acked.calls _ _ Q A c L last u _ _ _ _ W (Kd.V_mk h.cap h.row) hf').mono ?_
  rintro e w' ⟨v1, rfl, hv, hb⟩
  obtain ⟨A', c', rfl⟩ := Kd.V_slice hv
  exact ⟨A', c', rfl, Kd.V_F hv, (Kd.V_at hv).2.1, hb⟩
theorem refPut (h : RB W Q mb n last L A c) (x : Fr) {XL : List Value} (hX : Kd.FK kF W P x XL) (hl : L.length ≤ 1000000) (h0 : 0 ≤ last) (h1 : last ≤ 4611686018427387904) (L' : List Fr) (last' k : Int) (hL : (L', last', k) = if (L.length : Int) ≥ n then (L, last, 0) else (L ++ [{ x with f2 := last + 1 }], last + 1, 1)) :
    Calls Try.prog 15 #[.agg #[.int .i64 n, .slice A L.length c, .int .u64 last], .agg XL.toArray] W fun e w' => ∃ (A' : Option Addr) (c' : Nat), e = .returned (.tuple #[.agg #[.int .i64 n, .slice A' L'.length c', .int .u64 last'], .int .i64 k]) ∧ Kd.F kF w' (fun k => (Q k ∨ P k) ∨ W.heap.size ≤ k) A' L'.length L' ∧ L'.length ≤ c' ∧ Below W.heap.size W w' := by
  obtain ⟨A11, c11, A12, c12, A13, c13, A14, c14, A15, c15, rfl, l11, g11, l12, g12, l13, g13, l14, g14, l15, g15⟩ := k36_openF hX
  have hf := put_f n last L x h0 h1 hl
  have hf' : unisonref08_W_Put.f n L last x.f0.f0 x.f0.f1 x.f0.f2 x.f1.f0 x.f1.f1 x.f2 x.f3 x.f4 x.f5 x.f6 x.f7 x.f8 x.f9 x.f10 x.f11 x.f12 = some ((n : Int), L', last', k) := by
    rw [hf]
    by_cases hn : (L.length : Int) ≥ n
    · rw [if_pos hn] at hL ⊢
      cases hL
      rfl
    · rw [if_neg hn] at hL ⊢
      cases hL
      rfl
  refine (unisonref08_W_Put.calls _ Q A c L last _ _ _ _ _ _ _ _ _ _ _ P A11 c11 x.f8 P A12 c12 x.f9 P A13 c13 x.f10 P A14 c14 x.f11 P A15 c15 x.f12 _ _ _ _ W (Kd.V_mk h.cap h.row) (Kd.V_mk l11 g11) (Kd.V_mk l12 g12) (Kd.V_mk l13 g13) (Kd.V_mk l14 g14) (Kd.V_mk l15 g15) hf').mono ?_
  rintro e w' ⟨v1, rfl, hv, hb⟩
  obtain ⟨A', c', rfl⟩ := Kd.V_slice hv
  exact ⟨A', c', rfl, Kd.F_mono (Kd.V_F hv) (fun q hq => hq.elim (fun h => Or.inl (h.elim Or.inl (fun h => Or.inr (by rcases h with h | h | h | h | h <;> exact h)))) Or.inr), (Kd.V_at hv).2.1, hb⟩
end
/-- The box of an act: its frame's cells, its first and its last one. -/
theorem box_act {w : World} {ab : Nat} {AL XL : List Value} {t : TypeId} {ya : Bool} {yn : Int} (hb : w.heap[ab]? = some (.cells AL.toArray t (0, 0))) (he : AL = [Value.bool ya] ++ (XL ++ [Value.int .u64 yn])) (hl : XL.length = 16) :
    (∀ i v, XL[i]? = some v → w.cell? ((⟨ab, 1, none⟩ : Addr).add i) = some v) ∧ w.cell? ⟨ab, 0, none⟩ = some (.bool ya) ∧ w.cell? ⟨ab, 17, none⟩ = some (.int .u64 yn) := by
  subst he
  refine ⟨fun i v hv => ?_, ?_, ?_⟩
  · have hi : i < XL.length := (List.getElem?_eq_some_iff.1 hv).1
    rw [Addr.add_mid, blk_cell hb, List.getElem?_toArray, List.getElem?_append_right (by simp), List.getElem?_append_left (by simp; omega)]
    rw [← hv]
    congr 1
    simp
  · rw [blk_cell hb, List.getElem?_toArray]
    rfl
  · rw [blk_cell hb, List.getElem?_toArray, List.getElem?_append_right (by simp), List.getElem?_append_right (by simp; omega)]
    simp [hl]
theorem K_FK {α : Type} {d : Kd α} (hd : Kd.Heap d) {w W : World} {x : α} {cs : List Value} (h : d.K w x cs) (hb : Below w.heap.size w W) : Kd.FK d W (fun k => k < w.heap.size) x cs := fun W' hW =>
  hd.K (fun k hk => (hW k hk (by have := hb.size; omega)).trans (hb.block k hk)) h
/-- The document's window has been turned: what became of it. -/
theorem SW.turn {w0 w6 w7 w8 : World} {S Q Qn : Nat → Prop} {g mb n : Nat} {last last' : Int} {L L' : List Fr} {A A' : Option Addr} {c c' : Nat} {o : Obj} (h : SW w0 w6 S Q g mb n last L A c) (hb : Below w6.heap.size w6 w7)
    (hF : Kd.F kF w7 (fun k => Qn k ∨ w6.heap.size ≤ k) A' L'.length L') (hq : ∀ k, Qn k → (Q k ∨ k < w0.heap.size)) (hc : L'.length ≤ c')
    (hm : w8.heap[mb]? = some (.cells #[.int .i64 n, .slice A' L'.length c', .int .u64 last'] tRW (0, 0))) (hB : Beside (fun k => k = mb) (w7.alloc o) w8) (hz : w8.heap.size = (w7.alloc o).heap.size) :
    Win w8 S g n last L ∧ RB w8 (fun k => (Qn k ∨ w6.heap.size ≤ k) ∧ k < w7.heap.size) mb n last' L' A' c' ∧ (∀ k, S k → ¬ ((Qn k ∨ w6.heap.size ≤ k) ∧ k < w7.heap.size)) ∧ Below w0.heap.size w0 w8 ∧ w6.heap.size ≤ w8.heap.size := by
  have hmlt := blk_lt h.rb.blk
  have hz7 := hb.size
  have hal := below_alloc (Below.refl w7.heap.size w7) o
  have hnQ : ¬ (Qn mb ∨ w6.heap.size ≤ mb) := fun h1 => h1.elim (fun h2 => (hq mb h2).elim (fun h3 => h.rb.mbQ h3) (fun h3 => by have := h.mb0; omega)) (fun h2 => by omega)
  refine ⟨((h.win.below hb).below hal).beside hB (fun k hk e => h.mbS (e ▸ hk)), ⟨?_, hc, hm, fun h1 => hnQ h1.1, fun k hk => by have := hk.2; rw [hz]; simp; omega⟩, ?_, ?_, by rw [hz]; simp; omega⟩
  · refine Kd.F_step (Kd.F_below (Kd.F_bound hF) hal) (fun k hk hlt => hB.block k hlt (fun e => hnQ (e ▸ hk.1)))
  · intro k hS h1
    rcases h1.1 with h2 | h2
    · rcases hq k h2 with h3 | h3
      · exact h.dis k hS h3
      · have := (h.S0 k hS).1; omega
    · have := (h.S0 k hS).2; omega
  · exact Beside.step (below_step (below_step h.below hb) hal) hB (fun k hk => by rw [hk]; exact h.mb0)
theorem SW.acked {w0 w6 w8 w9 : World} {S Q Q' : Nat → Prop} {g mb n : Nat} {last yn : Int} {L L' : List Fr} {A A' : Option Addr} {c c' d : Nat} (h : SW w0 w6 S Q g mb n last L A c) (hd : d = if yn > last then 0 else (yn - (last - L.length)).toNat) (hL : L' = L.drop d)
    (tR : RB w8 Q' mb n last L' A' c') (tD : ∀ k, S k → ¬ Q' k) (tB : Below w0.heap.size w0 w8) (tS : w6.heap.size ≤ w8.heap.size) (hW : Win w9 S g n last (L.drop d)) (hB : Beside S w8 w9) : SW w0 w9 S Q' g mb n last L' A' c' := by
  have hdl : d ≤ L.length := by rw [hd]; split <;> omega
  subst hL
  refine ⟨hW, tR.beside hB tD h.mbS, tD, h.mbS, fun k hk => ⟨(h.S0 k hk).1, by have := (h.S0 k hk).2; have := hB.size; omega⟩, h.mb0, ?_, fun x hx => h.fn x (List.mem_of_mem_drop hx), Beside.step tB hB (fun k hk => (h.S0 k hk).1), h.big⟩
  have := sq_drop h.sq d
  rw [show last + 1 - ((L.drop d).length : Int) = last + 1 - L.length + (d : Nat) by simp; omega]
  exact this
theorem put_eq {n : Nat} {last : Int} {L : List Fr} {x : Fr} {k : Nat} (hk : k = min 1 (n - L.length)) :
    ((L ++ numb last (([x] : List Fr).take k), last + (k : Int), (k : Int)) : List Fr × Int × Int) = if (L.length : Int) ≥ n then (L, last, 0) else (L ++ [{ x with f2 := last + 1 }], last + 1, 1) := by
  by_cases h : (L.length : Int) ≥ n
  · rw [if_pos h, show k = 0 by omega]
    simp [numb]
  · rw [if_neg h, show k = 1 by omega]
    simp [numb]
theorem lit1 {W : World} {ok : Nat → Prop} {x : Fr} {cs : List Value} (h : Kd.FK kF W ok x cs) : Kd.F kF (W.alloc (.cells cs.toArray 36)) (fun b => ok b ∨ b = W.heap.size) (some ⟨W.heap.size, 0, none⟩) 1 [x] := by
  have := F_lit (t := 36) (g := W.heap.size) (w := W.alloc (.cells cs.toArray 36)) (d := kF) (ok := ok) [(x, cs)] (by have := blk_new W (.cells cs.toArray 36); simpa using this) (by simp) (fun r hr => by rw [List.mem_singleton.1 hr]; exact Kd.FK_below h (below_alloc (Below.refl _ _) _))
  simpa using this
theorem SW.put {w0 w6 w8 w10 w9 : World} {S Q Q' : Nat → Prop} {g mb n k : Nat} {last last' : Int} {L L' : List Fr} {x : Fr} {A A' : Option Addr} {c c' N7 : Nat} (h : SW w0 w6 S Q g mb n last L A c) (hk : k = min 1 (n - L.length)) (hL : L' = L ++ numb last (([x] : List Fr).take k)) (hl : last' = last + (k : Int)) (hbig : last' ≤ 1000000)
    (tR : RB w8 Q' mb n last' L' A' c') (tD : ∀ k, S k → ¬ Q' k) (tN : ∀ k, Q' k → k < N7) (tN' : N7 ≤ w10.heap.size) (hfx : fnum x) (tB : Below w0.heap.size w0 w8) (tS : w6.heap.size ≤ w8.heap.size) (h10 : Below w8.heap.size w8 w10) (hW : Win w9 (fun b => S b ∨ w10.heap.size ≤ b) g n last' L') (hB : Beside S w10 w9) :
    SW w0 w9 (fun b => (S b ∨ w10.heap.size ≤ b) ∧ b < w9.heap.size) Q' g mb n last' L' A' c' := by
  have hz := hB.size
  have hz10 := h10.size
  have hb0 := h.below.size
  have hmb : mb < w8.heap.size := blk_lt tR.blk
  refine ⟨hW.bound, (tR.below h10).beside hB tD h.mbS, ?_, ?_, ?_, h.mb0, ?_, ?_, Beside.step (below_step tB h10) hB (fun k hk => (h.S0 k hk).1), ⟨by have := h.big; omega, hbig⟩⟩
  · intro b hb hq
    rcases hb.1 with h1 | h1
    · exact tD b h1 hq
    · have := tN b hq
      omega
  · intro hb
    rcases hb.1 with h1 | h1
    · exact h.mbS h1
    · omega
  · intro b hb
    refine ⟨?_, hb.2⟩
    rcases hb.1 with h1 | h1
    · exact (h.S0 b h1).1
    · omega
  · by_cases hn : L.length < n
    · have hk1 : k = 1 := by omega
      subst hk1
      rw [hL, hl]
      have e : L ++ numb last (([x] : List Fr).take 1) = L ++ [{ x with f2 := last + 1 }] := rfl
      rw [e, show last + ((1 : Nat) : Int) + 1 - ((L ++ [({ x with f2 := last + 1 } : Fr)]).length : Int) = last + 1 - L.length by simp; omega]
      exact sq_snoc h.sq (by show last + 1 = _; omega)
    · have hk0 : k = 0 := by omega
      subst hk0
      rw [hL, hl]
      have e : L ++ numb last (([x] : List Fr).take 0) = L := by simp [numb]
      rw [e, show last + ((0 : Nat) : Int) + 1 - (L.length : Int) = last + 1 - L.length by omega]
      exact h.sq
  · intro y hy
    rw [hL] at hy
    rcases List.mem_append.1 hy with h1 | h1
    · exact h.fn y h1
    · obtain ⟨f, hf, q, e⟩ := numb_mem h1
      have hf' : f = x := by
        have := List.mem_of_mem_take hf
        simpa using this
      rw [e, hf']
      exact ⟨hfx.n10, hfx.n11⟩
/-- All that is asked of both windows behind an act. -/
structure Asked (w0 wc : World) (g mb n : Nat) (last fi fr_ most : Int) (L X : List Fr) (A : Option Addr) (c : Nat) : Prop where
  cells : ∀ W, Below wc.heap.size wc W → W.cell? ⟨mb, 0, none⟩ = some (.int .i64 n) ∧ W.cell? ⟨mb, 1, none⟩ = some (.slice A L.length c) ∧ W.cell? ⟨mb, 2, none⟩ = some (.int .u64 last)
  waits : ∀ W, Below wc.heap.size wc W → Calls Try.prog 16 #[.pointer (some ⟨g, 0, none⟩)] W fun e w' => e = .returned (.int .i64 L.length) ∧ Below wc.heap.size wc w'
  room : ∀ W, Below wc.heap.size wc W → Calls Try.prog 17 #[.pointer (some ⟨g, 0, none⟩)] W fun e w' => e = .returned (.int .i64 (n - L.length)) ∧ Below wc.heap.size wc w'
  first : ∀ W, Below wc.heap.size wc W → Calls Try.prog 18 #[.pointer (some ⟨g, 0, none⟩)] W fun e w' => e = .returned (.int .u64 fi) ∧ Below wc.heap.size wc w'
  rfirst : ∀ W, Below wc.heap.size wc W → Calls Try.prog 19 #[.agg #[.int .i64 n, .slice A L.length c, .int .u64 last]] W fun e w' => e = .returned (.int .u64 fi) ∧ Below wc.heap.size wc w'
  last_ : ∀ W, Below wc.heap.size wc W → Calls Try.prog 20 #[.pointer (some ⟨g, 0, none⟩)] W fun e w' => e = .returned (.int .u64 last) ∧ Below wc.heap.size wc w'
  all_ : ∀ W, Below wc.heap.size wc W → Calls Try.prog 10 #[.pointer (some ⟨g, 0, none⟩), .int .u64 0, .int .i64 100] W fun e w' => ∃ B d, e = .returned (.slice B L.length d) ∧ Below wc.heap.size wc w' ∧ ∀ W', Below w'.heap.size w' W' → Kd.C kF W' B L.length L
  some_ : ∀ W, Below wc.heap.size wc W → Calls Try.prog 10 #[.pointer (some ⟨g, 0, none⟩), .int .u64 fr_, .int .i64 most] W fun e w' => ∃ B d, e = .returned (.slice B X.length d) ∧ Below wc.heap.size wc w' ∧ ∀ W', Below w'.heap.size w' W' → Kd.C kF W' B X.length X
  rsome : ∀ W, Below wc.heap.size wc W → Calls Try.prog 22 #[.agg #[.int .i64 n, .slice A L.length c, .int .u64 last], .int .u64 fr_, .int .i64 most] W fun e w' => ∃ B d, e = .returned (.slice B X.length d) ∧ Below W.heap.size W w' ∧ Below wc.heap.size wc w' ∧ ∀ W', Below w'.heap.size w' W' → Kd.C kF W' B X.length X
  same1 : ∀ (B : Option Addr) (d : Nat) (W : World), Below wc.heap.size wc W → Kd.C kF W B L.length L → Calls Try.prog 21 #[.slice B L.length d, .slice A L.length c] W fun e w' => e = .returned (.bool true) ∧ Below wc.heap.size wc w'
  same2 : ∀ (B B2 : Option Addr) (d d2 : Nat) (W : World), Below wc.heap.size wc W → Kd.C kF W B X.length X → Kd.C kF W B2 X.length X → Calls Try.prog 21 #[.slice B X.length d, .slice B2 X.length d2] W fun e w' => e = .returned (.bool true) ∧ Below wc.heap.size wc w'
theorem SW.asked {w0 wc : World} {S Q : Nat → Prop} {g mb n : Nat} {last fr_ most : Int} {L : List Fr} {A : Option Addr} {c : Nat} (h : SW w0 wc S Q g mb n last L A c) (h0 : 0 ≤ fr_) (h1 : fr_ < 18446744073709551616) :
    Asked w0 wc g mb n last (last + 1 - L.length) fr_ most L ((L.drop (fr_ - (last + 1 - L.length)).toNat).take most.toNat) A c := by
  have hfit := h.win.ok.fit
  have h64 := h.win.ok.n64
  have hfn : ∀ x ∈ L, fok x ∧ fnum x := fun x hx => ⟨h.win.ok.fr x hx, h.fn x hx⟩
  have hle := h.win.ok.le
  have hbig := h.win.ok.big
  refine ⟨fun W hb => ?_, fun W hb => ?_, fun W hb => ?_, fun W hb => ?_, fun W hb => ?_, fun W hb => ?_, fun W hb => ?_, fun W hb => ?_, fun W hb => ?_, fun B d W hb hC => ?_, fun B B2 d d2 W hb hC hC2 => ?_⟩
  · have hk := (h.rb.below hb).blk
    exact ⟨(blk_cell hk 0).trans rfl, (blk_cell hk 1).trans rfl, (blk_cell hk 2).trans rfl⟩
  · exact (Waits_calls (h.win.below hb)).mono (fun e w' ⟨he, q, hq⟩ => ⟨he, by rw [hq]; exact pw_below_drewN hb q⟩)
  · exact (Room_calls (h.win.below hb)).mono (fun e w' ⟨he, q, hq⟩ => ⟨he, by rw [hq]; exact pw_below_drewN hb q⟩)
  · exact (First_calls (h.win.below hb)).mono (fun e w' ⟨he, hq⟩ => ⟨he, by rw [hq]; exact hb⟩)
  · exact (unisonref08_W_First.calls _ A c L last _ W (Kd.F_now (h.rb.below hb).row) h.rb.cap (first_f n last L hle hbig h.sq)).mono (fun e w' ⟨he, hq⟩ => ⟨he, below_step hb hq⟩)
  · exact (Last_calls (h.win.below hb)).mono (fun e w' ⟨he, hq⟩ => ⟨he, by rw [hq]; exact hb⟩)
  · refine (Waiting_calls 0 100 0 L W (h.win.below hb) (by decide) (by decide) (by omega) (by rw [List.drop_zero, List.take_of_length_le]; show L.length ≤ 100; omega)).mono ?_
    rintro e w' ⟨v, rfl, ho, hq⟩
    obtain ⟨B, d, rfl⟩ := Kd.R_slice ho
    exact ⟨B, d, rfl, below_step hb hq, fun W' hW => Kd.C_below (Kd.R_reads' ho).2.2 hW⟩
  · refine (Waiting_calls fr_ most _ _ W (h.win.below hb) h0 h1 rfl rfl).mono ?_
    rintro e w' ⟨v, rfl, ho, hq⟩
    obtain ⟨B, d, rfl⟩ := Kd.R_slice ho
    exact ⟨B, d, rfl, below_step hb hq, fun W' hW => Kd.C_below (Kd.R_reads' ho).2.2 hW⟩
  · refine (unisonref08_W_From.calls _ _ Q A c L last fr_ most _ W (Kd.V_mk h.rb.cap (h.rb.below hb).row) (from_f n last fr_ most L (by omega) h.sq)).mono ?_
    rintro e w' ⟨v, rfl, ho, hq⟩
    obtain ⟨B, d, rfl⟩ := Kd.N_slice ho
    exact ⟨B, d, rfl, hq, below_step hb hq, fun W' hW => Kd.C_below (Kd.N_reads' ho).2.2 hW⟩
  · exact (Same_calls L B A d c W hC (Kd.F_now (h.rb.below hb).row) hfn).mono (fun e w' ⟨he, hq⟩ => ⟨he, below_step hb hq⟩)
  · exact (Same_calls _ B B2 d d2 W hC hC2 (fun x hx => hfn x (List.mem_of_mem_drop (List.mem_of_mem_take hx)))).mono (fun e w' ⟨he, hq⟩ => ⟨he, below_step hb hq⟩)

end Go.Proofs.Ytdeknknefjepnaa.Walk
