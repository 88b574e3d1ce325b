/- Send. Conditions: none beyond the statement's own. -/
import Derived.Test.YtmkacejnnjppjaaWalkNetNew
import Derived.Test.YtmkacejnnjppjaaArgs
import Derived.Deep.QuietTactic
import Derived.BigQuiet
import Derived.Lib.QuietBelow
import Derived.Outline
import Derived.Deep.RegionHeld3
import Derived.Deep.CutRange
namespace Go.Proofs.Ytmkacejnnjppjaa.Walk
open Go.RowKit Go.Proofs.Ytmkacejnnjppjaa.F Go.Proofs.YtmkacejnnjppjaaW.PrintWords Go.Proofs.YtmkacejnnjppjaaW.PrintLast Go.Proofs.YtmkacejnnjppjaaW.PrintMore Go.Proofs.Ytmkacejnnjppjaa.Open
open Go.Sort (grow)
attribute [local go_sem] max2_int min2_int max_two min_two max_three min_three max_four min_four
set_option linter.unusedVariables false
set_option linter.unusedSimpArgs false

/-! ### What is sent, in plain Lean -/
abbrev Ou := Int × List Int
abbrev kO : Kd Ou := Kd.pair (Kd.int .u8) (Kd.slice 5 (Kd.int .u8))
abbrev tO : Nat := 26
def wIdx (E : List Ent) (x : Wk) : Option Nat := E.findIdx? fun e => decide (e.1 = x)
theorem wIdx_some {E : List Ent} {x : Wk} {i : Nat} (h : wIdx E x = some i) : ∃ q, E[i]? = some (x, q) := by
  unfold wIdx at h
  rw [List.findIdx?_eq_some_iff_getElem] at h
  obtain ⟨hi, he, _⟩ := h
  have he : E[i].1 = x := by simpa using he
  exact ⟨E[i].2, by rw [List.getElem?_eq_getElem hi, ← he]⟩
theorem wIdx_none {E : List Ent} {x : Wk} (h : wIdx E x = none) : ∀ e ∈ E, e.1 ≠ x := by
  unfold wIdx at h
  rw [List.findIdx?_eq_none_iff] at h
  exact fun e he => by simpa using h e he
theorem wayV_some {E : List Ent} {a b : Int} {i q : Nat} (hn : (E.map (·.1)).Nodup) (h : E[i]? = some ((a, b), q)) : wayV E a b = fvB q := by
  unfold wayV
  rw [mlk_mem hn (List.mem_of_getElem? h)]
theorem wayV_none {E : List Ent} {a b : Int} (h : wIdx E (a, b) = none) : wayV E a b = .pointer none := by
  unfold wayV
  cases hl : mlk E (a, b) with
  | none => rfl
  | some q => exact absurd rfl (wIdx_none h _ (mlk_some hl))
def v0 : Bv := ([], 0)
def vput (room : Nat) (v : Bv) (x : List Int) : Bv := (putL room v.1 x, putLost room v.1 v.2)
def sendV (room : Nat) (E : List Ent) (a : Int) (V : List Bv) (o : Ou) : List Bv := match wIdx E (a, o.1) with | some i => V.set i (vput room (V.getD i v0) o.2) | none => V
def sendN (room : Nat) (E : List Ent) (a : Int) (V : List Bv) (o : Ou) : Nat := match wIdx E (a, o.1) with | some i => putN room (V.getD i v0).1 | none => 0
def sendL (room : Nat) (E : List Ent) (a : Int) : List Ou → List Bv → List Bv × Nat
  | [], V => (V, 0)
  | o :: l, V => ((sendL room E a l (sendV room E a V o)).1, sendN room E a V o + (sendL room E a l (sendV room E a V o)).2)
theorem sendL_snoc (room : Nat) (E : List Ent) (a : Int) (o : Ou) : ∀ (l : List Ou) (V : List Bv), sendL room E a (l ++ [o]) V = (sendV room E a (sendL room E a l V).1 o, (sendL room E a l V).2 + sendN room E a (sendL room E a l V).1 o)
  | [], V => by simp [sendL]
  | x :: l, V => by
    rw [List.cons_append, sendL, sendL_snoc room E a o l, sendL]
    simp only [Nat.add_assoc]
theorem putN_le (n : Nat) (L : List Th) : putN n L ≤ 1 := by unfold putN; split <;> omega
theorem sendN_le (room : Nat) (E : List Ent) (a : Int) (V : List Bv) (o : Ou) : sendN room E a V o ≤ 1 := by
  unfold sendN
  split
  · exact putN_le _ _
  · omega
theorem sendL_le (room : Nat) (E : List Ent) (a : Int) : ∀ (l : List Ou) (V : List Bv), (sendL room E a l V).2 ≤ l.length
  | [], V => Nat.le_refl _
  | o :: l, V => by
    rw [sendL, List.length_cons]
    have h1 := sendN_le room E a V o
    have h2 := sendL_le room E a l (sendV room E a V o)
    show sendN room E a V o + (sendL room E a l (sendV room E a V o)).2 ≤ _
    omega
theorem vput_lost (room : Nat) (v : Bv) (x : List Int) : v.2 ≤ (vput room v x).2 ∧ (vput room v x).2 ≤ v.2 + 1 := by
  unfold vput putLost
  dsimp only
  split <;> omega
theorem sendV_len (room : Nat) (E : List Ent) (a : Int) (V : List Bv) (o : Ou) : (sendV room E a V o).length = V.length := by
  unfold sendV
  split <;> simp
theorem sendV_lost {room : Nat} {E : List Ent} {a : Int} {V : List Bv} {o : Ou} {u : Int} (h : ∀ v ∈ V, v.2 ≤ u) (h0 : 0 ≤ u) : ∀ v ∈ sendV room E a V o, v.2 ≤ u + 1 := by
  intro v hv
  unfold sendV at hv
  split at hv
  · rename_i i hi
    rcases List.mem_or_eq_of_mem_set hv with hv | rfl
    · have := h v hv
      omega
    · have h1 := (vput_lost room (V.getD i v0) o.2).2
      have h2 : (V.getD i v0).2 ≤ u := by
        rw [List.getD_eq_getElem?_getD]
        cases hg : V[i]? with
        | none => exact h0
        | some z => exact h z (List.mem_of_getElem? hg)
      omega
  · have := h v hv
    omega
theorem sendL_lost {room : Nat} {E : List Ent} {a : Int} : ∀ {l : List Ou} {V : List Bv} {u : Int}, (∀ v ∈ V, v.2 ≤ u) → 0 ≤ u → ∀ v ∈ (sendL room E a l V).1, v.2 ≤ u + l.length
  | [], V, u, h, h0 => by simpa [sendL] using h
  | o :: l, V, u, h, h0 => by
    intro v hv
    rw [sendL] at hv
    have := sendL_lost (l := l) (sendV_lost (room := room) (E := E) (a := a) (o := o) h h0) (by omega) v hv
    rw [List.length_cons]
    omega
/-! ### Send -/
theorem O_at {w : World} {ok : Nat → Prop} {A : Option Addr} {l : List Ou} (h : Kd.F kO w ok A l.length l) {i : Nat} {x : Ou} (hx : l[i]? = some x) : ∃ ad A1 c1, A = some ad ∧ w.cell? (ad.add (i * 2)) = some (.int .u8 x.1) ∧ w.cell? ⟨(ad.add (i * 2)).block, (ad.add (i * 2)).off + 1, none⟩ = some (.slice A1 x.2.length c1) ∧ x.2.length ≤ c1 ∧ Kd.F (Kd.int .u8) w ok A1 x.2.length x.2 := by
  have hi : i < l.length := (List.getElem?_eq_some_iff.1 hx).1
  obtain ⟨ad, cc, e, _, hK, hcc, _⟩ := Kd.F_get h (0, []) (i : Int) (by omega) (by omega)
  have e2 : l.getD ((i : Int)).toNat (0, []) = x := by simp [List.getD, hx]
  rw [e2] at hK
  obtain ⟨_, _, rfl, rfl, ⟨A1, c1, rfl, l1, g1⟩⟩ := Kd.FK_now hK
  rw [Int.toNat_natCast] at hcc
  refine ⟨ad, A1, c1, e, hcc 0 _ rfl, by rw [← add_field _ _ 1 (by omega)]; exact hcc 1 _ rfl, l1, fun W' hW => ?_⟩
  obtain ⟨_, _, e3, rfl, ⟨A1', c1', rfl, _, g1'⟩⟩ := hK W' hW
  simp only [List.cons_append, List.nil_append, List.cons.injEq, Value.slice.injEq, true_and, and_true] at e3
  rw [e3.1]
  exact g1'
structure SendS (w wr : World) (S : Nat → Prop) (g mb n room : Nat) (E : List Ent) (V : List Bv) (j : Nat) : Prop where
  net : NetS wr (fun k => S k ∨ w.heap.size ≤ k) g mb n room E V
  lost : ∀ v ∈ V, v.2 + j ≤ 4611686018427387904
  beside : Beside S w wr
theorem SendS.step {w wr w1 : World} {S : Nat → Prop} {g mb n room : Nat} {E : List Ent} {V : List Bv} {j : Nat} (h : SendS w wr S g mb n room E V j) (hb : Below wr.heap.size wr w1) : SendS w w1 S g mb n room E V j := ⟨h.net.below hb, h.lost, h.beside.then_below hb⟩
theorem SendS.less {w wr : World} {S : Nat → Prop} {g mb n room : Nat} {E : List Ent} {V : List Bv} {j j' : Nat} (h : SendS w wr S g mb n room E V j) (hj : j' ≤ j) : SendS w wr S g mb n room E V j' := ⟨h.net, fun v hv => by have := h.lost v hv; omega, h.beside⟩
theorem SendS.put {w wr W2 : World} {S : Nat → Prop} {g mb n room : Nat} {E : List Ent} {V : List Bv} {j i gb q t : Nat} {a : Int} {x : Ou} {A : Option Addr} {c : Nat} {v : Bv} (h : SendS w wr S g mb n room E V (j + 1)) (hb : Below wr.heap.size wr W2) (hi : wIdx E (a, x.1) = some i) (he : E[i]? = some ((a, x.1), gb)) (hv : V[i]? = some v)
    (hq : W2.heap[q]? = some (.cells #[.slice A x.2.length c] t (0, 0))) (hq2 : wr.heap.size ≤ q) (hx : Kd.F (Kd.int .u8) wr (fun k => ¬ S k ∧ k < w.heap.size) A x.2.length x.2) (hc : x.2.length ≤ c) (hl : x.2.length ≤ 1000000) :
    Calls Try.prog 22 #[fvB gb, .slice (some ⟨q, 0, none⟩) 1 1] W2 fun e w' => e = .returned (.int .i64 (sendN room E a V x)) ∧ SendS w w' S g mb n room E (sendV room E a V x) j ∧ ∀ k, wr.heap.size ≤ k → k < W2.heap.size → w'.heap[k]? = W2.heap[k]? := by
  obtain ⟨hn, hlo, hbs⟩ := h
  have N2 := hn.bound.below hb
  obtain ⟨Si, hB, hsub, hset⟩ := N2.bags.at he hv
  have hg : V.getD i v0 = v := by rw [List.getD_eq_getElem?_getD, hv]; rfl
  have e1 : sendN room E a V x = putN room v.1 := by unfold sendN; rw [hi]; dsimp only; rw [hg]
  have e2 : sendV room E a V x = V.set i (vput room v x.2) := by unfold sendV; rw [hi]; dsimp only; rw [hg]
  rw [e1, e2]
  refine (Put1_calls hB hq (fun h => by have := (hsub _ h).1.2; omega) (fun w' hw => hx w' (fun k hk hlt => (hw.block k (Nat.lt_of_lt_of_le hlt hb.size) (fun h => (hsub _ h).1.1.elim hk.1 (fun h2 => by have := hk.2; omega))).trans (hb.block k hlt))) hc hl (by have := hlo v (List.mem_of_getElem? hv); omega)).mono ?_
  rintro e w5 ⟨rfl, hB5, hb5⟩
  have g0 := blk_lt hn.blk
  have m0 := hn.map.lt
  have k1 := hset w5 (vput room v x.2) _ hB5 (fun k hk => hk) hb5
  refine ⟨rfl, ⟨⟨hn.S_g, hn.S_m, hn.ne, (hb5.block g (Nat.lt_of_lt_of_le g0 hb.size) (fun h => (hsub _ h).2.1 rfl)).trans N2.blk, N2.map.beside hb5 (fun h => (hsub _ h).2.2 rfl), k1.mono fun k hk => ?_⟩, fun u hu => ?_, ?_⟩, fun k h1 h2 => hb5.block k h2 (fun h => by have := (hsub _ h).1.2; omega)⟩
  · rcases hk with hk | hk
    · exact ⟨hk.1.1, hk.2⟩
    · have h1 := hb.size
      have h2 := hbs.size
      exact ⟨.inr (by omega), by omega, by omega⟩
  · rcases List.mem_or_eq_of_mem_set hu with hu | rfl
    · have := hlo u hu
      omega
    · have h1 := hlo v (List.mem_of_getElem? hv)
      have h2 := (vput_lost room v x.2).2
      omega
  · exact (hbs.then_below hb).then_ hb5 (fun k hk => (hsub _ hk).1.1)
set_option maxHeartbeats 4000000 in
theorem Send_calls {w : World} {S : Nat → Prop} {g mb n room : Nat} {E : List Ent} {V : List Bv} {A : Option Addr} {c : Nat} (l : List Ou) (a : Int) (h : NetS w S g mb n room E V) (ha : i64 a) (hr : Kd.F kO w (fun k => ¬ S k) A l.length l) (hc : l.length ≤ c)
    (hl : ∀ o ∈ l, (0 ≤ o.1 ∧ o.1 ≤ 255) ∧ o.2.length ≤ 1000000) (hlost : ∀ v ∈ V, v.2 + l.length ≤ 4611686018427387904) :
    Calls Try.prog 6 #[.pointer (some ⟨g, 0, none⟩), .int .i64 a, .slice A l.length c] w fun e w' => e = .returned (.int .i64 (sendL room E a l V).2) ∧ NetS w' (fun k => S k ∨ w.heap.size ≤ k) g mb n room E (sendL room E a l V).1 ∧ Beside S w w' := by
  have HR := Aside0.mk (Kd.F_bound hr)
  have HL := Aside0.mk hl
  have S0 : Aside0 (SendS w w S g mb n room E V l.length) := ⟨h.mono fun k hk => .inl hk, hlost, Beside.refl _ _⟩
  have hll := (Kd.F_now hr).2.1
  clear hr hl hlost h
  go_enter Try.func6, Try.ntmps6
  go_wp2_with fail
  go_loopg [7, 12] l.length (fun gg s7 s12 wr => ∃ i : Nat, s12 = .int .i64 i ∧ i ≤ l.length ∧ l.length - i ≤ gg ∧ s7 = .int .i64 (sendL room E a (l.take i) V).2 ∧ Aside0 (SendS w wr S g mb n room E (sendL room E a (l.take i) V).1 (l.length - i)))
  case atStart => exact ⟨0, rfl, Nat.zero_le _, by omega, rfl, S0⟩
  case round =>
    clear S0
    obtain ⟨i, rfl, hi, hgg, rfl, SR⟩ := hrel
    by_cases hlt : i < l.length
    · have hltz : (i : Int) < (l.length : Int) := by omega
      have HX : Aside0 (l[i]? = some l[i]) := ⟨List.getElem?_eq_getElem hlt⟩
      have WX := Aside0.mk (HL.out _ (List.mem_of_getElem? HX.out))
      have ES : Aside0 (sendL room E a (l.take (i + 1)) V = (sendV room E a (sendL room E a (l.take i) V).1 l[i], (sendL room E a (l.take i) V).2 + sendN room E a (sendL room E a (l.take i) V).1 l[i])) := ⟨by rw [List.take_add_one, HX.out, Option.toList_some, sendL_snoc]⟩
      obtain ⟨ad, A1, c1, e, k0, k1, l1, g1⟩ := O_at (Kd.F_step HR.out (fun k hk hlt => SR.out.beside.block k hlt hk.1)) HX.out
      cases e
      have hsl := sendL_le room E a (l.take i) V
      rw [List.length_take] at hsl
      generalize l[i] = x at HX WX ES k0 k1 l1 g1
      generalize (sendL room E a (l.take i) V).1 = Vi at SR ES
      generalize (sendL room E a (l.take i) V).2 = ni at ES hsl ⊢
      have GX := Aside0.mk g1
      clear g1
      go_upto_region 5 with (fail)
      have BB := Aside0.mk (below_alloc (Below.refl wr.heap.size wr) (.cells #[.int .u8 x.1, .slice A1 x.2.length c1] tO))
      have BQ : Aside0 ((wr.alloc (.cells #[.int .u8 x.1, .slice A1 x.2.length c1] tO)).heap[wr.heap.size]? = some (.cells #[.int .u8 x.1, .slice A1 x.2.length c1] tO (0, 0))) := ⟨blk_new wr _⟩
      generalize wr.alloc (.cells #[.int .u8 x.1, .slice A1 x.2.length c1] tO) = wq at BB BQ ⊢
      have q0 : wq.cell? ⟨wr.heap.size, 0, none⟩ = some (.int .u8 x.1) := (blk_cell BQ.out 0).trans rfl
      have q1 : wq.cell? ⟨wr.heap.size, 1, none⟩ = some (.slice A1 x.2.length c1) := (blk_cell BQ.out 1).trans rfl
      have hcv : IntKind.i64.wrap x.1 = x.1 := by rw [IntKind.wrap_i64]; have := WX.out.1; omega
      have hx64 : Aside0 (i64 x.1) := ⟨by have := WX.out.1; exact ⟨by omega, by omega⟩⟩
      have hwn : IntKind.i64.wrap (ni : Int) = (ni : Int) := by rw [IntKind.wrap_i64]; omega
      clear k0 k1
      cases hwi : wIdx E (a, x.1) with
      | none =>
        have EV : Aside0 (sendV room E a Vi x = Vi) := ⟨by unfold sendV; rw [hwi]⟩
        have EN : Aside0 (sendN room E a Vi x = 0) := ⟨by unfold sendN; rw [hwi]⟩
        have BC : Aside0 (∀ W, Below wr.heap.size wr W → Calls Try.prog 7 #[.pointer (some ⟨g, 0, none⟩), .int .i64 a, .int .i64 x.1] W fun e w' => e = .returned (.pointer none) ∧ w' = W) := ⟨fun W hW => by
          have := Bag_calls (SR.out.net.below hW) ha hx64.out
          rwa [wayV_none hwi] at this⟩
        go_region_held3 (fun w' => w'.cell? ⟨wr.heap.size, 0, none⟩ = some (.int .u8 x.1) ∧ w'.cell? ⟨wr.heap.size, 1, none⟩ = some (.slice A1 x.2.length c1)) (go_keep)
          ((first
            | (go_at_call 7; refine (BC.out _ (below_drew (BB.out))).mono ?_; rintro e wa ⟨rfl, h⟩; have h := h.symm; subst h)
            | (go_at_call 7; refine (BC.out _ (below_drew (below_alloc BB.out _))).mono ?_; rintro e wa ⟨rfl, h⟩; have h := h.symm; subst h)
            | (go_at_call 22; refine (Put_nil _ _).mono ?_; rintro e wa ⟨rfl, h⟩; have h := h.symm; subst h)))
        all_goals
          have S5 := Aside0.mk ((SR.out.step (below_drew (below_alloc BB.out (.cells #[.slice A1 x.2.length c1] 24)))).less (show l.length - (i + 1) ≤ l.length - i by omega))
          go_wp2_with fail
          go_roundg (l.length - (i + 1))
          case measure => omega
          case rel => exact ⟨i + 1, by go_num, by omega, by omega, by rw [ES.out]; dsimp only; rw [EN.out, Nat.add_zero], ⟨by rw [ES.out]; dsimp only; rw [EV.out]; exact S5.out⟩⟩
      | some q =>
        obtain ⟨gb, hE⟩ := wIdx_some hwi
        obtain ⟨v, hv⟩ : ∃ v, Vi[q]? = some v := by
          have h1 := (List.getElem?_eq_some_iff.1 hE).1
          have h2 := SR.out.net.bags.len
          exact ⟨_, List.getElem?_eq_getElem (by omega)⟩
        have ej : l.length - i = (l.length - (i + 1)) + 1 := by omega
        rw [ej] at SR
        have BC : Aside0 (∀ W, Below wr.heap.size wr W → Calls Try.prog 7 #[.pointer (some ⟨g, 0, none⟩), .int .i64 a, .int .i64 x.1] W fun e w' => e = .returned (.pointer (some ⟨gb, 0, none⟩)) ∧ w' = W) := ⟨fun W hW => by
          have := Bag_calls (SR.out.net.below hW) ha hx64.out
          rwa [wayV_some SR.out.net.map.nodup hE] at this⟩
        have PC : Aside0 (Calls Try.prog 22 #[.pointer (some ⟨gb, 0, none⟩), .slice (some ⟨wq.heap.size, 0, none⟩) 1 1] (wq.alloc (.cells #[.slice A1 x.2.length c1] 24)).drew fun e w' => e = .returned (.int .i64 (sendN room E a Vi x)) ∧ SendS w w' S g mb n room E (sendV room E a Vi x) (l.length - (i + 1)) ∧ ∀ k, wr.heap.size ≤ k → k < (wq.alloc (.cells #[.slice A1 x.2.length c1] 24)).drew.heap.size → w'.heap[k]? = (wq.alloc (.cells #[.slice A1 x.2.length c1] 24)).drew.heap[k]?) := ⟨SR.out.put (below_drew (below_alloc BB.out _)) hwi hE hv (blk_new wq _) BB.out.size GX.out l1 WX.out.2⟩
        have hb2 : Aside0 (∀ w' : World, (∀ k, wr.heap.size ≤ k → k < (wq.alloc (.cells #[.slice A1 x.2.length c1] 24)).drew.heap.size → w'.heap[k]? = (wq.alloc (.cells #[.slice A1 x.2.length c1] 24)).drew.heap[k]?) → w'.heap[wr.heap.size]? = some (.cells #[.int .u8 x.1, .slice A1 x.2.length c1] tO (0, 0))) := ⟨fun w' h => by
          have h1 := blk_alloc (w := wq) BQ.out (.cells #[.slice A1 x.2.length c1] 24)
          exact (h wr.heap.size (Nat.le_refl _) (blk_lt h1)).trans h1⟩
        have hsn : Aside0 (sendN room E a Vi x ≤ 1) := ⟨sendN_le _ _ _ _ _⟩
        generalize sendN room E a Vi x = sn at PC ES hsn
        clear hwi hE hv
        go_region_held3 (fun w' => w'.cell? ⟨wr.heap.size, 0, none⟩ = some (.int .u8 x.1) ∧ w'.cell? ⟨wr.heap.size, 1, none⟩ = some (.slice A1 x.2.length c1)) (go_keep)
          ((first
            | (go_at_call 7; refine (BC.out _ (below_drew (BB.out))).mono ?_; rintro e wa ⟨rfl, h⟩; have h := h.symm; subst h)
            | (go_at_call 7; refine (BC.out _ (below_drew (below_alloc BB.out _))).mono ?_; rintro e wa ⟨rfl, h⟩; have h := h.symm; subst h)
            | (go_at_call 22; refine PC.out.mono ?_; rintro e w5 ⟨rfl, h5, hk5⟩; have S5 := Aside0.mk h5; have z5 := hb2.out w5 hk5; have z50 := (blk_cell z5 0).trans rfl; have z51 := (blk_cell z5 1).trans rfl; clear h5 hk5 z5)))
        all_goals
          have hwn2 : IntKind.i64.wrap ((ni : Int) + sn) = ((ni + sn : Nat) : Int) := by rw [IntKind.wrap_i64]; have := hsn.out; omega
          go_wp2_with fail
          go_roundg (l.length - (i + 1))
          case measure => omega
          case rel => exact ⟨i + 1, by go_num, by omega, by omega, by rw [ES.out]; exact congrArg (Value.int .i64) (by omega), ⟨by rw [ES.out]; exact S5.out⟩⟩
    · obtain rfl : i = l.length := by omega
      have hltz : ¬ (l.length : Int) < (l.length : Int) := by omega
      rw [List.take_length] at SR ⊢
      go_wp2_with fail
      go_ret
      exact ⟨rfl, SR.out.net, SR.out.beside⟩

end Go.Proofs.Ytmkacejnnjppjaa.Walk
