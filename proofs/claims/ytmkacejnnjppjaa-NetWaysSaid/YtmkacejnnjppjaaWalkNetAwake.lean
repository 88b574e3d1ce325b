/- What waits on a net, the example. Conditions: none beyond the statement's own. -/
import Derived.Test.YtmkacejnnjppjaaWalkNetWaits
import Derived.Test.YtmkacejnnjppjaaArgs
import Derived.Deep.QuietTactic
import Derived.BigQuiet
import Derived.Lib.QuietBelow
import Derived.Outline
import Derived.Deep.RegionHeld3
import Derived.Deep.CutRange
import Derived.Lib.SlBytesConst
namespace Go.Proofs.Ytmkacejnnjppjaa.Walk
open Go.RowKit Go.Proofs.Ytmkacejnnjppjaa.F Go.Proofs.YtmkacejnnjppjaaW.PrintWords Go.Proofs.YtmkacejnnjppjaaW.PrintLast Go.Proofs.YtmkacejnnjppjaaW.PrintMore Go.Proofs.Ytmkacejnnjppjaa.Open
open Go.Sort (grow)
attribute [local go_sem] max2_int min2_int max_two min_two max_three min_three max_four min_four
set_option linter.unusedVariables false
set_option linter.unusedSimpArgs false

/-! ### Literal rows -/
theorem flat_get {α : Type} {sz : Nat} : ∀ (rows : List (α × List Value)) (j i : Nat) (r : α × List Value), (∀ r ∈ rows, r.2.length = sz) → rows[j]? = some r → i < sz → (rows.flatMap (·.2))[j * sz + i]? = r.2[i]?
  | [], j, i, r, _, h, _ => by simp at h
  | a :: rows, 0, i, r, hs, h, hi => by
    obtain rfl : a = r := by simpa using h
    rw [List.flatMap_cons, Nat.zero_mul, Nat.zero_add, List.getElem?_append_left (by rw [hs a List.mem_cons_self]; exact hi)]
  | a :: rows, j + 1, i, r, hs, h, hi => by
    have hl := hs a List.mem_cons_self
    rw [List.flatMap_cons, List.getElem?_append_right (by rw [hl, Nat.succ_mul]; omega), hl]
    have e : (j + 1) * sz + i - sz = j * sz + i := by rw [Nat.succ_mul]; omega
    rw [e]
    exact flat_get rows j i r (fun r hr => hs r (List.mem_cons_of_mem _ hr)) (by simpa using h) hi
/-- A literal row: its block holds its elements' cells; what they lead to lies in ok. -/
theorem F_lit {α : Type} {d : Kd α} {w : World} {g t : Nat} {ok : Nat → Prop} (rows : List (α × List Value)) (hb : w.heap[g]? = some (.cells (rows.flatMap (·.2)).toArray t (0, 0))) (hm : rows.length ≤ 9223372036854775807) (h : ∀ r ∈ rows, Kd.FK d w ok r.1 r.2) :
    Kd.F d w (fun k => ok k ∨ k = g) (some ⟨g, 0, none⟩) rows.length (rows.map (·.1)) := by
  intro W' hW
  have hb' : W'.heap[g]? = some (.cells (rows.flatMap (·.2)).toArray t (0, 0)) := (hW g (Or.inr rfl) (blk_lt hb)).trans hb
  have hsz : ∀ r ∈ rows, r.2.length = d.sz := fun r hr => d.K_len (Kd.FK_now (h r hr))
  refine ⟨by simp, hm, fun _ => ⟨_, rfl, fun j p hj => ?_⟩⟩
  rw [List.getElem?_map] at hj
  obtain ⟨r, hr, rfl⟩ := Option.map_eq_some_iff.1 hj
  have hmem := List.mem_of_getElem? hr
  refine ⟨r.2, hsz r hmem, h r hmem W' (fun k hk hlt => hW k (Or.inl hk) hlt), fun i u hu => ?_⟩
  rw [add_plain]
  have hc := blk_cell hb' (j * d.sz + i)
  rw [hc]
  have hi : i < d.sz := by rw [← hsz r hmem]; exact (List.getElem?_eq_some_iff.1 hu).1
  rw [List.getElem?_toArray, flat_get rows j i r hsz hr hi]
  exact hu
theorem byte_F {w : World} {g t : Nat} {a : Int} {fz : Nat × Nat} (hb : w.heap[g]? = some (.cells #[.int .u8 a] t fz)) : Kd.F (Kd.int .u8) w (fun k => k = g) (some ⟨g, 0, none⟩) 1 [a] := by
  intro W' hW
  have hb' : W'.heap[g]? = some (.cells #[.int .u8 a] t fz) := (hW g rfl (blk_lt hb)).trans hb
  refine ⟨rfl, by omega, fun _ => ⟨_, rfl, fun j p hj => ?_⟩⟩
  obtain ⟨hl, rfl⟩ := List.getElem?_eq_some_iff.1 hj
  obtain rfl : j = 0 := by simpa using hl
  refine ⟨[.int .u8 a], rfl, rfl, fun i u hu => ?_⟩
  obtain ⟨hi, rfl⟩ := List.getElem?_eq_some_iff.1 hu
  obtain rfl : i = 0 := by simpa using hi
  rw [add_plain]
  exact cell_of_row W' g 0 #[.int .u8 a] t fz hb'
theorem row_FK {w : World} {ok : Nat → Prop} {A : Option Addr} {c : Nat} {xs : List Int} (hc : xs.length ≤ c) (h : Kd.F (Kd.int .u8) w ok A xs.length xs) : Kd.FK kL w ok xs [.slice A xs.length c] := fun W' hW => ⟨A, c, rfl, hc, h W' hW⟩
theorem str_run {w : World} {A : Option Addr} {n c : Nat} {xs : List Int} (h : (Kd.int .u8).C w A n xs) : (convert 24 9 (.slice A n c)).run Try.prog w = .ok (.string (strOfNums xs)) w :=
  Kd.C_string (P := Try.prog) Try.underlying24 Try.underlying5 Try.underlying9 h
set_option maxHeartbeats 2000000 in

/-! ### What waits on a net -/
def lenE (E : List Ent) (V : List Bv) (a b : Int) : Nat := match wIdx E (a, b) with | some i => (V.getD i v0).1.length | none => 0
section
variable {w : World} {S : Nat → Prop} {g mb n room : Nat} {E : List Ent} {V : List Bv}
theorem NetS.len (h : NetS w S g mb n room E V) {a b : Int} (ha : i64 a) (hb : i64 b) : ∃ v, (Calls Try.prog 7 #[.pointer (some ⟨g, 0, none⟩), .int .i64 a, .int .i64 b] w fun e w' => e = .returned v ∧ w' = w) ∧ Calls Try.prog 12 #[v] w fun e w' => e = .returned (.int .i64 (lenE E V a b)) ∧ w' = w := by
  refine ⟨wayV E a b, Bag_calls h ha hb, ?_⟩
  unfold lenE
  cases hi : wIdx E (a, b) with
  | none =>
    rw [wayV_none hi]
    exact Len_nil w
  | some i =>
    obtain ⟨q, hq⟩ := wIdx_some hi
    rw [wayV_some h.map.nodup hq]
    have hl := (List.getElem?_eq_some_iff.1 hq).1
    obtain ⟨v, hv⟩ : ∃ v, V[i]? = some v := ⟨_, List.getElem?_eq_getElem (by have := h.bags.len; omega)⟩
    obtain ⟨Si, hB, _, _⟩ := h.bags.at hq hv
    have hg : V.getD i v0 = v := by rw [List.getD_eq_getElem?_getD, hv]; rfl
    dsimp only
    rw [hg]
    exact Len_calls hB
theorem NetS.len_le (h : NetS w S g mb n room E V) (a b : Int) : lenE E V a b ≤ 4096 := by
  unfold lenE
  cases hi : wIdx E (a, b) with
  | none => exact Nat.zero_le _
  | some i =>
    obtain ⟨q, hq⟩ := wIdx_some hi
    have hl := (List.getElem?_eq_some_iff.1 hq).1
    obtain ⟨v, hv⟩ : ∃ v, V[i]? = some v := ⟨_, List.getElem?_eq_getElem (by have := h.bags.len; omega)⟩
    obtain ⟨Si, hB, _, _⟩ := h.bags.at hq hv
    have hg : V.getD i v0 = v := by rw [List.getD_eq_getElem?_getD, hv]; rfl
    dsimp only
    rw [hg]
    exact Nat.le_trans hB.ok.fit hB.ok.n2
theorem NetWaits_calls {A : Option Addr} {c : Nat} (h : NetS w S g mb n room E V) (l : List Int) (hr : Kd.C (Kd.int .i64) w A l.length l) (hl : ∀ y ∈ l, i64 y) (hll : l.length ≤ 100) :
    Calls Try.prog 8 #[.pointer (some ⟨g, 0, none⟩), .slice A l.length c] w fun e w' => e = .returned (.int .i64 (allSum (lenE E V) (setK l) (setK l))) ∧ Below w.heap.size w w' :=
  Waits_calls l (lenE E V) hr hl hll h.len_le fun W hW a b ha hb => (h.below hW).len ha hb
end
abbrev tI64 : Nat := 3
theorem two_C {w : World} {g t : Nat} {a b : Int} (hb : w.heap[g]? = some (.cells #[.int .i64 a, .int .i64 b] t (0, 0))) : Kd.C (Kd.int .i64) w (some ⟨g, 0, none⟩) 2 [a, b] := by
  refine ⟨rfl, by omega, fun _ => ⟨_, rfl, fun j p hj => ?_⟩⟩
  obtain ⟨hl, rfl⟩ := List.getElem?_eq_some_iff.1 hj
  have hl : j < 2 := by simpa using hl
  match j, hl with
  | 0, _ => exact ⟨[.int .i64 a], rfl, rfl, fun i u hu => by
      obtain ⟨hi, rfl⟩ := List.getElem?_eq_some_iff.1 hu
      obtain rfl : i = 0 := by simpa using hi
      rw [add_plain]
      exact cell_of_row w g 0 _ t (0, 0) hb⟩
  | 1, _ => exact ⟨[.int .i64 b], rfl, rfl, fun i u hu => by
      obtain ⟨hi, rfl⟩ := List.getElem?_eq_some_iff.1 hu
      obtain rfl : i = 0 := by simpa using hi
      rw [add_plain]
      exact cell_of_row w g 1 _ t (0, 0) hb⟩
theorem two_keys {E : List Ent} {a b : Wk} (h : E.map (·.1) = [a, b]) : ∃ q1 q2, E = [(a, q1), (b, q2)] := by
  obtain ⟨e1, E1, rfl, h1, h2⟩ := List.map_eq_cons_iff.1 h
  obtain ⟨e2, E2, rfl, h3, h4⟩ := List.map_eq_cons_iff.1 h2
  obtain rfl := List.map_eq_nil_iff.1 h4
  exact ⟨e1.2, e2.2, by rw [← h1, ← h3]⟩
theorem wk2 : wk 2 = [(0, 1), (1, 0)] := by decide
theorem one_O {w : World} {g b t t2 : Nat} {tt y : Int} {fz : Nat × Nat} (hg : w.heap[g]? = some (.cells #[.int .u8 tt, .slice (some ⟨b, 0, none⟩) 1 1] t (0, 0))) (hb : w.heap[b]? = some (.cells #[.int .u8 y] t2 fz)) : Kd.F kO w (fun k => k = b ∨ k = g) (some ⟨g, 0, none⟩) 1 [(tt, [y])] :=
  F_lit (d := kO) (g := g) (ok := fun k => k = b) [((tt, [y]), [.int .u8 tt, .slice (some ⟨b, 0, none⟩) 1 1])] hg (by simp) fun r hr => by
    rw [List.mem_singleton.1 hr]
    exact fun W' hW => ⟨[.int .u8 tt], [.slice (some ⟨b, 0, none⟩) 1 1], rfl, rfl, ⟨_, 1, rfl, Nat.le_refl _, byte_F hb W' hW⟩⟩
set_option maxHeartbeats 2000000 in
theorem awake_calls (w : World) : Calls Try.prog 10 #[] w fun e w' => e = .returned (.bool true) ∧ Below w.heap.size w w' := by
  go_enter Try.func10, Try.ntmps10
  go_wp2_with fail
  refine (NetNew_calls 2 3 _).mono ?_
  rintro e w1 ⟨g, mb, E, S, rfl, hN⟩
  have hk := hN.keys
  rw [show nn 2 = 2 from rfl, wk2] at hk
  obtain ⟨q1, q2, rfl⟩ := two_keys hk
  have N1 := Aside0.mk hN.net.bound
  have U1 := Aside0.mk hN.up
  have B1 := Aside0.mk hN.below
  clear hN hk
  have cv1 : (convert 24 24 (.slice (some ⟨w1.heap.size, 0, none⟩) 1 1)).run Try.prog (w1.alloc (.cells #[.int .u8 97] 5)) = .ok (.slice (some ⟨w1.heap.size, 0, none⟩) 1 1) (w1.alloc (.cells #[.int .u8 97] 5 (1, 2))) := Lib.run_convert_bytes_const w1 _ _ _ 1 1 Try.underlying24 Try.underlying5
  go_wp2_with fail
  clear cv1
  obtain ⟨w2, hw2⟩ : ∃ w2, w2 = (w1.alloc (.cells #[.int .u8 97] 5 (1, 2))).alloc (.cells #[.int .u8 1, .slice (some ⟨w1.heap.size, 0, none⟩) 1 1] tO) := ⟨_, rfl⟩
  rw [← hw2]
  have b2 : Below w1.heap.size w1 w2 := by rw [hw2]; exact below_alloc (below_alloc (Below.refl _ _) _) _
  have x0 : w2.heap[w1.heap.size]? = some (.cells #[.int .u8 97] 5 (1, 2)) := by rw [hw2]; exact blk_alloc (blk_new w1 _) _
  have x1 : w2.heap[w1.heap.size + 1]? = some (.cells #[.int .u8 1, .slice (some ⟨w1.heap.size, 0, none⟩) 1 1] tO (0, 0)) := by
    rw [hw2]
    have h := blk_new (w1.alloc (.cells #[.int .u8 97] 5 (1, 2))) (.cells #[.int .u8 1, .slice (some ⟨w1.heap.size, 0, none⟩) 1 1] tO)
    rwa [show (w1.alloc (.cells #[.int .u8 97] 5 (1, 2))).heap.size = w1.heap.size + 1 by simp] at h
  have ES : sendL (rm 3) [(((0 : Int), (1 : Int)), q1), ((1, 0), q2)] 0 [(1, [97])] (List.replicate 2 ([], 0)) = ([([th [97]], 0), ([], 0)], 1) := rfl
  have SC := Aside0.mk (Send_calls (c := 1) [(1, [97])] 0 (N1.out.below b2) ⟨by omega, by omega⟩ (Kd.F_mono (one_O x1 x0) (fun k hk h => by have := h.2; omega)) (Nat.le_refl _) (fun o ho => by rw [List.mem_singleton.1 ho]; exact ⟨⟨by omega, by omega⟩, by simp⟩) (fun v hv => by rw [List.eq_of_mem_replicate hv]; simp))
  have B2 := Aside0.mk (below_step B1.out b2)
  rw [show [(((0 : Int), (1 : Int)), q1), ((1, 0), q2)].length = 2 from rfl, ES] at SC
  clear x0 x1 hw2 ES
  refine SC.out.mono ?_
  rintro e w3 ⟨rfl, hN, hb⟩
  have N3 := Aside0.mk hN
  have B3 := Aside0.mk (Beside.step B2.out hb (fun k hk => U1.out k hk.1))
  clear hN hb SC b2 N1 B1 B2
  obtain ⟨v1, c1, d1⟩ := N3.out.len (a := 0) (b := 1) ⟨by omega, by omega⟩ ⟨by omega, by omega⟩
  obtain ⟨v2, c2, d2⟩ := N3.out.len (a := 1) (b := 0) ⟨by omega, by omega⟩ ⟨by omega, by omega⟩
  have C1 := Aside0.mk c1
  have C2 := Aside0.mk c2
  have D1 : Aside0 (Calls Try.prog 12 #[v1] w3 fun e w' => e = .returned (.int .i64 1) ∧ w' = w3) := ⟨d1⟩
  have D2 : Aside0 (Calls Try.prog 12 #[v2] w3 fun e w' => e = .returned (.int .i64 0) ∧ w' = w3) := ⟨d2⟩
  clear c1 c2 d1 d2
  go_wp2_with fail
  refine C1.out.mono ?_
  rintro e w4 ⟨rfl, h⟩
  have h := h.symm
  subst h
  go_wp2_with fail
  refine D1.out.mono ?_
  rintro e w4 ⟨rfl, h⟩
  have h := h.symm
  subst h
  go_wp2_with fail
  refine C2.out.mono ?_
  rintro e w4 ⟨rfl, h⟩
  have h := h.symm
  subst h
  go_wp2_with fail
  refine D2.out.mono ?_
  rintro e w4 ⟨rfl, h⟩
  have h := h.symm
  subst h
  go_wp2_with fail
  have X5 := Aside0.mk (blk_new w3 (.cells #[.int .i64 0, .int .i64 1] tI64))
  have WC := Aside0.mk (NetWaits_calls (c := 2) (N3.out.below (below_alloc (Below.refl _ _) (.cells #[.int .i64 0, .int .i64 1] tI64))) [0, 1] (two_C X5.out) (fun y hy => by simp only [List.mem_cons, List.not_mem_nil, or_false] at hy; rcases hy with rfl | rfl <;> exact ⟨by omega, by omega⟩) (by simp))
  rw [show allSum (lenE [(((0 : Int), (1 : Int)), q1), ((1, 0), q2)] [([th [97]], 0), ([], 0)]) (setK [0, 1]) (setK [0, 1]) = 1 from rfl] at WC
  refine WC.out.mono ?_
  rintro e w5 ⟨rfl, hb⟩
  have B5 := Aside0.mk (below_step (below_alloc B3.out _) hb)
  clear hb
  go_wp2_with fail
  go_ret
  exact ⟨rfl, B5.out⟩

end Go.Proofs.Ytmkacejnnjppjaa.Walk
