/- What is sent on one way, in plain Lean. Conditions: none beyond the statement's own. -/
import Derived.Test.YtmkacejnnjppjaaWalkNetNil
import Derived.Test.YtmkacejnnjppjaaArgs
import Derived.Deep.QuietTactic
import Derived.BigQuiet
import Derived.Lib.QuietBelow
import Derived.Outline
import Derived.Deep.RegionHeld3
import Derived.Deep.CutRange
namespace Go.Proofs.Ytmkacejnnjppjaa.Walk
open Go.RowKit Go.Proofs.Ytmkacejnnjppjaa.F Go.Proofs.YtmkacejnnjppjaaW.PrintWords Go.Proofs.YtmkacejnnjppjaaW.PrintLast Go.Proofs.YtmkacejnnjppjaaW.PrintMore Go.Proofs.Ytmkacejnnjppjaa.Open
open Go.Sort (grow)
attribute [local go_sem] max2_int min2_int max_two min_two max_three min_three max_four min_four
set_option linter.unusedVariables false
set_option linter.unusedSimpArgs false

/-! ### What is sent on one way, in plain Lean -/
theorem sendL_none {room : Nat} {E : List Ent} {a b : Int} (h : wIdx E (a, b) = none) : ∀ (l : List Ou) (V : List Bv), (∀ o ∈ l, o.1 = b) → sendL room E a l V = (V, 0)
  | [], V, _ => rfl
  | o :: l, V, hl => by
    have ho : wIdx E (a, o.1) = none := by rw [hl o List.mem_cons_self]; exact h
    have e1 : sendV room E a V o = V := by unfold sendV; rw [ho]
    have e2 : sendN room E a V o = 0 := by unfold sendN; rw [ho]
    rw [sendL, e1, e2, sendL_none h l V (fun o' ho' => hl o' (List.mem_cons_of_mem _ ho'))]
    rfl
theorem sendL_one {room : Nat} {E : List Ent} {a b : Int} {i : Nat} (h : wIdx E (a, b) = some i) : ∀ (l : List Ou) (V : List Bv) (L : List Th) (x : Int), (∀ o ∈ l, o.1 = b) → V[i]? = some (L, x) → L.length ≤ room →
    sendL room E a l V = (V.set i (L ++ ((l.map (·.2)).take (min l.length (room - L.length))).map th, x + ((l.length - min l.length (room - L.length) : Nat) : Int)), min l.length (room - L.length))
  | [], V, L, x, _, hv, hL => by
    have : V.set i (L, x) = V := by
      apply List.ext_getElem?
      intro j
      rw [List.getElem?_set]
      split
      · rename_i e
        subst e
        rw [if_pos (List.getElem?_eq_some_iff.1 hv).1, hv]
      · rfl
    simp [sendL, this]
  | o :: l, V, L, x, hl, hv, hL => by
    have ho : wIdx E (a, o.1) = some i := by rw [hl o List.mem_cons_self]; exact h
    have hg : V.getD i v0 = (L, x) := by rw [List.getD_eq_getElem?_getD, hv]; rfl
    have hi := (List.getElem?_eq_some_iff.1 hv).1
    have e1 : sendV room E a V o = V.set i (vput room (L, x) o.2) := by unfold sendV; rw [ho]; dsimp only; rw [hg]
    have e2 : sendN room E a V o = putN room L := by unfold sendN; rw [ho]; dsimp only; rw [hg]
    have hl' : ∀ o' ∈ l, o'.1 = b := fun o' ho' => hl o' (List.mem_cons_of_mem _ ho')
    rw [sendL, e1, e2]
    by_cases hr : L.length < room
    · have e3 : vput room (L, x) o.2 = (L ++ [th o.2], x) := by unfold vput putL putLost; simp [hr]
      have e4 : putN room L = 1 := if_pos hr
      rw [e3, e4, sendL_one h l _ (L ++ [th o.2]) x hl' (List.getElem?_set_self hi) (by simp; omega)]
      have em : min (o :: l).length (room - L.length) = min l.length (room - (L ++ [th o.2]).length) + 1 := by simp; omega
      rw [em]
      simp only [List.set_set, List.map_cons, List.take_succ_cons, List.append_assoc, List.singleton_append, List.length_cons]
      refine Prod.ext ?_ (by omega)
      dsimp only
      congr 3
      congr 1
      omega
    · have e3 : vput room (L, x) o.2 = (L, x + 1) := by unfold vput putL putLost; simp [hr]
      have e4 : putN room L = 0 := if_neg hr
      rw [e3, e4, sendL_one h l _ L (x + 1) hl' (List.getElem?_set_self hi) hL]
      have em : room - L.length = 0 := by omega
      rw [em]
      simp only [List.set_set, Nat.min_zero, List.take_zero, List.map_nil, List.append_nil, Nat.sub_zero, List.length_cons]
      refine Prod.ext ?_ rfl
      dsimp only
      congr 2
      omega
theorem lost_zero : ∀ n : Nat, lostOf (List.replicate n ([], 0)) = 0
  | 0 => rfl
  | n + 1 => by
    have := lost_zero n
    unfold lostOf at this ⊢
    rw [List.replicate_succ, List.map_cons, List.sum_cons, this]
    rfl
theorem lost_set (v : Bv) : ∀ (n i : Nat), i < n → lostOf ((List.replicate n ([], 0)).set i v) = v.2
  | 0, i, h => by omega
  | n + 1, 0, _ => by
    have := lost_zero n
    unfold lostOf at this ⊢
    rw [List.replicate_succ, List.set_cons_zero, List.map_cons, List.sum_cons, this]
    omega
  | n + 1, i + 1, h => by
    have := lost_set v n i (by omega)
    unfold lostOf at this ⊢
    rw [List.replicate_succ, List.set_cons_succ, List.map_cons, List.sum_cons, this]
    simp
theorem key_idx {E : List Ent} {N : Nat} (hk : E.map (·.1) = wk N) {a b : Nat} (ha : a < N) (hb : b < N) (hne : a ≠ b) : ∃ i q, wIdx E ((a : Int), (b : Int)) = some i ∧ E[i]? = some (((a : Int), (b : Int)), q) ∧ i < E.length := by
  have hm : ((a : Int), (b : Int)) ∈ E.map (·.1) := by rw [hk]; exact mem_wk.2 ⟨a, b, rfl, hne, ha, hb⟩
  obtain ⟨e, he, e1⟩ := List.mem_map.1 hm
  cases hi : wIdx E ((a : Int), (b : Int)) with
  | none => exact absurd e1 (wIdx_none hi e he)
  | some i =>
    obtain ⟨q, hq⟩ := wIdx_some hi
    exact ⟨i, q, rfl, hq, (List.getElem?_eq_some_iff.1 hq).1⟩
theorem key_none {E : List Ent} {N : Nat} (hk : E.map (·.1) = wk N) (a : Nat) : wIdx E ((a : Int), (a : Int)) = none := by
  cases hi : wIdx E ((a : Int), (a : Int)) with
  | none => rfl
  | some i =>
    obtain ⟨q, hq⟩ := wIdx_some hi
    have hm : ((a : Int), (a : Int)) ∈ E.map (·.1) := List.mem_map.2 ⟨_, List.mem_of_getElem? hq, rfl⟩
    rw [hk] at hm
    obtain ⟨x, y, e, hne, _⟩ := mem_wk.1 hm
    simp only [Prod.mk.injEq] at e
    omega
theorem lenE_other {E : List Ent} {a b p q : Int} {i : Nat} {v : Bv} (hi : wIdx E (a, b) = some i) (hne : ¬ (p = a ∧ q = b)) (n : Nat) : lenE E ((List.replicate n ([], 0)).set i v) p q = 0 := by
  unfold lenE
  cases hj : wIdx E (p, q) with
  | none => rfl
  | some j =>
    dsimp only
    have hij : i ≠ j := fun e => by
      subst e
      obtain ⟨x, hx⟩ := wIdx_some hi
      obtain ⟨y, hy⟩ := wIdx_some hj
      rw [hx] at hy
      simp only [Option.some.injEq, Prod.mk.injEq] at hy
      exact hne ⟨hy.1.1.symm, hy.1.2.symm⟩
    rw [List.getD_eq_getElem?_getD, List.getElem?_set_ne hij, List.getElem?_replicate]
    split <;> rfl
theorem lenE_at {E : List Ent} {a b : Int} {i n : Nat} {v : Bv} (hi : wIdx E (a, b) = some i) (hn : i < n) : lenE E ((List.replicate n ([], 0)).set i v) a b = v.1.length := by
  unfold lenE
  rw [hi]
  dsimp only
  rw [List.getD_eq_getElem?_getD, List.getElem?_set_self (by simpa using hn)]
  rfl
theorem bodies_F {w : World} {A : Option Addr} {xs : List Int} (h : (Kd.int .u8).C w A xs.length xs) : Kd.F (Kd.int .u8) w (fun k => k < w.heap.size) A xs.length xs := fun W' hW => (Kd.heap_int .u8).C (fun k hk => hW k hk hk) h
theorem L_at {w : World} {A : Option Addr} {l : List (List Int)} (h : kL.C w A l.length l) {i : Nat} {x : List Int} (hx : l[i]? = some x) : ∃ ad A1 c1, A = some ad ∧ w.cell? (ad.add i) = some (.slice A1 x.length c1) ∧ x.length ≤ c1 ∧ (Kd.int .u8).C w A1 x.length x := by
  have hi : i < l.length := (List.getElem?_eq_some_iff.1 hx).1
  obtain ⟨ad, cc, e, hcl, hK, hcc⟩ := Kd.C_get h [] (i : Int) (by omega) (by omega)
  have e2 : l.getD ((i : Int)).toNat [] = x := by simp [List.getD, hx]
  rw [e2] at hK
  obtain ⟨A1, c1, rfl, l1, g1⟩ := hK
  rw [Int.toNat_natCast] at hcc
  have h0 : w.cell? (ad.add (i * 1 + 0)) = some (.slice A1 x.length c1) := hcc 0 _ rfl
  rw [show i * 1 + 0 = i by omega] at h0
  exact ⟨ad, A1, c1, e, h0, l1, g1⟩
def outs (b : Nat) (l : List (List Int)) : List Ou := l.map fun x => ((b : Int), x)
theorem outs_snoc {b i : Nat} {l : List (List Int)} {x : List Int} (h : l[i]? = some x) : outs b (l.take (i + 1)) = outs b (l.take i) ++ [((b : Int), x)] := by
  unfold outs
  rw [List.take_add_one, h, Option.toList_some, List.map_append]
  rfl
theorem outs_len (b : Nat) (l : List (List Int)) : (outs b l).length = l.length := by simp [outs]
theorem outs_snd (b : Nat) (l : List (List Int)) : (outs b l).map (·.2) = l := by simp [outs, Function.comp_def]
theorem infoO : (Try.prog.info? tO).map (fun i => (i.zero, i.size, i.bytes)) = some (some (.agg #[.int .u8 0, .slice none 0 0]), 2, 32) := by kernel_rfl
theorem O_FK {w : World} {ok : Nat → Prop} {A : Option Addr} {c : Nat} {tt : Int} {xs : List Int} (hc : xs.length ≤ c) (h : Kd.F (Kd.int .u8) w ok A xs.length xs) : Kd.FK kO w ok (tt, xs) [.int .u8 tt, .slice A xs.length c] := fun W' hW => ⟨[.int .u8 tt], [.slice A xs.length c], rfl, rfl, ⟨A, c, rfl, hc, h W' hW⟩⟩
def bagL (l : List (List Int)) (k : Nat) : List Th := (l.take k).map th
theorem bagL_len {l : List (List Int)} {k : Nat} (h : k ≤ l.length) : (bagL l k).length = k := by simp [bagL]; omega
theorem bagL_has {l : List (List Int)} {k i : Nat} (h : k ≤ l.length) (hi : i < k) : has (bagL l k) (i : Int) = true := by
  unfold has
  rw [bagL_len h]
  simp
  omega
theorem bagL_lk {l : List (List Int)} {k i : Nat} {x : List Int} (h : k ≤ l.length) (hi : i < k) (hx : l[i]? = some x) : lk (bagL l k) (i : Int) = x := by
  unfold lk
  rw [bagL_len h, if_pos (by omega), Int.toNat_natCast, List.getD_eq_getElem?_getD]
  unfold bagL
  rw [List.getElem?_map, List.getElem?_take_of_lt hi, hx]
  rfl
theorem R_empty {α : Type} (d : Kd α) {e : TypeId} {W : World} {base : Nat} {ok : Nat → Prop} {b : Nat} (hb : W.heap[b]? = some (.cells #[] e (0, 0))) (hbb : base ≤ b) (hok : ok b) : d.R e W base ok (.slice (some ⟨b, 0, none⟩) 0 0) [] := by
  refine ⟨fun k hk => ?_, [], ⟨by simp, .inr ⟨b, 0, #[], rfl, hbb, hb, Nat.le_refl _, by decide, by simp, by simp⟩⟩, Reps.none _ _⟩
  have : b = k := by simpa [Value.ownBlock] using hk
  exact this ▸ hok

end Go.Proofs.Ytmkacejnnjppjaa.Walk
