/- The order of the puts plays no part. Conditions: none beyond the statement's own. -/
import Derived.Test.YtpdglodfgikfkaaWalkStoreHas
import Derived.Test.YtpdglodfgikfkaaWalkCov
import Derived.Test.YtpdglodfgikfkaaArgs
import Derived.Deep.QuietTactic
import Derived.BigQuiet
import Derived.Lib.QuietBelow
import Derived.Outline
import Derived.Deep.RegionHeld3
import Derived.Deep.CutRange
namespace Go.Proofs.Ytpdglodfgikfkaa.Walk
open Go.RowKit Go.Proofs.Ytpdglodfgikfkaa.F Go.Proofs.YtpdglodfgikfkaaW.PrintWords Go.Proofs.YtpdglodfgikfkaaW.PrintLast Go.Proofs.YtpdglodfgikfkaaW.PrintMore Go.Proofs.Ytpdglodfgikfkaa.Open
open Go.Sort (grow)
attribute [local go_sem] max2_int min2_int max_two min_two max_three min_three max_four min_four
set_option linter.unusedVariables false
set_option linter.unusedSimpArgs false

/-! ### Two stores -/
theorem nodup_len {α : Type} [DecidableEq α] : ∀ (A B : List α), A.Nodup → (∀ x ∈ A, x ∈ B) → A.length ≤ B.length
  | [], _, _, _ => Nat.zero_le _
  | a :: A, B, hn, hs => by
    obtain ⟨h1, h2⟩ := List.nodup_cons.1 hn
    have ha := hs a List.mem_cons_self
    have := nodup_len A (B.erase a) h2 fun x hx => (List.mem_erase_of_ne (show x ≠ a from fun e => h1 (by rw [← e]; exact hx))).2 (hs x (List.mem_cons_of_mem _ hx))
    rw [List.length_erase_of_mem ha] at this
    have := List.length_pos_of_mem ha
    simp only [List.length_cons]
    omega
theorem has_mem {E : Es} {x : Ix} : hasE E x = true ↔ x ∈ E.map (·.1) := by
  unfold hasE
  constructor
  · intro h
    obtain ⟨v, hv⟩ := Option.isSome_iff_exists.1 h
    exact List.mem_map.2 ⟨_, mlk_some hv, rfl⟩
  · intro h
    obtain ⟨e, he, rfl⟩ := List.mem_map.1 h
    cases hm : mlk E e.1 with
    | some v => rfl
    | none => exact absurd rfl (mlk_none hm e he)
theorem has_len {E E' : Es} (h1 : (E.map (·.1)).Nodup) (h2 : (E'.map (·.1)).Nodup) (h : ∀ y, hasE E y = hasE E' y) : E.length = E'.length := by
  have a := nodup_len _ _ h1 fun x hx => has_mem.1 ((h x).symm.trans (has_mem.2 hx))
  have b := nodup_len _ _ h2 fun x hx => has_mem.1 ((h x).trans (has_mem.2 hx))
  simp only [List.length_map] at a b
  omega
theorem metL_app (n : Nat) (L : List S29) (z : S29) (y : Ix) : metL n (L ++ [z]) y = (metL n L y || (mayD n (ix z) && decide (ix z = y))) := by
  unfold metL
  rw [List.any_append]
  simp
/-- What a store into which only single bytes were put tells of them. -/
structure Inf (n : Nat) (E : Es) (L : List S29) : Prop where
  used : usedE E ≤ L.length
  len : usedE E = E.length
  has : ∀ y, hasE E y = metL n L y
theorem used_len {z : Bool} {E : Es} {x : Ix} {v : Value} {a : Int} (h : usedE E = E.length) : usedE (putE z E x v [a]) = (putE z E x v [a]).length := by
  unfold putE
  split
  · rw [usedE_snoc, h]
    simp
  · exact h
theorem put1 {wr : World} {S : Nat → Prop} {g mb fb hb n : Nat} {room : Int} {E : Es} {H : List Int} {L : List S29} {z : S29} (h1 : St wr S g mb fb hb n room E (List.replicate n 0) H) (h2 : Tops E (List.replicate n 0) H) (hI : Inf n E L) (hi : idr (ix z)) (hr : (L.length : Int) + 1 ≤ room) {b t : Nat} (hx : wr.heap[b]? = some (.cells #[.int .u8 1] t (0, 0))) :
    Calls Try.prog 10 #[.pointer (some ⟨g, 0, none⟩), .agg #[.int .u8 z.f0, .int .u64 z.f1], .slice (some ⟨b, 0, none⟩) 1 1] wr fun e w' => (∃ r, e = .returned (.bool r)) ∧ ∃ E' H', St w' (fun k => S k ∨ wr.heap.size ≤ k) g mb fb hb n room E' (List.replicate n 0) H' ∧ Tops E' (List.replicate n 0) H' ∧ Inf n E' (L ++ [z]) ∧ Beside S wr w' := by
  obtain ⟨ha, hb'⟩ := hi
  obtain ⟨hu, hl, hh⟩ := hI
  obtain ⟨q, hq⟩ : ∃ q : Nat, z.f0 = q := ⟨z.f0.toNat, by have : 0 ≤ z.f0 := ha.1; omega⟩
  have hq2 : q ≤ 255 := by have h7 : z.f0 ≤ 255 := ha.2; omega
  have hF : ∀ y ∈ List.replicate n (0 : Int), y = 0 := fun y hy => List.eq_of_mem_replicate hy
  have hfit := fits_one (n := n) (E := E) (x := ((q : Int), z.f1)) (p := [1]) hF (show (usedE E : Int) + ([1] : List Int).length ≤ room by simp; omega)
  have PC := Put_calls (c := 1) h1 h2 q z.f1 hq2 hb' [1] (byte_F hx) (Nat.le_refl _) (by simp)
  rw [hfit] at PC
  rw [hq]
  refine PC.mono ?_
  rintro e w' ⟨rfl, v, H', hS, hT, hB⟩
  refine ⟨⟨_, rfl⟩, _, _, hS, hT, ⟨?_, used_len hl, fun y => ?_⟩, hB⟩
  · have := used_put (z := mayD n ((q : Int), z.f1) && !hasE E ((q : Int), z.f1)) (E := E) (x := ((q : Int), z.f1)) (v := v) (p := [1])
    simp at this
    simp
    omega
  · rw [has_put, hh, metL_app]
    unfold ix
    rw [hq]
/-- Two stores, into which La and Lb were put. -/
structure TS (w0 wr : World) (ga ma fa ha gb mb fb hb n : Nat) (La Lb : List S29) : Prop where
  below : Below w0.heap.size w0 wr
  ex : ∃ (Sa Sb : Nat → Prop) (Ea Eb : Es) (Ha Hb : List Int), St wr Sa ga ma fa ha n 50 Ea (List.replicate n 0) Ha ∧ St wr Sb gb mb fb hb n 50 Eb (List.replicate n 0) Hb ∧ Tops Ea (List.replicate n 0) Ha ∧ Tops Eb (List.replicate n 0) Hb ∧ Inf n Ea La ∧ Inf n Eb Lb
    ∧ (∀ k, Sa k → w0.heap.size ≤ k ∧ k < wr.heap.size) ∧ (∀ k, Sb k → w0.heap.size ≤ k ∧ k < wr.heap.size) ∧ ∀ k, Sa k → ¬ Sb k
section
variable {w0 wr w1 w2 : World} {ga ma fa ha gb mb fb hb n : Nat} {La Lb : List S29} {z : S29}
theorem TS.step (h : TS w0 wr ga ma fa ha gb mb fb hb n La Lb) (hbw : Below wr.heap.size wr w1) : TS w0 w1 ga ma fa ha gb mb fb hb n La Lb := by
  obtain ⟨h1, Sa, Sb, Ea, Eb, Ha, Hb, hA, hB, tA, tB, iA, iB, s1, s2, s3⟩ := h
  exact ⟨below_step h1 hbw, Sa, Sb, Ea, Eb, Ha, Hb, hA.below hbw, hB.below hbw, tA, tB, iA, iB, fun k hk => ⟨(s1 k hk).1, Nat.lt_of_lt_of_le (s1 k hk).2 hbw.size⟩, fun k hk => ⟨(s2 k hk).1, Nat.lt_of_lt_of_le (s2 k hk).2 hbw.size⟩, s3⟩
theorem TS.put_a (h : TS w0 wr ga ma fa ha gb mb fb hb n La Lb) (hi : idr (ix z)) (hr : La.length < 50) {b t : Nat} (hx : wr.heap[b]? = some (.cells #[.int .u8 1] t (0, 0))) :
    Calls Try.prog 10 #[.pointer (some ⟨ga, 0, none⟩), .agg #[.int .u8 z.f0, .int .u64 z.f1], .slice (some ⟨b, 0, none⟩) 1 1] wr fun e w' => (∃ r, e = .returned (.bool r)) ∧ TS w0 w' ga ma fa ha gb mb fb hb n (La ++ [z]) Lb := by
  obtain ⟨h1, Sa, Sb, Ea, Eb, Ha, Hb, hA, hB, tA, tB, iA, iB, s1, s2, s3⟩ := h
  refine (put1 hA tA iA hi (by omega) hx).mono ?_
  rintro e w' ⟨hr, E', H', hS, hT, hI, hb⟩
  refine ⟨hr, Beside.step h1 hb (fun k hk => (s1 k hk).1), fun k => (Sa k ∨ wr.heap.size ≤ k) ∧ k < w'.heap.size, Sb, E', Eb, H', Hb, hS.bound, hB.beside hb (fun k hk hk2 => s3 k hk2 hk), hT, tB, hI, iB, fun k hk => ⟨hk.1.elim (fun h => (s1 k h).1) (fun h => Nat.le_trans h1.size h), hk.2⟩, fun k hk => ⟨(s2 k hk).1, Nat.lt_of_lt_of_le (s2 k hk).2 hb.size⟩, fun k hk hk2 => ?_⟩
  rcases hk.1 with h | h
  · exact s3 k h hk2
  · have := (s2 k hk2).2
    omega
theorem TS.put_b (h : TS w0 wr ga ma fa ha gb mb fb hb n La Lb) (hi : idr (ix z)) (hr : Lb.length < 50) {b t : Nat} (hx : wr.heap[b]? = some (.cells #[.int .u8 1] t (0, 0))) :
    Calls Try.prog 10 #[.pointer (some ⟨gb, 0, none⟩), .agg #[.int .u8 z.f0, .int .u64 z.f1], .slice (some ⟨b, 0, none⟩) 1 1] wr fun e w' => (∃ r, e = .returned (.bool r)) ∧ TS w0 w' ga ma fa ha gb mb fb hb n La (Lb ++ [z]) := by
  obtain ⟨h1, Sa, Sb, Ea, Eb, Ha, Hb, hA, hB, tA, tB, iA, iB, s1, s2, s3⟩ := h
  refine (put1 hB tB iB hi (by omega) hx).mono ?_
  rintro e w' ⟨hr, E', H', hS, hT, hI, hb⟩
  refine ⟨hr, Beside.step h1 hb (fun k hk => (s2 k hk).1), Sa, fun k => (Sb k ∨ wr.heap.size ≤ k) ∧ k < w'.heap.size, Ea, E', Ha, H', hA.beside hb (fun k hk hk2 => s3 k hk hk2), hS.bound, tA, hT, iA, hI, fun k hk => ⟨(s1 k hk).1, Nat.lt_of_lt_of_le (s1 k hk).2 hb.size⟩, fun k hk => ⟨hk.1.elim (fun h => (s2 k h).1) (fun h => Nat.le_trans h1.size h), hk.2⟩, fun k hk hk2 => ?_⟩
  rcases hk2.1 with h | h
  · exact s3 k hk h
  · have := (s1 k hk).2
    omega
theorem TS.two {w : World} (hA : St w1 (fun k => w.heap.size ≤ k) ga ma fa ha n 50 [] (List.replicate n 0) (List.replicate n 0)) (b1 : Below w.heap.size w w1) (hB : St w2 (fun k => w1.heap.size ≤ k) gb mb fb hb n 50 [] (List.replicate n 0) (List.replicate n 0)) (b2 : Below w1.heap.size w1 w2) : TS w w2 ga ma fa ha gb mb fb hb n [] [] :=
  ⟨below_step b1 b2, fun k => w.heap.size ≤ k ∧ k < w1.heap.size, fun k => w1.heap.size ≤ k ∧ k < w2.heap.size, [], [], _, _, hA.bound.below b2, hB.bound, Tops_new n, Tops_new n, ⟨Nat.le_refl _, rfl, fun y => by simp [hasE, metL, mlk_nil]⟩, ⟨Nat.le_refl _, rfl, fun y => by simp [hasE, metL, mlk_nil]⟩, fun k hk => ⟨hk.1, Nat.lt_of_lt_of_le hk.2 b2.size⟩, fun k hk => ⟨Nat.le_trans b1.size hk.1, hk.2⟩, fun k hk hk2 => by have := hk.2; have := hk2.1; omega⟩
end
/-- Two stores that hold the same, and as much as they have entries. -/
structure TQ (w0 wr : World) (ga gb : Nat) (u : Nat) (H : List Int) : Prop where
  below : Below w0.heap.size w0 wr
  short : H.length ≤ 64
  ex : ∃ (Sa Sb : Nat → Prop) (ma fa ha mb fb hb n : Nat) (Fa Fb : List Int) (Ea Eb : Es), St wr Sa ga ma fa ha n 50 Ea Fa H ∧ St wr Sb gb mb fb hb n 50 Eb Fb H ∧ Ea.length = u ∧ Eb.length = u ∧ usedE Ea = u ∧ usedE Eb = u
section
variable {w0 wr w1 : World} {ga gb u : Nat} {H : List Int}
theorem TQ.step (h : TQ w0 wr ga gb u H) (hbw : Below wr.heap.size wr w1) : TQ w0 w1 ga gb u H := by
  obtain ⟨h1, h2, Sa, Sb, ma, fa, ha, mb, fb, hb, n, Fa, Fb, Ea, Eb, hA, hB, r⟩ := h
  exact ⟨below_step h1 hbw, h2, Sa, Sb, ma, fa, ha, mb, fb, hb, n, Fa, Fb, Ea, Eb, hA.below hbw, hB.below hbw, r⟩
theorem TQ.make {ma fa ha mb fb hb n : Nat} {La Lb : List S29} (h : TS w0 wr ga ma fa ha gb mb fb hb n La Lb) (he : ∀ y, metL n La y = metL n Lb y) : ∃ u H, TQ w0 wr ga gb u H := by
  obtain ⟨h1, Sa, Sb, Ea, Eb, Ha, Hb, hA, hB, tA, tB, iA, iB, s1, s2, s3⟩ := h
  have hh : ∀ y, hasE Ea y = hasE Eb y := fun y => (iA.has y).trans ((he y).trans (iB.has y).symm)
  have hl := has_len hA.map.nodup hB.map.nodup hh
  obtain rfl : Ha = Hb := by
    have la := hA.lh
    have lb := hB.lh
    refine List.ext_getElem (la.trans lb.symm) fun i hi1 hi2 => ?_
    have hf : (List.replicate n (0 : Int))[i]? = some 0 := by rw [List.getElem?_replicate, if_pos (by omega)]
    exact (tA i 0 Ha[i] hf (List.getElem?_eq_getElem hi1)).uniq (tB i 0 Hb[i] hf (List.getElem?_eq_getElem hi2)) fun s => hh _
  exact ⟨Ea.length, Ha, h1, by rw [hA.lh]; exact hA.n2, Sa, Sb, ma, fa, ha, mb, fb, hb, n, _, _, Ea, Eb, hA, hB, rfl, hl.symm, iA.len, iB.len.trans hl.symm⟩
end
theorem TQ.call {w0 wr : World} {ga gb u : Nat} {H : List Int} (h : TQ w0 wr ga gb u H) {f : Nat} {args : Array Value} {e0 : Ending} (hc : Calls Try.prog f args wr fun e w' => e = e0 ∧ w' = wr) : Calls Try.prog f args wr fun e w' => e = e0 ∧ TQ w0 w' ga gb u H := hc.mono fun _ _ ⟨he, hw⟩ => ⟨he, by rw [hw]; exact h⟩
theorem TQ.held_a {w0 wr : World} {ga gb u : Nat} {H : List Int} (h : TQ w0 wr ga gb u H) : Calls Try.prog 14 #[.pointer (some ⟨ga, 0, none⟩)] wr fun e w' => ∃ v, e = .returned v ∧ Kd.R kU tU w' wr.heap.size (fun _ => True) v H ∧ Below wr.heap.size wr w' := by
  obtain ⟨h1, h2, Sa, Sb, ma, fa, ha, mb, fb, hb, n, Fa, Fb, Ea, Eb, hA, hB, r⟩ := h
  exact Held_calls hA
theorem TQ.held_b {w0 wr : World} {ga gb u : Nat} {H : List Int} (h : TQ w0 wr ga gb u H) : Calls Try.prog 14 #[.pointer (some ⟨gb, 0, none⟩)] wr fun e w' => ∃ v, e = .returned v ∧ Kd.R kU tU w' wr.heap.size (fun _ => True) v H ∧ Below wr.heap.size wr w' := by
  obtain ⟨h1, h2, Sa, Sb, ma, fa, ha, mb, fb, hb, n, Fa, Fb, Ea, Eb, hA, hB, r⟩ := h
  exact Held_calls hB
theorem TQ.len_a {w0 wr : World} {ga gb u : Nat} {H : List Int} (h : TQ w0 wr ga gb u H) : Calls Try.prog 15 #[.pointer (some ⟨ga, 0, none⟩)] wr fun e w' => e = .returned (.int .i64 u) ∧ TQ w0 w' ga gb u H := by
  obtain ⟨h1, h2, Sa, Sb, ma, fa, ha, mb, fb, hb, n, Fa, Fb, Ea, Eb, hA, hB, r1, r2, r3, r4⟩ := id h
  have := Len_calls hA
  rw [r1] at this
  exact h.call this
theorem TQ.len_b {w0 wr : World} {ga gb u : Nat} {H : List Int} (h : TQ w0 wr ga gb u H) : Calls Try.prog 15 #[.pointer (some ⟨gb, 0, none⟩)] wr fun e w' => e = .returned (.int .i64 u) ∧ TQ w0 w' ga gb u H := by
  obtain ⟨h1, h2, Sa, Sb, ma, fa, ha, mb, fb, hb, n, Fa, Fb, Ea, Eb, hA, hB, r1, r2, r3, r4⟩ := id h
  have := Len_calls hB
  rw [r2] at this
  exact h.call this
theorem TQ.used_a {w0 wr : World} {ga gb u : Nat} {H : List Int} (h : TQ w0 wr ga gb u H) : Calls Try.prog 16 #[.pointer (some ⟨ga, 0, none⟩)] wr fun e w' => e = .returned (.int .i64 u) ∧ TQ w0 w' ga gb u H := by
  obtain ⟨h1, h2, Sa, Sb, ma, fa, ha, mb, fb, hb, n, Fa, Fb, Ea, Eb, hA, hB, r1, r2, r3, r4⟩ := id h
  have := Used_calls hA
  rw [r3] at this
  exact h.call this
theorem TQ.used_b {w0 wr : World} {ga gb u : Nat} {H : List Int} (h : TQ w0 wr ga gb u H) : Calls Try.prog 16 #[.pointer (some ⟨gb, 0, none⟩)] wr fun e w' => e = .returned (.int .i64 u) ∧ TQ w0 w' ga gb u H := by
  obtain ⟨h1, h2, Sa, Sb, ma, fa, ha, mb, fb, hb, n, Fa, Fb, Ea, Eb, hA, hB, r1, r2, r3, r4⟩ := id h
  have := Used_calls hB
  rw [r4] at this
  exact h.call this
set_option maxHeartbeats 8000000 in
set_option maxRecDepth 100000 in
theorem StoreTurns (n : Int) (A1 : Option Addr) (c1 : Nat) (l1 : List S29) (w : World) (hr : Kd.C kD w A1 l1.length l1) (_ : l1.length ≤ c1) (_ : (Lit.int .i64 n).wf = true) (hw : l1.length ≤ maxLen ∧ ∀ x ∈ l1, wf29 x) :
    Calls Try.prog 4 #[.int .i64 n, .slice A1 l1.length c1] w fun e w' => e = .returned (.bool true) ∧ Below w.heap.size w w' := by
  have HL := Aside0.mk hr
  have WL := Aside0.mk hw.2
  have AW : Aside0 (∀ W, Calls Try.prog 8 #[] W fun e w' => e = .returned (.bool true) ∧ Below W.heap.size W w') := ⟨awake_calls⟩
  clear hr hw
  by_cases h0 : (l1.length : Int) > 50
  · have d0 : decide ((l1.length : Int) > 50) = true := decide_eq_true h0
    go_enter Try.func4, Try.ntmps4
    go_wp2_with fail
    refine (AW.out _).mono ?_
    rintro e w1 ⟨rfl, hb⟩
    have B1 := Aside0.mk hb
    clear hb
    go_wp2_with fail
    go_ret
    exact ⟨rfl, B1.out⟩
  have d0 : decide ((l1.length : Int) > 50) = false := decide_eq_false h0
  have hl50 : l1.length ≤ 50 := by omega
  go_enter Try.func4, Try.ntmps4
  go_wp2_with fail
  refine (New_calls n 50 (by omega) w).mono ?_
  rintro e w1 ⟨ga, ma, fa, ha, rfl, hS, hbw⟩
  rw [show rm 50 = 50 from rfl] at hS
  have S1 := Aside0.mk hS
  have B1 := Aside0.mk hbw
  clear hS hbw
  go_wp2_with fail
  refine (New_calls n 50 (by omega) w1).mono ?_
  rintro e w2 ⟨gb, mb, fb, hb, rfl, hS, hbw⟩
  rw [show rm 50 = 50 from rfl] at hS
  have T2 : Aside0 (TS w w2 ga ma fa ha gb mb fb hb (nn n) (l1.take 0) (l1.reverse.take 0)) := ⟨by rw [List.take_zero, List.take_zero]; exact TS.two S1.out B1.out hS hbw⟩
  clear hS hbw S1 B1 d0 h0
  go_wp2_with fail
  go_loopg [7] l1.length (fun gg s7 wr => ∃ i : Nat, s7 = .int .i64 i ∧ i ≤ l1.length ∧ l1.length - i ≤ gg ∧ Aside0 (TS w wr ga ma fa ha gb mb fb hb (nn n) (l1.take i) (l1.reverse.take i)))
  case atStart => exact ⟨0, rfl, Nat.zero_le _, by omega, T2⟩
  case round =>
    clear T2
    obtain ⟨i, rfl, hi, hgg, TI⟩ := hrel
    by_cases hlt : i < l1.length
    · have hltz : (i : Int) < (l1.length : Int) := by omega
      obtain ⟨j, hj⟩ : ∃ j, j = l1.length - 1 - i := ⟨_, rfl⟩
      have hjl : j < l1.length := by omega
      have HX : Aside0 (l1[i]? = some l1[i]) := ⟨List.getElem?_eq_getElem hlt⟩
      have HY : Aside0 (l1[j]? = some l1[j]) := ⟨List.getElem?_eq_getElem hjl⟩
      have WX := Aside0.mk (id_wf (WL.out _ (List.mem_of_getElem? HX.out)))
      have WY := Aside0.mk (id_wf (WL.out _ (List.mem_of_getElem? HY.out)))
      have EX : Aside0 (l1.take (i + 1) = l1.take i ++ [l1[i]]) := ⟨by rw [List.take_add_one, HX.out, Option.toList_some]⟩
      have EY : Aside0 (l1.reverse.take (i + 1) = l1.reverse.take i ++ [l1[j]]) := ⟨by rw [List.take_add_one, List.getElem?_reverse hlt, ← hj, HY.out, Option.toList_some]⟩
      obtain ⟨ad, e, k0, k1⟩ := id_at HL.out HX.out
      cases e
      obtain ⟨ad2, e, j0, j1⟩ := id_at HL.out HY.out
      cases e
      have k0 := pw_cell_below TI.out.below k0
      have k1 := pw_cell_below TI.out.below k1
      have J0 := Aside0.mk j0
      have J1 := Aside0.mk j1
      clear j0 j1
      generalize l1[i] = x at HX WX EX k0 k1
      generalize l1[j] = y at HY WY EY J0 J1
      have hwi : IntKind.i64.wrap ((i : Int) + 1) = ((i + 1 : Nat) : Int) := by rw [IntKind.wrap_i64]; omega
      have hw1 : IntKind.i64.wrap ((l1.length : Int) - 1) = (l1.length : Int) - 1 := by rw [IntKind.wrap_i64]; omega
      have hw2 : IntKind.i64.wrap ((l1.length : Int) - 1 - (i : Int)) = (j : Int) := by rw [IntKind.wrap_i64]; omega
      have LA : Aside0 ((l1.take i).length < 50) := ⟨by rw [List.length_take]; omega⟩
      have LB : Aside0 ((l1.reverse.take i).length < 50) := ⟨by rw [List.length_take, List.length_reverse]; omega⟩
      have hj' := Aside0.mk hj
      clear hj
      go_wp2_with fail
      refine ((TI.out.step (below_alloc (Below.refl _ _) _)).put_a WX.out LA.out (blk_new wr _)).mono ?_
      rintro e w3 ⟨⟨r, rfl⟩, h3⟩
      rw [← EX.out] at h3
      have T3 := Aside0.mk h3
      have j0 := pw_cell_below T3.out.below J0.out
      have j1 := pw_cell_below T3.out.below J1.out
      clear h3 k0 k1
      go_wp2_with fail
      refine ((T3.out.step (below_alloc (Below.refl _ _) _)).put_b WY.out LB.out (blk_new w3 _)).mono ?_
      rintro e w4 ⟨⟨r2, rfl⟩, h4⟩
      rw [← EY.out] at h4
      have T4 := Aside0.mk h4
      clear h4 j0 j1
      go_wp2_with fail
      go_roundg (l1.length - (i + 1))
      case measure => omega
      case rel => exact ⟨i + 1, by go_num, by omega, by omega, T4⟩
    · obtain rfl : i = l1.length := by omega
      have hltz : ¬ (l1.length : Int) < (l1.length : Int) := by omega
      obtain ⟨u, H, TQ0⟩ := TQ.make TI.out (fun y => by rw [List.take_length, List.take_of_length_le (by simp)]; exact List.any_reverse.symm)
      have Q0 := Aside0.mk TQ0
      clear TQ0 TI
      have ES : Aside0 (∀ W A c, Kd.C kU W A H.length H → H.length ≤ c → ∀ B d, Kd.C kU W B H.length H → H.length ≤ d → Calls Try.prog 13 #[.slice A H.length c, .slice B H.length d] W fun e w' => e = .returned (.bool true) ∧ Below W.heap.size W w') := ⟨fun W A c h1 h2 B d h3 h4 => (unisonref04_Equal.calls 1000 A c H B d H true W h1 h2 h3 h4 (equal_self (by have := Q0.out.short; omega) (by have := Q0.out.short; omega))).mono fun e w' ⟨he, hb⟩ => ⟨he, hb.below⟩⟩
      go_wp2_with fail
      refine (Q0.out.held_a).mono ?_
      rintro e w3 ⟨v, rfl, hR, hb⟩
      obtain ⟨A5, c5, rfl⟩ := Kd.R_slice hR
      obtain ⟨_, hc5, hC5⟩ := Kd.R_reads' hR
      have Q3 := Aside0.mk (Q0.out.step hb)
      go_wp2_with fail
      refine (Q3.out.held_b).mono ?_
      rintro e w4 ⟨v, rfl, hR6, hb6⟩
      obtain ⟨A6, c6, rfl⟩ := Kd.R_slice hR6
      obtain ⟨_, hc6, hC6⟩ := Kd.R_reads' hR6
      have Q4 := Aside0.mk (Q3.out.step hb6)
      have CC := Aside0.mk (ES.out w4 A5 c5 (Kd.C_below hC5 hb6) hc5 A6 c6 hC6 hc6)
      clear hR hb hC5 hc5 hR6 hb6 hC6 hc6 Q0 ES
      go_wp2_with fail
      refine CC.out.mono ?_
      rintro e w5 ⟨rfl, hb⟩
      have Q5 := Aside0.mk (Q4.out.step hb)
      clear hb Q3 Q4 CC
      go_wp2_with fail
      refine (Q5.out.len_a).mono ?_
      rintro e w6 ⟨rfl, h⟩
      have Q6 := Aside0.mk h
      clear h Q5
      go_wp2_with fail
      refine (Q6.out.len_b).mono ?_
      rintro e w7 ⟨rfl, h⟩
      have Q7 := Aside0.mk h
      clear h Q6
      go_wp2_with fail
      refine (Q7.out.used_a).mono ?_
      rintro e w8 ⟨rfl, h⟩
      have Q8 := Aside0.mk h
      clear h Q7
      go_wp2_with fail
      refine (Q8.out.used_b).mono ?_
      rintro e w9 ⟨rfl, h⟩
      have Q9 := Aside0.mk h
      clear h Q8
      go_wp2_with fail
      refine (Q9.out.len_a).mono ?_
      rintro e w10 ⟨rfl, h⟩
      have Q10 := Aside0.mk h
      clear h Q9
      go_wp2_with fail
      refine (Q10.out.used_a).mono ?_
      rintro e w11 ⟨rfl, h⟩
      have Q11 := Aside0.mk h
      clear h Q10
      go_wp2_with fail
      refine (AW.out _).mono ?_
      rintro e w12 ⟨rfl, hb⟩
      have B12 := Aside0.mk (below_step Q11.out.below hb)
      clear hb
      go_wp2_with fail
      go_ret
      exact ⟨rfl, B12.out⟩

end Go.Proofs.Ytpdglodfgikfkaa.Walk
