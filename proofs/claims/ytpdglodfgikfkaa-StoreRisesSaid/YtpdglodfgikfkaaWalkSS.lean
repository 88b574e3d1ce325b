/- A store under a row of acts. Conditions: none beyond the statement's own. -/
import Derived.Test.YtpdglodfgikfkaaWalkDrop
import Derived.Test.YtpdglodfgikfkaaArgs
import Derived.Deep.QuietTactic
import Derived.BigQuiet
import Derived.Lib.QuietBelow
import Derived.Outline
import Derived.Deep.RegionHeld3
import Derived.Deep.CutRange
namespace Go.Proofs.Ytpdglodfgikfkaa.Walk
open Go.RowKit Go.Proofs.Ytpdglodfgikfkaa.F Go.Proofs.YtpdglodfgikfkaaW.PrintWords Go.Proofs.YtpdglodfgikfkaaW.PrintLast Go.Proofs.YtpdglodfgikfkaaW.PrintMore Go.Proofs.Ytpdglodfgikfkaa.Open
open Go.Sort (grow)
attribute [local go_sem] max2_int min2_int max_two min_two max_three min_three max_four min_four
set_option linter.unusedVariables false
set_option linter.unusedSimpArgs false

/-! ### A store under a row of acts -/
abbrev Ac := S41
abbrev kAc : Kd Ac := k41
abbrev tAc : Nat := 41
abbrev tVU : Nat := 35
theorem act_at {w : World} {A : Option Addr} {l : List Ac} (h : Kd.C kAc w A l.length l) {i : Nat} {x : Ac} (hx : l[i]? = some x) : ∃ ad A3 c3 A4 c4, A = some ad ∧ (w.cell? (ad.add (i * 5)) = some (.int .i64 x.f0) ∧ w.cell? ⟨(ad.add (i * 5)).block, (ad.add (i * 5)).off + 1, none⟩ = some (.int .u8 x.f1.f0) ∧ w.cell? ⟨(ad.add (i * 5)).block, (ad.add (i * 5)).off + 2, none⟩ = some (.int .u64 x.f1.f1) ∧ w.cell? ⟨(ad.add (i * 5)).block, (ad.add (i * 5)).off + 3, none⟩ = some (.slice A3 x.f2.length c3) ∧ w.cell? ⟨(ad.add (i * 5)).block, (ad.add (i * 5)).off + 4, none⟩ = some (.slice A4 x.f3.length c4)) ∧ x.f2.length ≤ c3 ∧ (Kd.int .u8).C w A3 x.f2.length x.f2 ∧ x.f3.length ≤ c4 ∧ (Kd.int .u64).C w A4 x.f3.length x.f3 := by
  have hi : i < l.length := (List.getElem?_eq_some_iff.1 hx).1
  obtain ⟨ad, cc, e, hcl, hK, hcc⟩ := Kd.C_get h z41 (i : Int) (by omega) (by omega)
  have e2 : l.getD ((i : Int)).toNat z41 = x := by simp [List.getD, hx]
  rw [e2] at hK
  obtain ⟨A3, c3, A4, c4, rfl, l3, g3, l4, g4⟩ := k41_open hK
  rw [Int.toNat_natCast] at hcc
  exact ⟨ad, A3, c3, A4, c4, e, ⟨hcc 0 _ rfl, by rw [← add_field _ _ 1 (by omega)]; exact hcc 1 _ rfl, by rw [← add_field _ _ 2 (by omega)]; exact hcc 2 _ rfl, by rw [← add_field _ _ 3 (by omega)]; exact hcc 3 _ rfl, by rw [← add_field _ _ 4 (by omega)]; exact hcc 4 _ rfl⟩, l3, g3, l4, g4⟩
theorem IsTop.rise {E E' : Es} {i f h f' h' : Int} (t : IsTop E i f h) (t' : IsTop E' i f' h') (hf : f ≤ f') (he : ∀ s, f' < s → hasE E (i, s) = true → hasE E' (i, s) = true) : h ≤ h' := by
  by_cases hge : h ≤ h'
  · exact hge
  · have h1 := t.all (h' + 1) (by have := t'.le; omega) (by omega)
    have h2 := he (h' + 1) (by have := t'.le; omega) h1
    rw [t'.stop] at h2
    cases h2
theorem rd_at {l : List Int} {i : Nat} {x : Int} (h : l[i]? = some x) : rd l (i : Int) = x := by
  unfold rd
  rw [Int.toNat_natCast, List.getD_eq_getElem?_getD, h]
  rfl
theorem covv_of {a b : List Int} (hl : a.length = b.length) (h : ∀ (i : Nat) (x y : Int), a[i]? = some x → b[i]? = some y → y ≤ x) : covv a b := fun i hi => by
  have ha := List.getElem?_eq_getElem (l := a) (i := i) (by omega)
  have hb := List.getElem?_eq_getElem (l := b) hi
  rw [rd_at ha, rd_at hb]
  exact h i _ _ ha hb
/-- A store; rows and blocks that are not its own. -/
structure SS (w0 wr : World) (g n : Nat) (room : Int) (E : Es) (F H : List Int) (P : List (Option Addr × Nat × List Int)) (B : List (Nat × Nat × Array Value)) : Prop where
  below : Below w0.heap.size w0 wr
  tops : Tops E F H
  ex : ∃ (S : Nat → Prop) (mb fb hb : Nat), St wr S g mb fb hb n room E F H ∧ (∀ k, S k → w0.heap.size ≤ k ∧ k < wr.heap.size) ∧ (∀ p ∈ P, Kd.R kU tU wr 0 (fun k => ¬ S k ∧ k < wr.heap.size) (.slice p.1 p.2.2.length p.2.1) p.2.2) ∧ ∀ q ∈ B, ¬ S q.1 ∧ wr.heap[q.1]? = some (.cells q.2.2 q.2.1 (0, 0))
section
variable {w0 wr w1 : World} {g n : Nat} {room : Int} {E E' : Es} {F F' H H' : List Int} {P P' : List (Option Addr × Nat × List Int)} {Q Q' : List (Nat × Nat × Array Value)}
theorem SS.lens (h : SS w0 wr g n room E F H P Q) : F.length = n ∧ H.length = n ∧ n ≤ 64 ∧ (usedE E : Int) ≤ room := by
  obtain ⟨_, _, S, mb, fb, hb, hM, _⟩ := h
  exact ⟨hM.lf, hM.lh, hM.n2, hM.us⟩
theorem SS.nums (h : SS w0 wr g n room E F H P Q) : (∀ x ∈ F, 0 ≤ x ∧ x ≤ 4611686018427387904) ∧ ∀ x ∈ H, 0 ≤ x ∧ x ≤ 4611686018427387904 := by
  obtain ⟨_, _, S, mb, fb, hb, hM, _⟩ := h
  exact ⟨hM.uf, hM.uh⟩
theorem SS.step (h : SS w0 wr g n room E F H P Q) (hb : Below wr.heap.size wr w1) : SS w0 w1 g n room E F H P Q := by
  obtain ⟨h1, ht, S, mb, fb, hb2, hM, s, hP, hB⟩ := h
  exact ⟨below_step h1 hb, ht, S, mb, fb, hb2, hM.below hb, fun k hk => ⟨(s k hk).1, Nat.lt_of_lt_of_le (s k hk).2 hb.size⟩, fun p hp => Kd.R_mono (Kd.R_below (hP p hp) hb) (fun k hk => ⟨hk.1, Nat.lt_of_lt_of_le hk.2 hb.size⟩), fun q hq => ⟨(hB q hq).1, blk_below (hB q hq).2 hb⟩⟩
theorem SS.sub (h : SS w0 wr g n room E F H P Q) (hs : ∀ p ∈ P', p ∈ P) (hs2 : ∀ q ∈ Q', q ∈ Q) : SS w0 wr g n room E F H P' Q' := by
  obtain ⟨h1, ht, S, mb, fb, hb2, hM, s, hP, hB⟩ := h
  exact ⟨h1, ht, S, mb, fb, hb2, hM, s, fun p hp => hP p (hs p hp), fun q hq => hB q (hs2 q hq)⟩
theorem SS.lay {b t : Nat} {o : Array Value} (h : SS w0 wr g n room E F H P Q) (hb : Below wr.heap.size wr w1) (hn : wr.heap.size ≤ b) (ho : w1.heap[b]? = some (.cells o t (0, 0))) : SS w0 w1 g n room E F H P ((b, t, o) :: Q) := by
  obtain ⟨h1, ht, S', mb, fb, hb2, hM', s', hP', hB'⟩ := h
  refine ⟨below_step h1 hb, ht, S', mb, fb, hb2, hM'.below hb, fun k hk => ⟨(s' k hk).1, Nat.lt_of_lt_of_le (s' k hk).2 hb.size⟩, fun p hp => Kd.R_mono (Kd.R_below (hP' p hp) hb) (fun k hk => ⟨hk.1, Nat.lt_of_lt_of_le hk.2 hb.size⟩), fun q hq => ?_⟩
  rcases List.mem_cons.1 hq with rfl | hq
  · exact ⟨fun hs => by have := (s' b hs).2; omega, ho⟩
  · exact ⟨(hB' q hq).1, blk_below (hB' q hq).2 hb⟩
theorem SS.blk {b t : Nat} {o : Array Value} (h : SS w0 wr g n room E F H P Q) (hq : (b, t, o) ∈ Q) : wr.heap[b]? = some (.cells o t (0, 0)) := by
  obtain ⟨_, _, _, _, _, _, _, _, _, hB⟩ := h
  exact (hB _ hq).2
theorem SS.add {A : Option Addr} {c : Nat} {l : List Int} (h : SS w0 wr g n room E F H P Q) (hR : Kd.R kU tU w1 wr.heap.size (fun _ => True) (.slice A l.length c) l) (hb : Below wr.heap.size wr w1) : SS w0 w1 g n room E F H ((A, c, l) :: P) Q := by
  obtain ⟨h1, ht, S, mb, fb, hb2, hM, s, hP, hB⟩ := h
  refine ⟨below_step h1 hb, ht, S, mb, fb, hb2, hM.below hb, fun k hk => ⟨(s k hk).1, Nat.lt_of_lt_of_le (s k hk).2 hb.size⟩, fun p hp => ?_, fun q hq => ⟨(hB q hq).1, blk_below (hB q hq).2 hb⟩⟩
  rcases List.mem_cons.1 hp with rfl | hp
  · exact Kd.R_lower (Kd.R_mono (Kd.R_bound hR) (fun k hk => ⟨fun hs => by have := (s k hs).2; have := hk.2.1; omega, hk.2.2.1⟩)) (Nat.zero_le _)
  · exact Kd.R_mono (Kd.R_below (hP p hp) hb) (fun k hk => ⟨hk.1, Nat.lt_of_lt_of_le hk.2 hb.size⟩)
theorem SS.C (h : SS w0 wr g n room E F H P Q) {A : Option Addr} {c : Nat} {l : List Int} (hp : (A, c, l) ∈ P) : l.length ≤ c ∧ Kd.C kU wr A l.length l := by
  obtain ⟨_, _, _, _, _, _, _, _, hP, _⟩ := h
  exact (Kd.R_reads' (hP _ hp)).2
theorem SS.act {S : Nat → Prop} {mb fb hb : Nat} (h1 : Below w0.heap.size w0 wr) (s : ∀ k, S k → w0.heap.size ≤ k ∧ k < wr.heap.size) (hP : ∀ p ∈ P, Kd.R kU tU wr 0 (fun k => ¬ S k ∧ k < wr.heap.size) (.slice p.1 p.2.2.length p.2.1) p.2.2) (hB : ∀ q ∈ Q, ¬ S q.1 ∧ wr.heap[q.1]? = some (.cells q.2.2 q.2.1 (0, 0)))
    (hM : St w1 (fun k => S k ∨ wr.heap.size ≤ k) g mb fb hb n room E' F' H') (ht : Tops E' F' H') (hb' : Beside S wr w1) : SS w0 w1 g n room E' F' H' P Q :=
  ⟨Beside.step h1 hb' (fun k hk => (s k hk).1), ht, fun k => (S k ∨ wr.heap.size ≤ k) ∧ k < w1.heap.size, mb, fb, hb, hM.bound, fun k hk => ⟨hk.1.elim (fun h => (s k h).1) (fun h => Nat.le_trans h1.size h), hk.2⟩, fun p hp => Kd.R_mono (Kd.R_step (hP p hp) (fun k hk hlt => hb'.block k hlt hk.1)) (fun k hk => ⟨fun h => h.1.elim hk.1 (fun h => by have := hk.2; omega), Nat.lt_of_lt_of_le hk.2 hb'.size⟩), fun q hq => ⟨fun h => h.1.elim (hB q hq).1 (fun h => by have := blk_lt (hB q hq).2; omega), (hb'.block q.1 (blk_lt (hB q hq).2) (hB q hq).1).trans (hB q hq).2⟩⟩
theorem SS.make {w : World} {mb fb hb : Nat} (hM : St w1 (fun k => w.heap.size ≤ k) g mb fb hb n room E F H) (ht : Tops E F H) (hb' : Below w.heap.size w w1) : SS w w1 g n room E F H [] [] :=
  ⟨hb', ht, fun k => w.heap.size ≤ k ∧ k < w1.heap.size, mb, fb, hb, hM.bound, fun k hk => hk, by simp, by simp⟩
theorem SS.put (h : SS w0 wr g n room E F H P Q) (q : Nat) (s : Int) (hq : q ≤ 255) (hs : 0 ≤ s ∧ s ≤ 18446744073709551615) {A : Option Addr} {c : Nat} (p : List Int) (hp : (Kd.int .u8).C wr A p.length p) (hc : p.length ≤ c) (hpl : p.length ≤ 1000000) :
    Calls Try.prog 10 #[.pointer (some ⟨g, 0, none⟩), .agg #[.int .u8 (q : Int), .int .u64 s], .slice A p.length c] wr fun e w' => e = .returned (.bool (fits n room E F ((q : Int), s) p)) ∧ ∃ v H', SS w0 w' g n room (putE (fits n room E F ((q : Int), s) p) E ((q : Int), s) v p) F H' P Q := by
  obtain ⟨h1, ht, S, mb, fb, hb2, hM, s1, hP, hB⟩ := h
  exact (Put_calls hM ht q s hq hs p hp hc hpl).mono fun e w' ⟨he, v, H', hS, hT, hb⟩ => ⟨he, v, H', SS.act h1 s1 hP hB hS hT hb⟩
theorem SS.drop {A : Option Addr} {c b t : Nat} {u : List Int} (h : SS w0 wr g n room E F H P Q) (hb0 : wr.heap[b]? = some (.cells #[.slice A u.length c] t (0, 0))) (hu : (Kd.int .u64).C wr A u.length u) (hc : u.length ≤ c) (hul : u.length ≤ 100) (hE : E.length ≤ 1000000) :
    Calls Try.prog 18 #[.pointer (some ⟨g, 0, none⟩), .slice (some ⟨b, 0, none⟩) 1 1] wr fun e w' => e = .returned (.int .i64 ((E.length : Int) - ((E.filter (keepE (flo (foldAll mx [u]) F))).length : Int))) ∧ ∃ H', SS w0 w' g n room (E.filter (keepE (flo (foldAll mx [u]) F))) (flo (foldAll mx [u]) F) H' P Q := by
  obtain ⟨h1, ht, S, mb, fb, hb2, hM, s1, hP, hB⟩ := h
  have hr : Kd.C kRows wr (some ⟨b, 0, none⟩) ([u] : List (List Int)).length [u] := by
    refine ⟨rfl, by simp, fun _ => ⟨_, rfl, fun j p hj => ?_⟩⟩
    obtain ⟨hl, rfl⟩ := List.getElem?_eq_some_iff.1 hj
    obtain rfl : j = 0 := by simpa using hl
    refine ⟨[.slice A u.length c], rfl, ⟨A, c, rfl, hc, hu⟩, fun i v hv => ?_⟩
    obtain ⟨hi, rfl⟩ := List.getElem?_eq_some_iff.1 hv
    obtain rfl : i = 0 := by simpa using hi
    rw [add_plain]
    exact cell_of_row wr b 0 _ t _ hb0
  have hok : okV [u] := ⟨by simp, by simp [longest]; omega⟩
  exact (Drop_calls (c := 1) hM ht (fun k hk => (s1 k hk).2) [u] hr (by simp) hok _ rfl hE).mono fun e w' ⟨he, H', hS, hT, hb⟩ => ⟨he, H', SS.act h1 s1 hP hB hS hT hb⟩
theorem SS.answer {f : FuncId} {args : Array Value} {l : List Int} (h : SS w0 wr g n room E F H P Q) (hc : Calls Try.prog f args wr fun e w' => ∃ v, e = .returned v ∧ Kd.R kU tU w' wr.heap.size (fun _ => True) v l ∧ Below wr.heap.size wr w') :
    Calls Try.prog f args wr fun e w' => ∃ A c, e = .returned (.slice A l.length c) ∧ SS w0 w' g n room E F H ((A, c, l) :: P) Q := by
  refine hc.mono ?_
  rintro e w' ⟨v, rfl, hR, hb⟩
  obtain ⟨A, c, rfl⟩ := Kd.R_slice hR
  exact ⟨A, c, rfl, h.add hR hb⟩
theorem SS.held (h : SS w0 wr g n room E F H P Q) : Calls Try.prog 14 #[.pointer (some ⟨g, 0, none⟩)] wr fun e w' => ∃ A c, e = .returned (.slice A H.length c) ∧ SS w0 w' g n room E F H ((A, c, H) :: P) Q :=
  h.answer (by obtain ⟨_, _, S, _, _, _, hM, _⟩ := h; exact Held_calls hM)
theorem SS.floor (h : SS w0 wr g n room E F H P Q) : Calls Try.prog 17 #[.pointer (some ⟨g, 0, none⟩)] wr fun e w' => ∃ A c, e = .returned (.slice A F.length c) ∧ SS w0 w' g n room E F H ((A, c, F) :: P) Q :=
  h.answer (by obtain ⟨_, _, S, _, _, _, hM, _⟩ := h; exact Floor_calls hM)
theorem SS.used (h : SS w0 wr g n room E F H P Q) : Calls Try.prog 16 #[.pointer (some ⟨g, 0, none⟩)] wr fun e w' => e = .returned (.int .i64 (usedE E)) ∧ SS w0 w' g n room E F H P Q := by
  have h' := h
  obtain ⟨_, _, S, _, _, _, hM, _⟩ := h'
  exact (Used_calls hM).mono fun e w' ⟨he, hw⟩ => ⟨he, by rw [hw]; exact h⟩
theorem SS.len (h : SS w0 wr g n room E F H P Q) : Calls Try.prog 15 #[.pointer (some ⟨g, 0, none⟩)] wr fun e w' => e = .returned (.int .i64 E.length) ∧ SS w0 w' g n room E F H P Q := by
  have h' := h
  obtain ⟨_, _, S, _, _, _, hM, _⟩ := h'
  exact (Len_calls hM).mono fun e w' ⟨he, hw⟩ => ⟨he, by rw [hw]; exact h⟩
theorem SS.has (h : SS w0 wr g n room E F H P Q) {x : Ix} (hx : idr x) {b t : Nat} (hb : wr.heap[b]? = some (.cells #[.int .u8 x.1, .int .u64 x.2] t (0, 0))) : Calls Try.prog 12 #[.pointer (some ⟨g, 0, none⟩), .slice (some ⟨b, 0, none⟩) 1 1] wr fun e w' => e = .returned (.bool (hasE E x)) ∧ SS w0 w' g n room E F H P Q := by
  have h' := h
  obtain ⟨_, _, S, _, _, _, hM, _⟩ := h'
  exact (Has1_calls hM hx hb).mono fun e w' ⟨he, hw⟩ => ⟨he, h.step hw⟩
theorem SS.covers (h : SS w0 wr g n room E F H P Q) {A B : Option Addr} {c d : Nat} {a b : List Int} (ha : (A, c, a) ∈ P) (hb : (B, d, b) ∈ P) (hc : covv a b) (hl : b.length ≤ 100) : Calls Try.prog 19 #[.slice A a.length c, .slice B b.length d] wr fun e w' => e = .returned (.bool true) ∧ SS w0 w' g n room E F H P Q :=
  (unisonref04_Covers.calls 1000 A c a B d b true wr (h.C ha).2 (h.C ha).1 (h.C hb).2 (h.C hb).1 (covers_f hc (by omega) (by omega))).mono fun e w' ⟨he, hd⟩ => ⟨he, h.step hd.below⟩
/-- What an act leaves: more is held, floors are no lower. -/
structure Grew (F H F' H' : List Int) : Prop where
  f : covv F' F
  h : covv H' H
theorem SS.grew_put {v : Value} {z : Bool} {x : Ix} {p : List Int} (h : SS w0 wr g n room E F H P Q) (h' : SS w0 w1 g n room (putE z E x v p) F H' P' Q') : Grew F H F H' := by
  have h1 := h.lens
  have h2 := h'.lens
  refine ⟨covv.refl F, covv_of (by omega) fun i a b ha hb => ?_⟩
  obtain ⟨f, hf⟩ : ∃ f, F[i]? = some f := ⟨_, List.getElem?_eq_getElem (by have := (List.getElem?_eq_some_iff.1 hb).1; omega)⟩
  refine (h.tops i f b hf hb).rise (h'.tops i f a hf ha) (Int.le_refl _) fun s _ hs => ?_
  unfold putE
  split
  · rw [hasE_snoc, hs]; rfl
  · exact hs
theorem SS.grew_drop {M : List Int} (h : SS w0 wr g n room E F H P Q) (h' : SS w0 w1 g n room (E.filter (keepE (flo M F))) (flo M F) H' P' Q') : Grew F H (flo M F) H' := by
  have h1 := h.lens
  have h2 := h'.lens
  refine ⟨covv_of (by rw [flo_len]) fun i a b ha hb => ?_, covv_of (by omega) fun i a b ha hb => ?_⟩
  · rw [flo_at hb] at ha
    obtain rfl := Option.some.inj ha
    exact fl1_ge _ _
  · obtain ⟨f, hf⟩ : ∃ f, F[i]? = some f := ⟨_, List.getElem?_eq_getElem (by have := (List.getElem?_eq_some_iff.1 hb).1; omega)⟩
    exact (h.tops i f b hf hb).rise (h'.tops i _ a (flo_at hf) ha) (fl1_ge _ _) fun s h3 hs => by rw [keep_has (flo_at hf) h3]; exact hs
theorem SS.over (h : SS w0 wr g n room E F H P Q) : covv H F := by
  have h1 := h.lens
  exact covv_of (by omega) fun i a b ha hb => (h.tops i b a hb ha).le
end

end Go.Proofs.Ytpdglodfgikfkaa.Walk
