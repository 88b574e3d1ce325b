/- Look, Delete and Take. Conditions: none beyond the statement's own. -/
import Derived.Test.YtmkacejnnjppjaaWalkBag
import Derived.Test.YtmkacejnnjppjaaF1
import Derived.Test.YtmkacejnnjppjaaArgs
import Derived.Deep.QuietTactic
import Derived.BigQuiet
import Derived.Lib.QuietBelow
import Derived.Outline
import Derived.Deep.RegionHeld3
import Derived.Deep.CutRange
namespace Go.Proofs.Ytmkacejnnjppjaa.Walk
open Go.RowKit Go.Proofs.Ytmkacejnnjppjaa.F Go.Proofs.YtmkacejnnjppjaaW.PrintWords Go.Proofs.YtmkacejnnjppjaaW.PrintLast Go.Proofs.YtmkacejnnjppjaaW.PrintMore Go.Proofs.Ytmkacejnnjppjaa.Open
open Go.Sort (grow)
attribute [local go_sem] max2_int min2_int max_two min_two max_three min_three max_four min_four
set_option linter.unusedVariables false
set_option linter.unusedSimpArgs false

/-! ### Look, Delete, Take -/
set_option maxHeartbeats 1000000 in
theorem Look_calls {w : World} {S : Nat → Prop} {g n : Nat} {L : List Th} {lost : Int} (h : Bag w S g n L lost) (i : Int) : Calls Try.prog 13 #[.pointer (some ⟨g, 0, none⟩), .int .i64 i] w fun e w' => ∃ v, e = .returned (.tuple #[v, .bool (has L i)]) ∧ Kd.R (Kd.int .u8) 5 w' w.heap.size (fun _ => True) v (lk L i) ∧ Below w.heap.size w w' := by
  have TH := Aside0.mk (there_calls h i)
  obtain ⟨A, c, c0, c1, c2, _, hS⟩ := h.cell
  have hfr := h.ok.fr
  by_cases hi : 0 ≤ i ∧ i < L.length
  · have e1 : has L i = true := decide_eq_true hi
    have e2 : lk L i = (L.getD i.toNat zT).f0 := if_pos hi
    obtain ⟨ad, A0, d0, ea, k0, k1, l0, g0⟩ := at_T77 (Kd.S_reads' hS).2.2 i hi.1 hi.2
    cases ea
    have hx : rd_T77 L i ∈ L := by
      unfold rd_T77
      rw [List.getD_eq_getElem?_getD, List.getElem?_eq_getElem (by omega)]
      exact List.getElem_mem _
    rw [e1] at TH ⊢
    rw [e2]
    have hx' : (L.getD i.toNat zT) = rd_T77 L i := rfl
    rw [hx']
    have hl := hfr _ hx
    generalize rd_T77 L i = x at *
    have FX : Aside0 (slices_Clone_byte_byte.f x.f0 = some x.f0) := ⟨if_pos (by omega)⟩
    have G0 := Aside0.mk g0
    have L0 := Aside0.mk l0
    have p1 : (0 ≤ i) = True := eq_true hi.1
    have p2 : (i < (L.length : Int)) = True := eq_true hi.2
    clear hS hx' hx hl hfr g0 l0 h e1 e2 hi
    go_enter Try.func13, Try.ntmps13
    go_wp2_with fail
    refine (TH.out).mono ?_
    rintro e w1 ⟨rfl, rfl⟩
    go_wp2_with fail
    refine (slices_Clone_byte_byte.calls A0 d0 x.f0 x.f0 _ G0.out L0.out FX.out).mono ?_
    rintro e w2 ⟨v, rfl, ho, hb⟩
    go_wp2_with fail
    go_ret2
    exact ⟨_, rfl, ho, hb⟩
  · have e1 : has L i = false := decide_eq_false hi
    have e2 : lk L i = [] := if_neg hi
    rw [e1] at TH ⊢
    rw [e2]
    clear hS hfr h e1 e2 hi
    go_enter Try.func13, Try.ntmps13
    go_wp2_with fail
    refine (TH.out).mono ?_
    rintro e w1 ⟨rfl, rfl⟩
    go_wp2_with fail
    go_ret2
    exact ⟨_, rfl, Kd.R_nil _ _ _ _ _, Below.refl _ _⟩
set_option maxHeartbeats 1000000 in
theorem Look_nil (i : Int) (w : World) : Calls Try.prog 13 #[.pointer none, .int .i64 i] w fun e w' => e = .returned (.tuple #[.slice none 0 0, .bool false]) ∧ w' = w := by
  go_enter Try.func13, Try.ntmps13
  go_wp2_with fail
  refine (there_nil i _).mono ?_
  rintro e w1 ⟨rfl, rfl⟩
  go_wp2_with fail
  go_ret2
  exact ⟨rfl, rfl⟩
theorem S_beyond {α : Type} {d : Kd α} {e : TypeId} {w : World} {base : Nat} {ok : Nat → Prop} {g n cap : Nat} {xs : List α} (h : Kd.S d e w base ok (.slice (some ⟨g, 0, none⟩) n cap) xs) (off : Nat) (seg : List Value) (h1 : n * d.sz ≤ off) (h2 : off + seg.length ≤ cap * d.sz) :
    Kd.S d e (w.setCells g off seg) base ok (.slice (some ⟨g, 0, none⟩) n cap) xs ∧ w.grownBy (w.setCells g off seg) (some g) ∧ (∀ j, j < seg.length → (w.cell? ⟨g, off + j, none⟩).isSome = true) ∧ (∀ j, w.frozen? ⟨g, off + j, none⟩ = false) := by
  obtain ⟨s1, s2, s3, s4⟩ := setCells_same g seg off w
  have hg : w.grownBy (w.setCells g off seg) (some g) := ⟨s1, s2, s3, by rw [s4]; exact Nat.le_refl _, fun k _ hk => setCells_far seg _ k (fun he => hk (by rw [he]))⟩
  obtain ⟨f, hok, inner, ho, hr⟩ := h
  rcases ho.2 with ⟨hv, _⟩ | ⟨g', cap', cur, hv, hb, hh, hnc, hcm, hcs, hti⟩
  · cases hv
  simp only [Value.slice.injEq, Option.some.injEq, Addr.mk.injEq, and_true] at hv
  obtain ⟨rfl, hn, rfl⟩ := hv
  obtain ⟨cur', q1, q2, q3⟩ := setCells_row seg off w cur hh (by rw [hcs]; exact h2)
  refine ⟨?_, hg, fun j hj => ?_, fun j => blk_frozen hh _⟩
  rotate_left
  · rw [blk_cell hh, Array.getElem?_eq_getElem (by rw [hcs]; show off + j < cap * d.sz; omega)]
    rfl
  refine ⟨f, hok, inner, ⟨ho.1, .inr ⟨g, cap, cur', by rw [hn], hb, q1, hnc, hcm, q2.trans hcs, ?_⟩⟩, hr.1, fun j p hj => (Kd.tag f d).M_move (fun k hk => ?_) (hr.2 j p hj)⟩
  · have hsz : (Kd.tag f d).sz = d.sz := rfl
    rw [q3, ← hti, ← hn, hsz, List.append_assoc, List.take_append_of_le_length (by rw [List.length_take, Array.length_toList, hcs, hsz]; omega), List.take_take, Nat.min_eq_left h1]
  · exact setCells_far seg _ k (fun he => hk.2 (by rw [he]; simp [Value.ownBlock]))
theorem info2 : (Try.prog.info? 77).map (·.size) = some 2 := by
  have h := congrArg (Option.map (·.2.1)) infoT
  rw [Option.map_map] at h
  exact h
theorem clear_one (ty : TypeId) (W : World) (b o c : Nat) (hc : ∀ j, j < 2 → (W.cell? ⟨b, o + j, none⟩).isSome = true) (hf : ∀ j, j < 2 → W.frozen? ⟨b, o + j, none⟩ = false) :
    (Builtin.clear_ #[71] ty #[.slice (some ⟨b, o, none⟩) 1 c]).run Try.prog W = .ok (.tuple #[]) (W.setCells b o [.slice none 0 0, .bool false]) := by
  have hzc : (Builtin.zeroCells (Value.agg #[.slice none 0 0, .bool false]).cells 1).toList = [.slice none 0 0, .bool false] := by first | kernel_rfl | simp [Builtin.zeroCells, Value.cells]
  have hst := run_storeCells_cells (P := Try.prog) b o [.slice none 0 0, .bool false] 0 W (by simpa using hc) (by simpa using hf) (by intro v hv; simp at hv; rcases hv with rfl | rfl <;> rfl)
  simp only [Nat.add_zero] at hst
  simp [Builtin.clear_, run_underlying Try.underlying71, zeroT, hzc, hst]
set_option maxHeartbeats 2000000 in
theorem Delete_calls {w : World} {ok : Nat → Prop} {rg n m c : Nat} {L : List Th} (hS : Kd.S kT eT w 0 ok (.slice (some ⟨rg, 0, none⟩) m c) L) (hm : m = n + 1) (hl : L.length ≤ 5000) (i j : Nat) (hj : j = i + 1) (hi : i < m) :
    Calls Try.prog 28 #[.slice (some ⟨rg, 0, none⟩) m c, .int .i64 i, .int .i64 j] w fun e w' => e = .returned (.slice (some ⟨rg, 0, none⟩) n c) ∧ Kd.S kT eT w' 0 ok (.slice (some ⟨rg, 0, none⟩) n c) (L.eraseIdx i) ∧ w.grownBy w' (some rg) := by
  obtain ⟨hn, hnc, _⟩ := Kd.S_reads' hS
  have HS := Aside0.mk hS
  have HM := Aside0.mk hm
  have HJ := Aside0.mk hj
  have HN := Aside0.mk hn
  have hij : ¬ i = j := by omega
  have hlt : i < j := by omega
  have hic : i ≤ c := by omega
  have hjn : j ≤ m := by omega
  have hjc : j ≤ c := by omega
  have hnb : m ≤ 5000 := by omega
  have i0 : (0 : Int) ≤ (i : Int) := by omega
  have i1 : (i : Int) ≤ (j : Int) := by omega
  have i2 : (j : Int) ≤ (m : Int) := by omega
  have i3 : (j : Int) ≤ (c : Int) := by omega
  have i4 : (i : Int) ≤ (c : Int) := by omega
  have i5 : (m : Int) ≤ (c : Int) := by omega
  have i6 : ((i : Int) == (j : Int)) = false := beq_eq_false_iff_ne.2 (by omega)
  have i7 : (i : Int) ≤ (m : Int) := by omega
  clear hS hm hj hn hnc
  by_cases hcj : c = j
  · subst hcj
    go_enter Try.func28, Try.ntmps28
    go_wp2_with fail
    go_region_held3 (fun _ => True) (trivial) ((refine Kd.S_delete_step kT 0 (w0 := w) (by rfl) (.tmp 22) (.tmp 25) 71 eT rfl Try.underlying71 info2 (ok := ok) (xs := L) (k := i) (n := m) rfl rfl (by first | exact (if_pos HJ.out).symm | (rw [if_neg (by have := HJ.out; omega), ← HJ.out, Option.map_some, Addr.add_lit, Nat.zero_add]; rfl)) (by have := HJ.out; omega) (by first | exact HS.out | exact Kd.S_drew HS.out) hi (by first | exact Below.refl _ _ | exact below_drew (Below.refl _ _)) (Nat.zero_le _) ?_; intro w1 hs hb hg))
    have hmn : m - 1 = n := by have := HM.out; omega
    rw [hmn] at hs
    simp only [hmn]
    obtain ⟨s2, g2, y2, z2⟩ := S_beyond hs (n * 2) [.slice none 0 0, .bool false] (Nat.le_refl _) (by have := HM.out; show n * 2 + 2 ≤ c * 2; omega)
    have n1 : (0 : Int) ≤ (n : Int) := by omega
    have n2 : (n : Int) ≤ (m : Int) := by omega
    have n3 : (n : Int) ≤ (c : Int) := by omega
    have hcn : ¬ c = n := by omega
    have hmn2 : m - n = 1 := by have := HM.out; omega
    have hcl : ∀ ty, (Builtin.clear_ #[71] ty #[.slice (some ⟨rg, n * 2, none⟩) 1 (c - n)]).run Try.prog w1 = .ok (.tuple #[]) (w1.setCells rg (n * 2) [.slice none 0 0, .bool false]) := fun ty => clear_one ty w1 rg (n * 2) (c - n) y2 (fun j _ => z2 j)
    have S2 := Aside0.mk s2
    have G2 : Aside0 (w.grownBy (w1.setCells rg (n * 2) [.slice none 0 0, .bool false]) (some rg)) := ⟨(show w.grownBy w.drew (some rg) from ⟨rfl, rfl, rfl, Nat.le_refl _, fun _ _ _ => rfl⟩).trans (hg.trans g2)⟩
    clear hs hg s2 g2 y2 z2
    generalize w1.setCells rg (n * 2) [.slice none 0 0, .bool false] = w2 at *
    go_wp2
    go_ret
    exact ⟨rfl, S2.out, G2.out⟩
  · have hcj2 : ¬ (c : Int) = (j : Int) := by omega
    have hcj3 : ¬ j = c := by omega
    have hcj4 : j < c := by omega
    have hcj5 : (j : Int) < (c : Int) := by omega
    have hcj6 : ¬ c ≤ j := by omega
    have hcj7 : ¬ c - j = 0 := by omega
    go_enter Try.func28, Try.ntmps28
    go_wp2_with fail
    go_region_held3 (fun _ => True) (trivial) ((refine Kd.S_delete_step kT 0 (w0 := w) (by rfl) (.tmp 22) (.tmp 25) 71 eT rfl Try.underlying71 info2 (ok := ok) (xs := L) (k := i) (n := m) rfl rfl (by first | exact (if_pos HJ.out).symm | (rw [if_neg (by have := HJ.out; omega), ← HJ.out, Option.map_some, Addr.add_lit, Nat.zero_add]; rfl)) (by have := HJ.out; omega) (by first | exact HS.out | exact Kd.S_drew HS.out) hi (by first | exact Below.refl _ _ | exact below_drew (Below.refl _ _)) (Nat.zero_le _) ?_; intro w1 hs hb hg))
    have hmn : m - 1 = n := by have := HM.out; omega
    rw [hmn] at hs
    simp only [hmn]
    obtain ⟨s2, g2, y2, z2⟩ := S_beyond hs (n * 2) [.slice none 0 0, .bool false] (Nat.le_refl _) (by have := HM.out; show n * 2 + 2 ≤ c * 2; omega)
    have n1 : (0 : Int) ≤ (n : Int) := by omega
    have n2 : (n : Int) ≤ (m : Int) := by omega
    have n3 : (n : Int) ≤ (c : Int) := by omega
    have hcn : ¬ c = n := by omega
    have hmn2 : m - n = 1 := by have := HM.out; omega
    have hcl : ∀ ty, (Builtin.clear_ #[71] ty #[.slice (some ⟨rg, n * 2, none⟩) 1 (c - n)]).run Try.prog w1 = .ok (.tuple #[]) (w1.setCells rg (n * 2) [.slice none 0 0, .bool false]) := fun ty => clear_one ty w1 rg (n * 2) (c - n) y2 (fun j _ => z2 j)
    have S2 := Aside0.mk s2
    have G2 : Aside0 (w.grownBy (w1.setCells rg (n * 2) [.slice none 0 0, .bool false]) (some rg)) := ⟨(show w.grownBy w.drew (some rg) from ⟨rfl, rfl, rfl, Nat.le_refl _, fun _ _ _ => rfl⟩).trans (hg.trans g2)⟩
    clear hs hg s2 g2 y2 z2
    generalize w1.setCells rg (n * 2) [.slice none 0 0, .bool false] = w2 at *
    go_wp2
    go_ret
    exact ⟨rfl, S2.out, G2.out⟩
/-! ### Take -/
def rest (L : List Th) (i : Int) : List Th := if 0 ≤ i ∧ i < L.length then L.eraseIdx i.toNat else L
theorem mem_erase {α : Type} {L : List α} {i : Nat} {x : α} (h : x ∈ L.eraseIdx i) : x ∈ L := (List.eraseIdx_sublist L i).subset h
theorem bok.erase {n : Nat} {L : List Th} {lost : Int} (h : bok n L lost) (i : Nat) : bok n (L.eraseIdx i) lost :=
  ⟨h.n1, h.n2, Nat.le_trans (List.length_eraseIdx_le L i) h.fit, h.l0, h.l1, fun x hx => h.fr x (mem_erase hx)⟩
set_option maxHeartbeats 2000000 in
theorem Take_calls {w : World} {S : Nat → Prop} {g n : Nat} {L : List Th} {lost : Int} (h : Bag w S g n L lost) (i : Int) : Calls Try.prog 16 #[.pointer (some ⟨g, 0, none⟩), .int .i64 i] w fun e w' => ∃ v, e = .returned (.tuple #[v, .bool (has L i)]) ∧ Kd.R (Kd.int .u8) 5 w' w.heap.size (fun _ => True) v (lk L i) ∧ Bag w' (fun k => S k ∧ k < w.heap.size) g n (rest L i) lost ∧ Beside S w w' := by
  have LK := Aside0.mk (Look_calls h i)
  have H := Aside0.mk h.bound
  have H0 := Aside0.mk h
  obtain ⟨A, c, c0, c1, c2, hB, hS⟩ := h.bound.cell
  have hok := h.ok
  by_cases hi : 0 ≤ i ∧ i < L.length
  · have e1 : has L i = true := decide_eq_true hi
    have e3 : rest L i = L.eraseIdx i.toNat := if_pos hi
    rw [e1] at LK ⊢
    rw [e3]
    obtain ⟨rg, cap, hv, hrb, hrl, _⟩ := Kd.S_form hS (by omega)
    injection hv with h1 _ h3
    subst h1
    subst h3
    obtain ⟨k, rfl⟩ : ∃ k : Nat, i = (k : Int) := ⟨i.toNat, by omega⟩
    rw [Int.toNat_natCast]
    have hrg : rg ≠ g := ((Kd.S_R hS).1 rg (by simp [Value.ownBlock])).2
    have hrS : S rg := ((Kd.S_R hS).1 rg (by simp [Value.ownBlock])).1.1
    obtain ⟨m, hm⟩ : ∃ m, L.length = m + 1 := ⟨L.length - 1, by omega⟩
    have hkl : k < L.length := by omega
    have hwj : wrap64 ((k : Int) + 1) = ((k + 1 : Nat) : Int) := by rw [w64 (by omega) (by have := hok.fit; have := hok.n2; omega)]; simp
    have HS := Aside0.mk hS
    have HB := Aside0.mk hB
    have HOK := Aside0.mk hok
    have HM := Aside0.mk hm
    have KL := Aside0.mk hkl
    have RG := Aside0.mk (And.intro hrg hrS)
    have SG := Aside0.mk h.S_g
    clear c0 c1 c2 hS hB hok e1 e3 hi hm hkl hrg hrS hrb hrl h
    go_enter Try.func16, Try.ntmps16
    go_wp2_with fail
    refine (LK.out).mono ?_
    rintro e w1 ⟨v, rfl, ho, hb⟩
    obtain ⟨A0, c0, rfl⟩ := Kd.R_slice ho
    have R1 := Aside0.mk ho
    have B1 := Aside0.mk hb
    have c1 : w1.cell? ⟨g, 1, none⟩ = some (.slice (some ⟨rg, 0, none⟩) L.length c) := (blk_cell (blk_below HB.out hb) 1).trans rfl
    have z1 := blk_frozen (blk_below HB.out hb) 1
    have S1 := Aside0.mk (Kd.S_below HS.out hb)
    have LN := Aside0.mk (show (L.length : Nat) ≤ 5000 by have := HOK.out.fit; have := HOK.out.n2; omega)
    clear ho hb LK
    go_wp2_with fail
    refine (Delete_calls (m := L.length) (n := m) S1.out HM.out LN.out k (k + 1) rfl KL.out).mono ?_
    rintro e w2 ⟨rfl, hs, hg⟩
    have S2 := Aside0.mk hs
    have G2 := Aside0.mk hg
    have b2 : w2.heap[g]? = some (.cells #[.int .i64 n, .slice (some ⟨rg, 0, none⟩) L.length c, .int .i64 lost] tB (0, 0)) := blk_grown (blk_below HB.out B1.out) hg (fun he => RG.out.1 (Option.some.inj he).symm)
    have y1 := blk_frozen b2 1
    have d1 : w2.cell? ⟨g, 1, none⟩ = some (.slice (some ⟨rg, 0, none⟩) L.length c) := (blk_cell b2 1).trans rfl
    have BB2 := Aside0.mk b2
    clear hs hg b2 c1 z1
    go_wp2_with fail
    go_ret2
    have hLe : (L.eraseIdx k).length = m := by rw [List.length_eraseIdx_of_lt KL.out, HM.out]; rfl
    refine ⟨_, rfl, ?_, ⟨HOK.out.erase k, ⟨SG.out, blk_lt HB.out⟩, _, blk_put BB2.out 1 _ rfl, ?_⟩, ?_⟩
    · have h1 : Kd.R (Kd.int .u8) 5 w1 w.heap.size (fun k => w.heap.size ≤ k) (.slice A0 (lk L k).length c0) (lk L k) := Kd.R_mono (Kd.R_bound R1.out) (fun k hk => hk.2.1)
      have hrl : rg < w.heap.size := Kd.S_lt HS.out rg (by simp [Value.ownBlock])
      have hgl := blk_lt HB.out
      have h2 := Kd.R_grown h1 G2.out (fun k hk he => by have h9 := Option.some.inj he; omega)
      exact Kd.R_mono (Kd.R_far (p := ⟨g, 1, none⟩) h2 (fun k hk => by have h9 : w.heap.size ≤ k := hk; show k ≠ g; omega) _) (fun _ _ => trivial)
    · exact Kd.S_far S2.out (fun k hk => hk.2) _
    · exact (((Beside.of_below S B1.out).trans ⟨G2.out.os, G2.out.tape, G2.out.output, G2.out.size, fun b hb hn => G2.out.block b hb (fun he => hn (by rw [Option.some.inj he]; exact RG.out.2))⟩).setCell (p := ⟨g, 1, none⟩) SG.out _)
  · have e1 : has L i = false := decide_eq_false hi
    have e3 : rest L i = L := if_neg hi
    rw [e1] at LK ⊢
    rw [e3]
    clear c0 c1 c2 hS hB hok e1 e3 hi h
    go_enter Try.func16, Try.ntmps16
    go_wp2_with fail
    refine (LK.out).mono ?_
    rintro e w1 ⟨v, rfl, ho, hb⟩
    obtain ⟨A0, c0, rfl⟩ := Kd.R_slice ho
    have R1 := Aside0.mk ho
    have B1 := Aside0.mk hb
    clear ho hb LK
    go_wp2_with fail
    go_ret2
    exact ⟨_, rfl, R1.out, H.out.below B1.out, Beside.of_below S B1.out⟩
theorem Take_nil (i : Int) (w : World) : Calls Try.prog 16 #[.pointer none, .int .i64 i] w fun e w' => e = .returned (.tuple #[.slice none 0 0, .bool false]) ∧ w' = w := by
  go_enter Try.func16, Try.ntmps16
  go_wp2_with fail
  refine (Look_nil i _).mono ?_
  rintro e w1 ⟨rfl, rfl⟩
  go_wp2_with fail
  go_ret2
  exact ⟨rfl, rfl⟩

end Go.Proofs.Ytmkacejnnjppjaa.Walk
