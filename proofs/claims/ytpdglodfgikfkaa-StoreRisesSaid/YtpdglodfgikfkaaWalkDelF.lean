/- maps.DeleteFunc at a store's payloads. Conditions: none beyond the statement's own. -/
import Derived.Test.YtpdglodfgikfkaaWalkDel
import Derived.Test.YtpdglodfgikfkaaArgs
import Derived.Deep.QuietTactic
import Derived.BigQuiet
import Derived.Lib.QuietBelow
import Derived.Outline
import Derived.Deep.RegionHeld3
import Derived.Deep.CutRange
namespace Go.Proofs.Ytpdglodfgikfkaa.Walk
open Go.RowKit Go.Proofs.Ytpdglodfgikfkaa.F Go.Proofs.YtpdglodfgikfkaaW.PrintWords Go.Proofs.YtpdglodfgikfkaaW.PrintLast Go.Proofs.YtpdglodfgikfkaaW.PrintMore Go.Proofs.Ytpdglodfgikfkaa.Open
open Go.Sort (grow)
attribute [local go_sem] max2_int min2_int max_two min_two max_three min_three max_four min_four
set_option linter.unusedVariables false
set_option linter.unusedSimpArgs false

/-! ### maps.DeleteFunc at a store's payloads -/
theorem entersF {P : Program} {f : FuncId} {fn : Func} {c : Code} (hf : P.funcs[f]? = some fn) (hname : (fn.name == "runtime.NumGoroutine") = false) (hb : fn.body = some c) : ∀ args w, (callFunc f args).run P w = .ok (.enter f args) w := by
  intro args w
  have h1 : fn.name ≠ "runtime.NumGoroutine" := by simpa using hname
  simp [callFunc, hf, h1, hb, mark]
def keepE (F : List Int) (e : Ix × Pay) : Bool := decide (F.getD e.1.1.toNat 0 < e.1.2)
theorem usedE_cons (e : Ix × Pay) (E : Es) : usedE (e :: E) = e.2.x.length + usedE E := by simp [usedE]
theorem usedE_out {p : Ix × Pay} : ∀ {E : Es}, (E.map (·.1)).Nodup → p ∈ E → usedE E = usedE (E.filter fun q => decide (q.1 ≠ p.1)) + p.2.x.length
  | [], _, hm => by cases hm
  | e :: E, hn, hm => by
    obtain ⟨n1, n2⟩ := List.nodup_cons.1 hn
    rcases List.mem_cons.1 hm with rfl | hm
    · rw [List.filter_cons, if_neg (by simp), List.filter_eq_self.2 (fun q hq => by
        have : q.1 ≠ p.1 := fun e9 => n1 (List.mem_map.2 ⟨q, hq, e9⟩)
        simpa using this), usedE_cons]
      omega
    · have hne : e.1 ≠ p.1 := fun e9 => n1 (List.mem_map.2 ⟨p, hm, e9.symm⟩)
      rw [List.filter_cons, if_pos (by simpa using hne), usedE_cons, usedE_cons, usedE_out n2 hm]
      omega
theorem filter_out {α β : Type} [DecidableEq β] (k : α → β) (f : α → Bool) (x : β) {l : List α} (h : ∀ q ∈ l, k q = x → f q = false) : (l.filter fun q => decide (k q ≠ x)).filter f = l.filter f := by
  rw [List.filter_filter]
  refine List.filter_congr fun q hq => ?_
  by_cases e : k q = x
  · rw [h q hq e]
    rfl
  · simp [e]
structure DS (w wr : World) (S : Nat → Prop) (g mb fb hb n : Nat) (room : Int) (E : Es) (F H : List Int) (r : Nat) (W L : Es) : Prop where
  st : St wr S g mb fb hb n room W F H
  rng : MapR Try.prog tID fkD fvP wr mb r W L
  nd : (L.map (·.1)).Nodup
  sub : ∀ p ∈ L, p ∈ W
  fin : ∀ p ∈ W, p ∈ L ∨ keepE F p = true
  flt : W.filter (keepE F) = E.filter (keepE F)
  up : w.heap.size ≤ r
  bd : ∀ k, S k → k < w.heap.size
  bes : Beside S w wr
structure DP (w wr : World) (S : Nat → Prop) (g mb fb hb n : Nat) (room : Int) (E : Es) (F H : List Int) (r : Nat) (W L : Es) (p : Ix × Pay) : Prop where
  st : St wr S g mb fb hb n room W F H
  rng : MapR Try.prog tID fkD fvP wr mb r W L
  nd : (L.map (·.1)).Nodup
  sub : ∀ p ∈ L, p ∈ W
  pin : p ∈ W
  pn : ∀ q ∈ L, q.1 ≠ p.1
  fin : ∀ q ∈ W, q ∈ L ∨ q = p ∨ keepE F q = true
  flt : W.filter (keepE F) = E.filter (keepE F)
  up : w.heap.size ≤ r
  bd : ∀ k, S k → k < w.heap.size
  bes : Beside S w wr
section
variable {w wr w1 : World} {S : Nat → Prop} {g mb fb hb n r : Nat} {room : Int} {E W L : Es} {F H : List Int} {p : Ix × Pay}
theorem DS.next (h : DS w wr S g mb fb hb n room E F H r W L) : (L = [] ∧ W = E.filter (keepE F) ∧ ∀ ty, (Instr.next (.pointer (some ⟨r, 0, none⟩)) false ty).run Try.prog wr = .ok (.tuple #[.bool false]) wr) ∨
    ∃ l1 q s A c xs l2 w', L = l1 ++ ((((q : Nat) : Int), s), (⟨.slice A (xs : List Int).length c, xs⟩ : Pay)) :: l2 ∧ q < n ∧ 0 ≤ s ∧ s ≤ 18446744073709551615 ∧ (∀ ty, (Instr.next (.pointer (some ⟨r, 0, none⟩)) false ty).run Try.prog wr = .ok (.tuple #[.bool true, .agg #[.int .u8 (q : Int), .int .u64 s], .slice A xs.length c]) w') ∧
      (Instr.entry (.pointer (some ⟨r, 0, none⟩))).run Try.prog w' = .ok (.tuple #[.agg #[.int .u8 (q : Int), .int .u64 s], .slice A xs.length c]) w' ∧ DP w w' S g mb fb hb n room E F H r W (l1 ++ l2) (((q : Int), s), (⟨.slice A xs.length c, xs⟩ : Pay)) := by
  rcases h.rng.next with ⟨h1, h2⟩ | ⟨l1, p, l2, w', h1, h2, h3, h4, h5, h6⟩
  · refine .inl ⟨h1, ?_, h2⟩
    rw [← h.flt]
    exact (List.filter_eq_self.2 fun p hp => by
      rcases h.fin p hp with h3 | h3
      · rw [h1] at h3; cases h3
      · exact h3).symm
  · refine .inr ?_
    have hpL : p ∈ L := by rw [h1]; simp
    have hpW := h.sub p hpL
    have hk := h.st.ks p hpW
    obtain ⟨A, c, hv⟩ := Kd.R_slice (h.st.pays p hpW)
    obtain ⟨⟨q0, s⟩, ⟨v, xs⟩⟩ := p
    dsimp only at hv
    subst hv
    obtain ⟨q, rfl⟩ : ∃ q : Nat, q0 = q := ⟨q0.toNat, by have : 0 ≤ q0 := hk.a.1; omega⟩
    have hq : q < n := by have : (q : Int) < n := hk.a.2; omega
    have hs : 1 ≤ s ∧ s ≤ 4611686018427387904 := hk.b
    have hnd := h.nd
    rw [h1, List.map_append, List.map_cons] at hnd
    obtain ⟨n1, n2, n3⟩ := List.nodup_append.1 hnd
    obtain ⟨n4, n5⟩ := List.nodup_cons.1 n2
    refine ⟨l1, q, s, A, c, xs, l2, w', h1, hq, by omega, by omega, h2, h6, ⟨h.st.step (fun k hk hlt => h4.block k hlt (fun e => by have := h.bd k hk; have := h.up; omega)), h3, ?_, fun p hp => h.sub p ?_, hpW, fun p hp e => ?_, fun p hp => ?_, h.flt, h.up, h.bd, ⟨h4.os.trans h.bes.os, h4.tape.trans h.bes.tape, h4.output.trans h.bes.output, Nat.le_trans h.bes.size h4.size, fun k hk hn => (h4.block k (Nat.lt_of_lt_of_le hk h.bes.size) (fun e => by have := h.up; omega)).trans (h.bes.block k hk hn)⟩⟩⟩
    · rw [List.map_append, List.nodup_append]
      exact ⟨n1, n5, fun a ha b hb => n3 a ha b (List.mem_cons_of_mem _ hb)⟩
    · rw [h1]
      rcases List.mem_append.1 hp with hp | hp
      · exact List.mem_append.2 (.inl hp)
      · exact List.mem_append.2 (.inr (List.mem_cons_of_mem _ hp))
    · rcases List.mem_append.1 hp with hp | hp
      · exact n3 p.1 (List.mem_map.2 ⟨p, hp, rfl⟩) _ List.mem_cons_self e
      · exact n4 (by rw [← e]; exact List.mem_map.2 ⟨p, hp, rfl⟩)
    · rcases h.fin p hp with h7 | h7
      · rw [h1] at h7
        rcases List.mem_append.1 h7 with h7 | h7
        · exact .inl (List.mem_append.2 (.inl h7))
        · rcases List.mem_cons.1 h7 with h7 | h7
          · exact .inr (.inl h7)
          · exact .inl (List.mem_append.2 (.inr h7))
      · exact .inr (.inr h7)
theorem DP.step (h : DP w wr S g mb fb hb n room E F H r W L p) (hb' : Below wr.heap.size wr w1) : DP w w1 S g mb fb hb n room E F H r W L p :=
  ⟨h.st.below hb', h.rng.below hb', h.nd, h.sub, h.pin, h.pn, h.fin, h.flt, h.up, h.bd, h.bes.then_below hb'⟩
theorem DP.keep (h : DP w wr S g mb fb hb n room E F H r W L p) (hk : keepE F p = true) (hB : Beside (fun k => k = g) wr w1) (hg : w1.heap[g]? = wr.heap[g]?) : DS w w1 S g mb fb hb n room E F H r W L := by
  have hr : r ≠ g := fun e => by have := h.bd g h.st.S_g; have := h.up; omega
  refine ⟨h.st.step fun k _ hlt => ?_, h.rng.beside hB (fun e => h.st.ne.1 e.symm) hr, h.nd, h.sub, fun q hq => ?_, h.flt, h.up, h.bd, h.bes.then_ hB (fun k hk => .inl (by rw [hk]; exact h.st.S_g))⟩
  · by_cases e : k = g
    · rw [e]; exact hg
    · exact hB.block k hlt e
  · rcases h.fin q hq with h1 | h1 | h1
    · exact .inl h1
    · exact .inr (by rw [h1]; exact hk)
    · exact .inr h1
theorem DP.goes (h : DP w wr S g mb fb hb n room E F H r W L p) (hid : idr p.1) (hk : keepE F p = false) (hB : Beside (fun k => k = g) wr w1) (hg : w1.heap[g]? = some (.cells #[.int .i64 room, .int .i64 ((usedE W : Int) - (p.2.x.length : Int)), .map (some mb), .slice (some ⟨fb, 0, none⟩) n n, .slice (some ⟨hb, 0, none⟩) n n] tSt (0, 0))) (ty : TypeId) :
    ∃ w5, (Builtin.delete_ #[tPM, tID] ty #[.map (some mb), fkD p.1]).run Try.prog w1 = .ok (.tuple #[]) w5 ∧ DS w w5 S g mb fb hb n room E F H r (W.filter fun q => decide (q.1 ≠ p.1)) L := by
  have hr : r ≠ g := fun e => by have := h.bd g h.st.S_g; have := h.up; omega
  obtain ⟨m1, m2, m3, m4, m5, m6⟩ := h.st.ne
  obtain ⟨l, hl⟩ := id_key hid
  have R1 := h.rng.beside hB (fun e => m1 e.symm) hr
  obtain ⟨w5, hrun, hM, hB5, _⟩ := R1.drop lawID fkD_inj Try.underlying54 (x := p.1) hl h.pn ty
  have hu := usedE_out h.st.map.nodup h.pin
  have hus := h.st.us
  have step2 : ∀ k, k < wr.heap.size → k ≠ g → k ≠ mb → w5.heap[k]? = wr.heap[k]? := fun k hk h1 h2 => (hB5.block k (Nat.lt_of_lt_of_le hk hB.size) h2).trans (hB.block k hk h1)
  refine ⟨w5, hrun, ⟨h.st.S_g, h.st.S_m, h.st.S_f, h.st.S_h, h.st.ne, h.st.n1, h.st.n2, h.st.r0, by omega, h.st.lf, h.st.lh, h.st.uf, h.st.uh, fun e he => h.st.ks e (List.mem_filter.1 he).1, ?_, (step2 fb (blk_lt h.st.fblk) (fun e => m2 e.symm) (fun e => m4 e.symm)).trans h.st.fblk, (step2 hb (blk_lt h.st.hblk) (fun e => m3 e.symm) (fun e => m5 e.symm)).trans h.st.hblk, hM.map, fun e he => Kd.R_step (h.st.pays e (List.mem_filter.1 he).1) fun k hk hlt => step2 k hlt hk.2.1 hk.2.2.1⟩, hM, h.nd, fun q hq => List.mem_filter.2 ⟨h.sub q hq, by simpa using h.pn q hq⟩, fun q hq => ?_, ?_, h.up, h.bd, (h.bes.then_ hB (fun k hk => .inl (by rw [hk]; exact h.st.S_g))).then_ hB5 (fun k hk => .inl (by rw [hk]; exact h.st.S_m))⟩
  · rw [hB5.block g (blk_lt hg) m1, hg, show ((usedE W : Int) - (p.2.x.length : Int)) = (usedE (W.filter fun q => decide (q.1 ≠ p.1)) : Int) by omega]
  · obtain ⟨h1, h2⟩ := List.mem_filter.1 hq
    rcases h.fin q h1 with h3 | h3 | h3
    · exact .inl h3
    · rw [h3] at h2; simp at h2
    · exact .inr h3
  · rw [filter_out (fun q : Ix × Pay => q.1) (keepE F) p.1 (fun q _ e => ?_), h.flt]
    rw [← hk]
    unfold keepE
    rw [e]
theorem St.rng (h : St w S g mb fb hb n room E F H) (hS : ∀ k, S k → k < w.heap.size) : ∃ w', (Instr.range tPM (.map (some mb))).run Try.prog w = .ok (.pointer (some ⟨w.heap.size, 0, none⟩)) w' ∧ DS w w' S g mb fb hb n room E F H w.heap.size E E := by
  obtain ⟨w', h1, h2, h3, _⟩ := h.map.range Try.underlying54
  exact ⟨w', h1, h.below h3, h2, h.map.nodup, fun p hp => hp, fun p hp => .inl hp, rfl, Nat.le_refl _, hS, Beside.of_below S h3⟩
set_option maxHeartbeats 4000000 in
theorem DelF_calls {b0 t : Nat} (h : St w S g mb fb hb n room E F H) (hS : ∀ k, S k → k < w.heap.size) (hb0 : w.heap[b0]? = some (.cells #[.pointer (some ⟨g, 0, none⟩)] t (0, 0))) (hn0 : ¬ S b0) :
    Calls Try.prog 33 #[.map (some mb), .func (.func 34) #[] #[.pointer (some ⟨b0, 0, none⟩)]] w fun e w' => e = .returned (.tuple #[]) ∧ St w' S g mb fb hb n room (E.filter (keepE F)) F H ∧ Beside S w w' := by
  have eg : ∀ args w, (callFunc 34 args).run Try.prog w = .ok (.enter 34 args) w := entersF Try.func34 (by kernel_rfl) rfl
  have hu := Try.underlying29
  obtain ⟨w1, hrg, h1⟩ := h.rng hS
  have D1 := Aside0.mk h1
  have BK := Aside0.mk hb0
  have N0 := Aside0.mk hn0
  have hn64 := h.n2
  have hr0 := h.r0
  clear h1 h hS hb0 hn0
  go_enter Try.func33, Try.ntmps33
  go_wp2_with fail
  generalize w.heap.size = r at D1 ⊢
  clear hrg
  go_loopg [] E.length (fun gg wr => ∃ W L, L.length ≤ gg ∧ Aside0 (DS w wr S g mb fb hb n room E F H r W L))
  case atStart => exact ⟨E, E, Nat.le_refl _, D1⟩
  case round =>
    clear D1
    obtain ⟨W, L, hgg, DR⟩ := hrel
    rcases DR.out.next with ⟨rfl, hW, hnx⟩ | ⟨l1, q, s, A, c, xs, l2, w3, rfl, hq, hs0, hs1, hnx, hen, h3⟩
    · have SE := Aside0.mk DR.out.st
      have BE := Aside0.mk DR.out.bes
      rw [hW] at SE
      clear hW DR
      go_wp2_with fail
      go_end0
      exact ⟨rfl, SE.out, BE.out⟩
    · have P3 := Aside0.mk h3
      have hL2 : (l1 ++ l2).length + 1 ≤ gk := by simp at hgg ⊢; omega
      clear h3 DR hgg
      generalize l1 ++ l2 = LL at P3 hL2
      go_upto_region 3 with (fail)
      have X4 := Aside0.mk (blk_new w3 (.cells #[.int .u8 (q : Int), .int .u64 s] tID))
      have P4 := Aside0.mk (P3.out.step (below_alloc (Below.refl _ _) (.cells #[.int .u8 (q : Int), .int .u64 s] tID)))
      have hkg : w3.heap.size ≠ g := by have := blk_lt P3.out.st.blk; omega
      clear P3 hen hnx
      generalize w3.alloc (.cells #[.int .u8 (q : Int), .int .u64 s] tID) = w4 at X4 P4 ⊢
      generalize w3.heap.size = kb at X4 hkg ⊢
      have hqF : q < F.length := by have := P4.out.st.lf; omega
      obtain ⟨f, hf⟩ : ∃ f, f = F[q] := ⟨_, rfl⟩
      have HF : Aside0 (F[q]? = some f) := ⟨by rw [hf]; exact List.getElem?_eq_getElem hqF⟩
      have hkf : Aside0 (keepE F (((q : Int), s), (⟨.slice A xs.length c, xs⟩ : Pay)) = decide (f < s)) := ⟨by
        unfold keepE
        dsimp only
        rw [Int.toNat_natCast, List.getD_eq_getElem?_getD, HF.out]
        rfl⟩
      clear hf hqF
      have hus := usedE_out P4.out.st.map.nodup P4.out.pin
      have hur := P4.out.st.us
      have CF := Aside0.mk (Drop1_calls (A := A) (c := c) (s := s) (len := xs.length) ((blk_cell (P4.out.bes.blk BK.out N0.out) 0).trans rfl) P4.out.st.blk hq hn64 ((blk_cell P4.out.st.fblk q).trans (u64c_get HF.out)) (by dsimp only at hus; omega))
      have i0 : w4.cell? ⟨kb, 0, none⟩ = some (.int .u8 (q : Int)) := (blk_cell X4.out 0).trans rfl
      have i1 : w4.cell? ⟨kb, 1, none⟩ = some (.int .u64 s) := (blk_cell X4.out 1).trans rfl
      clear hus hur
      go_wp2_with fail
      refine CF.out.mono ?_
      rintro e w5 ⟨rfl, hB, hg5⟩
      clear i0 i1 CF
      have X5 := hB.blk X4.out hkg
      have i0 : w5.cell? ⟨kb, 0, none⟩ = some (.int .u8 (q : Int)) := (blk_cell X5 0).trans rfl
      have i1 : w5.cell? ⟨kb, 1, none⟩ = some (.int .u64 s) := (blk_cell X5 1).trans rfl
      clear X5
      by_cases hsf : s ≤ f
      · rw [if_pos hsf] at hg5
        have hd : decide (s ≤ f) = true := decide_eq_true hsf
        obtain ⟨w6, hdel, h6⟩ := P4.out.goes (ty := 0) ⟨⟨by show (0 : Int) ≤ q; omega, by show (q : Int) ≤ 255; omega⟩, ⟨hs0, hs1⟩⟩ (by rw [hkf.out]; exact decide_eq_false (by omega)) hB hg5
        have D6 := Aside0.mk h6
        have hdel : (Builtin.delete_ #[tPM, tID] 0 #[.map (some mb), .agg #[.int .u8 (q : Int), .int .u64 s]]).run Try.prog w5 = .ok (.tuple #[]) w6 := hdel
        clear h6 hg5 hB P4
        rw [hd]
        go_wp2_with fail
        go_roundg LL.length
        case measure => omega
        case rel => exact ⟨_, LL, Nat.le_refl _, D6⟩
      · rw [if_neg hsf] at hg5
        have hd : decide (s ≤ f) = false := decide_eq_false hsf
        have D6 := Aside0.mk (P4.out.keep (by rw [hkf.out]; exact decide_eq_true (by omega)) hB (hg5.trans P4.out.st.blk.symm))
        clear hg5 hB P4
        rw [hd]
        go_wp2_with fail
        go_roundg LL.length
        case measure => omega
        case rel => exact ⟨W, LL, Nat.le_refl _, D6⟩
end

end Go.Proofs.Ytpdglodfgikfkaa.Walk
