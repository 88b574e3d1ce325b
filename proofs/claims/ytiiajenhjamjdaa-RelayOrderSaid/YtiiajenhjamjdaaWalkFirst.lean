/- Chunks are taken from the queue. Conditions: none beyond the statement's own. -/
import Derived.Test.YtiiajenhjamjdaaWalkPut
import Derived.Test.YtiiajenhjamjdaaF5
import Derived.Test.YtiiajenhjamjdaaArgs
import Derived.Deep.QuietTactic
import Derived.BigQuiet
import Derived.Lib.QuietBelow
import Derived.Outline
import Derived.Deep.RegionHeld3
import Derived.Deep.CutRange
import Derived.Deep.MidRow
namespace Go.Proofs.Ytiiajenhjamjdaa.Walk
open Go.RowKit Go.Proofs.Ytiiajenhjamjdaa.F Go.Proofs.YtiiajenhjamjdaaW.PrintWords Go.Proofs.YtiiajenhjamjdaaW.PrintLast Go.Proofs.YtiiajenhjamjdaaW.PrintMore Go.Proofs.Ytiiajenhjamjdaa.Open
open Go.Sort (grow)
attribute [local go_sem] max2_int min2_int max_two min_two max_three min_three max_four min_four
set_option linter.unusedVariables false
set_option linter.unusedSimpArgs false

/-! ### Whole structs: out of a row, into a box -/
section
variable {P : Program} {ops : Array Oper} {rest : List Oper} {o : Oper} {a : Act} {Q : Exit → Act → World → Prop}
theorem run_loadVar_any (w : World) (ad : Addr) (ty : TypeId) (cs : List Value) (d : TypeDesc) (hc : ∀ j v, cs[j]? = some v → w.cell? (ad.add j) = some v)
    (hu : P.underlying ty = some d) (hd : d.isRow = true) (hi : (P.info? ty).map (·.size) = some cs.length) :
    (loadVar ty ad).run P w = .ok (.agg cs.toArray) w := by
  have hl : (loadCells ad cs.length).run P w = .ok cs.toArray w := run_loadCells_list (P := P) w ad cs hc
  cases hq : P.info? ty with
  | none => simp [hq] at hi
  | some i =>
    have hs : i.size = cs.length := by simpa [hq] using hi
    have hagg : (isAgg ty).run P w = .ok true w := by
      unfold isAgg
      rw [Sem.run_bind, run_underlying hu w]
      cases d <;> simp_all
    simp [loadVar, Sem.run_bind, hagg, sizeOf, typeInfo, hq, hs, hl]
/-- A whole struct is loaded: its cells stay a list. -/
theorem load_any {w : World} (hgd : o.guard = none) (ty : TypeId) (x : Operand) (ho : o.op = .load ty x) (ad : Addr) (hx : a.eval x = .pointer (some ad)) (cs : List Value) (d : TypeDesc)
    (hc : ∀ j v, cs[j]? = some v → w.cell? (ad.add j) = some v) (hu : P.underlying ty = some d) (hd : d.isRow = true) (hi : (P.info? ty).map (·.size) = some cs.length)
    (h : wpList P ops Q rest (a.put o.dst (.agg cs.toArray)) w) : wpList P ops Q (o :: rest) a w :=
  wpList_plain hgd fun K hK => by
    unfold Oper.wp execOp
    simp only [ho, hx, Instr.loadAt, Instr.sureAddr, Sem.run_bind, Sem.run_pure, Result.andThen_ok, run_loadVar_any w ad ty cs d hc hu hd hi]
    exact hK _ _ h
def putAll (cur : Array Value) : Nat → List Value → Array Value
  | _, [] => cur
  | off, v :: r => putAll (cur.setIfInBounds off v) (off + 1) r
theorem putAll_size : ∀ (seg : List Value) (cur : Array Value) (off : Nat), (putAll cur off seg).size = cur.size
  | [], _, _ => rfl
  | v :: r, cur, off => by rw [putAll, putAll_size r]; simp
theorem putAll_get : ∀ (seg : List Value) (cur : Array Value) (off i : Nat), off + seg.length ≤ cur.size → (putAll cur off seg)[i]? = if off ≤ i ∧ i < off + seg.length then seg[i - off]? else cur[i]?
  | [], cur, off, i, _ => by rw [if_neg (by simp <;> omega)]; rfl
  | v :: r, cur, off, i, h => by
    have h' : off + 1 + r.length ≤ (cur.setIfInBounds off v).size := by simp at h ⊢; omega
    rw [putAll, putAll_get r _ _ i h']
    simp only [List.length_cons] at h ⊢
    by_cases h1 : off + 1 ≤ i ∧ i < off + 1 + r.length
    · rw [if_pos h1, if_pos (by omega), show i - off = (i - (off + 1)) + 1 by omega]
      rfl
    · rw [if_neg h1]
      by_cases h2 : i = off
      · subst h2
        rw [if_pos (by omega)]
        have hlt : i < cur.size := by omega
        simp [Array.getElem?_setIfInBounds, hlt]
      · rw [if_neg (by omega)]
        simp [Array.getElem?_setIfInBounds, Ne.symm h2]
theorem putAll_whole (cur cells : Array Value) (h : cur.size = cells.size) : putAll cur 0 cells.toList = cells := by
  apply Array.ext_getElem?
  intro i
  rw [putAll_get _ _ _ _ (by simp; omega)]
  by_cases hi : i < cells.size
  · rw [if_pos (by simp; omega)]
    simp
  · rw [if_neg (by simp; omega), Array.getElem?_eq_none (by omega), Array.getElem?_eq_none (by omega)]
theorem setCells_blk {g : Nat} {t : TypeId} : ∀ (seg : List Value) (off : Nat) {w : World} {cur : Array Value}, w.heap[g]? = some (.cells cur t (0, 0)) → (w.setCells g off seg).heap[g]? = some (.cells (putAll cur off seg) t (0, 0))
  | [], _, _, _, h => h
  | v :: r, off, _, _, h => setCells_blk r (off + 1) (blk_put h off v rfl)
theorem setCells_beside (g : Nat) : ∀ (seg : List Value) (off : Nat) (w : World), Beside (fun k => k = g) w (w.setCells g off seg)
  | [], _, w => Beside.refl _ w
  | v :: r, off, w => ((Beside.refl (fun k => k = g) w).setCell (p := ⟨g, off, none⟩) rfl v).trans (setCells_beside g r (off + 1) _)
theorem setCells_size (g : Nat) : ∀ (seg : List Value) (off : Nat) (w : World), (w.setCells g off seg).heap.size = w.heap.size
  | [], _, w => rfl
  | v :: r, off, w => (setCells_size g r (off + 1) _).trans (by simp [World.setCell])
/-- A whole struct is stored into its box: the world behind it is told by the box alone. -/
theorem store_box {w : World} (hgd : o.guard = none) (ty : TypeId) (x y : Operand) (ho : o.op = .store ty x y) (g : Nat) (cur cells : Array Value) (t : TypeId) (hx : a.eval x = .pointer (some ⟨g, 0, none⟩)) (hy : a.eval y = .agg cells)
    (hb : w.heap[g]? = some (.cells cur t (0, 0))) (hs : cur.size = cells.size) (hi : (P.info? ty).map (·.size) = some cells.size) (h1 : ∀ u ∈ cells.toList, u.oneCell' = true)
    (h : ∀ w1, w1.heap[g]? = some (.cells cells t (0, 0)) → Beside (fun k => k = g) w w1 → w1.heap.size = w.heap.size → wpList P ops Q rest (a.put o.dst undef) w1) : wpList P ops Q (o :: rest) a w := by
  refine wpList_store_mid hgd ty x y ho g 0 cells hx hy (fun j hj => ⟨?_, blk_frozen hb _⟩) hi (by rw [← Array.toArray_toList (xs := cells)]; exact all_oneCell_toArray h1) (h _ ?_ (setCells_beside g _ 0 w) (setCells_size g _ 0 w))
  · rw [blk_cell hb, Nat.zero_add, Array.getElem?_eq_getElem (by omega)]
    rfl
  · rw [setCells_blk cells.toList 0 hb, putAll_whole cur cells hs]
/-- A new box is filled. -/
theorem fill_box {w : World} (hgd : o.guard = none) (ty : TypeId) (x y : Operand) (ho : o.op = .store ty x y) (cur cells : Array Value) (t : TypeId) (hx : a.eval x = .pointer (some ⟨w.heap.size, 0, none⟩)) (hy : a.eval y = .agg cells)
    (hs : cur.size = cells.size) (hi : (P.info? ty).map (·.size) = some cells.size) (h1 : ∀ u ∈ cells.toList, u.oneCell' = true)
    (h : ∀ w1, w1.heap[w.heap.size]? = some (.cells cells t (0, 0)) → Below w.heap.size w w1 → w1.heap.size = w.heap.size + 1 → wpList P ops Q rest (a.put o.dst undef) w1) : wpList P ops Q (o :: rest) a (w.alloc (.cells cur t)) := by
  refine store_box hgd ty x y ho w.heap.size cur cells t hx hy (blk_new w _) hs hi h1 (fun w1 hb hB hz => h w1 hb ?_ (by rw [hz]; simp))
  exact Beside.below ((Beside.of_below (fun k => k = w.heap.size) (below_alloc (Below.refl _ _) _)).trans hB) (fun k hk => by omega)
end

/-! ### A queue from which chunks are taken -/
structure QT (w : World) (S : Nat → Prop) (g mb n : Nat) (lost : Int) (A : Option Addr) (c : Nat) (L : List Fr) : Prop where
  S_g : S g
  S_m : S mb
  ne : g ≠ mb
  cap : L.length ≤ c
  blk : w.heap[g]? = some (.cells #[.int .i64 n, .slice A L.length c, .map (some mb), .int .i64 lost] tQ (0, 0))
  row : Kd.F kF w (fun k => S k ∧ k ≠ g ∧ k ≠ mb) A L.length L
  map : MapE Try.prog tPl fkP fvN w mb (plE L)
section
variable {w w1 : World} {S S' S2 : Nat → Prop} {g mb n c : Nat} {lost : Int} {v : Value} {A : Option Addr} {L L' : List Fr} {x : Fr}
theorem Que.qt (h : Que w S g mb n lost v L) : ∃ A c, v = .slice A L.length c ∧ QT w S g mb n lost A c L := by
  obtain ⟨A, c, rfl⟩ := Kd.R_slice h.row
  exact ⟨A, c, rfl, h.S_g, h.S_m, h.ne, (Kd.R_reads' h.row).2.1, h.blk, Kd.R_F h.row, h.map⟩
theorem QT.mono (h : QT w S g mb n lost A c L) (hs : ∀ k, S k → S' k) : QT w S' g mb n lost A c L :=
  ⟨hs _ h.S_g, hs _ h.S_m, h.ne, h.cap, h.blk, Kd.F_mono h.row (fun k hk => ⟨hs k hk.1, hk.2⟩), h.map⟩
theorem QT.step (h : QT w S g mb n lost A c L) (hm : ∀ k, S k → k < w.heap.size → w1.heap[k]? = w.heap[k]?) : QT w1 S g mb n lost A c L :=
  ⟨h.S_g, h.S_m, h.ne, h.cap, (hm g h.S_g (blk_lt h.blk)).trans h.blk, Kd.F_step h.row (fun k hk hlt => hm k hk.1 hlt), h.map.step (hm mb h.S_m h.map.lt)⟩
theorem QT.below (h : QT w S g mb n lost A c L) (hb : Below w.heap.size w w1) : QT w1 S g mb n lost A c L := h.step fun k _ hlt => hb.block k hlt
theorem QT.bound (h : QT w S g mb n lost A c L) : QT w (fun k => S k ∧ k < w.heap.size) g mb n lost A c L :=
  ⟨⟨h.S_g, blk_lt h.blk⟩, ⟨h.S_m, h.map.lt⟩, h.ne, h.cap, h.blk, Kd.F_mono (Kd.F_bound h.row) (fun k hk => ⟨⟨hk.1.1, hk.2⟩, hk.1.2⟩), h.map⟩
theorem QT.beside (h : QT w S g mb n lost A c L) (hb : Beside S2 w w1) (hs : ∀ k, S k → ¬ S2 k) : QT w1 S g mb n lost A c L := h.step fun k hk hlt => hb.block k hlt (hs k hk)
theorem plE_tail (hn : ((plE (x :: L')).map (·.1)).Nodup) : (plE (x :: L')).filter (fun q => decide (q.1 ≠ pl x)) = plE L' := by
  have h1 : pl x ∉ (plE L').map (·.1) := by
    have := hn
    simp only [plE, List.map_cons, List.nodup_cons] at this
    exact this.1
  rw [show plE (x :: L') = (pl x, ()) :: plE L' from rfl, List.filter_cons, if_neg (by simp)]
  exact List.filter_eq_self.2 fun q hq => decide_eq_true fun e => h1 (e ▸ List.mem_map.2 ⟨q, hq, rfl⟩)
theorem QLen_calls (h : QT w S g mb n lost A c L) : Calls Try.prog 10 #[.pointer (some ⟨g, 0, none⟩)] w fun e w' => e = .returned (.int .i64 L.length) ∧ w' = w := by
  have c1 : w.cell? ⟨g, 1, none⟩ = some (.slice A L.length c) := (blk_cell h.blk 1).trans rfl
  clear h
  go_enter Try.func10, Try.ntmps10
  go_wp2
  go_ret
  exact ⟨rfl, rfl⟩
theorem blk_list {g : Nat} {cs : List Value} {t : TypeId} (h : w.heap[g]? = some (.cells cs.toArray t (0, 0))) : ∀ j v, cs[j]? = some v → w.cell? ((⟨g, 0, none⟩ : Addr).add j) = some v := by
  intro j v hv
  rw [show (⟨g, 0, none⟩ : Addr).add j = ⟨g, j, none⟩ by simp [Addr.add]; exact fun h => h.symm, blk_cell h]
  simpa using hv
theorem FC_one (x : Fr) (A11 A12 A13 A14 A15 : Option Addr) (c11 c12 c13 c14 c15 : Nat) : ∀ u ∈ ([.int .u8 x.f0.f0, .int .u8 x.f0.f1, .int .u8 x.f0.f2, .int .u8 x.f1.f0, .int .u64 x.f1.f1, .int .u64 x.f2, .int .u32 x.f3, .int .u32 x.f4, .int .u32 x.f5, .int .u64 x.f6, .int .u64 x.f7, .slice A11 x.f8.length c11, .slice A12 x.f9.length c12, .slice A13 x.f10.length c13, .slice A14 x.f11.length c14, .slice A15 x.f12.length c15] : List Value), u.oneCell' = true := by
  intro u hu
  simp only [List.mem_cons, List.not_mem_nil, or_false] at hu
  rcases hu with rfl | rfl | rfl | rfl | rfl | rfl | rfl | rfl | rfl | rfl | rfl | rfl | rfl | rfl | rfl | rfl <;> rfl
set_option maxHeartbeats 4000000 in
theorem first_calls0 (h : QT w S g mb n lost A c (x :: L')) (hsb : ∀ k, S k → k < w.heap.size) : Calls Try.prog 23 #[.pointer (some ⟨g, 0, none⟩)] w fun e w' => ∃ A11 c11 A12 c12 A13 c13 A14 c14 A15 c15 , e = .returned (.agg #[.int .u8 x.f0.f0, .int .u8 x.f0.f1, .int .u8 x.f0.f2, .int .u8 x.f1.f0, .int .u64 x.f1.f1, .int .u64 x.f2, .int .u32 x.f3, .int .u32 x.f4, .int .u32 x.f5, .int .u64 x.f6, .int .u64 x.f7, .slice A11 x.f8.length c11, .slice A12 x.f9.length c12, .slice A13 x.f10.length c13, .slice A14 x.f11.length c14, .slice A15 x.f12.length c15]) ∧
    Kd.FK kF w' (fun k => S k ∧ k ≠ g ∧ k ≠ mb) x [.int .u8 x.f0.f0, .int .u8 x.f0.f1, .int .u8 x.f0.f2, .int .u8 x.f1.f0, .int .u64 x.f1.f1, .int .u64 x.f2, .int .u32 x.f3, .int .u32 x.f4, .int .u32 x.f5, .int .u64 x.f6, .int .u64 x.f7, .slice A11 x.f8.length c11, .slice A12 x.f9.length c12, .slice A13 x.f10.length c13, .slice A14 x.f11.length c14, .slice A15 x.f12.length c15] ∧ (∃ A' , QT w' S g mb n lost A' (c - 1) L') ∧ Beside (fun k => k = g ∨ k = mb) w w' := by
  obtain ⟨ad, cs, hA, _, hK, hcc, _⟩ := Kd.F_get h.row z37 0 (by omega) (by simp)
  obtain rfl : A = some ad := hA
  have hK : Kd.FK kF w (fun k => S k ∧ k ≠ g ∧ k ≠ mb) x cs := hK
  have hcc : ∀ j u, cs[j]? = some u → w.cell? (ad.add j) = some u := fun j u hu => by
    have h1 := hcc j u hu
    rwa [show (0 : Int).toNat * kF.sz + j = j by simp] at h1
  obtain ⟨A11, c11, A12, c12, A13, c13, A14, c14, A15, c15, rfl, _⟩ := k37_open (Kd.FK_now hK)
  have HQ := Aside0.mk h
  have HSB := Aside0.mk hsb
  have KX := Aside0.mk hK
  have HC := Aside0.mk hcc
  have hcap : L'.length + 1 ≤ c := h.cap
  have c1 : w.cell? ⟨g, 1, none⟩ = some (.slice (some ad) (L'.length + 1) c) := (blk_cell h.blk 1).trans rfl
  clear hK hcc hsb h
  have ONE := Aside0.mk (FC_one x A11 A12 A13 A14 A15 c11 c12 c13 c14 c15)
  have hu := Try.underlying37
  go_enter Try.func23, Try.ntmps23
  go_upto_region 1 with (fail)
  have BB := Aside0.mk (below_alloc (Below.refl w.heap.size w) (.cells #[.int .u8 0, .int .u8 0, .int .u8 0, .int .u8 0, .int .u64 0, .int .u64 0, .int .u32 0, .int .u32 0, .int .u32 0, .int .u64 0, .int .u64 0, .slice none 0 0, .slice none 0 0, .slice none 0 0, .slice none 0 0, .slice none 0 0] eF))
  have RB := Aside0.mk (blk_new w (.cells #[.int .u8 0, .int .u8 0, .int .u8 0, .int .u8 0, .int .u64 0, .int .u64 0, .int .u32 0, .int .u32 0, .int .u32 0, .int .u64 0, .int .u64 0, .slice none 0 0, .slice none 0 0, .slice none 0 0, .slice none 0 0, .slice none 0 0] eF))
  have c1' := pw_cell_below BB.out c1
  have HC1 := Aside0.mk (fun j u hj => pw_cell_below BB.out (HC.out j u hj))
  obtain ⟨rc, hrc⟩ : ∃ rc, rc = w.heap.size := ⟨_, rfl⟩
  rw [← hrc] at RB ⊢
  have RE := Aside0.mk hrc
  have QB := Aside0.mk (HQ.out.below BB.out)
  have KB := Aside0.mk (Kd.FK_below KX.out BB.out)
  clear hrc c1 KX HC
  generalize w.alloc (.cells #[.int .u8 0, .int .u8 0, .int .u8 0, .int .u8 0, .int .u64 0, .int .u64 0, .int .u32 0, .int .u32 0, .int .u32 0, .int .u64 0, .int .u64 0, .slice none 0 0, .slice none 0 0, .slice none 0 0, .slice none 0 0, .slice none 0 0] eF) = w1 at *
  go_upto_region 2 with ((with_reducible refine gate_dst (N := 9) rfl ?_); refine load_any rfl eF (.tmp 8) rfl ad rfl [.int .u8 x.f0.f0, .int .u8 x.f0.f1, .int .u8 x.f0.f2, .int .u8 x.f1.f0, .int .u64 x.f1.f1, .int .u64 x.f2, .int .u32 x.f3, .int .u32 x.f4, .int .u32 x.f5, .int .u64 x.f6, .int .u64 x.f7, .slice A11 x.f8.length c11, .slice A12 x.f9.length c12, .slice A13 x.f10.length c13, .slice A14 x.f11.length c14, .slice A15 x.f12.length c15] _ HC1.out Try.underlying37 rfl (by kernel_rfl) ?_)
  have XB := Aside0.mk (blk_new w1 (.cells #[.int .u8 x.f0.f0, .int .u8 x.f0.f1, .int .u8 x.f0.f2, .int .u8 x.f1.f0, .int .u64 x.f1.f1, .int .u64 x.f2, .int .u32 x.f3, .int .u32 x.f4, .int .u32 x.f5, .int .u64 x.f6, .int .u64 x.f7, .slice A11 x.f8.length c11, .slice A12 x.f9.length c12, .slice A13 x.f10.length c13, .slice A14 x.f11.length c14, .slice A15 x.f12.length c15] eF))
  have BX := Aside0.mk (below_alloc (Below.refl w1.heap.size w1) (.cells #[.int .u8 x.f0.f0, .int .u8 x.f0.f1, .int .u8 x.f0.f2, .int .u8 x.f1.f0, .int .u64 x.f1.f1, .int .u64 x.f2, .int .u32 x.f3, .int .u32 x.f4, .int .u32 x.f5, .int .u64 x.f6, .int .u64 x.f7, .slice A11 x.f8.length c11, .slice A12 x.f9.length c12, .slice A13 x.f10.length c13, .slice A14 x.f11.length c14, .slice A15 x.f12.length c15] eF))
  obtain ⟨bx, hbx⟩ : ∃ bx, bx = w1.heap.size := ⟨_, rfl⟩
  rw [← hbx] at XB ⊢
  have BE := Aside0.mk hbx
  have QX := Aside0.mk (QB.out.below BX.out)
  have KY := Aside0.mk (Kd.FK_below KB.out BX.out)
  have RX := Aside0.mk (blk_below RB.out BX.out)
  have d1 : (w1.alloc (.cells #[.int .u8 x.f0.f0, .int .u8 x.f0.f1, .int .u8 x.f0.f2, .int .u8 x.f1.f0, .int .u64 x.f1.f1, .int .u64 x.f2, .int .u32 x.f3, .int .u32 x.f4, .int .u32 x.f5, .int .u64 x.f6, .int .u64 x.f7, .slice A11 x.f8.length c11, .slice A12 x.f9.length c12, .slice A13 x.f10.length c13, .slice A14 x.f11.length c14, .slice A15 x.f12.length c15] eF)).cell? ⟨g, 1, none⟩ = some (.slice (some ad) (L'.length + 1) c) := pw_cell_below BX.out c1'
  have zf : (w1.alloc (.cells #[.int .u8 x.f0.f0, .int .u8 x.f0.f1, .int .u8 x.f0.f2, .int .u8 x.f1.f0, .int .u64 x.f1.f1, .int .u64 x.f2, .int .u32 x.f3, .int .u32 x.f4, .int .u32 x.f5, .int .u64 x.f6, .int .u64 x.f7, .slice A11 x.f8.length c11, .slice A12 x.f9.length c12, .slice A13 x.f10.length c13, .slice A14 x.f11.length c14, .slice A15 x.f12.length c15] eF)).frozen? ⟨g, 1, none⟩ = false := blk_frozen QX.out.blk 1
  clear hbx c1' HC1 QB KB RB
  generalize w1.alloc (.cells #[.int .u8 x.f0.f0, .int .u8 x.f0.f1, .int .u8 x.f0.f2, .int .u8 x.f1.f0, .int .u64 x.f1.f1, .int .u64 x.f2, .int .u32 x.f3, .int .u32 x.f4, .int .u32 x.f5, .int .u64 x.f6, .int .u64 x.f7, .slice A11 x.f8.length c11, .slice A12 x.f9.length c12, .slice A13 x.f10.length c13, .slice A14 x.f11.length c14, .slice A15 x.f12.length c15] eF) = w2 at *
  go_upto_region 3 with (fail)
  have F2 : Aside0 (Kd.F kF w2 (fun k => S k ∧ k ≠ g ∧ k ≠ mb) (if c = 1 then some ad else some ⟨ad.block, ad.off + 16, none⟩) L'.length L') := ⟨Kd.F_cut (m := 1) QX.out.row (by simp) hcap⟩
  have KEY := Aside0.mk (QX.out.map.1 (pl x, ()) (List.mem_cons_self))
  have ND := Aside0.mk (plE_tail QX.out.map.nodup)
  have G3 := fun v => Aside0.mk (blk_put QX.out.blk 1 v rfl)
  have SG := fun v => Aside0.mk ((Beside.refl (fun b => b = g) w2).setCell (p := ⟨g, 1, none⟩) rfl v)
  have NXG := Aside0.mk (show bx ≠ g from fun e => by have h1 := blk_lt HQ.out.blk; have h3 := BE.out; have h4 := BB.out.size; omega)
  have NRG := Aside0.mk (show rc ≠ g from fun e => by have h1 := blk_lt HQ.out.blk; have h3 := RE.out; omega)
  have NXM := Aside0.mk (show bx ≠ mb from fun e => by have h1 := HQ.out.map.lt; have h3 := BE.out; have h4 := BB.out.size; omega)
  have NRM := Aside0.mk (show rc ≠ mb from fun e => by have h1 := HQ.out.map.lt; have h3 := RE.out; omega)
  have HS := Aside0.mk QX.out.S_g
  have HM := Aside0.mk QX.out.S_m
  have HN := Aside0.mk QX.out.ne
  have M2 := Aside0.mk QX.out.map
  generalize (if c = 1 then some ad else some ⟨ad.block, ad.off + 16, none⟩) = A1 at F2 ⊢
  have G3 := G3 (.slice A1 L'.length (c - 1))
  have SG := SG (.slice A1 L'.length (c - 1))
  have M3 := Aside0.mk (M2.out.beside SG.out (fun e => HN.out e.symm))
  have X3 := Aside0.mk (SG.out.blk XB.out NXG.out)
  have R3 := Aside0.mk (SG.out.blk RX.out NRG.out)
  have F3 := Aside0.mk (Kd.F_far (p := ⟨g, 1, none⟩) F2.out (fun k hk => hk.2.1) (.slice A1 L'.length (c - 1)))
  have K3 := Aside0.mk (Kd.FK_step KY.out (fun k hk hlt => SG.out.block k hlt hk.2.1))
  have BW3 := Aside0.mk (((Beside.of_below (fun b => b = g ∨ b = mb) BB.out).then_below BX.out).then_ SG.out (fun b hb => .inl (.inl hb)))
  clear d1 zf F2 M2 QX KY RX XB
  generalize w2.setCell ⟨g, 1, none⟩ (.slice A1 L'.length (c - 1)) = w3 at *
  refine wp_region_held_drew (S := fun w' => Beside (fun b => b = mb) w3 w') (by kernel_rfl) (by exact (Beside.refl _ _).drew) (fun hHeld => ?_)
  refine wpAnyH_take (i := 0) (oi := { dst := some 18, op := Op.move (Operand.tmp 0), type := 25, pos := "relay.go:66", after := #[], guard := none }) (v := ?_) rfl (by kernel_rfl) (by kernel_rfl) (by kernel_rfl) (fun _ _ _ h => h) (Or.inl ⟨by rfl, ?_⟩) (by assumption) ?_
  rotate_left
  · (intro w hSw; (try dsimp only at hSw); go_simp; try with_reducible rfl)
  simp only [Act.put, List.setIfInBounds_toArray, List.set_cons_zero, List.set_cons_succ]
  refine wpAnyH_take (i := 1) (oi := { dst := some 19, op := Op.nilCheck (Operand.tmp 18), type := 0, pos := "relay.go:66", after := #[{ on := 0, ground := Ground.data }], guard := none }) (v := ?_) rfl (by kernel_rfl) (by kernel_rfl) (by kernel_rfl) (fun _ _ _ h => h) (Or.inl ⟨by rfl, ?_⟩) (by assumption) ?_
  rotate_left
  · (intro w hSw; (try dsimp only at hSw); go_simp; try with_reducible rfl)
  simp only [Act.put, List.setIfInBounds_toArray, List.set_cons_zero, List.set_cons_succ]
  refine wpAnyH_take (i := 2) (oi := { dst := some 20, op := Op.fieldAddr 62 (Operand.tmp 19) 2, type := 0, pos := "relay.go:66", after := #[{ on := 1, ground := Ground.data }], guard := none }) (v := ?_) rfl (by kernel_rfl) (by kernel_rfl) (by kernel_rfl) (fun _ _ _ h => h) (Or.inl ⟨by rfl, ?_⟩) (by assumption) ?_
  rotate_left
  · (intro w hSw; (try dsimp only at hSw); go_simp; try with_reducible rfl)
  simp only [Act.put, List.setIfInBounds_toArray, List.set_cons_zero, List.set_cons_succ]
  refine wpAnyH_take (i := 3) (oi := { dst := some 21, op := Op.load 60 (Operand.tmp 20), type := 60, pos := "relay.go:66", after := #[{ on := 2, ground := Ground.data }], guard := none }) (v := ?_) rfl (by kernel_rfl) (by kernel_rfl) (by kernel_rfl) (fun _ _ _ h => h) (Or.inl ⟨by rfl, ?_⟩) (by assumption) ?_
  rotate_left
  · (intro w hSw; (try dsimp only at hSw); have y2 := cell_step ((blk_cell G3.out 2).trans rfl) hSw HN.out; go_simp; try with_reducible rfl)
  simp only [Act.put, List.setIfInBounds_toArray, List.set_cons_zero, List.set_cons_succ]
  refine wpAnyH_take (i := 4) (oi := { dst := some 22, op := Op.load 37 (Operand.tmp 3), type := 37, pos := "relay.go:66", after := #[], guard := none }) (v := ?_) rfl (by kernel_rfl) (by kernel_rfl) (by kernel_rfl) (fun _ _ _ h => h) (Or.inl ⟨by rfl, ?_⟩) (by assumption) ?_
  rotate_left
  · (intro w hSw; (try dsimp only at hSw); have z0 := cell_step ((blk_cell X3.out 0).trans rfl) hSw NXM.out; have z1 := cell_step ((blk_cell X3.out 1).trans rfl) hSw NXM.out; have z2 := cell_step ((blk_cell X3.out 2).trans rfl) hSw NXM.out; have z3 := cell_step ((blk_cell X3.out 3).trans rfl) hSw NXM.out; have z4 := cell_step ((blk_cell X3.out 4).trans rfl) hSw NXM.out; have z5 := cell_step ((blk_cell X3.out 5).trans rfl) hSw NXM.out; have z6 := cell_step ((blk_cell X3.out 6).trans rfl) hSw NXM.out; have z7 := cell_step ((blk_cell X3.out 7).trans rfl) hSw NXM.out; have z8 := cell_step ((blk_cell X3.out 8).trans rfl) hSw NXM.out; have z9 := cell_step ((blk_cell X3.out 9).trans rfl) hSw NXM.out; have z10 := cell_step ((blk_cell X3.out 10).trans rfl) hSw NXM.out; have z11 := cell_step ((blk_cell X3.out 11).trans rfl) hSw NXM.out; have z12 := cell_step ((blk_cell X3.out 12).trans rfl) hSw NXM.out; have z13 := cell_step ((blk_cell X3.out 13).trans rfl) hSw NXM.out; have z14 := cell_step ((blk_cell X3.out 14).trans rfl) hSw NXM.out; have z15 := cell_step ((blk_cell X3.out 15).trans rfl) hSw NXM.out; go_simp; try with_reducible rfl)
  simp only [Act.put, List.setIfInBounds_toArray, List.set_cons_zero, List.set_cons_succ]
  refine wpAnyH_ready (rs := [5]) (by kernel_rfl) (by simp) ?_
  refine AllReadyH.cons (o := { dst := some 23, op := Op.call { callee := Callee.value (Operand.func 20), args := #[Operand.tmp 22], argTypes := #[37] }, type := 66, pos := "relay.go:66", after := #[{ on := 4, ground := Ground.data }], guard := none }) rfl (fun K hK => ?_) AllReadyH.nil
  go_simp
  go_at_call 20
  refine (of_any x _ _ _ _ _ _).mono ?_
  rintro e wa ⟨rfl, hb0⟩
  have B9 := Aside0.mk (below_step (below_drew (Below.refl w3.heap.size w3)) hb0)
  have MA := M3.out.below B9.out
  obtain ⟨la, hla⟩ := KEY.out
  obtain ⟨w4, hrun4, hM4, hB4, hsz4⟩ := MA.drop lawPl fkP_inj Try.underlying60 (x := pl x) hla 0
  have hrun4 : (Builtin.delete_ #[tPM, tPl] 0 #[.map (some mb), .agg #[.int .u8 x.f1.f0, .int .u64 x.f1.f1, .int .u32 x.f3]]).run Try.prog wa = .ok (.tuple #[]) w4 := hrun4
  have M4 := Aside0.mk hM4
  have S4 := Aside0.mk hB4
  clear hM4 hB4 MA hla
  try go_wp2_with fail
  refine hK.out _ _ (Beside.of_below _ B9.out) (fun hHeld => ?_)
  clear hK K
  try simp only [Act.put, List.setIfInBounds_toArray, List.set_cons_zero, List.set_cons_succ]
  refine wpAnyH_ready (rs := [6]) (by kernel_rfl) (by simp) ?_
  refine AllReadyH.cons (o := { dst := none, op := Op.call { callee := Callee.builtin Builtin.delete, args := #[Operand.tmp 21, Operand.tmp 23], argTypes := #[60, 66] }, type := 0, pos := "relay.go:66", after := #[{ on := 3, ground := Ground.data }, { on := 5, ground := Ground.data }, { on := 5, ground := Ground.chain }], guard := none }) rfl (fun K hK => ?_) AllReadyH.nil
  go_simp
  refine hK.out _ _ ((Beside.of_below _ B9.out).then_ S4.out (fun b hb => .inl hb)) (fun hHeld => ?_)
  clear hK K
  try simp only [Act.put, List.setIfInBounds_toArray, List.set_cons_zero, List.set_cons_succ]
  refine wpAnyH_done (by kernel_rfl) ?_ _
  have X4 := Aside0.mk (S4.out.blk (blk_below X3.out B9.out) NXM.out)
  have R4 := Aside0.mk (S4.out.blk (blk_below R3.out B9.out) NRM.out)
  have G4 := Aside0.mk (S4.out.blk (blk_below G3.out B9.out) HN.out)
  have F4 := Aside0.mk (Kd.F_step (Kd.F_below F3.out B9.out) (fun k hk hlt => S4.out.block k hlt hk.2.2))
  have K4 := Aside0.mk (Kd.FK_step (Kd.FK_below K3.out B9.out) (fun k hk hlt => S4.out.block k hlt hk.2.2))
  have BW4 := Aside0.mk ((BW3.out.then_below B9.out).then_ S4.out (fun b hb => .inl (.inr hb)))
  have LM : Aside0 (MapE Try.prog tPl fkP fvN w4 mb (plE L')) := ⟨by have := M4.out; rwa [ND.out] at this⟩
  have HL4 := Aside0.mk (blk_list (cs := [.int .u8 x.f0.f0, .int .u8 x.f0.f1, .int .u8 x.f0.f2, .int .u8 x.f1.f0, .int .u64 x.f1.f1, .int .u64 x.f2, .int .u32 x.f3, .int .u32 x.f4, .int .u32 x.f5, .int .u64 x.f6, .int .u64 x.f7, .slice A11 x.f8.length c11, .slice A12 x.f9.length c12, .slice A13 x.f10.length c13, .slice A14 x.f11.length c14, .slice A15 x.f12.length c15]) X4.out)
  clear hHeld hrun4
  clear X3 R3 G3 F3 K3 BW3 B9 S4 SG M3 X4 M4
  go_wp2_with (first
    | ((with_reducible refine gate_dst (N := 24) rfl ?_); refine load_any rfl eF (.tmp 3) rfl ⟨bx, 0, none⟩ rfl [.int .u8 x.f0.f0, .int .u8 x.f0.f1, .int .u8 x.f0.f2, .int .u8 x.f1.f0, .int .u64 x.f1.f1, .int .u64 x.f2, .int .u32 x.f3, .int .u32 x.f4, .int .u32 x.f5, .int .u64 x.f6, .int .u64 x.f7, .slice A11 x.f8.length c11, .slice A12 x.f9.length c12, .slice A13 x.f10.length c13, .slice A14 x.f11.length c14, .slice A15 x.f12.length c15] _ HL4.out Try.underlying37 rfl (by kernel_rfl) ?_)
    | ((with_reducible refine gate_store (t := eF) (p := 2) (v := .tmp 24) rfl ?_); refine store_box rfl eF (.tmp 2) (.tmp 24) rfl rc _ #[.int .u8 x.f0.f0, .int .u8 x.f0.f1, .int .u8 x.f0.f2, .int .u8 x.f1.f0, .int .u64 x.f1.f1, .int .u64 x.f2, .int .u32 x.f3, .int .u32 x.f4, .int .u32 x.f5, .int .u64 x.f6, .int .u64 x.f7, .slice A11 x.f8.length c11, .slice A12 x.f9.length c12, .slice A13 x.f10.length c13, .slice A14 x.f11.length c14, .slice A15 x.f12.length c15] eF rfl rfl R4.out rfl (by kernel_rfl) ONE.out ?_; intro w5 hr5 hB5 hz5; have R5 := Aside0.mk hr5; have FAR := Aside0.mk hB5; clear hr5 hB5 hz5))
  refine bodyPost_ret (results_cell_row rfl _ _ rc eF #[.int .u8 x.f0.f0, .int .u8 x.f0.f1, .int .u8 x.f0.f2, .int .u8 x.f1.f0, .int .u64 x.f1.f1, .int .u64 x.f2, .int .u32 x.f3, .int .u32 x.f4, .int .u32 x.f5, .int .u64 x.f6, .int .u64 x.f7, .slice A11 x.f8.length c11, .slice A12 x.f9.length c12, .slice A13 x.f10.length c13, .slice A14 x.f11.length c14, .slice A15 x.f12.length c15] (0, 0) _ rfl R5.out Try.underlying37 rfl (by kernel_rfl)) rfl ?_
  have hro : ∀ k, k < w.heap.size → k ≠ rc := fun k hk e => by have := RE.out; omega
  exact ⟨_, _, _, _, _, _, _, _, _, _, rfl, Kd.FK_step K4.out (fun k hk hlt => FAR.out.block k hlt (hro k (HSB.out k hk.1))), ⟨A1, HS.out, HM.out, HN.out, by omega, FAR.out.blk G4.out (fun e => hro g (HSB.out g HS.out) e), Kd.F_step F4.out (fun k hk hlt => FAR.out.block k hlt (hro k (HSB.out k hk.1))), LM.out.beside FAR.out (fun e => hro mb (HSB.out mb HM.out) e)⟩, BW4.out.then_ FAR.out (fun b hb => .inr (by have := RE.out; have hb : b = rc := hb; omega))⟩
theorem first_calls (h : QT w S g mb n lost A c (x :: L')) : Calls Try.prog 23 #[.pointer (some ⟨g, 0, none⟩)] w fun e w' => ∃ A11 c11 A12 c12 A13 c13 A14 c14 A15 c15 , e = .returned (.agg #[.int .u8 x.f0.f0, .int .u8 x.f0.f1, .int .u8 x.f0.f2, .int .u8 x.f1.f0, .int .u64 x.f1.f1, .int .u64 x.f2, .int .u32 x.f3, .int .u32 x.f4, .int .u32 x.f5, .int .u64 x.f6, .int .u64 x.f7, .slice A11 x.f8.length c11, .slice A12 x.f9.length c12, .slice A13 x.f10.length c13, .slice A14 x.f11.length c14, .slice A15 x.f12.length c15]) ∧
    Kd.FK kF w' (fun k => S k ∧ k ≠ g ∧ k ≠ mb) x [.int .u8 x.f0.f0, .int .u8 x.f0.f1, .int .u8 x.f0.f2, .int .u8 x.f1.f0, .int .u64 x.f1.f1, .int .u64 x.f2, .int .u32 x.f3, .int .u32 x.f4, .int .u32 x.f5, .int .u64 x.f6, .int .u64 x.f7, .slice A11 x.f8.length c11, .slice A12 x.f9.length c12, .slice A13 x.f10.length c13, .slice A14 x.f11.length c14, .slice A15 x.f12.length c15] ∧ (∃ A' , QT w' S g mb n lost A' (c - 1) L') ∧ Beside (fun k => k = g ∨ k = mb) w w' := by
  refine (first_calls0 h.bound (fun k hk => hk.2)).mono ?_
  rintro e w' ⟨A11, c11, A12, c12, A13, c13, A14, c14, A15, c15, he, hk, ⟨A', hq⟩, hb⟩
  exact ⟨A11, c11, A12, c12, A13, c13, A14, c14, A15, c15, he, Kd.FK_mono hk (fun k hk => ⟨hk.1.1, hk.2⟩), ⟨A', hq.mono (fun k hk => hk.1)⟩, hb⟩
end

end Go.Proofs.Ytiiajenhjamjdaa.Walk
