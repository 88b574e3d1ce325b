/- A frame in memory of its own holds what it held. Conditions: none beyond the statement's own. -/
import Derived.Test.YtiiajenhjamjdaaWalkMapE
import Derived.Test.YtiiajenhjamjdaaF4
import Derived.Test.YtiiajenhjamjdaaArgs
import Derived.Deep.QuietTactic
import Derived.BigQuiet
import Derived.Lib.QuietBelow
import Derived.Outline
import Derived.Deep.RegionHeld3
import Derived.Deep.CutRange
namespace Go.Proofs.Ytiiajenhjamjdaa.Walk
open Go.RowKit Go.Proofs.Ytiiajenhjamjdaa.F Go.Proofs.YtiiajenhjamjdaaW.PrintWords Go.Proofs.YtiiajenhjamjdaaW.PrintLast Go.Proofs.YtiiajenhjamjdaaW.PrintMore Go.Proofs.Ytiiajenhjamjdaa.Open
open Go.Sort (grow)
attribute [local go_sem] max2_int min2_int max_two min_two max_three min_three max_four min_four
set_option linter.unusedVariables false
set_option linter.unusedSimpArgs false

/-! ### Frames -/
abbrev Fr := S37
abbrev kF : Kd Fr := k37
abbrev eF : Nat := 37
/-- Its rows are short enough. -/
structure fok (f : Fr) : Prop where
  l8 : f.f8.length ≤ 1000000
  l9 : f.f9.length ≤ 1000000
  l10 : f.f10.length ≤ 1000000
  l11 : f.f11.length ≤ 1000000
  l12 : f.f12.length ≤ 1000000
theorem own_M (f : Fr) (cs : List Value) (w : World) (hK : kF.K w f cs) (hs : fok f) :
    Calls Try.prog 21 #[.agg cs.toArray] w fun e w' => ∃ cs' : List Value, e = .returned (.agg cs'.toArray) ∧ kF.M w' w.heap.size (fun _ => True) f cs' ∧ Below w.heap.size w w' := by
  obtain ⟨A11, c11, A12, c12, A13, c13, A14, c14, A15, c15, rfl, l11, g11, l12, g12, l13, g13, l14, g14, l15, g15⟩ := k37_open hK
  obtain ⟨h8, h9, h10, h11, h12⟩ := hs
  have e : relay_own.f f.f0.f0 f.f0.f1 f.f0.f2 f.f1.f0 f.f1.f1 f.f2 f.f3 f.f4 f.f5 f.f6 f.f7 f.f8 f.f9 f.f10 f.f11 f.f12 = some (f.f0.f0, f.f0.f1, f.f0.f2, f.f1.f0, f.f1.f1, f.f2, f.f3, f.f4, f.f5, f.f6, f.f7, f.f8, f.f9, f.f10, f.f11, f.f12) := by
    unfold relay_own.f api_Run.f slices_Clone_uint64_uint64.f slices_Clone_byte_byte.f
    rw [if_pos (by omega), if_pos (by omega), if_pos (by omega), if_pos (by omega), if_pos (by omega)]
    rfl
  refine (relay_own.calls _ _ _ _ _ _ _ _ _ _ _ A11 c11 f.f8 A12 c12 f.f9 A13 c13 f.f10 A14 c14 f.f11 A15 c15 f.f12 _ _ _ _ _ _ _ _ _ _ _ _ _ _ _ _ w g11 l11 g12 l12 g13 l13 g14 l14 g15 l15 e).mono ?_
  rintro e w' ⟨v11, v12, v13, v14, v15, rfl, r11, r12, r13, r14, r15, hb⟩
  exact ⟨_, rfl, k37_mkM w' w.heap.size (fun _ => True) f (Kd.R_mono r11 (fun _ _ => trivial)) (Kd.R_mono r12 (fun _ _ => trivial)) (Kd.R_mono r13 (fun _ _ => trivial)) (Kd.R_mono r14 (fun _ _ => trivial)) (Kd.R_mono r15 (fun _ _ => trivial)), hb⟩
namespace Kd
section
variable {P : Program} {ops : Array Oper} {o : Oper} {a : Act} {Q : Exit → Act → World → Prop} {Kc : Act → World → Prop} {α : Type}
/-- R_store as a step of a region that draws. -/
theorem R_store_step (d : Kd α) {w0 W : World} (base : Nat) (hN : o.dst = none) (hw : Region.wanted o (yielded ops a.tmps) = true) (t : TypeId) (p x : Operand) (ho : o.op = .store t p x) (e : TypeId) {g n cap o' : Nat} (i : Int) (j : Nat) (xs : List α) (x' : α) (u : Value) (seg c : List Value) (ok okp : Nat → Prop)
    (haddr : a.eval p = .pointer (some ⟨g, o', none⟩)) (hoff : o' = i.toNat * d.sz + j) (hx : a.eval x = u) (hu : u.cells.toList = seg) (ht : (P.info? t).map (·.size) = some seg.length) (h1 : ∀ q ∈ seg, q.oneCell' = true)
    (HO : d.R e W base ok (.slice (some ⟨g, 0, none⟩) n cap) xs) (h0 : 0 ≤ i) (hi : i < n) (hcl : c.length = d.sz) (hcc : ∀ j u, c[j]? = some u → W.cell? ⟨g, i.toNat * d.sz + j, none⟩ = some u)
    (hj : j + seg.length ≤ d.sz) (hM : d.M W base okp x' (c.take j ++ seg ++ c.drop (j + seg.length))) (hokp : ∀ k, okp k → ok k ∧ k ≠ g) (HB : Below base w0 W)
    (h : ∀ w1, d.R e w1 base ok (.slice (some ⟨g, 0, none⟩) n cap) (xs.set i.toNat x') → Below base w0 w1 → W.grownBy w1 (some g) → Kc a w1) :
    if Region.wanted o (yielded ops a.tmps) = true then Oper.wp P o a W Kc Q else Kc (a.put o.dst undef) W := by
  subst hoff
  obtain ⟨hrow, hg⟩ := Kd.R_seg HO i h0 hi hcl hcc hj hM hokp
  have hbg : base ≤ g := Kd.R_base HO g (by simp [Value.ownBlock])
  have hnx : n = xs.length := (Kd.R_reads' HO).1
  obtain ⟨_, inner, hown, hr⟩ := HO
  have hil : i.toNat < n := by omega
  have hB : Below base w0 (W.setCells g (i.toNat * d.sz + j) seg) := HB.trans ⟨hg.os, hg.tape, hg.output, hg.size, fun k hk => by
    have hlt : k < W.heap.size ∨ W.heap.size ≤ k := Nat.lt_or_ge _ _
    rcases hlt with hlt | hge
    · exact hg.block k hlt (fun he => by injection he with he; omega)
    · exact setCells_far seg _ k (by omega)⟩
  rw [if_pos hw]
  have hrun : (Instr.storeAt t (.pointer (some ⟨g, i.toNat * d.sz + j, none⟩)) u).run P W = .ok () (W.setCells g (i.toNat * d.sz + j) seg) := by
    rcases hown.2 with ⟨hv, _⟩ | ⟨g', cap', cur, hv, hb, hh, hnc, hcm, hcs, _⟩
    · cases hv
    injection hv with ha _ hc
    injection ha with ha
    injection ha with hg'
    subst hg'; subst hc
    refine run_store_run t u seg hh hu ht ?_ h1
    have h2 : i.toNat * d.sz + d.sz ≤ n * d.sz := by rw [← Nat.succ_mul]; exact Nat.mul_le_mul_right _ hil
    have h3 : n * d.sz ≤ cap * d.sz := Nat.mul_le_mul_right _ (by omega)
    omega
  unfold Oper.wp execOp
  simp only [ho, haddr, hx, Sem.run_bind, Sem.run_pure, Result.andThen_ok, hrun]
  show Kc (a.put o.dst undef) _
  rw [hN]
  exact h _ hrow hB hg
theorem setCells_drewN (g : Nat) : ∀ (seg : List Value) (off : Nat) (W : World) (q : Nat), (W.drewN q).setCells g off seg = (W.setCells g off seg).drewN q
  | [], _, _, _ => rfl
  | v :: seg, off, W, q => setCells_drewN g seg (off + 1) (W.setCell ⟨g, off, none⟩ v) q
/-- A whole element is stored: the run of the store, and what it leaves. -/
theorem run_whole (P : Program) (d : Kd α) {W : World} {base : Nat} {e : TypeId} {g n cap : Nat} (i : Nat) {xs : List α} (z : α) {x' : α} {seg : List Value} {ok okp : Nat → Prop}
    (HO : d.R e W base ok (.slice (some ⟨g, 0, none⟩) n cap) xs) (hi : i < n) (hM : d.M W base okp x' seg) (hokp : ∀ k, okp k → ok k ∧ k ≠ g) :
    seg.length = d.sz ∧ (∀ q, (storeCells ⟨g, i * d.sz, none⟩ seg).run P (W.drewN q) = .ok () ((W.setCells g (i * d.sz) seg).drewN q)) ∧ d.R e (W.setCells g (i * d.sz) seg) base ok (.slice (some ⟨g, 0, none⟩) n cap) (xs.set i x') ∧ W.grownBy (W.setCells g (i * d.sz) seg) (some g) := by
  obtain ⟨c, hcl, _, hcc, _⟩ := Kd.R_elem HO z (i : Int) (by omega) (by omega)
  have hsl := d.K_len (d.K_of_M hM)
  have e1 : c.take 0 ++ seg ++ c.drop (0 + seg.length) = seg := by simp [List.drop_of_length_le, hcl, hsl]
  have key := Kd.R_seg HO (i : Int) (by omega) (by omega) hcl hcc (j := 0) (seg := seg) (by omega) (by rw [e1]; exact hM) hokp
  simp only [Int.toNat_natCast, Nat.add_zero] at key
  refine ⟨hsl, fun q => ?_, key⟩
  have hnx : n = xs.length := (Kd.R_reads' HO).1
  obtain ⟨_, inner, hown, hr⟩ := HO
  rcases hown.2 with ⟨hv, _⟩ | ⟨g', cap', cur, hv, hb, hh, hnc, hcm, hcs, _⟩
  · cases hv
  injection hv with ha _ hc
  injection ha with ha
  injection ha with hg'
  subst hg'; subst hc
  have h2 : i * d.sz + d.sz ≤ n * d.sz := by rw [← Nat.succ_mul]; exact Nat.mul_le_mul_right _ hi
  have h3 : n * d.sz ≤ cap * d.sz := Nat.mul_le_mul_right _ (by omega)
  have hst := run_storeCells_cells (P := P) g (i * d.sz) seg 0 (W.drewN q) (fun j hj => by rw [cell_of_row (W.drewN q) g _ cur e (0, 0) hh]; simp; omega) (fun j _ => blk_frozen (w := W.drewN q) hh _) (d.K_one (d.K_of_M hM))
  simp only [Nat.add_zero] at hst
  rw [hst, setCells_drewN]
/-- A whole element is stored. -/
theorem R_whole {rest : List Oper} (d : Kd α) {w0 W : World} (base : Nat) (hN : o.dst = none) (hgd : o.guard = none) (t : TypeId) (p x : Operand) (ho : o.op = .store t p x) (e : TypeId) {g n cap o' : Nat} (i : Nat) (xs : List α) (z x' : α) (seg : List Value) (ok okp : Nat → Prop)
    (haddr : a.eval p = .pointer (some ⟨g, o', none⟩)) (hoff : o' = i * d.sz) (hx : a.eval x = .agg seg.toArray) (ht : (P.info? t).map (·.size) = some d.sz)
    (HO : d.R e W base ok (.slice (some ⟨g, 0, none⟩) n cap) xs) (hi : i < n) (hM : d.M W base okp x' seg) (hokp : ∀ k, okp k → ok k ∧ k ≠ g) (HB : Below base w0 W)
    (h : ∀ w1, d.R e w1 base ok (.slice (some ⟨g, 0, none⟩) n cap) (xs.set i x') → Below base w0 w1 → W.grownBy w1 (some g) → wpList P ops Q rest a w1) : wpList P ops Q (o :: rest) a W := by
  obtain ⟨c, hcl, _, hcc, _⟩ := Kd.R_elem HO z (i : Int) (by omega) (by omega)
  have hsl := d.K_len (d.K_of_M hM)
  have e1 : c.take 0 ++ seg ++ c.drop (0 + seg.length) = seg := by simp [List.drop_of_length_le, hcl, hsl]
  exact Kd.R_store d base hN hgd t p x ho e (i : Int) 0 xs x' (.agg seg.toArray) seg c ok okp haddr (by simp [hoff]) hx (by simp [Value.cells]) (by rw [hsl]; exact ht) (d.K_one (d.K_of_M hM)) HO (by omega) (by omega) hcl hcc (by omega) (by rw [e1]; exact hM) hokp HB (by simpa using h)
end
end Kd
/-- An element of a row of frames that is read, with what it leads to. -/
theorem at_F {w : World} {ok : Nat → Prop} {A : Option Addr} {n : Nat} {xs : List Fr} (h : Kd.F kF w ok A n xs) (i : Int) (h0 : 0 ≤ i) (h1 : i < n) : ∃ (x : Fr) (ad : Addr) (A11 : Option Addr) (c11 : Nat) (A12 : Option Addr) (c12 : Nat) (A13 : Option Addr) (c13 : Nat) (A14 : Option Addr) (c14 : Nat) (A15 : Option Addr) (c15 : Nat),
    x = rd_T37 xs i ∧ A = some ad ∧ Kd.FK kF w ok x [.int .u8 x.f0.f0, .int .u8 x.f0.f1, .int .u8 x.f0.f2, .int .u8 x.f1.f0, .int .u64 x.f1.f1, .int .u64 x.f2, .int .u32 x.f3, .int .u32 x.f4, .int .u32 x.f5, .int .u64 x.f6, .int .u64 x.f7, .slice A11 x.f8.length c11, .slice A12 x.f9.length c12, .slice A13 x.f10.length c13, .slice A14 x.f11.length c14, .slice A15 x.f12.length c15] ∧ w.cell? (ad.add (i.toNat * 16)) = some (.int .u8 x.f0.f0) ∧ w.cell? ⟨(ad.add (i.toNat * 16)).block, (ad.add (i.toNat * 16)).off + 1, none⟩ = some (.int .u8 x.f0.f1) ∧ w.cell? ⟨(ad.add (i.toNat * 16)).block, (ad.add (i.toNat * 16)).off + 2, none⟩ = some (.int .u8 x.f0.f2) ∧ w.cell? ⟨(ad.add (i.toNat * 16)).block, (ad.add (i.toNat * 16)).off + 3, none⟩ = some (.int .u8 x.f1.f0) ∧ w.cell? ⟨(ad.add (i.toNat * 16)).block, (ad.add (i.toNat * 16)).off + 4, none⟩ = some (.int .u64 x.f1.f1) ∧ w.cell? ⟨(ad.add (i.toNat * 16)).block, (ad.add (i.toNat * 16)).off + 5, none⟩ = some (.int .u64 x.f2) ∧ w.cell? ⟨(ad.add (i.toNat * 16)).block, (ad.add (i.toNat * 16)).off + 6, none⟩ = some (.int .u32 x.f3) ∧ w.cell? ⟨(ad.add (i.toNat * 16)).block, (ad.add (i.toNat * 16)).off + 7, none⟩ = some (.int .u32 x.f4) ∧ w.cell? ⟨(ad.add (i.toNat * 16)).block, (ad.add (i.toNat * 16)).off + 8, none⟩ = some (.int .u32 x.f5) ∧ w.cell? ⟨(ad.add (i.toNat * 16)).block, (ad.add (i.toNat * 16)).off + 9, none⟩ = some (.int .u64 x.f6) ∧ w.cell? ⟨(ad.add (i.toNat * 16)).block, (ad.add (i.toNat * 16)).off + 10, none⟩ = some (.int .u64 x.f7) ∧ w.cell? ⟨(ad.add (i.toNat * 16)).block, (ad.add (i.toNat * 16)).off + 11, none⟩ = some (.slice A11 x.f8.length c11) ∧ w.cell? ⟨(ad.add (i.toNat * 16)).block, (ad.add (i.toNat * 16)).off + 12, none⟩ = some (.slice A12 x.f9.length c12) ∧ w.cell? ⟨(ad.add (i.toNat * 16)).block, (ad.add (i.toNat * 16)).off + 13, none⟩ = some (.slice A13 x.f10.length c13) ∧ w.cell? ⟨(ad.add (i.toNat * 16)).block, (ad.add (i.toNat * 16)).off + 14, none⟩ = some (.slice A14 x.f11.length c14) ∧ w.cell? ⟨(ad.add (i.toNat * 16)).block, (ad.add (i.toNat * 16)).off + 15, none⟩ = some (.slice A15 x.f12.length c15) := by
  obtain ⟨ad, c, e, _, hK, hc0, _⟩ := Kd.F_get h z37 i h0 h1
  have hc : ∀ j u, c[j]? = some u → w.cell? (ad.add (i.toNat * 16 + j)) = some u := hc0
  obtain ⟨A11, c11, A12, c12, A13, c13, A14, c14, A15, c15, rfl, _⟩ := k37_open (Kd.FK_now hK)
  exact ⟨_, ad, A11, c11, A12, c12, A13, c13, A14, c14, A15, c15, rfl, e, hK, hc 0 _ rfl, by rw [← add_field _ _ 1 (by omega)]; exact hc 1 _ rfl, by rw [← add_field _ _ 2 (by omega)]; exact hc 2 _ rfl, by rw [← add_field _ _ 3 (by omega)]; exact hc 3 _ rfl, by rw [← add_field _ _ 4 (by omega)]; exact hc 4 _ rfl, by rw [← add_field _ _ 5 (by omega)]; exact hc 5 _ rfl, by rw [← add_field _ _ 6 (by omega)]; exact hc 6 _ rfl, by rw [← add_field _ _ 7 (by omega)]; exact hc 7 _ rfl, by rw [← add_field _ _ 8 (by omega)]; exact hc 8 _ rfl, by rw [← add_field _ _ 9 (by omega)]; exact hc 9 _ rfl, by rw [← add_field _ _ 10 (by omega)]; exact hc 10 _ rfl, by rw [← add_field _ _ 11 (by omega)]; exact hc 11 _ rfl, by rw [← add_field _ _ 12 (by omega)]; exact hc 12 _ rfl, by rw [← add_field _ _ 13 (by omega)]; exact hc 13 _ rfl, by rw [← add_field _ _ 14 (by omega)]; exact hc 14 _ rfl, by rw [← add_field _ _ 15 (by omega)]; exact hc 15 _ rfl⟩

end Go.Proofs.Ytiiajenhjamjdaa.Walk
