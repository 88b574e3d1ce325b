/- What waits is the window's own: whoever writes into what was handed in, or was told, changes nothing. Conditions: none beyond the statement's own. -/
import Derived.Test.YtdeknknefjepnaaWalkSlideNil
import Derived.Test.YtdeknknefjepnaaArgs
import Derived.Deep.QuietTactic
import Derived.BigQuiet
import Derived.Lib.QuietBelow
import Derived.Outline
import Derived.Deep.RegionHeld3
import Derived.Deep.CutRange
namespace Go.Proofs.Ytdeknknefjepnaa.Walk
open Go.RowKit Go.Proofs.Ytdeknknefjepnaa.F Go.Proofs.YtdeknknefjepnaaW.PrintWords Go.Proofs.YtdeknknefjepnaaW.PrintLast Go.Proofs.YtdeknknefjepnaaW.PrintMore Go.Proofs.Ytdeknknefjepnaa.Open
open Go.Sort (grow)
attribute [local go_sem] max2_int min2_int max_two min_two max_three min_three max_four min_four
set_option linter.unusedVariables false
set_option linter.unusedSimpArgs false

/-! ### The law: what waits is the window's own -/
theorem str_at {w : World} {A : Option Addr} {n c : Nat} {xs : List Int} (h : (Kd.int .u8).C w A n xs) (q : Nat) : (convert 22 9 (.slice A n c)).run Try.prog (w.drewN q) = .ok (.string (strOfNums xs)) (w.drewN q) :=
  Kd.C_string (P := Try.prog) Try.underlying22 Try.underlying5 Try.underlying9 (Kd.C_drewN h q)
def ownX (l : List Int) : Fr := ⟨⟨0, 0, 0⟩, ⟨0, 0⟩, 0, 0, 0, 0, 0, 0, [], [], [], [5], l⟩
theorem ownX_FK {w : World} {ok : Nat → Prop} {A B : Option Addr} {c d : Nat} {l : List Int} (hl : l.length ≤ c) (h1 : Kd.F (Kd.int .u8) w ok A l.length l) (h2 : Kd.F (Kd.int .u64) w ok B 1 [5]) (hd : 1 ≤ d) : Kd.FK kF w ok (ownX l) [.int .u8 0, .int .u8 0, .int .u8 0, .int .u8 0, .int .u64 0, .int .u64 0, .int .u32 0, .int .u32 0, .int .u32 0, .int .u64 0, .int .u64 0, .slice none 0 0, .slice none 0 0, .slice none 0 0, .slice B 1 d, .slice A l.length c] :=
  k36_mkF w ok (ownX l) (Nat.le_refl _) (Kd.F_nil _ _ _) (Nat.le_refl _) (Kd.F_nil _ _ _) (Nat.le_refl _) (Kd.F_nil _ _ _) hd h2 hl h1
set_option maxHeartbeats 4000000 in
set_option maxRecDepth 100000 in
theorem SlideOwn (A0 : Option Addr) (c0 : Nat) (l0 : List Int) (w : World) (hr0 : Kd.C (Kd.int .u8) w A0 l0.length l0) (hc0 : l0.length ≤ c0) (w0 : l0.length ≤ maxLen ∧ ∀ x ∈ l0, (Lit.int .u8 x).wf = true) :
    Calls Try.prog 3 #[.slice A0 l0.length c0] w fun e w' => e = .returned (.bool true) ∧ Below w.heap.size w w' := by
  have HR := Aside0.mk hr0
  clear hr0 hc0 w0
  by_cases hl : (100 : Int) < l0.length
  · have hl' : decide ((100 : Int) < l0.length) = true := decide_eq_true hl
    go_enter Try.func3, Try.ntmps3
    go_wp2_with fail
    refine (awake_calls _).mono ?_
    rintro e w1 ⟨rfl, hb⟩
    have B1 := Aside0.mk hb
    clear hb
    go_wp2_with fail
    go_ret
    exact ⟨rfl, B1.out⟩
  · have hl' : decide ((100 : Int) < l0.length) = false := decide_eq_false hl
    have hl100 : l0.length ≤ 100 := by omega
    have HL := Aside0.mk hl100
    go_enter Try.func3, Try.ntmps3
    go_wp2_with fail
    refine (New_calls 1 _).mono ?_
    rintro e w1 ⟨g, rfl, hge, hW, hb⟩
    have W1 := Aside0.mk hW.bound
    have B1 := Aside0.mk hb
    have N1 : Aside0 (Kd.R (Kd.int .u8) 5 (w1.alloc (.cells #[] 5)) w1.heap.size (fun _ => True) (.slice (some ⟨w1.heap.size, 0, none⟩) 0 0) []) := ⟨⟨fun _ _ => trivial, [], World.ownsRow_made w1 #[] 0 (Nat.le_refl _) (by simp) (by simp), Reps.none _ _⟩⟩
    clear hge hW hb hl
    go_wp2_with ((with_reducible refine gate_dst (N := 15) rfl ?_); refine Kd.R_append_rows (Kd.int .u8) (Rr := fun x cs => Kd.K (Kd.int .u8) (w1.alloc (.cells #[] 5)) x cs) (w0 := w1) w1.heap.size rfl (.tmp 13) (.tmp 14) 22 5 (.int .u8 0) 1 rfl Try.underlying22 info5 rfl (by decide) (by decide) _ [] l0 A0 l0.length c0 (fun _ => True) (fun _ => False) rfl rfl N1.out (Kd.C_below HR.out (below_alloc B1.out _)) (fun x cs hx => hx) (fun _ hf => hf.elim) (fun _ _ => trivial) (below_alloc (Below.refl _ _) _) (by simp) (by simp; omega) ?_; intro v2 w2 ho hb _ _; rw [List.nil_append] at ho; obtain ⟨Ao, co, rfl⟩ := Kd.R_slice ho; have R2 := Aside0.mk ho; have D2 := Aside0.mk hb; clear ho hb)
    obtain ⟨wa, hwa⟩ : ∃ wa, wa = w2.alloc (.cells #[.int .u64 5] 27) := ⟨_, rfl⟩
    obtain ⟨w3, hw3⟩ : ∃ w3, w3 = wa.alloc (.cells #[.int .u8 0, .int .u8 0, .int .u8 0, .int .u8 0, .int .u64 0, .int .u64 0, .int .u32 0, .int .u32 0, .int .u32 0, .int .u64 0, .int .u64 0, .slice none 0 0, .slice none 0 0, .slice none 0 0, .slice (some ⟨w2.heap.size, 0, none⟩) 1 1, .slice Ao l0.length co] 36) := ⟨_, rfl⟩
    rw [← hwa, ← hw3]
    have za : wa.heap.size = w2.heap.size + 1 := by rw [hwa]; simp
    have z3 : w3.heap.size = w2.heap.size + 2 := by rw [hw3]; simp [za]
    rw [← za]
    have b3 : Below w2.heap.size w2 w3 := by rw [hw3, hwa]; exact below_alloc (below_alloc (Below.refl _ _) _) _
    have fd : Kd.F (Kd.int .u8) w3 (fun k => w1.heap.size ≤ k) Ao l0.length l0 := Kd.F_below (Kd.F_mono (Kd.R_F (Kd.R_bound R2.out)) (fun k hk => hk.2.1)) b3
    have fh : Kd.F (Kd.int .u64) w3 (fun k => w1.heap.size ≤ k) (some ⟨w2.heap.size, 0, none⟩) 1 [5] := by
      have := F_lit (t := 27) (g := w2.heap.size) (w := wa) (d := Kd.int .u64) (ok := fun _ => False) [((5 : Int), [Value.int .u64 5])] (by rw [hwa]; exact blk_new w2 _) (by simp) (fun r hr => by rw [List.mem_singleton.1 hr]; exact fun _ _ => rfl)
      exact Kd.F_below (Kd.F_mono this (fun k hk => by rcases hk with h | h; exact h.elim; have := D2.out.size; omega)) (by rw [hw3]; exact below_alloc (Below.refl _ _) _)
    have ff : Kd.F kF w3 (fun b => ¬ (w.heap.size ≤ b ∧ b < w1.heap.size)) (some ⟨wa.heap.size, 0, none⟩) 1 [ownX l0] := by
      have := F_lit (t := 36) (g := wa.heap.size) (w := w3) (d := kF) (ok := fun k => w1.heap.size ≤ k) [(ownX l0, [.int .u8 0, .int .u8 0, .int .u8 0, .int .u8 0, .int .u64 0, .int .u64 0, .int .u32 0, .int .u32 0, .int .u32 0, .int .u64 0, .int .u64 0, .slice none 0 0, .slice none 0 0, .slice none 0 0, .slice (some ⟨w2.heap.size, 0, none⟩) 1 1, .slice Ao l0.length co])] (by rw [hw3]; exact blk_new wa _) (by simp) (fun r hr => by rw [List.mem_singleton.1 hr]; exact ownX_FK (Kd.R_reads' R2.out).2.1 fd fh (Nat.le_refl _))
      exact Kd.F_mono this (fun k hk hS => by
        have := D2.out.size
        rcases hk with h | h
        · have h9 : w1.heap.size ≤ k := h
          omega
        · omega)
    have Z3 := Aside0.mk z3
    have B13 := Aside0.mk (below_step D2.out b3)
    have R3 : Aside0 (Kd.R (Kd.int .u8) 5 w3 w1.heap.size (fun k => w1.heap.size ≤ k ∧ k < w3.heap.size) (.slice Ao l0.length co) l0) := ⟨Kd.R_below (Kd.R_mono (Kd.R_bound R2.out) (fun k hk => ⟨hk.2.1, by have := hk.2.2.1; omega⟩)) b3⟩
    have PP := Aside0.mk (Put_calls [ownX l0] 1 w3 (W1.out.below B13.out) ff (Nat.le_refl _) (fun f hf => by rw [List.mem_singleton.1 hf]; exact ⟨by simp [ownX], by simp [ownX], by simp [ownX], by simp [ownX], by simp [ownX]; omega⟩) (by simp) (by simp [wid]))
    clear b3 fd fh ff hwa hw3 za z3 R2 D2 N1 W1
    refine PP.out.mono ?_
    rintro e w4 ⟨rfl, hW, hb⟩
    have W4 : Aside0 (Win w4 (fun b => (w.heap.size ≤ b ∧ b < w1.heap.size) ∨ w3.heap.size ≤ b) g (wid 1) 1 [{ ownX l0 with f2 := 1 }]) := ⟨hW⟩
    have R4 : Aside0 (Kd.R (Kd.int .u8) 5 w4 w1.heap.size (fun k => w1.heap.size ≤ k ∧ k < w3.heap.size) (.slice Ao l0.length co) l0) := ⟨Kd.R_kept R3.out hb.kept (fun k hk e => by omega)⟩
    have B4 := Aside0.mk (Beside.step (below_step B1.out B13.out) hb (fun k hk => hk.1))
    have Z1 := Aside0.mk B1.out.size
    have Z13 := Aside0.mk B13.out.size
    clear hW hb PP R3 B1 B13
    go_wp2_with fail
    go_loopg [5] l0.length (fun kq v5 w' => ∃ (j : Nat) (xs : List Int), v5 = .int .i64 j ∧ j ≤ l0.length ∧ l0.length ≤ kq + j ∧ xs.length = l0.length ∧ Aside0 (Kd.R (Kd.int .u8) 5 w' w1.heap.size (fun k => w1.heap.size ≤ k ∧ k < w3.heap.size) (.slice Ao l0.length co) xs) ∧ Aside0 (Win w' (fun b => (w.heap.size ≤ b ∧ b < w1.heap.size) ∨ w3.heap.size ≤ b) g (wid 1) 1 [{ ownX l0 with f2 := 1 }]) ∧ Aside0 (Below w.heap.size w w'))
    case atStart => exact ⟨0, l0, rfl, by omega, by omega, rfl, R4, W4, B4⟩
    case round =>
      clear R4 W4 B4
      obtain ⟨j, xs, rfl, hj, hkj, hxl, R, W, B⟩ := hrel
      by_cases hlt : j < l0.length
      · have hlt' : decide ((j : Int) < l0.length) = true := decide_eq_true (by omega)
        obtain ⟨o, co', ev, _, hob, hol⟩ := R_head R.out (by omega)
        rw [hxl] at ev
        injection ev with e1 _ e3
        subst e1
        subst e3
        obtain ⟨cc, hcl, hM, hcc, hfr⟩ := Kd.R_elem R.out 0 (j : Int) (by omega) (by omega)
        obtain ⟨x, hx⟩ : ∃ x, x = xs.getD (j : Int).toNat 0 := ⟨_, rfl⟩
        have ec : cc = [.int .u8 x] := by rw [hx]; exact hM
        have q0 : wr.cell? ⟨o, j, none⟩ = some (.int .u8 x) := by have h9 := hcc 0 (.int .u8 x) (by rw [ec]; rfl); rw [show (j : Int).toNat * (Kd.int .u8).sz + 0 = j from (by show (j : Int).toNat * 1 + 0 = j; simp)] at h9; exact h9
        have z0 : wr.frozen? ⟨o, j, none⟩ = false := by have h9 := hfr 0; rw [show (j : Int).toNat * (Kd.int .u8).sz + 0 = j from (by show (j : Int).toNat * 1 + 0 = j; simp)] at h9; exact h9
        obtain ⟨y, hy⟩ : ∃ y, IntKind.u8.wrap (x + 1) = y := ⟨_, rfl⟩
        have CC := Aside0.mk hcc
        have EC := Aside0.mk ec
        have OK := Aside0.mk (R.out.1 o (by simp [Value.ownBlock]))
        have p1 : (0 ≤ (j : Int)) = True := eq_true (by omega)
        have p2 : ((j : Int) < (l0.length : Int)) = True := eq_true (by omega)
        have HXL := Aside0.mk hxl
        clear hx hM hcc hfr ec hcl hxl hob hol
        go_wp2_with ((with_reducible refine gate_ (.store 5 (.tmp 33) (.tmp 32)) rfl ?_); refine Kd.R_store (Kd.int .u8) (w0 := wr) w1.heap.size rfl rfl 5 (.tmp 33) (.tmp 32) rfl 5 (j : Int) 0 xs y (.int .u8 y) [.int .u8 y] cc _ (fun _ => False) rfl (by simp [Kd.int, Kd.scalar]) rfl rfl (by rfl) (fun q hq => by rw [List.mem_singleton.1 hq]; rfl) R.out (by omega) (by omega) (by rw [EC.out]; rfl) CC.out (by show (1 : Nat) ≤ 1; exact Nat.le_refl _) (by rw [EC.out]; rfl) (fun _ hf => hf.elim) (Below.refl _ _) ?_; intro w5 ho hb hg; have R5 := Aside0.mk ho; have G5 := Aside0.mk hg; clear ho hb hg)
        have W5 := Aside0.mk (W.out.step (w1 := w5) (fun k hk hlt => G5.out.block k hlt (fun he => by have h8 := Option.some.inj he; have := OK.out; omega)))
        have B5 := Aside0.mk (B.out.grown G5.out B.out.size (fun k hk => by have h8 := Option.some.inj hk; have := OK.out; have := Z1.out; omega))
        clear G5 R W B CC EC q0 z0
        go_roundg (gk - 1)
        case measure => omega
        case rel => exact ⟨j + 1, _, (by simp), by omega, by omega, by rw [List.length_set]; exact HXL.out, R5, W5, B5⟩
      · have hlt' : decide ((j : Int) < l0.length) = false := decide_eq_false (by omega)
        clear R
        go_wp2_with fail
        refine (Waiting_calls 1 1 0 [{ ownX l0 with f2 := 1 }] wr W.out.bound (by decide) (by decide) rfl rfl).mono ?_
        rintro e w6 ⟨v, rfl, ho, hb⟩
        obtain ⟨rb, cb, rfl, _, hrb, hrl⟩ := R_head ho (by simp)
        have W6 := Aside0.mk (W.out.bound.below hb)
        have B6 := Aside0.mk (below_step B.out hb)
        have ZR := Aside0.mk B.out.size
        have HRB := Aside0.mk hrb
        have BWR := Aside0.mk hb
        obtain ⟨ce, hcl, hM, hcc, hfr⟩ := Kd.R_elem ho z36 0 (by decide) (by simp)
        obtain ⟨v11, v12, v13, v14, v15, rfl, _, _, _, r14, r15⟩ := k36_openM hM
        obtain ⟨rh, ch, rfl, _, hrh, hrhl⟩ := R_head r14 (by simp [ownX])
        obtain ⟨Ad, cd, rfl⟩ := Kd.R_slice r15
        have RH := Aside0.mk r14
        have RD := Aside0.mk r15
        have q15 : w6.cell? ⟨rb, 15, none⟩ = some (.slice Ad l0.length cd) := hcc 15 _ rfl
        have q14 : w6.cell? ⟨rb, 14, none⟩ = some (.slice (some ⟨rh, 0, none⟩) 1 ch) := hcc 14 _ rfl
        have s1 := str_at (c := cd) (Kd.R_reads' r15).2.2
        have s2 := str_at (c := c0) (Kd.C_below HR.out B6.out)
        have s1' : ∀ q, (convert 22 9 (.slice Ad l0.length cd)).run Try.prog (w6.drewN q) = .ok (.string (strOfNums l0)) (w6.drewN q) := s1
        clear s1 hcc hcl hM hfr r14 r15 ho hb W B
        go_wp2_with fail
        go_quiet (fail)
        obtain ⟨w7, hq⟩ : ∃ x, x = w6.drewN nq := ⟨_, rfl⟩
        rw [← hq]
        have hbq : Below w6.heap.size w6 w7 := by rw [hq]; exact pw_below_drewN (Below.refl _ _) _
        have B7 := Aside0.mk (below_step B6.out hbq)
        have W7 := Aside0.mk (W6.out.below hbq)
        have q15' : w7.cell? ⟨rb, 15, none⟩ = some (.slice Ad l0.length cd) := by rw [hq]; exact q15
        have q14' : w7.cell? ⟨rb, 14, none⟩ = some (.slice (some ⟨rh, 0, none⟩) 1 ch) := by rw [hq]; exact q14
        obtain ⟨zr, ZE⟩ : ∃ z : Nat, Aside0 (z = wr.heap.size) := ⟨_, ⟨rfl⟩⟩
        obtain ⟨_, _, ef, _, _, hcells, hblk⟩ := Kd.R_form RH.out (by simp [ownX])
        injection ef with ef1 _ _
        injection ef1 with ef2
        injection ef2 with ef3
        subst ef3
        have rd1 := Kd.R_types RD.out hblk (t := 27) (by intro q hq; rcases List.mem_cons.1 hq with h | h; rw [h]; decide; exact absurd h (by simp [Kd.int, Kd.scalar]))
        have RD7 : Aside0 (Kd.R (Kd.int .u8) 5 w7 zr (fun k => k ≠ rb ∧ k ≠ rh) (.slice Ad l0.length cd) l0) := ⟨by rw [ZE.out]; exact Kd.R_below (Kd.R_mono rd1 (fun k hk => ⟨hk.1.2, hk.2⟩)) hbq⟩
        have RH7 : Aside0 (Kd.R (Kd.int .u64) 27 w7 zr (fun k => k = rh) (.slice (some ⟨rh, 0, none⟩) 1 ch) [5]) := ⟨by rw [ZE.out]; exact Kd.R_below ⟨fun k hk => (Option.some.inj hk).symm, RH.out.2⟩ hbq⟩
        have HRR : Aside0 (rb ≠ rh) := ⟨fun e => (RH.out.1 rh (by simp [Value.ownBlock])).2 e.symm⟩
        have ZW : Aside0 (w.heap.size ≤ zr) := ⟨by rw [ZE.out]; exact ZR.out⟩
        have WZ : Aside0 (Win w7 (fun b => ((w.heap.size ≤ b ∧ b < w1.heap.size) ∨ w3.heap.size ≤ b) ∧ b < zr) g (wid 1) 1 [{ ownX l0 with f2 := 1 }]) := ⟨by rw [ZE.out]; exact W7.out⟩
        have HRZ : Aside0 (zr ≤ rh ∧ zr ≤ rb) := ⟨by have h1 := HRB.out; have h2 := Kd.R_base RH.out rh (by simp [Value.ownBlock]); rw [ZE.out]; exact ⟨h2, h1⟩⟩
        clear rd1 hblk hbq hq s1' s2 q14 q15 RD RH W7 W6 B6 BWR ZR HRB ZE hrh hrhl hrl hrb
        go_wp2_with fail
        go_loopg [7] l0.length (fun kq v7 w' => ∃ (j : Nat) (xs : List Int), v7 = .int .i64 j ∧ j ≤ l0.length ∧ l0.length ≤ kq + j ∧ xs.length = l0.length ∧ Aside0 (Kd.R (Kd.int .u8) 5 w' zr (fun k => k ≠ rb ∧ k ≠ rh) (.slice Ad l0.length cd) xs) ∧ Aside0 (w'.cell? ⟨rb, 15, none⟩ = some (.slice Ad l0.length cd) ∧ w'.cell? ⟨rb, 14, none⟩ = some (.slice (some ⟨rh, 0, none⟩) 1 ch)) ∧ Aside0 (Kd.R (Kd.int .u64) 27 w' zr (fun k => k = rh) (.slice (some ⟨rh, 0, none⟩) 1 ch) [5]) ∧ Aside0 (Win w' (fun b => ((w.heap.size ≤ b ∧ b < w1.heap.size) ∨ w3.heap.size ≤ b) ∧ b < zr) g (wid 1) 1 [{ ownX l0 with f2 := 1 }]) ∧ Aside0 (Below w.heap.size w w'))
        case atStart => exact ⟨0, l0, rfl, by omega, by omega, rfl, RD7, ⟨q15', q14'⟩, RH7, WZ, B7⟩
        case round =>
          clear RD7 RH7 WZ B7 q15' q14'
          obtain ⟨j, xs, rfl, hj, hkj, hxl, R, QQ, RH, W, B⟩ := hrel
          have q15 := QQ.out.1
          have q14 := QQ.out.2
          by_cases hlt : j < l0.length
          · have hlt' : decide ((j : Int) < l0.length) = true := decide_eq_true (by omega)
            obtain ⟨o, co', ev, _, hob, hol⟩ := R_head R.out (by omega)
            rw [hxl] at ev
            injection ev with e1 _ e3
            subst e1
            subst e3
            obtain ⟨cc, hcl, hM, hcc, hfr⟩ := Kd.R_elem R.out 0 (j : Int) (by omega) (by omega)
            obtain ⟨x, hx⟩ : ∃ x, x = xs.getD (j : Int).toNat 0 := ⟨_, rfl⟩
            have ec : cc = [.int .u8 x] := by rw [hx]; exact hM
            have q0 : wr.cell? ⟨o, j, none⟩ = some (.int .u8 x) := by have h9 := hcc 0 (.int .u8 x) (by rw [ec]; rfl); rw [show (j : Int).toNat * (Kd.int .u8).sz + 0 = j from (by show (j : Int).toNat * 1 + 0 = j; simp)] at h9; exact h9
            have z0 : wr.frozen? ⟨o, j, none⟩ = false := by have h9 := hfr 0; rw [show (j : Int).toNat * (Kd.int .u8).sz + 0 = j from (by show (j : Int).toNat * 1 + 0 = j; simp)] at h9; exact h9
            obtain ⟨y, hy⟩ : ∃ y, IntKind.u8.wrap (x + 1) = y := ⟨_, rfl⟩
            have CC := Aside0.mk hcc
            have EC := Aside0.mk ec
            have OK := Aside0.mk (R.out.1 o (by simp [Value.ownBlock]))
            have p1 : (0 ≤ (j : Int)) = True := eq_true (by omega)
            have p2 : ((j : Int) < (l0.length : Int)) = True := eq_true (by omega)
            have HXL := Aside0.mk hxl
            clear hx hM hcc hfr ec hcl hxl hob hol
            go_wp2_with ((with_reducible refine gate_ (.store 5 (.tmp 74) (.tmp 73)) rfl ?_); refine Kd.R_store (Kd.int .u8) (w0 := wr) zr rfl rfl 5 (.tmp 74) (.tmp 73) rfl 5 (j : Int) 0 xs y (.int .u8 y) [.int .u8 y] cc _ (fun _ => False) rfl (by simp [Kd.int, Kd.scalar]) rfl rfl (by rfl) (fun q hq => by rw [List.mem_singleton.1 hq]; rfl) R.out (by omega) (by omega) (by rw [EC.out]; rfl) CC.out (by show (1 : Nat) ≤ 1; exact Nat.le_refl _) (by rw [EC.out]; rfl) (fun _ hf => hf.elim) (Below.refl _ _) ?_; intro w5 ho hb hg; have R5 := Aside0.mk ho; have G5 := Aside0.mk hg; clear ho hb hg)
            have OB := Aside0.mk (Kd.R_base R.out o (by simp [Value.ownBlock]))
            have W5 := Aside0.mk (W.out.step (w1 := w5) (fun k hk hlt => G5.out.block k hlt (fun he => by have h8 := Option.some.inj he; have := OB.out; have := hk.2; omega)))
            have B5 := Aside0.mk (B.out.grown G5.out B.out.size (fun k hk => by have h8 := Option.some.inj hk; have := OB.out; have := ZW.out; omega))
            have Q5 := Aside0.mk (And.intro (G5.out.cell q15 (fun he => OK.out.1 (Option.some.inj he).symm)) (G5.out.cell q14 (fun he => OK.out.1 (Option.some.inj he).symm)))
            have RH5 := Aside0.mk (Kd.R_grown RH.out G5.out (fun k hk he => by have h8 := Option.some.inj he; exact OK.out.2 (by rw [← h8]; exact hk)))
            clear G5 R W B CC EC q0 z0 q14 q15 RH QQ
            go_roundg (gk - 1)
            case measure => omega
            case rel => exact ⟨j + 1, _, (by simp), by omega, by omega, by rw [List.length_set]; exact HXL.out, R5, Q5, RH5, W5, B5⟩
          · have hlt' : decide ((j : Int) < l0.length) = false := decide_eq_false (by omega)
            clear R
            obtain ⟨cc, hcl, hM, hcc, hfr⟩ := Kd.R_elem RH.out 0 0 (by decide) (by decide)
            have ec : cc = [.int .u64 5] := hM
            have q0 : wr.cell? ⟨rh, 0, none⟩ = some (.int .u64 5) := by have h9 := hcc 0 (.int .u64 5) (by rw [ec]; rfl); simpa using h9
            have z0 : wr.frozen? ⟨rh, 0, none⟩ = false := by have h9 := hfr 0; simpa using h9
            have W8 := Aside0.mk (W.out.step (w1 := wr.setCell ⟨rh, 0, none⟩ (.int .u64 6)) (fun k hk _ => Below.heap_setCell _ _ _ _ (fun e => by have h8 : k = rh := e; have := hk.2; have := HRZ.out; omega)))
            have B8 : Aside0 (Below w.heap.size w (wr.setCell ⟨rh, 0, none⟩ (.int .u64 6))) := ⟨B.out.setCell (p := ⟨rh, 0, none⟩) (by have := HRZ.out; have := ZW.out; show w.heap.size ≤ rh; omega) _⟩
            clear hcl hM hcc hfr ec RH W B
            go_wp2_with fail
            obtain ⟨w8, hw8⟩ : ∃ w8, w8 = wr.setCell ⟨rh, 0, none⟩ (.int .u64 6) := ⟨_, rfl⟩
            rw [← hw8] at W8 B8 ⊢
            clear hw8 q0 z0 q14 q15 QQ
            refine (Waiting_calls 1 1 0 [{ ownX l0 with f2 := 1 }] w8 W8.out (by decide) (by decide) rfl rfl).mono ?_
            rintro e w9 ⟨v, rfl, ho, hb⟩
            obtain ⟨rb, cb, rfl, _, hrb, hrl⟩ := R_head ho (by simp)
            have B9 := Aside0.mk (below_step B8.out hb)
            obtain ⟨ce, hcl, hM, hcc, hfr⟩ := Kd.R_elem ho z36 0 (by decide) (by simp)
            obtain ⟨v11, v12, v13, v14, v15, rfl, _, _, _, r14, r15⟩ := k36_openM hM
            obtain ⟨rh, ch, rfl, _, hrh, hrhl⟩ := R_head r14 (by simp [ownX])
            obtain ⟨Ad, cd, rfl⟩ := Kd.R_slice r15
            have q15 : w9.cell? ⟨rb, 15, none⟩ = some (.slice Ad l0.length cd) := hcc 15 _ rfl
            have q14 : w9.cell? ⟨rb, 14, none⟩ = some (.slice (some ⟨rh, 0, none⟩) 1 ch) := hcc 14 _ rfl
            obtain ⟨c5, _, hM5, hcc5, _⟩ := Kd.R_elem r14 0 0 (by decide) (by simp [ownX])
            have ec5 : c5 = [.int .u64 5] := hM5
            have q5 : w9.cell? ⟨rh, 0, none⟩ = some (.int .u64 5) := by have h9 := hcc5 0 (.int .u64 5) (by rw [ec5]; rfl); simpa using h9
            have s1 : (convert 22 9 (.slice Ad l0.length cd)).run Try.prog w9.drew = .ok (.string (strOfNums l0)) w9.drew := Kd.C_string (P := Try.prog) Try.underlying22 Try.underlying5 Try.underlying9 (Kd.C_drew (Kd.R_reads' r15).2.2)
            have s2 : (convert 22 9 (.slice A0 l0.length c0)).run Try.prog w9.drew = .ok (.string (strOfNums l0)) w9.drew := Kd.C_string (P := Try.prog) Try.underlying22 Try.underlying5 Try.underlying9 (Kd.C_drew (Kd.C_below HR.out B9.out))
            have RD9 := Aside0.mk (Kd.C_drew (Kd.R_reads' r15).2.2)
            have RB9 := Aside0.mk (Kd.C_drew (Kd.C_below HR.out B9.out))
            clear hcl hM hcc hfr r14 r15 ho hb hM5 hcc5 ec5 hrb hrl hrh hrhl W8 B8
            go_wp2_with fail
            go_region_held3 (fun w' => w'.cell? ⟨rb, 15, none⟩ = some (.slice Ad l0.length cd) ∧ w'.cell? ⟨rb, 14, none⟩ = some (.slice (some ⟨rh, 0, none⟩) 1 ch) ∧ w'.cell? ⟨rh, 0, none⟩ = some (.int .u64 5) ∧ (convert 22 9 (.slice Ad l0.length cd)).run Try.prog w' = .ok (.string (strOfNums l0)) w' ∧ (convert 22 9 (.slice A0 l0.length c0)).run Try.prog w' = .ok (.string (strOfNums l0)) w') (first | go_keep | (refine ⟨?_, ?_, ?_, ?_, ?_⟩ <;> assumption))
              ((go_at_call 7; refine (awake_calls _).mono ?_; rintro e wz ⟨rfl, hb⟩; have BZ := Aside0.mk hb; clear hb; have y1 : wz.cell? ⟨rb, 15, none⟩ = some (.slice Ad l0.length cd) := (BZ.out.cell (World.block_lt_of_cell? w9 _ q15)).trans q15; have y2 : wz.cell? ⟨rb, 14, none⟩ = some (.slice (some ⟨rh, 0, none⟩) 1 ch) := (BZ.out.cell (World.block_lt_of_cell? w9 _ q14)).trans q14; have y3 : wz.cell? ⟨rh, 0, none⟩ = some (.int .u64 5) := (BZ.out.cell (World.block_lt_of_cell? w9 _ q5)).trans q5; have y4 : (convert 22 9 (.slice Ad l0.length cd)).run Try.prog wz = .ok (.string (strOfNums l0)) wz := Kd.C_string (P := Try.prog) Try.underlying22 Try.underlying5 Try.underlying9 (Kd.C_below RD9.out BZ.out); have y5 : (convert 22 9 (.slice A0 l0.length c0)).run Try.prog wz = .ok (.string (strOfNums l0)) wz := Kd.C_string (P := Try.prog) Try.underlying22 Try.underlying5 Try.underlying9 (Kd.C_below RB9.out BZ.out)))
            go_wp2_with fail
            go_ret
            exact ⟨rfl, below_step (below_drew B9.out) BZ.out⟩

end Go.Proofs.Ytdeknknefjepnaa.Walk
