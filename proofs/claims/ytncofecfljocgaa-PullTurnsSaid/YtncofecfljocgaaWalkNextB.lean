/- Next, where what was wanted lacks no more. Conditions: none beyond the statement's own. -/
import Derived.Test.YtncofecfljocgaaWalkNext
import Derived.Test.YtncofecfljocgaaArgs
import Derived.Deep.QuietTactic
import Derived.BigQuiet
import Derived.Lib.QuietBelow
import Derived.Outline
import Derived.Deep.RegionHeld3
import Derived.Deep.CutRange
namespace Go.Proofs.Ytncofecfljocgaa.Walk
open Go.RowKit Go.Proofs.Ytncofecfljocgaa.F Go.Proofs.YtncofecfljocgaaW.PrintWords Go.Proofs.YtncofecfljocgaaW.PrintLast Go.Proofs.YtncofecfljocgaaW.PrintMore Go.Proofs.Ytncofecfljocgaa.Open
open Go.Sort (grow)
attribute [local go_sem] max2_int min2_int max_two min_two max_three min_three max_four min_four
set_option linter.unusedVariables false
set_option linter.unusedSimpArgs false

/-! ### Next, where one is chosen -/
section
variable {w w1 : World} {S : Nat → Prop} {x : Nat} {p : Pu} {mv : Value} {H : Int → Int → List Int} {Ah : Option Addr} {ch : Nat} {held : List Int} {As : Option Addr} {cs : Nat} {skip : List Int}
set_option maxHeartbeats 16000000 in
set_option maxRecDepth 100000 in
theorem Next_gone (h : Pul w S x p) (hsb : ∀ k, S k → k < w.heap.size) (E : Env w S mv H Ah ch held As cs skip) (now : Int) (hct : p.count < 1000000) {f s0 t : Int} {a : Bool} (hw : p.want = some (f, s0, a, t)) (hlk : lacksB p.n p.me held skip H f s0 = false) :
    Calls Try.prog 11 #[.pointer (some ⟨x, 0, none⟩), .int .i64 now, .slice Ah held.length ch, mv, .slice As skip.length cs] w fun e w' => e = .returned (.tuple #[.agg #[.int .u8 (nextP p now held skip H).2.1, .int .u64 (nextP p now held skip H).2.2.1], .int .i64 (nextP p now held skip H).2.2.2.1, .bool (nextP p now held skip H).2.2.2.2]) ∧ Pul w' (fun k => S k ∨ w.heap.size ≤ k) x (nextP p now held skip H).1 ∧ Beside S w w' := by
  have KP : keepP p held skip H = ({ p with want := none } : Pu) := by
    unfold keepP
    rw [hw]
    dsimp only
    rw [if_neg (by rw [hlk]; decide)]
  have SEL : selP p held skip H = choP ({ p with want := none } : Pu) held skip H := by
    unfold selP
    rw [KP]
  obtain ⟨hS, hok, wp, hb, hW⟩ := h
  rw [hw] at hW
  obtain ⟨wb0, rfl, hwbS, hwbx, hwb⟩ := hW
  have HF0 := Aside0.mk (hok.want _ hw).1
  dsimp only at HF0 hwb
  have HWB := Aside0.mk hwb
  have LK := Aside0.mk hlk
  have HB := Aside0.mk hb
  have HW := Aside0.mk hw
  have OK := Aside0.mk hok
  have HS := Aside0.mk hS
  have SB := Aside0.mk hsb
  have EE := Aside0.mk E
  have HCT := Aside0.mk hct
  obtain ⟨nw, hnw⟩ : ∃ nw, nw = clN now := ⟨_, rfl⟩
  have NWB : Aside0 (0 ≤ nw ∧ nw ≤ 1099511627776) := ⟨by rw [hnw]; exact clN_ok now⟩
  obtain ⟨m1, hm1⟩ : ∃ m1 : Int, m1 = if 1099511627776 < now then 1099511627776 else now := ⟨_, rfl⟩
  have hmin : Builtin.min2 (.int .i64 now) (.int .i64 1099511627776) = pure (.int .i64 m1) := by
    rw [min2_int]
    congr 2
    rw [hm1]
  have hmax : Builtin.max2 (.int .i64 0) (.int .i64 m1) = pure (.int .i64 nw) := by
    rw [max2_int]
    congr 2
    rw [hnw, hm1]
    rfl
  have NPD : Aside0 (nextP p now held skip H = match (choP ({ p with want := none } : Pu) held skip H).want with | none => (choP ({ p with want := none } : Pu) held skip H, 0, 0, -1, false) | some q => if q.2.2.1 = true ∧ nw - q.2.2.2 < p.again then (choP ({ p with want := none } : Pu) held skip H, 0, 0, -1, false) else (askP (choP ({ p with want := none } : Pu) held skip H) q.1 q.2.1 nw skip H, q.1, q.2.1, lastOf (choP ({ p with want := none } : Pu) held skip H) q.1 q.2.1 skip H, true)) := ⟨by
    unfold nextP
    rw [SEL, hnw]
    rfl⟩
  clear hb hok hS hsb E hct hw SEL KP hm1 hnw hwb hwbS hwbx hlk
  have BB := Aside0.mk (below_alloc (Below.refl w.heap.size w) (.cells #[.int .u8 0, .int .u64 0] tID))
  have RB := Aside0.mk (blk_new w (.cells #[.int .u8 0, .int .u64 0] tID))
  go_enter Try.func11, Try.ntmps11
  go_upto_region 1 with (fail)
  obtain ⟨rc, hrc⟩ : ∃ rc, rc = w.heap.size := ⟨_, rfl⟩
  rw [← hrc] at RB ⊢
  have RCE := Aside0.mk hrc
  have RCS : Aside0 (∀ k, S k → rc ≠ k) := ⟨fun k hk e => by have h1 := SB.out k hk; omega⟩
  generalize w.alloc (.cells #[.int .u8 0, .int .u64 0] tID) = w1 at BB RB ⊢
  have X1 := Aside0.mk (blk_below HB.out BB.out)
  have hu := Try.underlying33
  have WB1 := Aside0.mk (blk_below HWB.out BB.out)
  have x3 : w1.cell? ⟨x, 3, none⟩ = some (.pointer (some ⟨wb0, 0, none⟩)) := (blk_cell X1.out 3).trans rfl
  have q0 : w1.cell? ⟨wb0, 0, none⟩ = some (.int .u8 f) := (blk_cell WB1.out 0).trans rfl
  have q1 : w1.cell? ⟨wb0, 1, none⟩ = some (.int .u64 s0) := (blk_cell WB1.out 1).trans rfl
  clear hrc HB HWB
  go_wp2_with fail
  refine (lacks_calls (n := p.n) (me := p.me) (EE.out.below BB.out) ((blk_cell X1.out 0).trans rfl) ((blk_cell X1.out 1).trans rfl) HF0.out).mono ?_
  rintro e w2 ⟨rfl, hb⟩
  rw [LK.out]
  have XK := Aside0.mk (blk_below X1.out hb)
  have RK := Aside0.mk (blk_below RB.out hb)
  have BW := Aside0.mk (Beside.of_below S (below_step BB.out hb))
  clear hb x3 q0 q1 X1 WB1 RB BB
  have x3 : w2.cell? ⟨x, 3, none⟩ = some (.pointer (some ⟨wb0, 0, none⟩)) := (blk_cell XK.out 3).trans rfl
  have u3 : w2.frozen? ⟨x, 3, none⟩ = false := blk_frozen XK.out 3
  go_upto_region 7 with (fail)
  have SG0 := Aside0.mk ((Beside.refl (fun k => k = x) w2).setCell (p := ⟨x, 3, none⟩) rfl (.pointer none))
  have XN := Aside0.mk (blk_put XK.out 3 (.pointer none) rfl)
  clear x3 u3 XK
  generalize w2.setCell ⟨x, 3, none⟩ (.pointer none) = w3 at SG0 XN ⊢
  have RK := Aside0.mk (SG0.out.blk RK.out (RCS.out x HS.out))
  have BW := Aside0.mk (BW.out.then_ SG0.out (fun k hk => by rw [hk]; exact .inl HS.out))
  clear SG0
  have PN : Aside0 (Pul w3 S x ({ p with want := none } : Pu)) := ⟨⟨HS.out, ⟨OK.out.n, OK.out.me, OK.out.again, OK.out.sender, OK.out.last, OK.out.count, fun q hq => by cases hq⟩, .pointer none, XN.out, rfl⟩⟩
  have x3 : w3.cell? ⟨x, 3, none⟩ = some (.pointer none) := (blk_cell XN.out 3).trans rfl
  go_wp2_with fail
  refine (choose_calls PN.out (EE.out.step BW.out) rfl).mono ?_
  rintro e w4 ⟨rfl, hq, hb⟩
  have RK0 := RK
  have RK := Aside0.mk (hb.blk RK.out (RCS.out x HS.out))
  have PQ := Aside0.mk hq
  have RKS := RK0
  have W3S := Aside0.mk BW.out.size
  have BW := Aside0.mk (BW.out.then_ hb (fun k hk => by rw [hk]; exact .inl HS.out))
  clear hq hb x3 XN PN
  cases hpk : pickS p.n p.me held skip H (wayL p.n p.sender) with
  | none =>
    have CHO : choP ({ p with want := none } : Pu) held skip H = ({ p with want := none } : Pu) := by
      unfold choP
      try dsimp only
      rw [hpk]
    have NP : Aside0 (nextP p now held skip H = (({ p with want := none } : Pu), 0, 0, -1, false)) := ⟨by rw [NPD.out, CHO]⟩
    rw [CHO] at PQ
    obtain ⟨hS4, hok4, wp4, hb4, hW4⟩ := PQ.out
    obtain rfl : wp4 = .pointer none := hW4
    have XK := Aside0.mk hb4
    have PF := Aside0.mk ((show Pul w4 (fun k => S k ∨ w3.heap.size ≤ k) x ({ p with want := none } : Pu) from PQ.out).mono (S' := fun k => S k ∨ w.heap.size ≤ k) (fun k hk => hk.imp id (Nat.le_trans W3S.out)))
    have x3 : w4.cell? ⟨x, 3, none⟩ = some (.pointer none) := (blk_cell XK.out 3).trans rfl
    clear NPD hpk CHO PQ hS4 hok4 hb4
    go_upto_region 10 with (fail)
    go_cut [79] (fun v79 w' => v79 = .bool true ∧ Aside0 (Below w4.heap.size w4 w'))
    case first =>
      go_quiet (fail)
      go_wp2_with fail
      go_meet
      exact ⟨rfl, ⟨pw_below_drewN (Below.refl _ _) nq⟩⟩
    case rest =>
      obtain ⟨rfl, BQ⟩ := hcut
      have RK := Aside0.mk (blk_below RK.out BQ.out)
      have BW := Aside0.mk (BW.out.then_below BQ.out)
      have PF := Aside0.mk (PF.out.below BQ.out)
      have XK := Aside0.mk (blk_below XK.out BQ.out)
      clear BQ x3
      have r0 : wc.cell? ⟨rc, 0, none⟩ = some (.int .u8 0) := (blk_cell RK.out 0).trans rfl
      have r1 : wc.cell? ⟨rc, 1, none⟩ = some (.int .u64 0) := (blk_cell RK.out 1).trans rfl
      have rf0 : wc.frozen? ⟨rc, 0, none⟩ = false := blk_frozen RK.out 0
      have rf1 : wc.frozen? ⟨rc, 1, none⟩ = false := blk_frozen RK.out 1
      have hu := Try.underlying33
      go_wp2_with fail
      refine bodyPost_ret (results_ctt rfl _ _ rc tID #[.int .u8 0, .int .u64 0] (0, 0) _ rfl (blk_put (blk_put RK.out 0 _ rfl) 1 _ rfl) Try.underlying33 rfl (by kernel_rfl)) rfl ?_
      rw [NP.out]
      have SGR := ((Beside.refl (fun k => k = rc) wc).setCell (p := ⟨rc, 0, none⟩) rfl (.int .u8 0)).setCell (p := ⟨rc, 1, none⟩) rfl (.int .u64 0)
      exact ⟨rfl, (⟨.inl HS.out, PF.out.ok, .pointer none, SGR.blk XK.out (fun e => RCS.out x HS.out e.symm), rfl⟩), BW.out.then_ SGR (fun k hk => .inr (by have h1 := RCE.out; have hk : k = rc := hk; omega))⟩
  | some yc =>
    obtain ⟨s, hs⟩ : ∃ s, s = nextS held yc := ⟨_, rfl⟩
    have CHO : choP ({ p with want := none } : Pu) held skip H = ({ p with want := some (yc, s, false, 0), sender := yc } : Pu) := by
      unfold choP
      try dsimp only
      rw [hpk, hs]
    have NP : Aside0 (nextP p now held skip H = (askP ({ p with want := some (yc, s, false, 0), sender := yc } : Pu) yc s nw skip H, yc, s, lastOf ({ p with want := some (yc, s, false, 0), sender := yc } : Pu) yc s skip H, true)) := ⟨by
      rw [NPD.out, CHO]
      dsimp only
      rw [if_neg (by rintro ⟨h, _⟩; cases h)]⟩
    rw [CHO] at PQ
    obtain ⟨hS4, hok4, wp4, hb4, hW4⟩ := PQ.out
    obtain ⟨wb, rfl, hwbS, hwbx, hwb⟩ := hW4
    have HF := Aside0.mk (hok4.want _ rfl).1
    have SDO := Aside0.mk hok4.sender
    have XK := Aside0.mk hb4
    have WK := Aside0.mk hwb
    have NWX := Aside0.mk hwbx
    have WBS : Aside0 (S wb ∨ w.heap.size ≤ wb) := ⟨hwbS.imp id (Nat.le_trans W3S.out)⟩
    have RCN : Aside0 (rc ≠ x ∧ rc ≠ wb) := ⟨RCS.out x HS.out, fun e => by
      rcases hwbS with h1 | h1
      · exact RCS.out wb h1 e
      · have h2 := blk_lt RKS.out; omega⟩
    dsimp only at HF SDO XK WK
    have x3 : w4.cell? ⟨x, 3, none⟩ = some (.pointer (some ⟨wb, 0, none⟩)) := (blk_cell XK.out 3).trans rfl
    clear NPD hpk CHO PQ hS4 hok4 hb4 hs hwbS hwbx hwb
    go_upto_region 10 with (fail)
    go_cut [79] (fun v79 w' => v79 = .bool false ∧ Aside0 (Below w4.heap.size w4 w'))
    case first =>
      have z2 : w4.cell? ⟨wb, 2, none⟩ = some (.bool false) := (blk_cell WK.out 2).trans rfl
      go_quiet (fail)
      go_wp2_with fail
      go_meet
      exact ⟨rfl, ⟨pw_below_drewN (Below.refl _ _) nq⟩⟩
    case rest =>
      obtain ⟨rfl, BQ⟩ := hcut
      have XK := Aside0.mk (blk_below XK.out BQ.out)
      have WK := Aside0.mk (blk_below WK.out BQ.out)
      have RK := Aside0.mk (blk_below RK.out BQ.out)
      have BW := Aside0.mk (BW.out.then_below BQ.out)
      clear BQ x3
      have z2 : wc.cell? ⟨wb, 2, none⟩ = some (.bool false) := (blk_cell WK.out 2).trans rfl
      have z3 : wc.cell? ⟨wb, 3, none⟩ = some (.int .i64 0) := (blk_cell WK.out 3).trans rfl
      have v2 : wc.frozen? ⟨wb, 2, none⟩ = false := blk_frozen WK.out 2
      have v3 : wc.frozen? ⟨wb, 3, none⟩ = false := blk_frozen WK.out 3
      have x6 : wc.cell? ⟨x, 6, none⟩ = some (.int .u64 p.count) := (blk_cell XK.out 6).trans rfl
      have u6 : wc.frozen? ⟨x, 6, none⟩ = false := blk_frozen XK.out 6
      have hwc : IntKind.u64.wrap (p.count + 1) = p.count + 1 := by rw [IntKind.wrap_u64]; have := OK.out.count; have := HCT.out; omega
      have nwx := NWX.out
      have nwx2 : x ≠ wb := fun e => NWX.out e.symm
      go_upto_region 14 with (fail)
      have SG : Aside0 (Beside (fun k => k = x ∨ k = wb) wc (((wc.setCell ⟨wb, 2, none⟩ (.bool true)).setCell ⟨wb, 3, none⟩ (.int .i64 nw)).setCell ⟨x, 6, none⟩ (.int .u64 (p.count + 1)))) := ⟨(((Beside.refl (fun k => k = x ∨ k = wb) wc).setCell (p := ⟨wb, 2, none⟩) (.inr rfl) (.bool true)).setCell (p := ⟨wb, 3, none⟩) (.inr rfl) (.int .i64 nw)).setCell (p := ⟨x, 6, none⟩) (.inl rfl) (.int .u64 (p.count + 1))⟩
      have X3 : Aside0 ((((wc.setCell ⟨wb, 2, none⟩ (.bool true)).setCell ⟨wb, 3, none⟩ (.int .i64 nw)).setCell ⟨x, 6, none⟩ (.int .u64 (p.count + 1))).heap[x]? = some (.cells #[.int .i64 p.n, .int .i64 p.me, .int .i64 p.again, .pointer (some ⟨wb, 0, none⟩), .int .i64 yc, .int .i64 p.last, .int .u64 (p.count + 1)] tPu (0, 0))) := ⟨blk_put (((((Beside.refl (fun k => k = wb) wc).setCell (p := ⟨wb, 2, none⟩) rfl (.bool true)).setCell (p := ⟨wb, 3, none⟩) rfl (.int .i64 nw))).blk XK.out nwx2) 6 _ rfl⟩
      have W3 : Aside0 ((((wc.setCell ⟨wb, 2, none⟩ (.bool true)).setCell ⟨wb, 3, none⟩ (.int .i64 nw)).setCell ⟨x, 6, none⟩ (.int .u64 (p.count + 1))).heap[wb]? = some (.cells #[.int .u8 yc, .int .u64 s, .bool true, .int .i64 nw] tWt (0, 0))) := ⟨((Beside.refl (fun k => k = x) _).setCell (p := ⟨x, 6, none⟩) rfl (.int .u64 (p.count + 1))).blk (blk_put (blk_put WK.out 2 _ rfl) 3 _ rfl) nwx⟩
      clear z2 z3 v2 v3 x6 u6 hwc nwx nwx2
      generalize ((wc.setCell ⟨wb, 2, none⟩ (.bool true)).setCell ⟨wb, 3, none⟩ (.int .i64 nw)).setCell ⟨x, 6, none⟩ (.int .u64 (p.count + 1)) = w3 at SG X3 W3 ⊢
      have B3 := Aside0.mk (BW.out.then_ SG.out (fun k hk => by
        rcases hk with hk | hk
        · rw [hk]; exact .inl HS.out
        · rw [hk]; exact WBS.out))
      have R3 := Aside0.mk (SG.out.blk RK.out (fun e => by
        rcases e with e | e
        · exact RCN.out.1 e
        · exact RCN.out.2 e))
      have q0 : w3.cell? ⟨wb, 0, none⟩ = some (.int .u8 yc) := (blk_cell W3.out 0).trans rfl
      have q1 : w3.cell? ⟨wb, 1, none⟩ = some (.int .u64 s) := (blk_cell W3.out 1).trans rfl
      clear SG
      go_wp2_with fail
      refine (helpers_calls (n := p.n) (me := p.me) (EE.out.step B3.out) ((blk_cell X3.out 0).trans rfl) ((blk_cell X3.out 1).trans rfl) HF.out).mono ?_
      rintro e w4 ⟨Ah4, ch4, rfl, hch4, hC4, hb⟩
      have C4 := Aside0.mk hC4
      have X4 := Aside0.mk (blk_below X3.out hb)
      have W4 := Aside0.mk (blk_below W3.out hb)
      have R4 := Aside0.mk (blk_below R3.out hb)
      have B4 := Aside0.mk (B3.out.then_below hb)
      obtain ⟨hl, hhl⟩ : ∃ hl, hl = hpL p.n p.me skip (H yc s) := ⟨_, rfl⟩
      have HHL := Aside0.mk hhl
      rw [← hhl] at C4 hch4 ⊢
      have HLL : Aside0 (hl.length ≤ 64) := ⟨by rw [hhl]; exact Nat.le_trans (List.length_filter_le _ _) (EE.out.hlen yc s)⟩
      clear hb hC4 q0 q1 X3 W3 R3 B3 hhl
      have hin : inR p.n p.last := ⟨OK.out.n.1, OK.out.n.2, OK.out.last.1, OK.out.last.2⟩
      have WE : Aside0 (ring_Way.f 200 p.n p.last [] = some (way p.n p.last [])) := ⟨by rw [way_ev _ _ _ (by simp) _ (by simp)]; rw [if_pos hin]⟩
      have WL : Aside0 ((way p.n p.last []).length ≤ 63) := ⟨by have h1 := way_len p.n p.last; have h2 := OK.out.n.2; omega⟩
      have INL := Aside0.mk (wayL_in hin)
      clear hin
      go_upto_region 15 with (fail)
      go_cut [117, 118, 119] (fun v117 v118 v119 w' => ∃ (A : Option Addr) (c : Nat), v117 = .slice A (wayL p.n p.last).length c ∧ v118 = .int .i64 (wayL p.n p.last).length ∧ v119 = .int .i64 0 ∧ Aside0 (Kd.C kI w' A (wayL p.n p.last).length (wayL p.n p.last)) ∧ Aside0 (Below w4.heap.size w4 w'))
      case first =>
        refine wp_region_held_drew (S := fun w' => Below w4.heap.size w4 w') (by kernel_rfl) (by exact below_drew (Below.refl _ _)) (fun hHeld => ?_)
        refine wpAnyH_take (i := 0) (oi := { dst := some 103, op := Op.move (Operand.tmp 0), type := 29, pos := "pull.go:77", after := #[], guard := none }) (v := ?_) rfl (by kernel_rfl) (by kernel_rfl) (by kernel_rfl) (fun _ _ _ h => h) (Or.inl ⟨by rfl, ?_⟩) (by assumption) ?_
        rotate_left
        · (intro w hSw; (try dsimp only at hSw); go_simp; try with_reducible rfl)
        simp only [Act.put, List.setIfInBounds_toArray, List.set_cons_zero, List.set_cons_succ]
        refine wpAnyH_take (i := 1) (oi := { dst := some 104, op := Op.nilCheck (Operand.tmp 103), type := 0, pos := "pull.go:77", after := #[{ on := 0, ground := Ground.data }], guard := none }) (v := ?_) rfl (by kernel_rfl) (by kernel_rfl) (by kernel_rfl) (fun _ _ _ h => h) (Or.inl ⟨by rfl, ?_⟩) (by assumption) ?_
        rotate_left
        · (intro w hSw; (try dsimp only at hSw); go_simp; try with_reducible rfl)
        simp only [Act.put, List.setIfInBounds_toArray, List.set_cons_zero, List.set_cons_succ]
        refine wpAnyH_take (i := 2) (oi := { dst := some 105, op := Op.fieldAddr 71 (Operand.tmp 104) 0, type := 0, pos := "pull.go:77", after := #[{ on := 1, ground := Ground.data }], guard := none }) (v := ?_) rfl (by kernel_rfl) (by kernel_rfl) (by kernel_rfl) (fun _ _ _ h => h) (Or.inl ⟨by rfl, ?_⟩) (by assumption) ?_
        rotate_left
        · (intro w hSw; (try dsimp only at hSw); go_simp; try with_reducible rfl)
        simp only [Act.put, List.setIfInBounds_toArray, List.set_cons_zero, List.set_cons_succ]
        refine wpAnyH_take (i := 3) (oi := { dst := some 106, op := Op.load 3 (Operand.tmp 105), type := 3, pos := "pull.go:77", after := #[{ on := 2, ground := Ground.data }], guard := none }) (v := ?_) rfl (by kernel_rfl) (by kernel_rfl) (by kernel_rfl) (fun _ _ _ h => h) (Or.inl ⟨by rfl, ?_⟩) (by assumption) ?_
        rotate_left
        · (intro w hSw; (try dsimp only at hSw); have y0 := pw_cell_below hSw ((blk_cell X4.out 0).trans rfl); go_simp; try with_reducible rfl)
        simp only [Act.put, List.setIfInBounds_toArray, List.set_cons_zero, List.set_cons_succ]
        refine wpAnyH_take (i := 4) (oi := { dst := some 107, op := Op.move (Operand.tmp 0), type := 29, pos := "pull.go:77", after := #[], guard := none }) (v := ?_) rfl (by kernel_rfl) (by kernel_rfl) (by kernel_rfl) (fun _ _ _ h => h) (Or.inl ⟨by rfl, ?_⟩) (by assumption) ?_
        rotate_left
        · (intro w hSw; (try dsimp only at hSw); go_simp; try with_reducible rfl)
        simp only [Act.put, List.setIfInBounds_toArray, List.set_cons_zero, List.set_cons_succ]
        refine wpAnyH_take (i := 5) (oi := { dst := some 108, op := Op.nilCheck (Operand.tmp 107), type := 0, pos := "pull.go:77", after := #[{ on := 4, ground := Ground.data }], guard := none }) (v := ?_) rfl (by kernel_rfl) (by kernel_rfl) (by kernel_rfl) (fun _ _ _ h => h) (Or.inl ⟨by rfl, ?_⟩) (by assumption) ?_
        rotate_left
        · (intro w hSw; (try dsimp only at hSw); go_simp; try with_reducible rfl)
        simp only [Act.put, List.setIfInBounds_toArray, List.set_cons_zero, List.set_cons_succ]
        refine wpAnyH_take (i := 6) (oi := { dst := some 109, op := Op.fieldAddr 71 (Operand.tmp 108) 5, type := 0, pos := "pull.go:77", after := #[{ on := 5, ground := Ground.data }], guard := none }) (v := ?_) rfl (by kernel_rfl) (by kernel_rfl) (by kernel_rfl) (fun _ _ _ h => h) (Or.inl ⟨by rfl, ?_⟩) (by assumption) ?_
        rotate_left
        · (intro w hSw; (try dsimp only at hSw); go_simp; try with_reducible rfl)
        simp only [Act.put, List.setIfInBounds_toArray, List.set_cons_zero, List.set_cons_succ]
        refine wpAnyH_take (i := 7) (oi := { dst := some 110, op := Op.load 3 (Operand.tmp 109), type := 3, pos := "pull.go:77", after := #[{ on := 6, ground := Ground.data }], guard := none }) (v := ?_) rfl (by kernel_rfl) (by kernel_rfl) (by kernel_rfl) (fun _ _ _ h => h) (Or.inl ⟨by rfl, ?_⟩) (by assumption) ?_
        rotate_left
        · (intro w hSw; (try dsimp only at hSw); have y5 := pw_cell_below hSw ((blk_cell X4.out 5).trans rfl); go_simp; try with_reducible rfl)
        simp only [Act.put, List.setIfInBounds_toArray, List.set_cons_zero, List.set_cons_succ]
        refine wpAnyH_take (i := 9) (oi := { dst := some 112, op := Op.move (Operand.tmp 0), type := 29, pos := "pull.go:77", after := #[], guard := none }) (v := ?_) rfl (by kernel_rfl) (by kernel_rfl) (by kernel_rfl) (fun _ _ _ h => h) (Or.inl ⟨by rfl, ?_⟩) (by assumption) ?_
        rotate_left
        · (intro w hSw; (try dsimp only at hSw); go_simp; try with_reducible rfl)
        simp only [Act.put, List.setIfInBounds_toArray, List.set_cons_zero, List.set_cons_succ]
        refine wpAnyH_take (i := 10) (oi := { dst := some 113, op := Op.nilCheck (Operand.tmp 112), type := 0, pos := "pull.go:77", after := #[{ on := 9, ground := Ground.data }], guard := none }) (v := ?_) rfl (by kernel_rfl) (by kernel_rfl) (by kernel_rfl) (fun _ _ _ h => h) (Or.inl ⟨by rfl, ?_⟩) (by assumption) ?_
        rotate_left
        · (intro w hSw; (try dsimp only at hSw); go_simp; try with_reducible rfl)
        simp only [Act.put, List.setIfInBounds_toArray, List.set_cons_zero, List.set_cons_succ]
        refine wpAnyH_take (i := 11) (oi := { dst := some 114, op := Op.fieldAddr 71 (Operand.tmp 113) 5, type := 0, pos := "pull.go:77", after := #[{ on := 10, ground := Ground.data }], guard := none }) (v := ?_) rfl (by kernel_rfl) (by kernel_rfl) (by kernel_rfl) (fun _ _ _ h => h) (Or.inl ⟨by rfl, ?_⟩) (by assumption) ?_
        rotate_left
        · (intro w hSw; (try dsimp only at hSw); go_simp; try with_reducible rfl)
        simp only [Act.put, List.setIfInBounds_toArray, List.set_cons_zero, List.set_cons_succ]
        refine wpAnyH_take (i := 12) (oi := { dst := some 115, op := Op.load 3 (Operand.tmp 114), type := 3, pos := "pull.go:77", after := #[{ on := 11, ground := Ground.data }], guard := none }) (v := ?_) rfl (by kernel_rfl) (by kernel_rfl) (by kernel_rfl) (fun _ _ _ h => h) (Or.inl ⟨by rfl, ?_⟩) (by assumption) ?_
        rotate_left
        · (intro w hSw; (try dsimp only at hSw); have y5 := pw_cell_below hSw ((blk_cell X4.out 5).trans rfl); go_simp; try with_reducible rfl)
        simp only [Act.put, List.setIfInBounds_toArray, List.set_cons_zero, List.set_cons_succ]
        refine wpAnyH_take (i := 16) (oi := { dst := some 119, op := Op.move (Operand.const (Value.int IntKind.i64 0)), type := 3, pos := "pull.go:77", after := #[], guard := none }) (v := ?_) rfl (by kernel_rfl) (by kernel_rfl) (by kernel_rfl) (fun _ _ _ h => h) (Or.inl ⟨by rfl, ?_⟩) (by assumption) ?_
        rotate_left
        · (intro w hSw; (try dsimp only at hSw); go_simp; try with_reducible rfl)
        simp only [Act.put, List.setIfInBounds_toArray, List.set_cons_zero, List.set_cons_succ]
        refine wpAnyH_ready (rs := [8, 13]) (by kernel_rfl) (by simp) ?_
        refine AllReadyH.cons (o := { dst := some 111, op := Op.call { callee := Callee.value (Operand.func 28), args := #[Operand.tmp 106, Operand.tmp 110, Operand.const (Value.slice none 0 0)], argTypes := #[3, 3, 31] }, type := 31, pos := "pull.go:77", after := #[{ on := 3, ground := Ground.data }, { on := 7, ground := Ground.data }], guard := none }) rfl (fun K hK => ?_) (AllReadyH.cons (o := { dst := some 116, op := Op.buildSlice 31 1 #[(0, Operand.tmp 115)], type := 31, pos := "pull.go:77", after := #[{ on := 12, ground := Ground.data }], guard := none }) rfl (fun K hK => ?_) AllReadyH.nil)
        · go_simp
          go_at_call 28
          refine (ring_Way.calls 200 (p.n) (p.last) none 0 [] (way (p.n) (p.last) []) _ (Kd.C_nil _ _) (Nat.le_refl _) WE.out).mono ?_
          rintro e wa ⟨v1, rfl, hR1, hb0⟩
          obtain ⟨Aw, cw, rfl⟩ := Kd.R_slice hR1
          have RW := Aside0.mk (Kd.R_lower hR1 hHeld.size)
          have HBW := Aside0.mk hb0
          clear hR1
          try go_wp2_with fail
          refine hK.out _ _ (below_step hHeld hb0) (fun hHeld => ?_)
          clear hK K
          try simp only [Act.put, List.setIfInBounds_toArray, List.set_cons_zero, List.set_cons_succ]
          refine wpAnyH_ready (rs := [13]) (by kernel_rfl) (by simp) ?_
          refine AllReadyH.cons (o := { dst := some 116, op := Op.buildSlice 31 1 #[(0, Operand.tmp 115)], type := 31, pos := "pull.go:77", after := #[{ on := 12, ground := Ground.data }], guard := none }) rfl (fun K hK => ?_) AllReadyH.nil
          go_simp
          refine hK.out _ _ (below_step hHeld (below_alloc (Below.refl _ _) _)) (fun hHeld => ?_)
          clear hK K
          try simp only [Act.put, List.setIfInBounds_toArray, List.set_cons_zero, List.set_cons_succ]
          refine wpAnyH_ready (rs := [14]) (by kernel_rfl) (by simp) ?_
          refine AllReadyH.cons (o := { dst := some 117, op := Op.call { callee := Callee.builtin Builtin.append, args := #[Operand.tmp 111, Operand.tmp 116], argTypes := #[31, 31] }, type := 31, pos := "pull.go:77", after := #[{ on := 8, ground := Ground.data }, { on := 13, ground := Ground.data }, { on := 8, ground := Ground.chain }], guard := none }) rfl (fun K hK => ?_) AllReadyH.nil
          skip
          refine Kd.R_append_rows_step kI (w0 := w4) w4.heap.size (by rfl) (.tmp 111) (.tmp 116) 31 tI64 (.int .i64 0) 8 rfl Try.underlying31 infoI64 rfl (by decide) (by decide) (.slice Aw (way (p.n) (p.last) []).length cw) (way (p.n) (p.last) []) [(p.last)] _ 1 1 (fun _ => True) (fun _ => False) rfl rfl (by first | exact RW.out | exact Kd.R_alloc RW.out _) (by first | exact one_I (blk_new wa _) | exact one_I (blk_below (blk_drew (blk_new _ _)) HBW.out) | exact one_I (blk_below (blk_new _ _) HBW.out)) (fun _ _ h => h) (fun _ h => h.elim) (fun _ _ => trivial) hHeld hHeld.size (by have := WL.out; omega) ?_
          intro v2 wb ho hb hg hat
          obtain ⟨Av, cv, rfl⟩ := Kd.R_slice ho
          have RO := Aside0.mk (Kd.R_reads' ho).2.2
          clear ho hg hat
          refine hK.out _ _ hb (fun hHeld => ?_)
          clear hK K
          try simp only [Act.put, List.setIfInBounds_toArray, List.set_cons_zero, List.set_cons_succ]
          refine wpAnyH_take (i := 15) (oi := { dst := some 118, op := Op.call { callee := Callee.builtin Builtin.len, args := #[Operand.tmp 117], argTypes := #[31] }, type := 3, pos := "pull.go:77", after := #[{ on := 14, ground := Ground.data }], guard := none }) (v := ?_) rfl (by kernel_rfl) (by kernel_rfl) (by kernel_rfl) (fun _ _ _ h => h) (Or.inl ⟨by rfl, ?_⟩) (by assumption) ?_
          rotate_left
          · (intro w hSw; (try dsimp only at hSw); go_simp; try with_reducible rfl)
          simp only [Act.put, List.setIfInBounds_toArray, List.set_cons_zero, List.set_cons_succ]
          refine wpAnyH_done (by kernel_rfl) ?_ _
          go_wp2_with fail
          go_meet
          exact ⟨Av, cv, rfl, by simp [wayL], rfl, RO, ⟨hHeld⟩⟩
        · go_simp
          refine hK.out _ _ (below_step hHeld (below_alloc (Below.refl _ _) _)) (fun hHeld => ?_)
          clear hK K
          try simp only [Act.put, List.setIfInBounds_toArray, List.set_cons_zero, List.set_cons_succ]
          refine wpAnyH_ready (rs := [8]) (by kernel_rfl) (by simp) ?_
          refine AllReadyH.cons (o := { dst := some 111, op := Op.call { callee := Callee.value (Operand.func 28), args := #[Operand.tmp 106, Operand.tmp 110, Operand.const (Value.slice none 0 0)], argTypes := #[3, 3, 31] }, type := 31, pos := "pull.go:77", after := #[{ on := 3, ground := Ground.data }, { on := 7, ground := Ground.data }], guard := none }) rfl (fun K hK => ?_) AllReadyH.nil
          go_simp
          go_at_call 28
          refine (ring_Way.calls 200 (p.n) (p.last) none 0 [] (way (p.n) (p.last) []) _ (Kd.C_nil _ _) (Nat.le_refl _) WE.out).mono ?_
          rintro e wa ⟨v1, rfl, hR1, hb0⟩
          obtain ⟨Aw, cw, rfl⟩ := Kd.R_slice hR1
          have RW := Aside0.mk (Kd.R_lower hR1 hHeld.size)
          have HBW := Aside0.mk hb0
          clear hR1
          try go_wp2_with fail
          refine hK.out _ _ (below_step hHeld hb0) (fun hHeld => ?_)
          clear hK K
          try simp only [Act.put, List.setIfInBounds_toArray, List.set_cons_zero, List.set_cons_succ]
          refine wpAnyH_ready (rs := [14]) (by kernel_rfl) (by simp) ?_
          refine AllReadyH.cons (o := { dst := some 117, op := Op.call { callee := Callee.builtin Builtin.append, args := #[Operand.tmp 111, Operand.tmp 116], argTypes := #[31, 31] }, type := 31, pos := "pull.go:77", after := #[{ on := 8, ground := Ground.data }, { on := 13, ground := Ground.data }, { on := 8, ground := Ground.chain }], guard := none }) rfl (fun K hK => ?_) AllReadyH.nil
          skip
          refine Kd.R_append_rows_step kI (w0 := w4) w4.heap.size (by rfl) (.tmp 111) (.tmp 116) 31 tI64 (.int .i64 0) 8 rfl Try.underlying31 infoI64 rfl (by decide) (by decide) (.slice Aw (way (p.n) (p.last) []).length cw) (way (p.n) (p.last) []) [(p.last)] _ 1 1 (fun _ => True) (fun _ => False) rfl rfl (by first | exact RW.out | exact Kd.R_alloc RW.out _) (by first | exact one_I (blk_new wa _) | exact one_I (blk_below (blk_drew (blk_new _ _)) HBW.out) | exact one_I (blk_below (blk_new _ _) HBW.out)) (fun _ _ h => h) (fun _ h => h.elim) (fun _ _ => trivial) hHeld hHeld.size (by have := WL.out; omega) ?_
          intro v2 wb ho hb hg hat
          obtain ⟨Av, cv, rfl⟩ := Kd.R_slice ho
          have RO := Aside0.mk (Kd.R_reads' ho).2.2
          clear ho hg hat
          refine hK.out _ _ hb (fun hHeld => ?_)
          clear hK K
          try simp only [Act.put, List.setIfInBounds_toArray, List.set_cons_zero, List.set_cons_succ]
          refine wpAnyH_take (i := 15) (oi := { dst := some 118, op := Op.call { callee := Callee.builtin Builtin.len, args := #[Operand.tmp 117], argTypes := #[31] }, type := 3, pos := "pull.go:77", after := #[{ on := 14, ground := Ground.data }], guard := none }) (v := ?_) rfl (by kernel_rfl) (by kernel_rfl) (by kernel_rfl) (fun _ _ _ h => h) (Or.inl ⟨by rfl, ?_⟩) (by assumption) ?_
          rotate_left
          · (intro w hSw; (try dsimp only at hSw); go_simp; try with_reducible rfl)
          simp only [Act.put, List.setIfInBounds_toArray, List.set_cons_zero, List.set_cons_succ]
          refine wpAnyH_done (by kernel_rfl) ?_ _
          go_wp2_with fail
          go_meet
          exact ⟨Av, cv, rfl, by simp [wayL], rfl, RO, ⟨hHeld⟩⟩
      case rest =>
        obtain ⟨Al, cl, rfl, rfl, rfl, RO, BC⟩ := hcut
        have WLL : Aside0 ((wayL p.n p.last).length ≤ 64) := ⟨by unfold wayL; rw [List.length_append]; have := WL.out; simp; omega⟩
        obtain ⟨l, hl2⟩ : ∃ l, l = wayL p.n p.last := ⟨_, rfl⟩
        have LEQ := Aside0.mk hl2
        rw [← hl2] at RO WLL INL ⊢
        clear hl2 WE WL
        go_wp2_with fail
        go_loopg [119] l.length (fun gg s119 wr => ∃ i : Nat, s119 = .int .i64 i ∧ i ≤ l.length ∧ l.length - i ≤ gg ∧ Aside0 (Below w4.heap.size w4 wr) ∧ Aside0 (Below wc.heap.size wc wr) ∧ Aside0 (l.find? (fun y => decide (y ∈ hl)) = (l.drop i).find? (fun y => decide (y ∈ hl))))
        case atStart => exact ⟨0, rfl, Nat.zero_le _, by omega, BC, ⟨Below.refl _ _⟩, ⟨rfl⟩⟩
        case round =>
          obtain ⟨i, rfl, hi, hgg, BR, BCC, PK⟩ := hrel
          by_cases hlt : i < l.length
          · have hltz : (i : Int) < (l.length : Int) := by omega
            have hwi : IntKind.i64.wrap ((i : Int) + 1) = ((i + 1 : Nat) : Int) := by rw [IntKind.wrap_i64]; have := WLL.out; omega
            obtain ⟨ad, cc, e, hcl, hKK, hcc⟩ := Kd.C_get (Kd.C_below RO.out BCC.out) 0 (i : Int) (by omega) hltz
            cases e
            have e1 : l.getD ((i : Int)).toNat 0 = l[i] := by simp [List.getD, hlt]
            rw [e1] at hKK
            rw [Int.toNat_natCast] at hcc
            have hs := INL.out l[i] (List.getElem_mem hlt)
            have hd : l.drop i = l[i] :: l.drop (i + 1) := List.drop_eq_getElem_cons hlt
            generalize l[i] = y at hKK hs hd
            have hKK : cc = [.int .i64 y] := hKK
            subst hKK
            have k0 : wr.cell? (ad.add i) = some (.int .i64 y) := by
              have := hcc 0 _ rfl
              rwa [show i * (Kd.int .i64).sz + 0 = i from Nat.mul_one _] at this
            have YS := Aside0.mk hs
            have PK2 : Aside0 ((l.drop i).find? (fun y => decide (y ∈ hl)) = if y ∈ hl then some y else (l.drop (i + 1)).find? (fun y => decide (y ∈ hl))) := ⟨by
              rw [hd, List.find?_cons]
              by_cases hy : y ∈ hl <;> simp [hy]⟩
            clear hcl hcc hd e1 hs
            go_wp2_with fail
            refine (slices_Contains_int_int.calls (hl.length + 1) Ah4 ch4 hl y _ _ (Kd.C_below C4.out BR.out) hch4 (contains_ev hl y (by have := HLL.out; omega) (hl.length + 1) (by omega))).mono ?_
            rintro e w5 ⟨rfl, hd⟩
            have B5 := Aside0.mk (below_step BR.out hd.below)
            have C5 := Aside0.mk (below_step BCC.out hd.below)
            clear hd k0 BR BCC
            by_cases hy : y ∈ hl
            · have hyd : decide (y ∈ hl) = true := decide_eq_true hy
              have FND : Aside0 (l.find? (fun y => decide (y ∈ hl)) = some y) := ⟨by rw [PK.out, PK2.out, if_pos hy]⟩
              have X5 := Aside0.mk (blk_below X4.out B5.out)
              have x5 : w5.cell? ⟨x, 5, none⟩ = some (.int .i64 p.last) := (blk_cell X5.out 5).trans rfl
              have u5 : w5.frozen? ⟨x, 5, none⟩ = false := blk_frozen X5.out 5
              clear hy PK PK2
              go_upto_region 21 with (fail)
              have SG := Aside0.mk ((Beside.refl (fun k => k = x) w5).setCell (p := ⟨x, 5, none⟩) rfl (.int .i64 y))
              have X6 := Aside0.mk (blk_put X5.out 5 (.int .i64 y) rfl)
              clear x5 u5
              generalize w5.setCell ⟨x, 5, none⟩ (.int .i64 y) = w6 at SG X6 ⊢
              have W6 := Aside0.mk (SG.out.blk (blk_below W4.out B5.out) NWX.out)
              have R6 := Aside0.mk (SG.out.blk (blk_below R4.out B5.out) RCN.out.1)
              have B6 := Aside0.mk ((B4.out.then_below B5.out).then_ SG.out (fun k hk => by rw [hk]; exact .inl HS.out))
              have j0 : w6.cell? ⟨wb, 0, none⟩ = some (.int .u8 yc) := (blk_cell W6.out 0).trans rfl
              have j1 : w6.cell? ⟨wb, 1, none⟩ = some (.int .u64 s) := (blk_cell W6.out 1).trans rfl
              have j5 : w6.cell? ⟨x, 5, none⟩ = some (.int .i64 y) := (blk_cell X6.out 5).trans rfl
              have r0 : w6.cell? ⟨rc, 0, none⟩ = some (.int .u8 0) := (blk_cell R6.out 0).trans rfl
              have r1 : w6.cell? ⟨rc, 1, none⟩ = some (.int .u64 0) := (blk_cell R6.out 1).trans rfl
              have rf0 : w6.frozen? ⟨rc, 0, none⟩ = false := blk_frozen R6.out 0
              have rf1 : w6.frozen? ⟨rc, 1, none⟩ = false := blk_frozen R6.out 1
              go_region
              go_wp2_with fail
              refine bodyPost_ret (results_ctt rfl _ _ rc tID #[.int .u8 yc, .int .u64 s] (0, 0) _ rfl (blk_drew (blk_put (blk_put R6.out 0 _ rfl) 1 _ rfl)) Try.underlying33 rfl (by kernel_rfl)) rfl ?_
              rw [NP.out]
              have LE : lastOf ({ p with want := some (yc, s, false, 0), sender := yc } : Pu) yc s skip H = y := by
                show (((wayL p.n p.last).find? (fun y => decide (y ∈ hpL p.n p.me skip (H yc s)))).getD p.last) = y
                rw [← LEQ.out, ← HHL.out, FND.out]
                rfl
              have SGR := (((Beside.refl (fun k => k = rc) w6).setCell (p := ⟨rc, 0, none⟩) rfl (.int .u8 yc)).setCell (p := ⟨rc, 1, none⟩) rfl (.int .u64 s)).drew
              refine ⟨by dsimp only; rw [LE]; rfl, ⟨.inl HS.out, ⟨OK.out.n, OK.out.me, OK.out.again, SDO.out, by show 0 ≤ lastOf ({ p with want := some (yc, s, false, 0), sender := yc } : Pu) yc s skip H ∧ lastOf ({ p with want := some (yc, s, false, 0), sender := yc } : Pu) yc s skip H < p.n; rw [LE]; exact YS.out, ⟨by show 0 ≤ p.count + 1; have := OK.out.count; omega, by show p.count + 1 ≤ 1000000; have := HCT.out; omega⟩, fun y hy => by cases hy; exact ⟨HF.out, NWB.out⟩⟩, .pointer (some ⟨wb, 0, none⟩), ?_, ⟨wb, rfl, WBS.out, NWX.out, SGR.blk W6.out (fun e => RCN.out.2 e.symm)⟩⟩, ?_⟩
              · have h6 := SGR.blk X6.out (fun e => RCN.out.1 e.symm)
                show _ = some (Obj.cells #[.int .i64 p.n, .int .i64 p.me, .int .i64 p.again, .pointer (some ⟨wb, 0, none⟩), .int .i64 yc, .int .i64 (lastOf ({ p with want := some (yc, s, false, 0), sender := yc } : Pu) yc s skip H), .int .u64 (p.count + 1)] tPu (0, 0))
                rw [LE]
                exact h6
              · exact B6.out.then_ SGR (fun k hk => .inr (by have h1 := RCE.out; have hk : k = rc := hk; omega))
            · have hyd : decide (y ∈ hl) = false := decide_eq_false hy
              have PK3 : Aside0 (l.find? (fun y => decide (y ∈ hl)) = (l.drop (i + 1)).find? (fun y => decide (y ∈ hl))) := ⟨by rw [PK.out, PK2.out, if_neg hy]⟩
              clear hy PK PK2
              go_wp2_with fail
              go_roundg (l.length - (i + 1))
              case measure => omega
              case rel => exact ⟨i + 1, by go_num, by omega, Nat.le_refl _, B5, C5, PK3⟩
          · obtain rfl : i = l.length := by omega
            have hltz : ¬ (l.length : Int) < (l.length : Int) := by omega
            have FND : Aside0 (l.find? (fun y => decide (y ∈ hl)) = none) := ⟨by rw [PK.out, List.drop_length]; rfl⟩
            have X6 := Aside0.mk (blk_below X4.out BR.out)
            have W6 := Aside0.mk (blk_below W4.out BR.out)
            have R6 := Aside0.mk (blk_below R4.out BR.out)
            have B6 := Aside0.mk (B4.out.then_below BR.out)
            go_upto_region 21 with (fail)
            have j0 : wr.cell? ⟨wb, 0, none⟩ = some (.int .u8 yc) := (blk_cell W6.out 0).trans rfl
            have j1 : wr.cell? ⟨wb, 1, none⟩ = some (.int .u64 s) := (blk_cell W6.out 1).trans rfl
            have j5 : wr.cell? ⟨x, 5, none⟩ = some (.int .i64 p.last) := (blk_cell X6.out 5).trans rfl
            have r0 : wr.cell? ⟨rc, 0, none⟩ = some (.int .u8 0) := (blk_cell R6.out 0).trans rfl
            have r1 : wr.cell? ⟨rc, 1, none⟩ = some (.int .u64 0) := (blk_cell R6.out 1).trans rfl
            have rf0 : wr.frozen? ⟨rc, 0, none⟩ = false := blk_frozen R6.out 0
            have rf1 : wr.frozen? ⟨rc, 1, none⟩ = false := blk_frozen R6.out 1
            go_region
            go_wp2_with fail
            refine bodyPost_ret (results_ctt rfl _ _ rc tID #[.int .u8 yc, .int .u64 s] (0, 0) _ rfl (blk_drew (blk_put (blk_put R6.out 0 _ rfl) 1 _ rfl)) Try.underlying33 rfl (by kernel_rfl)) rfl ?_
            rw [NP.out]
            have LE : lastOf ({ p with want := some (yc, s, false, 0), sender := yc } : Pu) yc s skip H = p.last := by
              show (((wayL p.n p.last).find? (fun y => decide (y ∈ hpL p.n p.me skip (H yc s)))).getD p.last) = p.last
              rw [← LEQ.out, ← HHL.out, FND.out]
              rfl
            have SGR := (((Beside.refl (fun k => k = rc) wr).setCell (p := ⟨rc, 0, none⟩) rfl (.int .u8 yc)).setCell (p := ⟨rc, 1, none⟩) rfl (.int .u64 s)).drew
            refine ⟨by dsimp only; rw [LE]; rfl, ⟨.inl HS.out, ⟨OK.out.n, OK.out.me, OK.out.again, SDO.out, by show 0 ≤ lastOf ({ p with want := some (yc, s, false, 0), sender := yc } : Pu) yc s skip H ∧ lastOf ({ p with want := some (yc, s, false, 0), sender := yc } : Pu) yc s skip H < p.n; rw [LE]; exact OK.out.last, ⟨by show 0 ≤ p.count + 1; have := OK.out.count; omega, by show p.count + 1 ≤ 1000000; have := HCT.out; omega⟩, fun y hy => by cases hy; exact ⟨HF.out, NWB.out⟩⟩, .pointer (some ⟨wb, 0, none⟩), ?_, ⟨wb, rfl, WBS.out, NWX.out, SGR.blk W6.out (fun e => RCN.out.2 e.symm)⟩⟩, ?_⟩
            · have h6 := SGR.blk X6.out (fun e => RCN.out.1 e.symm)
              show _ = some (Obj.cells #[.int .i64 p.n, .int .i64 p.me, .int .i64 p.again, .pointer (some ⟨wb, 0, none⟩), .int .i64 yc, .int .i64 (lastOf ({ p with want := some (yc, s, false, 0), sender := yc } : Pu) yc s skip H), .int .u64 (p.count + 1)] tPu (0, 0))
              rw [LE]
              exact h6
            · exact B6.out.then_ SGR (fun k hk => .inr (by have h1 := RCE.out; have hk : k = rc := hk; omega))
end

end Go.Proofs.Ytncofecfljocgaa.Walk
