/- Any row of acts is answered, and leaves what waits, as the document says. Conditions: none beyond the statement's own. -/
import Derived.Test.YtdeknknefjepnaaWalkPlaysL
import Derived.Test.YtdeknknefjepnaaWalkSlideNil
import Derived.Test.YtdeknknefjepnaaArgs
import Derived.Deep.QuietTactic
import Derived.BigQuiet
import Derived.Lib.QuietBelow
import Derived.Outline
import Derived.Deep.RegionHeld3
import Derived.Deep.CutRange
namespace Go.Proofs.Ytdeknknefjepnaa.Walk
open Go.RowKit Go.Proofs.Ytdeknknefjepnaa.F Go.Proofs.YtdeknknefjepnaaW.PrintWords Go.Proofs.YtdeknknefjepnaaW.PrintLast Go.Proofs.YtdeknknefjepnaaW.PrintMore Go.Proofs.Ytdeknknefjepnaa.Open
open Go.Sort (grow)
attribute [local go_sem] max2_int min2_int max_two min_two max_three min_three max_four min_four
set_option linter.unusedVariables false
set_option linter.unusedSimpArgs false

/-! ### The law: any row of acts -/
set_option maxHeartbeats 8000000 in
set_option maxRecDepth 100000 in
theorem SlidePlays (a0 : Int) (A1 : Option Addr) (c1 : Nat) (l1 : List S45) (a2 a3 : Int) (w : World) (hr1 : Kd.C k45 w A1 l1.length l1) (hc1 : l1.length ≤ c1)
    (w0 : (Lit.int .i64 a0).wf = true) (w1 : l1.length ≤ maxLen ∧ ∀ x ∈ l1, wf45 x) (w2 : (Lit.int .u64 a2).wf = true) (w3 : (Lit.int .i64 a3).wf = true) :
    Calls Try.prog 4 #[.int .i64 a0, .slice A1 l1.length c1, .int .u64 a2, .int .i64 a3] w fun e w' => e = .returned (.bool true) ∧ Below w.heap.size w w' := by
  have HR := Aside0.mk hr1
  have HN : Aside0 (∀ x ∈ l1, fnum x.f1 ∧ 0 ≤ x.f2 ∧ x.f2 < 18446744073709551616) := ⟨fun x hx => by
    obtain ⟨_, h2, h3⟩ := w1.2 x hx
    refine ⟨⟨fun y hy => ?_, fun y hy => ?_⟩, ?_⟩
    · have := h2.2.2.2.2.2.2.2.2.2.2.1.2 y hy
      simp [Lit.wf, IntKind.min, IntKind.max, IntKind.signed, IntKind.bits] at this
      omega
    · have := h2.2.2.2.2.2.2.2.2.2.2.2.1.2 y hy
      simp [Lit.wf, IntKind.min, IntKind.max, IntKind.signed, IntKind.bits] at this
      omega
    · simp [Lit.wf, IntKind.min, IntKind.max, IntKind.signed, IntKind.bits] at h3
      omega⟩
  have H2 : Aside0 (0 ≤ a2 ∧ a2 < 18446744073709551616) := ⟨by
    simp [Lit.wf, IntKind.min, IntKind.max, IntKind.signed, IntKind.bits] at w2
    omega⟩
  clear w0 w1 w2 w3 hr1 hc1
  by_cases hl : (100 : Int) < l1.length
  · have hl' : decide ((100 : Int) < l1.length) = true := decide_eq_true hl
    go_enter Try.func4, Try.ntmps4
    go_wp2_with fail
    refine (awake_calls _).mono ?_
    rintro e w1 ⟨rfl, hb⟩
    have B1 := Aside0.mk hb
    clear hb
    go_wp2_with fail
    go_ret
    exact ⟨rfl, B1.out⟩
  · have hl' : decide ((100 : Int) < l1.length) = false := decide_eq_false hl
    go_enter Try.func4, Try.ntmps4
    go_wp2_with fail
    refine (New_calls a0 _).mono ?_
    rintro e w1 ⟨g, rfl, hge, hW, hb⟩
    have W1 := Aside0.mk hW.bound
    have B1 := Aside0.mk hb
    clear hge hW hb
    go_wp2_with fail
    refine (unisonref08_New.calls a0 _ _ _ _ (new_f a0)).mono ?_
    rintro e w2 ⟨v1, rfl, ho, hb⟩
    obtain ⟨A, c, rfl⟩ := Kd.S_slice ho
    have G0 : Aside0 (∃ S Q, SW w (w2.alloc (.cells #[.int .i64 (wid a0), .slice A 0 c, .int .u64 0] tRW)) S Q g w2.heap.size (wid a0) 0 [] A c) := ⟨by
      have hz1 := B1.out.size
      have hz2 := hb.size
      have hal := below_alloc (Below.refl w2.heap.size w2) (.cells #[.int .i64 (wid a0), .slice A 0 c, .int .u64 0] tRW)
      refine ⟨(fun k => w.heap.size ≤ k ∧ k < w1.heap.size), (fun k => w1.heap.size ≤ k ∧ k < w2.heap.size), ?_⟩
      refine ⟨(W1.out.below hb).below hal, ⟨?_, by simp, blk_new w2 _, fun h => absurd h.2 (Nat.lt_irrefl _), fun k hk => by have := hk.2; simp; omega⟩, fun k h1 h2 => by have := h1.2; have := h2.1; omega, fun h => by have := h.2; omega, fun k hk => ⟨hk.1, by have := hk.2; simp; omega⟩, by omega, sq_nil _, fun x hx => absurd hx List.not_mem_nil, below_step (below_step B1.out hb) hal, by omega⟩
      exact Kd.F_below (Kd.F_mono (Kd.V_F (Kd.V_mono (Kd.S_V (base' := 0) (Kd.S_bound ho)) (fun k hk => ⟨hk.2.1, hk.2.2.1⟩))) (fun k hk => hk)) hal⟩
    clear W1 B1 ho hb
    go_wp2_with fail
    have L100 : l1.length ≤ 100 := by omega
    generalize w2.alloc (.cells #[.int .i64 (wid a0), .slice A 0 c, .int .u64 0] tRW) = w3 at *
    generalize w2.heap.size = mb at *
    obtain ⟨n, hn⟩ : ∃ q, q = wid a0 := ⟨_, rfl⟩
    rw [← hn] at G0
    clear hn
    go_loopg [11] l1.length (fun kq v11 w' => ∃ (j : Nat) (S Q : Nat → Prop) (last : Int) (L : List Fr) (A : Option Addr) (c : Nat), v11 = .int .i64 j ∧ j ≤ l1.length ∧ l1.length ≤ kq + j ∧ Aside0 (last ≤ j) ∧ Aside0 (SW w w' S Q g mb n last L A c))
    case atStart => obtain ⟨S, Q, h⟩ := G0.out; exact ⟨0, S, Q, 0, [], A, c, rfl, by omega, by omega, ⟨by simp⟩, ⟨h⟩⟩
    case round =>
      clear G0
      obtain ⟨j, S, Q, last, L, A, c, rfl, hj, hkj, LJ, G⟩ := hrel
      by_cases hlt : j < l1.length
      · have hlt' : decide ((j : Int) < l1.length) = true := decide_eq_true (by omega)
        have p_ : (0 ≤ (j : Int)) = True := eq_true (by omega)
        have q_ : ((j : Int) < (l1.length : Int)) = True := eq_true (by omega)
        obtain ⟨y, ad, XL, hy, ead, hX, hcl⟩ := act_at HR.out j (by omega)
        cases ead
        have HX := Aside0.mk (HN.out y (List.mem_of_getElem? hy))
        obtain ⟨ya, x, yn⟩ := y
        dsimp only at hX hcl HX
        obtain ⟨bg, hbg, hgr⟩ := Great_X hX
        have HXX := Aside0.mk hX
        have XLL := Aside0.mk (K_len16 hX)
        obtain ⟨AL, hAL⟩ : ∃ q, q = [Value.bool ya] ++ (XL ++ [Value.int .u64 yn]) := ⟨_, rfl⟩
        rw [← hAL] at hcl
        have ALE := Aside0.mk hAL
        have ALL : Aside0 (AL.length = 18) := ⟨by rw [hAL]; simp [XLL.out]⟩
        have AL1 : Aside0 (∀ u ∈ AL, u.oneCell' = true) := ⟨fun u hu => by
          rw [hAL] at hu
          rcases List.mem_append.1 hu with h | h
          · rw [List.mem_singleton.1 h]; rfl
          · rcases List.mem_append.1 h with h | h
            · exact kF.K_one hX u h
            · rw [List.mem_singleton.1 h]; rfl⟩
        have HCL : Aside0 (∀ i v, AL[i]? = some v → wr.cell? ((ad.add (j * 18)).add i) = some v) := ⟨fun i v hv => pw_cell_below G.out.below (hcl i v hv)⟩
        have HBG := Aside0.mk hbg
        have HGR := Aside0.mk hgr
        clear hX hcl hy hAL hbg hgr
        go_upto_region 8 with (first
          | ((with_reducible refine gate_dst (N := 34) rfl ?_); refine load_any rfl 45 (.tmp 33) rfl (ad.add (j * 18)) rfl AL _ HCL.out Try.underlying45 rfl (by rw [ALL.out]; kernel_rfl) ?_)
          | ((with_reducible refine gate_store (t := 45) (p := 12) (v := .tmp 34) rfl ?_); refine fill_box rfl 45 (.tmp 12) (.tmp 34) rfl _ AL.toArray 45 rfl rfl (by simp [ALL.out]) (by rw [show AL.toArray.size = 18 by simp [ALL.out]]; kernel_rfl) (by simpa using AL1.out) ?_; intro w5 hb5 hB5 hz5; have AB := Aside0.mk hb5; have B5 := Aside0.mk hB5; clear hb5 hB5 hz5))
        obtain ⟨ab, hab⟩ : ∃ q, q = wr.heap.size := ⟨_, rfl⟩
        rw [← hab] at AB ⊢
        have NE : Aside0 (ab ≠ mb) := ⟨by have := blk_lt G.out.rb.blk; omega⟩
        clear hab
        have G5 := Aside0.mk (G.out.step B5.out)
        have BX := Aside0.mk (box_act AB.out ALE.out XLL.out).1
        have WB : Aside0 (Below w.heap.size w w5) := ⟨G5.out.below⟩
        go_wp2_with ((with_reducible refine gate_dst (N := 36) rfl ?_); refine load_any rfl 36 (.tmp 35) rfl ⟨ab, 1, none⟩ rfl XL _ BX.out Try.underlying36 rfl (by rw [XLL.out]; kernel_rfl) ?_)
        refine (HGR.out _ WB.out).mono ?_
        rintro e w6 ⟨rfl, hb⟩
        have G6 := Aside0.mk (G5.out.step hb)
        have AB6 := Aside0.mk (blk_below AB.out hb)
        clear hb G G5 AB B5 BX WB HGR HCL
        cases bg
        · have FK_ := Aside0.mk (HBG.out rfl)
          have c0 := (box_act AB6.out ALE.out XLL.out).2.1
          go_upto_if 40 with (fail)
          clear c0
          go_cut [] (fun w' => ∃ (S Q : Nat → Prop) (last : Int) (L : List Fr) (A : Option Addr) (c : Nat), Aside0 (last ≤ j + 1) ∧ Aside0 (SW w w' S Q g mb n last L A c))
          case first =>
            have m0 : w6.cell? ⟨mb, 0, none⟩ = some (.int .i64 n) := (blk_cell G6.out.rb.blk 0).trans rfl
            have m1 : w6.cell? ⟨mb, 1, none⟩ = some (.slice A L.length c) := (blk_cell G6.out.rb.blk 1).trans rfl
            have m2 : w6.cell? ⟨mb, 2, none⟩ = some (.int .u64 last) := (blk_cell G6.out.rb.blk 2).trans rfl
            have HL : Aside0 (L.length ≤ 64) := ⟨by have h1 := G6.out.win.ok.fit; have h2 := G6.out.win.ok.n64; omega⟩
            cases ya
            · obtain ⟨kk, hkk⟩ : ∃ q : Nat, q = min 1 (n - L.length) := ⟨_, rfl⟩
              have FX := Aside0.mk (K_FK heapF HXX.out G6.out.below)
              have RA := refPut G6.out.rb x FX.out (by have := HL.out; omega) G6.out.big.1 (by have := G6.out.big.2; omega) _ _ _ (put_eq (last := last) (x := x) hkk)
              obtain ⟨L', hL'⟩ : ∃ q, q = L ++ numb last (([x] : List Fr).take kk) := ⟨_, rfl⟩
              obtain ⟨la', hla'⟩ : ∃ q : Int, q = last + (kk : Int) := ⟨_, rfl⟩
              rw [← hL', ← hla'] at RA
              have RAA := Aside0.mk RA
              have LE := Aside0.mk (And.intro hL' hla')
              have KE := Aside0.mk hkk
              have BX := Aside0.mk (box_act AB6.out ALE.out XLL.out).1
              clear RA hL' hla' hkk
              go_upto_region 16 with (first
                | ((with_reducible refine gate_dst (N := 58) rfl ?_); refine load_any rfl 36 (.tmp 57) rfl ⟨ab, 1, none⟩ rfl XL _ BX.out Try.underlying36 rfl (by rw [XLL.out]; kernel_rfl) ?_)
                | (go_at_call 15; refine RAA.out.mono ?_; rintro e w7 ⟨A', c', rfl, hF, hc', hb⟩; have B7 := Aside0.mk hb; have F7 := Aside0.mk hF; have C7 := Aside0.mk hc'; clear hb hF hc' m0 m1 m2 RAA BX))
              go_upto_region 17 with ((with_reducible refine gate_store (t := tRW) (p := 10) (v := .tmp 62) rfl ?_); refine store_box rfl tRW (.tmp 10) (.tmp 62) rfl mb #[.int .i64 n, .slice A L.length c, .int .u64 last] #[.int .i64 n, .slice A' L'.length c', .int .u64 la'] tRW rfl rfl (blk_alloc (blk_below G6.out.rb.blk B7.out) _) rfl (by kernel_rfl) (by simp [Value.oneCell']) ?_; intro w8 hm8 hB8 hz8; have M8 := Aside0.mk hm8; have B8 := Aside0.mk hB8; have Z8 := Aside0.mk hz8; clear hm8 hB8 hz8)
              obtain ⟨tW, tR, tD, tB, tS⟩ := SW.turn G6.out B7.out (Qn := fun k => Q k ∨ k < w.heap.size) F7.out (fun k h => h) C7.out M8.out B8.out Z8.out
              have AB8 := B8.out.blk (blk_alloc (blk_below AB6.out B7.out) _) NE.out
              have TS7 : Aside0 (w7.heap.size + 1 ≤ w8.heap.size) := ⟨by have := Z8.out; simp at this; omega⟩
              have BX := Aside0.mk (box_act AB8 ALE.out XLL.out).1
              have FX8 := Aside0.mk (K_FK heapF HXX.out tB)
              have TW := Aside0.mk tW
              have TR := Aside0.mk tR
              have TD := Aside0.mk tD
              have TB := Aside0.mk (And.intro tB tS)
              clear tW tR tD tB tS AB8 F7 C7 M8 B8 Z8 B7 AB6
              have LEN7 := Aside0.mk (show w7.heap.size ≤ w8.heap.size by have := TS7.out; omega)
              obtain ⟨A11, c11, A12, c12, A13, c13, A14, c14, A15, c15, hXE, _⟩ := k36_open HXX.out
              subst hXE
              have F10 := Aside0.mk (lit1 FX8.out)
              have W10 := Aside0.mk (below_alloc (Below.refl w8.heap.size w8) (.cells ([.int .u8 x.f0.f0, .int .u8 x.f0.f1, .int .u8 x.f0.f2, .int .u8 x.f1.f0, .int .u64 x.f1.f1, .int .u64 x.f2, .int .u32 x.f3, .int .u32 x.f4, .int .u32 x.f5, .int .u64 x.f6, .int .u64 x.f7, .slice A11 x.f8.length c11, .slice A12 x.f9.length c12, .slice A13 x.f10.length c13, .slice A14 x.f11.length c14, .slice A15 x.f12.length c15] : List Value).toArray 36))
              have SS : Aside0 (∀ b, (b < w.heap.size ∨ b = w8.heap.size) → ¬ S b) := ⟨fun b hb hS => by
                have h1 := G6.out.S0 b hS
                have h2 := TB.out.2
                omega⟩
              have PC := Aside0.mk (Put_calls [x] kk _ (TW.out.below W10.out) (Kd.F_mono F10.out SS.out) (Nat.le_refl _) (fun f hf => by rw [List.mem_singleton.1 hf]; exact FK_.out) (by have := G6.out.big.2; simp; omega) KE.out)
              clear SS F10 TW
              go_wp2_with ((with_reducible refine gate_dst (N := 65) rfl ?_); refine load_any rfl 36 (.tmp 64) rfl ⟨ab, 1, none⟩ rfl [.int .u8 x.f0.f0, .int .u8 x.f0.f1, .int .u8 x.f0.f2, .int .u8 x.f1.f0, .int .u64 x.f1.f1, .int .u64 x.f2, .int .u32 x.f3, .int .u32 x.f4, .int .u32 x.f5, .int .u64 x.f6, .int .u64 x.f7, .slice A11 x.f8.length c11, .slice A12 x.f9.length c12, .slice A13 x.f10.length c13, .slice A14 x.f11.length c14, .slice A15 x.f12.length c15] _ BX.out Try.underlying36 rfl (by kernel_rfl) ?_)
              refine PC.out.mono ?_
              rintro e w9 ⟨rfl, hW9, hB9⟩
              have G9 := Aside0.mk (G6.out.put KE.out LE.out.1 LE.out.2 (by have h1 := LE.out.2; have h2 := KE.out; have h3 := LJ.out; omega) TR.out TD.out (fun k hk => hk.2) (Nat.le_trans LEN7.out W10.out.size) HX.out.1 TB.out.1 TB.out.2 W10.out (by rw [LE.out.1, LE.out.2]; exact hW9) hB9)
              have LJ9 : Aside0 (la' ≤ j + 1) := ⟨by have h1 := LE.out.2; have h2 := KE.out; have h3 := LJ.out; omega⟩
              clear hW9 hB9 PC TR TD TB W10 G6
              go_wp2_with fail
              go_meet
              exact ⟨_, _, la', L', A', c', LJ9, G9⟩
            · have c17 := (box_act AB6.out ALE.out XLL.out).2.2
              obtain ⟨d, hd⟩ : ∃ d : Nat, d = if yn > last then 0 else (yn - (last - L.length)).toNat := ⟨_, rfl⟩
              have HD := Aside0.mk hd
              clear hd
              have RA := refAcked G6.out.rb yn (by have := HL.out; omega) G6.out.sq d HD.out
              obtain ⟨L', hL'⟩ : ∃ q, q = L.drop d := ⟨_, rfl⟩
              rw [← hL'] at RA
              have RAA := Aside0.mk RA
              have LE := Aside0.mk hL'
              clear RA hL'
              go_wp2_with fail
              refine RAA.out.mono ?_
              rintro e w7 ⟨A', c', rfl, hF, hc', hb⟩
              have B7 := Aside0.mk hb
              have F7 := Aside0.mk hF
              have C7 := Aside0.mk hc'
              clear hb hF hc' m0 m1 m2 c17 RAA
              go_upto_region 12 with (fail)
              go_upto_region 13 with ((with_reducible refine gate_store (t := tRW) (p := 10) (v := .tmp 48) rfl ?_); refine store_box rfl tRW (.tmp 10) (.tmp 48) rfl mb #[.int .i64 n, .slice A L.length c, .int .u64 last] #[.int .i64 n, .slice A' L'.length c', .int .u64 last] tRW rfl rfl (blk_alloc (blk_below G6.out.rb.blk B7.out) _) rfl (by kernel_rfl) (by simp [Value.oneCell']) ?_; intro w8 hm8 hB8 hz8; have M8 := Aside0.mk hm8; have B8 := Aside0.mk hB8; have Z8 := Aside0.mk hz8; clear hm8 hB8 hz8)
              obtain ⟨tW, tR, tD, tB, tS⟩ := SW.turn G6.out B7.out (Qn := Q) F7.out (fun k h => Or.inl h) C7.out M8.out B8.out Z8.out
              have AB8 := B8.out.blk (blk_alloc (blk_below AB6.out B7.out) _) NE.out
              have c17 := (box_act AB8 ALE.out XLL.out).2.2
              have AKC := Aside0.mk (Acked_calls yn d w8 tW HX.out.2.1 HX.out.2.2 HD.out)
              have TR := Aside0.mk tR
              have TD := Aside0.mk tD
              have TB := Aside0.mk (And.intro tB tS)
              clear tW tR tD tB tS AB8 F7 C7 M8 B8 Z8 B7 AB6
              go_wp2_with fail
              refine AKC.out.mono ?_
              rintro e w9 ⟨rfl, hW9, hB9⟩
              have G9 := Aside0.mk (G6.out.acked HD.out LE.out TR.out TD.out TB.out.1 TB.out.2 hW9 hB9)
              clear hW9 hB9 AKC TR TD TB
              go_wp2_with fail
              go_meet
              exact ⟨S, _, last, L', A', c', ⟨by have := LJ.out; omega⟩, G9⟩
          case rest =>
            clear G6 LJ AB6 FK_ HX HXX ALE XLL ALL AL1 HBG NE
            obtain ⟨S, Q, last, L, A, c, LJ, G⟩ := hcut
            have AK0 := G.out.asked (fr_ := a2) (most := a3) H2.out.1 H2.out.2
            obtain ⟨fi, hfi⟩ : ∃ q, q = last + 1 - (L.length : Int) := ⟨_, rfl⟩
            rw [← hfi] at AK0
            obtain ⟨X, hX⟩ : ∃ q, q = (L.drop (a2 - fi).toNat).take a3.toNat := ⟨_, rfl⟩
            rw [← hX] at AK0
            have AK := Aside0.mk AK0
            have rn : IntKind.i64.wrap ((n : Int) - L.length) = n - L.length := by
              have h1 := G.out.win.ok.fit
              have h2 := G.out.win.ok.n64
              exact (i64_w _).trans (w64 (by omega) (by omega))
            have rn2 : wrap64 ((n : Int) - L.length) = n - L.length := (i64_w _).symm.trans rn
            clear AK0 hfi hX
            have B1 : Aside0 (Below wc.heap.size wc wc) := ⟨Below.refl _ _⟩
            obtain ⟨z0, z1, z2⟩ := AK.out.cells _ B1.out
            go_wp2_with fail
            go_region_held3 (fun w' => w'.cell? ⟨mb, 0, none⟩ = some (.int .i64 n) ∧ w'.cell? ⟨mb, 1, none⟩ = some (.slice A L.length c) ∧ w'.cell? ⟨mb, 2, none⟩ = some (.int .u64 last)) (go_keep)
              ((first
                | (go_at_call 21; have tok_ := B10.out; refine (AK.out.same2 _ _ _ _ _ (by repeat (first | exact B10.out | apply below_drew | apply pw_below_drewN)) (C9.out _ (by repeat (first | exact D10.out | apply below_drew | apply pw_below_drewN))) (C10.out _ (by repeat (first | exact Below.refl _ _ | apply below_drew | apply pw_below_drewN)))).mono ?_; clear tok_; rintro e w11 ⟨rfl, hb_⟩; have B11 := Aside0.mk hb_; clear hb_; obtain ⟨z0, z1, z2⟩ := AK.out.cells _ B11.out)
                | (go_at_call 22; have tok_ := B9.out; refine (AK.out.rsome _ (by repeat (first | exact B9.out | apply below_drew | apply pw_below_drewN))).mono ?_; clear tok_; rintro e w10 ⟨A10, c10, rfl, hd_, hb_, hC_⟩; have B10 := Aside0.mk hb_; have C10 := Aside0.mk hC_; have D10 := Aside0.mk hd_; clear hC_ hd_; clear hb_; obtain ⟨z0, z1, z2⟩ := AK.out.cells _ B10.out)
                | (go_at_call 10; have tok_ := B8.out; refine (AK.out.some_ _ (by repeat (first | exact B8.out | apply below_drew | apply pw_below_drewN))).mono ?_; clear tok_; rintro e w9 ⟨A9, c9, rfl, hb_, hC_⟩; have B9 := Aside0.mk hb_; have C9 := Aside0.mk hC_; clear hC_; clear hb_; obtain ⟨z0, z1, z2⟩ := AK.out.cells _ B9.out)
                | (go_at_call 21; have tok_ := B7.out; refine (AK.out.same1 _ _ _ (by repeat (first | exact B7.out | apply below_drew | apply pw_below_drewN)) (C7.out _ (by repeat (first | exact Below.refl _ _ | apply below_drew | apply pw_below_drewN)))).mono ?_; clear tok_; rintro e w8 ⟨rfl, hb_⟩; have B8 := Aside0.mk hb_; clear hb_; obtain ⟨z0, z1, z2⟩ := AK.out.cells _ B8.out)
                | (go_at_call 10; have tok_ := B6.out; refine (AK.out.all_ _ (by repeat (first | exact B6.out | apply below_drew | apply pw_below_drewN))).mono ?_; clear tok_; rintro e w7 ⟨A7, c7, rfl, hb_, hC_⟩; have B7 := Aside0.mk hb_; have C7 := Aside0.mk hC_; clear hC_; clear hb_; obtain ⟨z0, z1, z2⟩ := AK.out.cells _ B7.out)
                | (go_at_call 20; have tok_ := B5.out; refine (AK.out.last_ _ (by repeat (first | exact B5.out | apply below_drew | apply pw_below_drewN))).mono ?_; clear tok_; rintro e w6 ⟨rfl, hb_⟩; have B6 := Aside0.mk hb_; clear hb_; obtain ⟨z0, z1, z2⟩ := AK.out.cells _ B6.out)
                | (go_at_call 19; have tok_ := B4.out; refine (AK.out.rfirst _ (by repeat (first | exact B4.out | apply below_drew | apply pw_below_drewN))).mono ?_; clear tok_; rintro e w5 ⟨rfl, hb_⟩; have B5 := Aside0.mk hb_; clear hb_; obtain ⟨z0, z1, z2⟩ := AK.out.cells _ B5.out)
                | (go_at_call 18; have tok_ := B3.out; refine (AK.out.first _ (by repeat (first | exact B3.out | apply below_drew | apply pw_below_drewN))).mono ?_; clear tok_; rintro e w4 ⟨rfl, hb_⟩; have B4 := Aside0.mk hb_; clear hb_; obtain ⟨z0, z1, z2⟩ := AK.out.cells _ B4.out)
                | (go_at_call 17; have tok_ := B2.out; refine (AK.out.room _ (by repeat (first | exact B2.out | apply below_drew | apply pw_below_drewN))).mono ?_; clear tok_; rintro e w3 ⟨rfl, hb_⟩; have B3 := Aside0.mk hb_; clear hb_; obtain ⟨z0, z1, z2⟩ := AK.out.cells _ B3.out)
                | (go_at_call 16; have tok_ := B1.out; refine (AK.out.waits _ (by repeat (first | exact B1.out | apply below_drew | apply pw_below_drewN))).mono ?_; clear tok_; rintro e w2 ⟨rfl, hb_⟩; have B2 := Aside0.mk hb_; clear hb_; obtain ⟨z0, z1, z2⟩ := AK.out.cells _ B2.out)))
            have G11 := Aside0.mk (G.out.step B11.out)
            have LJ11 : Aside0 (last ≤ ((j + 1 : Nat) : Int)) := ⟨by have := LJ.out; omega⟩
            clear G LJ AK B1 B2 B3 B4 B5 B6 B7 B8 B9 B10 B11 C7 C9 C10 D10 rn rn2 z0 z1 z2
            go_wp2_with fail
            go_roundg (gk - 1)
            case measure => omega
            case rel => exact ⟨j + 1, S, Q, last, L, A, c, by simp, by omega, by omega, LJ11, G11⟩
        · go_wp2_with fail
          refine (awake_calls _).mono ?_
          rintro e w4 ⟨rfl, hb⟩
          have B4 := Aside0.mk (below_step G6.out.below hb)
          clear hb G6
          go_wp2_with fail
          go_ret
          exact ⟨rfl, B4.out⟩
      · have hlt' : decide ((j : Int) < l1.length) = false := decide_eq_false (by omega)
        go_wp2_with fail
        refine (awake_calls _).mono ?_
        rintro e w4 ⟨rfl, hb⟩
        have B4 := Aside0.mk (below_step G.out.below hb)
        clear hb G
        go_wp2_with fail
        go_ret
        exact ⟨rfl, B4.out⟩

end Go.Proofs.Ytdeknknefjepnaa.Walk
