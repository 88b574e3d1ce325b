/- What is sent on a way stands in that way's bag. Conditions: none beyond the statement's own. -/
import Derived.Test.YtmkacejnnjppjaaWalkWaysP
import Derived.Test.YtmkacejnnjppjaaArgs
import Derived.Deep.QuietTactic
import Derived.BigQuiet
import Derived.Lib.QuietBelow
import Derived.Outline
import Derived.Deep.RegionHeld3
import Derived.Deep.CutRange
namespace Go.Proofs.Ytmkacejnnjppjaa.Walk
open Go.RowKit Go.Proofs.Ytmkacejnnjppjaa.F Go.Proofs.YtmkacejnnjppjaaW.PrintWords Go.Proofs.YtmkacejnnjppjaaW.PrintLast Go.Proofs.YtmkacejnnjppjaaW.PrintMore Go.Proofs.Ytmkacejnnjppjaa.Open
open Go.Sort (grow)
attribute [local go_sem] max2_int min2_int max_two min_two max_three min_three max_four min_four
set_option linter.unusedVariables false
set_option linter.unusedSimpArgs false

set_option maxHeartbeats 4000000 in
set_option maxRecDepth 100000 in
theorem NetWays (n a1 a2 a3 : Int) (A1 : Option Addr) (c1 : Nat) (l1 : List (List Int)) (w : World) (hr : kL.C w A1 l1.length l1) (hc : l1.length ≤ c1) (v0_ : (Lit.int .i64 n).wf = true) (v1_ : (Lit.int .i64 a1).wf = true) (v2_ : (Lit.int .i64 a2).wf = true) (v3_ : (Lit.int .i64 a3).wf = true)
    (hw : l1.length ≤ maxLen ∧ ∀ x ∈ l1, (x.length ≤ maxLen ∧ ∀ y ∈ x, (Lit.int .u8 y).wf = true)) :
    Calls Try.prog 4 #[.int .i64 n, .int .i64 a1, .int .i64 a2, .int .i64 a3, .slice A1 l1.length c1] w fun e w' => e = .returned (.bool true) ∧ Below w.heap.size w w' := by
  have HR := Aside0.mk hr
  have AW : Aside0 (∀ W, Calls Try.prog 10 #[] W fun e w' => e = .returned (.bool true) ∧ Below W.heap.size W w') := ⟨awake_calls⟩
  clear hr hw v0_ v2_ v3_
  by_cases h0 : n < 1
  · have d0 : decide (n < 1) = true := decide_eq_true h0
    go_enter Try.func4, Try.ntmps4
    go_wp2_with fail
    refine (AW.out _).mono ?_
    rintro e w1 ⟨rfl, hb⟩
    have B1 := Aside0.mk hb
    clear hb
    go_wp2_with fail
    go_ret
    exact ⟨rfl, B1.out⟩
  have d0 : decide (n < 1) = false := decide_eq_false h0
  by_cases h1 : n > 8
  · have d1 : decide (n > 8) = true := decide_eq_true h1
    go_enter Try.func4, Try.ntmps4
    go_wp2_with fail
    refine (AW.out _).mono ?_
    rintro e w1 ⟨rfl, hb⟩
    have B1 := Aside0.mk hb
    clear hb
    go_wp2_with fail
    go_ret
    exact ⟨rfl, B1.out⟩
  have d1 : decide (n > 8) = false := decide_eq_false h1
  by_cases h2 : (l1.length : Int) > 50
  · have d2 : decide ((l1.length : Int) > 50) = true := decide_eq_true h2
    go_enter Try.func4, Try.ntmps4
    go_wp2_with fail
    refine (AW.out _).mono ?_
    rintro e w1 ⟨rfl, hb⟩
    have B1 := Aside0.mk hb
    clear hb
    go_wp2_with fail
    go_ret
    exact ⟨rfl, B1.out⟩
  have d2 : decide ((l1.length : Int) > 50) = false := decide_eq_false h2
  by_cases h3 : a2 < 0
  · have d3 : decide (a2 < 0) = true := decide_eq_true h3
    go_enter Try.func4, Try.ntmps4
    go_wp2_with fail
    refine (AW.out _).mono ?_
    rintro e w1 ⟨rfl, hb⟩
    have B1 := Aside0.mk hb
    clear hb
    go_wp2_with fail
    go_ret
    exact ⟨rfl, B1.out⟩
  have d3 : decide (a2 < 0) = false := decide_eq_false h3
  by_cases h4 : a2 ≥ n
  · have d4 : decide (a2 ≥ n) = true := decide_eq_true h4
    go_enter Try.func4, Try.ntmps4
    go_wp2_with fail
    refine (AW.out _).mono ?_
    rintro e w1 ⟨rfl, hb⟩
    have B1 := Aside0.mk hb
    clear hb
    go_wp2_with fail
    go_ret
    exact ⟨rfl, B1.out⟩
  have d4 : decide (a2 ≥ n) = false := decide_eq_false h4
  by_cases h5 : a3 < 0
  · have d5 : decide (a3 < 0) = true := decide_eq_true h5
    go_enter Try.func4, Try.ntmps4
    go_wp2_with fail
    refine (AW.out _).mono ?_
    rintro e w1 ⟨rfl, hb⟩
    have B1 := Aside0.mk hb
    clear hb
    go_wp2_with fail
    go_ret
    exact ⟨rfl, B1.out⟩
  have d5 : decide (a3 < 0) = false := decide_eq_false h5
  by_cases h6 : a3 ≥ n
  · have d6 : decide (a3 ≥ n) = true := decide_eq_true h6
    go_enter Try.func4, Try.ntmps4
    go_wp2_with fail
    refine (AW.out _).mono ?_
    rintro e w1 ⟨rfl, hb⟩
    have B1 := Aside0.mk hb
    clear hb
    go_wp2_with fail
    go_ret
    exact ⟨rfl, B1.out⟩
  have d6 : decide (a3 ≥ n) = false := decide_eq_false h6
  obtain ⟨N, rfl⟩ : ∃ N : Nat, n = N := ⟨n.toNat, by omega⟩
  obtain ⟨a, rfl⟩ : ∃ a : Nat, a2 = a := ⟨a2.toNat, by omega⟩
  obtain ⟨b, rfl⟩ : ∃ b : Nat, a3 = b := ⟨a3.toNat, by omega⟩
  have hN : nn (N : Int) = N := by unfold nn; rw [if_neg (by omega)]; split <;> omega
  have hNa : a < N := by omega
  have hNb : b < N := by omega
  have hN8 : N ≤ 8 := by omega
  have hl50 : l1.length ≤ 50 := by omega
  go_enter Try.func4, Try.ntmps4
  go_wp2_with fail
  refine (NetNew_calls (N : Int) a1 w).mono ?_
  rintro e w1 ⟨g, mb, E, S, rfl, hNw⟩
  rw [hN] at hNw
  have N1 := Aside0.mk hNw.net.bound
  have U1 := Aside0.mk hNw.up
  have B1 := Aside0.mk hNw.below
  have K1 := Aside0.mk hNw.keys
  clear hNw hN d0 d1 d2 d3 d4 d5 d6 h0 h1 h2 h3 h4 h5 h6
  go_wp2_with fail
  have N0 : Aside0 (Kd.N kO tO (w1.alloc (.cells #[] tO)) w1.heap.size (fun k => k < w.heap.size ∨ w1.heap.size ≤ k) (.slice (some ⟨w1.heap.size, 0, none⟩) 0 0) []) := ⟨Kd.R_N (R_empty kO (blk_new w1 _) (Nat.le_refl _) (.inr (Nat.le_refl _)))⟩
  have C0 : Aside0 (Below w1.heap.size w1 (w1.alloc (.cells #[] tO))) := ⟨below_alloc (Below.refl _ _) _⟩
  generalize w1.alloc (.cells #[] tO) = w2 at N0 C0 ⊢
  generalize Value.slice (some ⟨w1.heap.size, 0, none⟩) 0 0 = s0 at N0 ⊢
  have hcb : IntKind.u8.wrap (b : Int) = (b : Int) := by simp [IntKind.wrap, IntKind.signed, IntKind.bits]; omega
  go_loopg [12, 13] l1.length (fun gg s12 s13 wr => ∃ i : Nat, s13 = .int .i64 i ∧ i ≤ l1.length ∧ l1.length - i ≤ gg ∧ Aside0 (Kd.N kO tO wr w1.heap.size (fun k => k < w.heap.size ∨ w1.heap.size ≤ k) s12 (outs b (l1.take i))) ∧ Aside0 (Below w1.heap.size w1 wr) ∧ Aside0 (∀ x ∈ l1.take i, x.length ≤ 100))
  case atStart => exact ⟨0, rfl, Nat.zero_le _, by omega, by simpa [outs] using N0, C0, ⟨by simp⟩⟩
  case round =>
    clear N0 C0
    obtain ⟨i, rfl, hi, hgg, NO, BO, LO⟩ := hrel
    by_cases hlt : i < l1.length
    · have hltz : (i : Int) < (l1.length : Int) := by omega
      have HX : Aside0 (l1[i]? = some l1[i]) := ⟨List.getElem?_eq_getElem hlt⟩
      have EO := Aside0.mk (outs_snoc (b := b) HX.out)
      obtain ⟨ad, Ax, cx, e, k0, l3, g3⟩ := L_at HR.out HX.out
      cases e
      have BW := Aside0.mk (below_step B1.out BO.out)
      have k0 := pw_cell_below BW.out k0
      have FX := Aside0.mk (Kd.F_below (bodies_F g3) BW.out)
      have LS : Aside0 (l1.take (i + 1) = l1.take i ++ [l1[i]]) := ⟨by rw [List.take_add_one, HX.out, Option.toList_some]⟩
      generalize l1[i] = x at HX EO k0 l3 g3 FX LS
      clear g3
      by_cases hx : x.length ≤ 100
      · have hxz : ¬ ((x.length : Int) > 100) := by omega
        have hxz2 : decide ((x.length : Int) > 100) = false := decide_eq_false hxz
        have hwi : IntKind.i64.wrap ((i : Int) + 1) = ((i + 1 : Nat) : Int) := by rw [IntKind.wrap_i64]; omega
        have KX := Aside0.mk (O_FK (tt := (b : Int)) l3 FX.out)
        have HLO : Aside0 ((outs b (l1.take i)).length ≤ 50) := ⟨by rw [outs_len, List.length_take]; omega⟩
        go_wp2_with ((with_reducible refine gate_dst (N := 77) rfl ?_); refine Kd.N_append kO (w0 := w1) w1.heap.size rfl (.tmp 68) (.tmp 76) 35 tO (.agg #[.int .u8 0, .slice none 0 0]) 32 rfl Try.underlying35 infoO rfl (by decide) (by decide) _ (outs b (l1.take i)) ((b : Int), x) [.int .u8 (b : Int), .slice Ax x.length cx] (fun k => k < w.heap.size ∨ w1.heap.size ≤ k) (fun k => k < w.heap.size) rfl rfl KX.out (fun k hk => ⟨.inl hk, fun he => by have := Kd.N_base NO.out k he.symm; have := B1.out.size; omega⟩) (fun k hk => .inr (Nat.le_trans BO.out.size hk)) NO.out BO.out BO.out.size (by have := HLO.out; omega) ?_; intro v1 w6 ho hb hg hat; have NO6 := Aside0.mk ho; have B6 := Aside0.mk hb; clear ho hb hg hat)
        go_roundg (l1.length - (i + 1))
        case measure => omega
        case rel => exact ⟨i + 1, by go_num, by omega, by omega, ⟨by rw [EO.out]; exact NO6.out⟩, B6, ⟨fun y hy => by
          rw [LS.out] at hy
          rcases List.mem_append.1 hy with hy | hy
          · exact LO.out y hy
          · rw [List.mem_singleton.1 hy]; exact hx⟩⟩
      · have hxz : ((x.length : Int) > 100) := by omega
        have hxz2 : decide ((x.length : Int) > 100) = true := decide_eq_true hxz
        go_wp2_with fail
        refine (AW.out _).mono ?_
        rintro e w5 ⟨rfl, hb⟩
        have B5 := Aside0.mk (below_step BW.out hb)
        clear hb
        go_wp2_with fail
        go_ret
        exact ⟨rfl, B5.out⟩
    · obtain rfl : i = l1.length := by omega
      have hltz : ¬ (l1.length : Int) < (l1.length : Int) := by omega
      rw [List.take_length] at NO LO
      obtain ⟨Ao, co, rfl⟩ := Kd.N_slice NO.out
      have hco := (Kd.N_reads' NO.out).2.1
      have BW := Aside0.mk (below_step B1.out BO.out)
      have SC := Aside0.mk (Send_calls (outs b l1) (a : Int) (N1.out.below BO.out) ⟨by omega, by omega⟩ (Kd.F_mono (Kd.N_F NO.out) (fun k hk h => by have := U1.out k h.1; have := h.2; omega)) hco (fun o ho => by
        obtain ⟨x, hx, rfl⟩ := List.mem_map.1 ho
        exact ⟨⟨by show (0 : Int) ≤ b; omega, by show (b : Int) ≤ 255; omega⟩, by have := LO.out x hx; show x.length ≤ 1000000; omega⟩) (fun v hv => by rw [List.eq_of_mem_replicate hv, outs_len]; show (0 : Int) + _ ≤ _; omega))
      by_cases hab : a = b
      · subst hab
        have ES := sendL_none (room := rm a1) (key_none K1.out a) (outs a l1) (List.replicate E.length ([], 0)) (fun o ho => by obtain ⟨x, _, rfl⟩ := List.mem_map.1 ho; rfl)
        rw [ES] at SC
        clear ES
        go_wp2_with fail
        refine SC.out.mono ?_
        rintro e w3 ⟨rfl, hN, hb⟩
        have N3 := Aside0.mk hN
        have B3 := Aside0.mk (Beside.step BW.out hb (fun k hk => U1.out k hk.1))
        clear hN hb SC
        go_wp2_with fail
        refine (NetLost_calls N3.out (by rw [lost_zero]; omega)).mono ?_
        rintro e w4 ⟨rfl, hb⟩
        have B4 := Aside0.mk (below_step B3.out hb)
        clear hb
        rw [lost_zero]
        go_wp2_with fail
        refine (AW.out _).mono ?_
        rintro e w5 ⟨rfl, hb⟩
        have B5 := Aside0.mk (below_step B4.out hb)
        clear hb
        go_wp2_with fail
        go_ret
        exact ⟨rfl, B5.out⟩
      · obtain ⟨ix, q, hix, hE, hiE⟩ := key_idx K1.out hNa hNb hab
        have hEl : ix < (List.replicate E.length (([], 0) : Bv)).length := by simpa using hiE
        have ES := sendL_one (room := rm a1) hix (outs b l1) (List.replicate E.length ([], 0)) [] 0 (fun o ho => by obtain ⟨x, _, rfl⟩ := List.mem_map.1 ho; rfl) (by rw [List.getElem?_replicate, if_pos hiE]) (Nat.zero_le _)
        rw [outs_len, outs_snd, List.nil_append, List.length_nil, Nat.sub_zero] at ES
        obtain ⟨k, hk⟩ : ∃ k, k = min l1.length (rm a1) := ⟨_, rfl⟩
        obtain ⟨m, hm⟩ : ∃ m : Nat, m = l1.length - k := ⟨_, rfl⟩
        rw [← hk, ← hm] at ES
        have ES2 : sendL (rm a1) E (a : Int) (outs b l1) (List.replicate E.length ([], 0)) = ((List.replicate E.length ([], 0)).set ix (bagL l1 k, (m : Int)), k) := by rw [ES]; simp [bagL]
        rw [ES2] at SC
        have hkl : k ≤ l1.length := by omega
        clear ES ES2
        have hab2 : ((a : Int) == (b : Int)) = false := beq_eq_false_iff_ne.2 (by omega)
        go_wp2_with fail
        refine SC.out.mono ?_
        rintro e w3 ⟨rfl, hN, hb⟩
        have N3 := Aside0.mk hN
        have B3 := Aside0.mk (Beside.step BW.out hb (fun k hk => U1.out k hk.1))
        clear hN hb SC
        have hV : ((List.replicate E.length (([], 0) : Bv)).set ix (bagL l1 k, (m : Int)))[ix]? = some (bagL l1 k, (m : Int)) := List.getElem?_set_self hEl
        have hLost := lost_set (bagL l1 k, (m : Int)) E.length ix hiE
        have hOth : Aside0 (∀ p q : Int, ¬ (p = (a : Int) ∧ q = (b : Int)) → lenE E ((List.replicate E.length ([], 0)).set ix (bagL l1 k, (m : Int))) p q = 0) := ⟨fun p q h => lenE_other hix h _⟩
        have HV := Aside0.mk hV
        have HE := Aside0.mk hE
        generalize (List.replicate E.length (([], 0) : Bv)).set ix (bagL l1 k, (m : Int)) = V at N3 hLost hOth HV
        have WV : Aside0 (wayV E (a : Int) (b : Int) = .pointer (some ⟨q, 0, none⟩)) := ⟨wayV_some N3.out.map.nodup hE⟩
        have LB : Aside0 (∀ W, Below w3.heap.size w3 W → ∃ Si : Nat → Prop, Bag W Si q (rm a1) (bagL l1 k) (m : Int)) := ⟨fun W hW => by
          obtain ⟨Si, hB, _, _⟩ := (N3.out.below hW).bags.at HE.out HV.out
          exact ⟨Si, hB⟩⟩
        have LC : Aside0 (Calls Try.prog 12 #[.pointer (some ⟨q, 0, none⟩)] w3 fun e w' => e = .returned (.int .i64 (k : Int)) ∧ w' = w3) := ⟨by
          obtain ⟨Si, hB⟩ := LB.out w3 (Below.refl _ _)
          have := Len_calls hB
          rwa [bagL_len hkl] at this⟩
        have LT : Aside0 (Calls Try.prog 9 #[.pointer (some ⟨g, 0, none⟩)] w3 fun e w' => e = .returned (.int .i64 (m : Int)) ∧ Below w3.heap.size w3 w') := ⟨by
          have := NetLost_calls N3.out (by rw [hLost]; show (m : Int) ≤ _; omega)
          rwa [hLost] at this⟩
        obtain ⟨mm, hmm⟩ : ∃ mm : Int, mm = if a1 < 4096 then a1 else 4096 := ⟨_, rfl⟩
        have hmin1 : Builtin.min2 (.int .i64 a1) (.int .i64 4096) = pure (.int .i64 mm) := by
          rw [min2_int]
          congr 2
          rw [hmm]
          repeat (first | rfl | omega | split)
        have hmax1 : Builtin.max2 (.int .i64 1) (.int .i64 mm) = pure (.int .i64 (rm a1 : Nat)) := by
          rw [max2_int]
          congr 2
          rw [hmm]
          unfold rm
          repeat (first | rfl | omega | split)
        have hmin2 : Builtin.min2 (.int .i64 (l1.length : Int)) (.int .i64 (rm a1 : Nat)) = pure (.int .i64 (k : Int)) := by
          rw [min2_int]
          congr 2
          rw [hk]
          repeat (first | rfl | omega | split)
        have hkm : IntKind.i64.wrap ((k : Int) + (m : Int)) = (l1.length : Int) := by rw [IntKind.wrap_i64]; omega
        have HKE := Aside0.mk hk
        clear hV hLost hE hmm hk hm
        go_wp2_with fail
        refine (Bag_calls N3.out ⟨by omega, by omega⟩ ⟨by omega, by omega⟩).mono ?_
        rintro e w4 ⟨rfl, h⟩
        have h := h.symm
        subst h
        rw [WV.out]
        go_wp2_with fail
        refine LC.out.mono ?_
        rintro e w4 ⟨rfl, h⟩
        have h := h.symm
        subst h
        go_wp2_with fail
        refine LT.out.mono ?_
        rintro e w4 ⟨rfl, hb⟩
        have B34 := Aside0.mk hb
        clear hb LC LT
        go_wp2_with fail
        clear hmin1 hmax1 hmin2 hkm
        have hkl50 : k ≤ 50 := by omega
        go_loopg [16] k (fun gg s16 wr => ∃ i : Nat, s16 = .int .i64 i ∧ i ≤ k ∧ k - i ≤ gg ∧ Aside0 (Below w3.heap.size w3 wr))
        case atStart => exact ⟨0, rfl, Nat.zero_le _, by omega, B34⟩
        case round =>
          clear B34
          obtain ⟨i, rfl, hi, hgi, BR⟩ := hrel
          by_cases hlt : i < k
          · have hltz : (i : Int) < (k : Int) := by omega
            have hil : i < l1.length := by omega
            have hilz : (i : Int) < (l1.length : Int) := by omega
            have hwi : IntKind.i64.wrap ((i : Int) + 1) = ((i + 1 : Nat) : Int) := by rw [IntKind.wrap_i64]; omega
            have HX : Aside0 (l1[i]? = some l1[i]) := ⟨List.getElem?_eq_getElem hil⟩
            have LK : Aside0 (Calls Try.prog 13 #[.pointer (some ⟨q, 0, none⟩), .int .i64 (i : Int)] wr fun e w' => ∃ v, e = .returned (.tuple #[v, .bool true]) ∧ Kd.R (Kd.int .u8) 5 w' wr.heap.size (fun _ => True) v l1[i] ∧ Below wr.heap.size wr w') := ⟨by
              obtain ⟨Si, hB⟩ := LB.out wr BR.out
              have := Look_calls hB (i : Int)
              rwa [bagL_has hkl hlt, bagL_lk hkl hlt HX.out] at this⟩
            obtain ⟨ad, Ax, cx, e, k0, l3, g3⟩ := L_at HR.out HX.out
            cases e
            have GX := Aside0.mk g3
            have K0 := Aside0.mk k0
            generalize l1[i] = x at LK GX K0 l3
            clear g3 k0 HX
            go_wp2_with fail
            refine LK.out.mono ?_
            rintro e w5 ⟨v, rfl, hR, hb⟩
            obtain ⟨A5, c5, rfl⟩ := Kd.R_slice hR
            have B5 := Aside0.mk (below_step BR.out hb)
            have BB := Aside0.mk (below_step B3.out B5.out)
            have k0 := pw_cell_below BB.out K0.out
            have cv1 := str_run (w := w5.drew) (c := c5) (Kd.C_below (Kd.R_reads' hR).2.2 (below_drew (Below.refl _ _)))
            have cv2 := str_run (w := w5.drew) (c := cx) (Kd.C_below GX.out (below_drew BB.out))
            clear hR hb LK
            go_wp2_with fail
            go_region_held3 (fun w' => w'.cell? (ad.add i) = some (.slice Ax x.length cx) ∧ (convert 24 9 (.slice A5 x.length c5)).run Try.prog w' = .ok (.string (strOfNums x)) w' ∧ (convert 24 9 (.slice Ax x.length cx)).run Try.prog w' = .ok (.string (strOfNums x)) w') (go_keep) (fail)
            have B6 := Aside0.mk (below_drew B5.out)
            go_wp2_with fail
            go_roundg (k - (i + 1))
            case measure => omega
            case rel => exact ⟨i + 1, by go_num, by omega, by omega, B6⟩
          · obtain rfl : i = k := by omega
            have hltz : ¬ (i : Int) < (i : Int) := by omega
            go_wp2_with fail
            go_loopg [19] N (fun gg s19 wj => ∃ p : Nat, s19 = .int .i64 p ∧ p ≤ N ∧ N - p ≤ gg ∧ Aside0 (Below w3.heap.size w3 wj))
            case atStart => exact ⟨0, rfl, Nat.zero_le _, by omega, BR⟩
            case round =>
              clear BR
              obtain ⟨p, rfl, hp, hgp, BP⟩ := hrel
              by_cases hplt : p < N
              · have hpz : (p : Int) < (N : Int) := by omega
                have hwp : IntKind.i64.wrap ((p : Int) + 1) = ((p + 1 : Nat) : Int) := by rw [IntKind.wrap_i64]; omega
                obtain ⟨go_, hgo⟩ : ∃ go_, go_ = gk := ⟨_, rfl⟩
                have GO := Aside0.mk hgo
                clear hgo
                go_wp2_with fail
                go_loopg [20] N (fun gg s20 wj => ∃ j : Nat, s20 = .int .i64 j ∧ j ≤ N ∧ N - j ≤ gg ∧ Aside0 (Below w3.heap.size w3 wj))
                case atStart => exact ⟨0, rfl, Nat.zero_le _, by omega, BP⟩
                case round =>
                  clear BP
                  obtain ⟨j, rfl, hj, hgj, BJ⟩ := hrel
                  by_cases hjlt : j < N
                  · have hjz : (j : Int) < (N : Int) := by omega
                    have hwj : IntKind.i64.wrap ((j : Int) + 1) = ((j + 1 : Nat) : Int) := by rw [IntKind.wrap_i64]; omega
                    obtain ⟨v, cB, cL⟩ := (N3.out.below BJ.out).len (a := (p : Int)) (b := (j : Int)) ⟨by omega, by omega⟩ ⟨by omega, by omega⟩
                    have CB := Aside0.mk cB
                    by_cases hpa : p = a
                    · by_cases hjb : j = b
                      · have e1 : ((p : Int) == (a : Int)) = true := by simp [hpa]
                        have e2 : ((j : Int) == (b : Int)) = true := by simp [hjb]
                        have e3 : ((p : Int) != (a : Int)) = false := by simp [hpa]
                        have e4 : ((j : Int) != (b : Int)) = false := by simp [hjb]
                        clear cL cB CB hpa hjb
                        go_wp2_with fail
                        go_roundg (N - (j + 1))
                        case measure => omega
                        case rel => exact ⟨j + 1, by go_num, by omega, by omega, BJ⟩
                      · have e1 : ((p : Int) == (a : Int)) = true := by simp [hpa]
                        have e2 : ((j : Int) == (b : Int)) = false := beq_eq_false_iff_ne.2 (by omega)
                        have e3 : ((p : Int) != (a : Int)) = false := by simp [hpa]
                        have e4 : ((j : Int) != (b : Int)) = true := by simp; omega
                        rw [hOth.out (p : Int) (j : Int) (by omega)] at cL
                        have CL := Aside0.mk cL
                        clear cL cB hpa hjb
                        go_wp2_with fail
                        refine CB.out.mono ?_
                        rintro e w6 ⟨rfl, h⟩
                        have h := h.symm
                        subst h
                        go_wp2_with fail
                        refine CL.out.mono ?_
                        rintro e w6 ⟨rfl, h⟩
                        have h := h.symm
                        subst h
                        go_wp2_with fail
                        go_roundg (N - (j + 1))
                        case measure => omega
                        case rel => exact ⟨j + 1, by go_num, by omega, by omega, BJ⟩
                    · have e1 : ((p : Int) == (a : Int)) = false := beq_eq_false_iff_ne.2 (by omega)
                      have e3 : ((p : Int) != (a : Int)) = true := by simp; omega
                      rw [hOth.out (p : Int) (j : Int) (by omega)] at cL
                      have CL := Aside0.mk cL
                      clear cL cB hpa
                      go_wp2_with fail
                      refine CB.out.mono ?_
                      rintro e w6 ⟨rfl, h⟩
                      have h := h.symm
                      subst h
                      go_wp2_with fail
                      refine CL.out.mono ?_
                      rintro e w6 ⟨rfl, h⟩
                      have h := h.symm
                      subst h
                      go_wp2_with fail
                      go_roundg (N - (j + 1))
                      case measure => omega
                      case rel => exact ⟨j + 1, by go_num, by omega, by omega, BJ⟩
                  · obtain rfl : j = N := by omega
                    have hjz : ¬ (j : Int) < (j : Int) := by omega
                    go_wp2_with fail
                    go_roundg (j - (p + 1))
                    case measure => have := GO.out; omega
                    case rel => exact ⟨p + 1, by go_num, by omega, by omega, BJ⟩
              · obtain rfl : p = N := by omega
                have hpz : ¬ (p : Int) < (p : Int) := by omega
                have BE := Aside0.mk (below_step B3.out BP.out)
                go_wp2_with fail
                refine (AW.out _).mono ?_
                rintro e w9 ⟨rfl, hb⟩
                have B9 := Aside0.mk (below_step BE.out hb)
                clear hb
                go_wp2_with fail
                go_ret
                exact ⟨rfl, B9.out⟩

end Go.Proofs.Ytmkacejnnjppjaa.Walk
