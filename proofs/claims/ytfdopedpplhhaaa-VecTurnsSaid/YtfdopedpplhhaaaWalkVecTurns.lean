/- In whatever order, and however often, vectors are told, their least and greatest numbers are the same; by parts, too. Conditions: none beyond the statement's own. -/
import Derived.Test.YtfdopedpplhhaaaWalkVecLacks
import Derived.Test.YtfdopedpplhhaaaWalkTurnsPure
import Derived.Test.YtfdopedpplhhaaaF2
import Derived.Test.YtfdopedpplhhaaaF1
import Derived.Test.YtfdopedpplhhaaaF4
import Derived.Test.YtfdopedpplhhaaaArgs
import Derived.Deep.QuietTactic
import Derived.BigQuiet
import Derived.Lib.QuietBelow
import Derived.Outline
import Derived.Deep.RegionHeld3
import Derived.Deep.CutRange
namespace Go.Proofs.Ytfdopedpplhhaaa.Walk
open Go.RowKit Go.Proofs.Ytfdopedpplhhaaa.F Go.Proofs.YtfdopedpplhhaaaW.PrintWords Go.Proofs.YtfdopedpplhhaaaW.PrintLast Go.Proofs.YtfdopedpplhhaaaW.PrintMore Go.Proofs.Ytfdopedpplhhaaa.Open
open Go.Sort (grow)
attribute [local go_sem] max2_int min2_int max_two min_two max_three min_three max_four min_four
set_option linter.unusedVariables false
set_option linter.unusedSimpArgs false

/-- What came in, with the blocks that it lies in. -/
theorem F_came {α : Type} {d : Kd α} (hd : Kd.Heap d) {w W : World} {A : Option Addr} {n : Nat} {xs : List α} (h : d.C w A n xs) (hb : Below w.heap.size w W) : Kd.F d W (fun k => k < w.heap.size) A n xs :=
  fun W' hW => hd.C (fun k hk => (hW k hk (Nat.lt_of_lt_of_le hk hb.size)).trans (hb.block k hk)) h
theorem N_empty {α : Type} (d : Kd α) (e : Nat) (w : World) (base : Nat) (hb : base ≤ w.heap.size) : Kd.N d e (w.alloc (.cells #[] e)) base (fun _ => True) (.slice (some ⟨w.heap.size, 0, none⟩) 0 0) [] :=
  Kd.R_N ⟨fun _ _ => trivial, [], World.ownsRow_made w #[] 0 hb (by simp) (by simp), Reps.none _ _⟩
/-- A literal row of one row that is only read. -/
theorem N_one (e t : Nat) {α : Type} {d : Kd α} {w : World} {A : Option Addr} {c base : Nat} {xs : List α} {ok : Nat → Prop} (hF : Kd.F d w ok A xs.length xs) (hc : xs.length ≤ c) (hb : base ≤ w.heap.size) : Kd.N (Kd.slice e d) t (w.alloc (.cells #[.slice A xs.length c] t)) base (fun _ => True) (.slice (some ⟨w.heap.size, 0, none⟩) 1 1) [xs] := by
  refine ⟨fun _ _ => trivial, [[.slice A xs.length c]], rfl, ⟨fun k hk => hk.symm, ?_⟩, fun j x c' hx hc' => ?_⟩
  · refine OwnRow.lit (ps := [[Value.slice A xs.length c]]) w base (inner := [.slice A xs.length c]) ⟨rfl, fun j p hj => ?_⟩ hb (by simp)
    cases j with
    | zero =>
      obtain rfl := Option.some.inj hj
      exact ⟨rfl, rfl, fun u hu => by rw [List.mem_singleton.1 hu]; rfl⟩
    | succ j => simp at hj
  · cases j with
    | zero =>
      obtain rfl := Option.some.inj hx
      obtain rfl := Option.some.inj hc'
      refine Kd.FK_mono (ok := fun k => ok k ∧ k < w.heap.size) ?_ (fun k hk => ⟨trivial, fun h => by have h2 := hk.2; simp [Value.ownBlock] at h; omega⟩)
      exact Foot.imp (Kd.F_alloc (Kd.F_bound hF) _) (fun W' h => ⟨A, c, rfl, hc, h⟩)
    | succ j => simp at hx
set_option maxHeartbeats 2000000 in
theorem VecTurns (A0 : Option Addr) (c0 : Nat) (l0 : List (List Int)) (a1 : Int) (w : World) (hr0 : Kd.C (Kd.slice 32 (Kd.int .u64)) w A0 l0.length l0) (hc0 : l0.length ≤ c0)
    (w0 : l0.length ≤ maxLen ∧ ∀ x ∈ l0, (x.length ≤ maxLen ∧ ∀ y ∈ x, (Lit.int .u64 y).wf = true)) (w1 : (Lit.int .u8 a1).wf = true) :
    Calls Try.prog 4 #[.slice A0 l0.length c0, .int .u8 a1] w fun e w' => e = .returned (.bool true) ∧ Below w.heap.size w w' := by
  have HR0 := Aside0.mk hr0
  have HC0 := Aside0.mk hc0
  have U0 : Aside0 (∀ b ∈ l0, u64s b) := ⟨fun b hb => wf_u64s (w0.2 b hb).2⟩
  have AW := Aside0.mk awake_eq
  have b1 : 0 ≤ a1 ∧ a1 ≤ 255 := by
    simp [Lit.wf, IntKind.min, IntKind.max, IntKind.signed, IntKind.bits] at w1
    omega
  clear hr0 hc0 w0 w1
  rcases great_eq l0 2000 (by omega) with h | ⟨h, h30, h100⟩
  · have HG := Aside0.mk h
    clear h
    go_enter Try.func4, Try.ntmps4
    go_wp2_with fail
    refine (unisonlaw04_great.calls 2000 A0 c0 l0 true _ HR0.out HC0.out HG.out).mono ?_
    rintro e w1 ⟨rfl, hd⟩
    have B1 := Aside0.mk hd.below
    clear hd
    go_wp2_with fail
    refine (unisonlaw04_awake.calls true _ AW.out).mono ?_
    rintro e w9 ⟨rfl, hb⟩
    have B9 := Aside0.mk (below_step B1.out hb)
    clear hb
    go_wp2_with fail
    go_ret
    exact ⟨rfl, B9.out⟩
  · have HG := Aside0.mk h
    clear h
    by_cases h1 : (l0.length : Int) = 0
    · have h1' : ((l0.length : Int) == 0) = true := beq_iff_eq.2 h1
      clear h1
      go_enter Try.func4, Try.ntmps4
      go_wp2_with fail
      refine (unisonlaw04_great.calls 2000 A0 c0 l0 false _ HR0.out HC0.out HG.out).mono ?_
      rintro e w1 ⟨rfl, hd⟩
      have B1 := Aside0.mk hd.below
      clear hd
      go_wp2_with fail
      refine (unisonlaw04_awake.calls true _ AW.out).mono ?_
      rintro e w9 ⟨rfl, hb⟩
      have B9 := Aside0.mk (below_step B1.out hb)
      clear hb
      go_wp2_with fail
      go_ret
      exact ⟨rfl, B9.out⟩
    · have h1' : ((l0.length : Int) == 0) = false := beq_eq_false_iff_ne.2 h1
      have hne : 0 < l0.length := by omega
      obtain ⟨k, hk2, hkl⟩ : ∃ k : Nat, a1 % (l0.length : Int) = (k : Int) ∧ k < l0.length := by
        have e1 := Int.emod_nonneg a1 (show (l0.length : Int) ≠ 0 by omega)
        have e2 := Int.emod_lt_of_pos a1 (show (0 : Int) < l0.length by omega)
        exact ⟨(a1 % l0.length).toNat, by omega, by omega⟩
      have hk : wrap64 (Int.tmod a1 l0.length) = (k : Int) := by rw [Int.tmod_eq_emod_of_nonneg b1.1, hk2, w64 (by omega) (by omega)]
      have hk3 : Int.tmod a1 l0.length = (k : Int) := by rw [Int.tmod_eq_emod_of_nonneg b1.1, hk2]
      have hw8 : wrap64 a1 = a1 := w64 (by omega) (by omega)
      obtain ⟨A', hrun, hC, hlc⟩ := kcut_from (P := Try.prog) (Kd.slice 32 (Kd.int .u64)) 23 22 .i64 Try.underlying23 (by rfl) A0 c0 l0 k (by omega) HC0.out
      obtain ⟨B', hrunT, hCT, hlcT⟩ := kcut_to (P := Try.prog) (Kd.slice 32 (Kd.int .u64)) 23 22 .i64 Try.underlying23 (by rfl) A0 c0 l0 k (by omega) HC0.out
      have HD := Aside0.mk (hC w HR0.out)
      have HT := Aside0.mk (hCT w HR0.out)
      clear hC hCT
      have dl : (l0.drop k).length ≤ 30 := by simp; omega
      have tl : (l0.take k).length ≤ 30 := by simp; omega
      generalize hDD : l0.drop k = D at *
      generalize hTT : l0.take k = T at *
      have ED := Aside0.mk hDD
      have ET := Aside0.mk hTT
      clear hDD hTT
      obtain ⟨U, EU⟩ : ∃ U, Aside0 (D ++ l0 = U) := ⟨_, ⟨rfl⟩⟩
      go_enter Try.func4, Try.ntmps4
      go_wp2_with fail
      refine (unisonlaw04_great.calls 2000 A0 c0 l0 false _ HR0.out HC0.out HG.out).mono ?_
      rintro e w1 ⟨rfl, hd⟩
      have B1 := Aside0.mk hd.below
      clear hd
      have NE1 := Aside0.mk (N_empty (Kd.slice 32 (Kd.int .u64)) 22 w1 w.heap.size B1.out.size)
      go_wp2_with (first
        | ((with_reducible refine gate_dst (N := 26) rfl ?_); refine Kd.N_append_rows (Kd.slice 32 (Kd.int .u64)) (w0 := w) w.heap.size rfl (.tmp 22) (.tmp 25) 23 22 (.slice none 0 0) 24 rfl Try.underlying23 info22 rfl (by decide) (by decide) _ [] D A' D.length (c0 - k) (fun _ => True) (fun b => b < w.heap.size) rfl rfl NE1.out (F_came (Kd.heap_slice _ (Kd.heap_int _)) HD.out (below_alloc B1.out _)) (fun b hb => ⟨trivial, fun he => by have := Kd.N_base NE1.out b he.symm; omega⟩) (fun _ _ => trivial) (below_alloc B1.out _) (by have := B1.out.size; simp; omega) (by first | omega | (simp; omega)) ?_; intro v2 w2 ho hb hg hat; rw [List.nil_append] at ho; obtain ⟨Av2, cv2, rfl⟩ := Kd.N_slice ho; have N2 := Aside0.mk ho; have B2 := Aside0.mk hb; clear ho hb hg hat)
        | ((with_reducible refine gate_dst (N := 28) rfl ?_); refine Kd.N_append_rows (Kd.slice 32 (Kd.int .u64)) (w0 := w) w.heap.size rfl (.tmp 26) (.tmp 27) 23 22 (.slice none 0 0) 24 rfl Try.underlying23 info22 rfl (by decide) (by decide) _ D l0 A0 l0.length c0 (fun _ => True) (fun b => b < w.heap.size) rfl rfl N2.out (F_came (Kd.heap_slice _ (Kd.heap_int _)) HR0.out B2.out) (fun b hb => ⟨trivial, fun he => by have := Kd.N_base N2.out b he.symm; omega⟩) (fun _ _ => trivial) B2.out B2.out.size (by first | omega | (simp; omega)) ?_; intro v3 w3 ho hb hg hat; rw [EU.out] at ho; obtain ⟨Av3, cv3, rfl⟩ := Kd.N_slice ho; have N3 := Aside0.mk ho; have B3 := Aside0.mk hb; clear ho hb hg hat; have NE3 := Aside0.mk (N_empty (Kd.slice 32 (Kd.int .u64)) 22 w3 w.heap.size B3.out.size))
        | ((with_reducible refine gate_dst (N := 33) rfl ?_); refine Kd.N_append_rows (Kd.slice 32 (Kd.int .u64)) (w0 := w) w.heap.size rfl (.tmp 29) (.tmp 32) 23 22 (.slice none 0 0) 24 rfl Try.underlying23 info22 rfl (by decide) (by decide) _ [] T B' T.length c0 (fun _ => True) (fun b => b < w.heap.size) rfl rfl NE3.out (F_came (Kd.heap_slice _ (Kd.heap_int _)) HT.out (below_alloc B3.out _)) (fun b hb => ⟨trivial, fun he => by have := Kd.N_base NE3.out b he.symm; omega⟩) (fun _ _ => trivial) (below_alloc B3.out _) (by have := B3.out.size; simp; omega) (by first | omega | (simp; omega)) ?_; intro v4 w4 ho hb hg hat; rw [List.nil_append] at ho; obtain ⟨Av4, cv4, rfl⟩ := Kd.N_slice ho; have N4 := Aside0.mk ho; have D34 := Aside0.mk ((below_alloc (Below.refl w3.heap.size w3) _).grown hg (by simp) (fun j hj => Nat.le_of_eq (Option.some.inj hj))); have B4 := Aside0.mk hb; clear ho hb hg hat))
      have okT : okV T := by
        have h1 := longest_split l0 k
        rw [ET.out] at h1
        exact ⟨by omega, by omega⟩
      have LT : (foldAll mx T).length ≤ 100 := by
        have h1 := longest_split l0 k
        rw [ET.out] at h1
        rw [foldAll_len]
        omega
      have FT := Aside0.mk (show vec_Max.f T = some (foldAll mx T) from if_pos okT)
      have EM : Aside0 (foldAll mx T = foldAll mx T) := ⟨rfl⟩
      clear okT
      have C4 := Aside0.mk (Kd.N_reads' N4.out).2.2
      have K4 := Aside0.mk (Kd.N_reads' N4.out).2.1
      have hrun6 := hrun
      obtain ⟨M, hM⟩ : ∃ M, M = foldAll mx T := ⟨_, rfl⟩
      rw [← hM] at FT LT
      have HM := Aside0.mk hM
      clear hM
      obtain ⟨V, EV⟩ : ∃ V, Aside0 ([M] ++ D = V) := ⟨_, ⟨rfl⟩⟩
      go_region_held3 (fun w' => True) (trivial)
        ((first
          | (go_at_call 11; refine (vec_Max.calls Av4 cv4 T _ _ (by first | exact C4.out | exact Kd.C_drew C4.out) K4.out FT.out).mono ?_; rintro e w5 ⟨v5, rfl, ho, hb⟩; obtain ⟨A5, c5, rfl⟩ := Kd.R_slice ho; have R5 := Aside0.mk ho; have B5 := Aside0.mk (below_step (by first | exact B4.out | exact below_drew B4.out) hb); have D45 : Aside0 (Below w4.heap.size w4 w5) := ⟨below_step (by first | exact Below.refl _ _ | exact below_drew (Below.refl _ _)) hb⟩; clear ho hb)
          | (refine Kd.N_append_rows_step (Kd.slice 32 (Kd.int .u64)) (w0 := w) w.heap.size (by rfl) (.tmp 36) (.tmp 39) 23 22 (.slice none 0 0) 24 rfl Try.underlying23 info22 rfl (by decide) (by decide) _ [M] D A' D.length (c0 - k) (fun _ => True) (fun b => b < w.heap.size) rfl rfl (N_one _ _ (Kd.R_F R5.out) (Kd.R_reads' R5.out).2.1 B5.out.size) (F_came (Kd.heap_slice _ (Kd.heap_int _)) HD.out (below_alloc B5.out _)) (fun b hb => ⟨trivial, show some b ≠ some w5.heap.size from fun he => (by have h2 := B5.out.size; have h3 := Option.some.inj he; omega)⟩) (fun _ _ => trivial) (below_alloc B5.out _) (by have := B5.out.size; simp; omega) (by first | omega | (simp; omega)) ?_; intro v6 w6 ho hb hg hat; rw [EV.out] at ho; obtain ⟨Av6, cv6, rfl⟩ := Kd.N_slice ho; have N6 := Aside0.mk ho; have D56 := Aside0.mk ((below_alloc (Below.refl w5.heap.size w5) _).grown hg (by simp) (fun j hj => Nat.le_of_eq (Option.some.inj hj))); have B6 := Aside0.mk hb; clear ho hb hg hat)))
      have ok0 : okV l0 := ⟨by omega, by omega⟩
      have lU : longest U = longest l0 := by rw [← EU.out, ← ED.out]; exact turned_longest l0 k
      have okU : okV U := ⟨by rw [← EU.out]; simp; omega, by omega⟩
      have okW : okV V := ⟨by rw [← EV.out]; simp; omega, by rw [← EV.out, ← ED.out, HM.out, ← ET.out]; show longest (foldAll mx (l0.take k) :: l0.drop k) ≤ 1000; rw [part_longest]; omega⟩
      have G1 : Aside0 (vec_Min.f U = some (foldAll mn l0)) := ⟨by rw [← turned_mn l0 k hne, ED.out, EU.out]; exact if_pos okU⟩
      have G2 : Aside0 (vec_Min.f l0 = some (foldAll mn l0)) := ⟨if_pos ok0⟩
      have G3 : Aside0 (vec_Max.f U = some (foldAll mx l0)) := ⟨by rw [← turned_mx l0 k hne, ED.out, EU.out]; exact if_pos okU⟩
      have G4 : Aside0 (vec_Max.f l0 = some (foldAll mx l0)) := ⟨if_pos ok0⟩
      have G5 : Aside0 (vec_Max.f V = some (foldAll mx l0)) := ⟨by rw [← part_mx l0 k hne U0.out, ET.out, ED.out, ← HM.out]; exact (if_pos okW).trans (by rw [← EV.out]; rfl)⟩
      have Q1 := Aside0.mk (Equal_refl (foldAll mn l0) (by rw [foldAll_len]; omega) 2000 (by omega))
      have Q2 := Aside0.mk (Equal_refl (foldAll mx l0) (by rw [foldAll_len]; omega) 2000 (by omega))
      clear ok0 lU okU okW LT
      generalize foldAll mn l0 = X at *
      generalize foldAll mx l0 = Y at *
      have C3b := Aside0.mk (Kd.C_below (Kd.C_below (Kd.C_below (Kd.N_reads' N3.out).2.2 D34.out) D45.out) D56.out)
      have K3 := Aside0.mk (Kd.N_reads' N3.out).2.1
      have C6 := Aside0.mk (Kd.N_reads' N6.out).2.2
      have K6 := Aside0.mk (Kd.N_reads' N6.out).2.1
      go_wp2_with fail
      refine (vec_Min.calls Av3 cv3 U _ _ C3b.out K3.out G1.out).mono ?_
      rintro e w11 ⟨v11, rfl, ho, hb⟩
      obtain ⟨A11, c11, rfl⟩ := Kd.R_slice ho
      have R11 := Aside0.mk (Kd.R_reads' ho).2.2
      have K11 := Aside0.mk (Kd.R_reads' ho).2.1
      have D11 := Aside0.mk hb
      have B11 := Aside0.mk (below_step B6.out hb)
      clear ho hb
      go_wp2_with fail
      refine (vec_Min.calls A0 c0 l0 _ _ (Kd.C_below HR0.out B11.out) HC0.out G2.out).mono ?_
      rintro e w12 ⟨v12, rfl, ho, hb⟩
      obtain ⟨A12, c12, rfl⟩ := Kd.R_slice ho
      have R12 := Aside0.mk (Kd.R_reads' ho).2.2
      have K12 := Aside0.mk (Kd.R_reads' ho).2.1
      have D12 := Aside0.mk hb
      have B12 := Aside0.mk (below_step B11.out hb)
      clear ho hb
      go_wp2_with fail
      refine (unisonref04_Equal.calls 2000 A11 c11 X A12 c12 X true _ (Kd.C_below R11.out D12.out) K11.out R12.out K12.out Q1.out).mono ?_
      rintro e w13 ⟨rfl, hd⟩
      have E13 := Aside0.mk hd.below
      have B13 := Aside0.mk (below_step B12.out hd.below)
      clear hd
      go_wp2_with fail
      refine (vec_Max.calls Av3 cv3 U _ _ (Kd.C_below (Kd.C_below (Kd.C_below C3b.out D11.out) D12.out) E13.out) K3.out G3.out).mono ?_
      rintro e w14 ⟨v14, rfl, ho, hb⟩
      obtain ⟨A14, c14, rfl⟩ := Kd.R_slice ho
      have R14 := Aside0.mk (Kd.R_reads' ho).2.2
      have K14 := Aside0.mk (Kd.R_reads' ho).2.1
      have D14 := Aside0.mk hb
      have B14 := Aside0.mk (below_step B13.out hb)
      clear ho hb
      go_wp2_with fail
      refine (vec_Max.calls A0 c0 l0 _ _ (Kd.C_below HR0.out B14.out) HC0.out G4.out).mono ?_
      rintro e w15 ⟨v15, rfl, ho, hb⟩
      obtain ⟨A15, c15, rfl⟩ := Kd.R_slice ho
      have R15 := Aside0.mk (Kd.R_reads' ho).2.2
      have K15 := Aside0.mk (Kd.R_reads' ho).2.1
      have D15 := Aside0.mk hb
      have B15 := Aside0.mk (below_step B14.out hb)
      clear ho hb
      go_wp2_with fail
      refine (unisonref04_Equal.calls 2000 A14 c14 Y A15 c15 Y true _ (Kd.C_below R14.out D15.out) K14.out R15.out K15.out Q2.out).mono ?_
      rintro e w16 ⟨rfl, hd⟩
      have E16 := Aside0.mk hd.below
      have B16 := Aside0.mk (below_step B15.out hd.below)
      clear hd
      go_wp2_with fail
      refine (vec_Max.calls Av6 cv6 V _ _ (Kd.C_below (Kd.C_below (Kd.C_below (Kd.C_below (Kd.C_below (Kd.C_below C6.out D11.out) D12.out) E13.out) D14.out) D15.out) E16.out) K6.out G5.out).mono ?_
      rintro e w17 ⟨v17, rfl, ho, hb⟩
      obtain ⟨A17, c17, rfl⟩ := Kd.R_slice ho
      have R17 := Aside0.mk (Kd.R_reads' ho).2.2
      have K17 := Aside0.mk (Kd.R_reads' ho).2.1
      have D17 := Aside0.mk hb
      have B17 := Aside0.mk (below_step B16.out hb)
      clear ho hb
      go_wp2_with fail
      refine (vec_Max.calls A0 c0 l0 _ _ (Kd.C_below HR0.out B17.out) HC0.out G4.out).mono ?_
      rintro e w18 ⟨v18, rfl, ho, hb⟩
      obtain ⟨A18, c18, rfl⟩ := Kd.R_slice ho
      have R18 := Aside0.mk (Kd.R_reads' ho).2.2
      have K18 := Aside0.mk (Kd.R_reads' ho).2.1
      have D18 := Aside0.mk hb
      have B18 := Aside0.mk (below_step B17.out hb)
      clear ho hb
      go_wp2_with fail
      refine (unisonref04_Equal.calls 2000 A17 c17 Y A18 c18 Y true _ (Kd.C_below R17.out D18.out) K17.out R18.out K18.out Q2.out).mono ?_
      rintro e w19 ⟨rfl, hd⟩
      have E19 := Aside0.mk hd.below
      have B19 := Aside0.mk (below_step B18.out hd.below)
      clear hd
      go_wp2_with fail
      refine (unisonlaw04_awake.calls true _ AW.out).mono ?_
      rintro e w20 ⟨rfl, hb⟩
      have B20 := Aside0.mk (below_step B19.out hb)
      clear hb
      go_wp2_with fail
      go_ret
      exact ⟨rfl, B20.out⟩

end Go.Proofs.Ytfdopedpplhhaaa.Walk
