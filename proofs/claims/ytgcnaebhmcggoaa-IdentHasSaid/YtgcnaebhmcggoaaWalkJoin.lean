/- The rows of ids. Conditions: none beyond the statement's own. -/
import Derived.Test.YtgcnaebhmcggoaaWalkCompact
import Derived.Test.YtgcnaebhmcggoaaArgs
import Derived.Deep.QuietTactic
import Derived.BigQuiet
import Derived.Lib.QuietBelow
import Derived.Outline
import Derived.Deep.RegionHeld3
import Derived.Deep.CutRange
namespace Go.Proofs.Ytgcnaebhmcggoaa.Walk
open Go.RowKit Go.Proofs.Ytgcnaebhmcggoaa.F Go.Proofs.YtgcnaebhmcggoaaW.PrintWords Go.Proofs.YtgcnaebhmcggoaaW.PrintLast Go.Proofs.YtgcnaebhmcggoaaW.PrintMore Go.Proofs.Ytgcnaebhmcggoaa.Open
open Go.Sort (grow)
attribute [local go_sem] max2_int min2_int max_two min_two max_three min_three max_four min_four
set_option linter.unusedVariables false
set_option linter.unusedSimpArgs false

/-! ### behind (as it was printed) -/
def behindW.f (a0_0 : Int) (a0_1 : Int) (a0_2 : Int) : Option (Int × Int) := some (a0_0, IntKind.u64.wrap (a0_1 + a0_2))
set_option maxHeartbeats 8000000 in
set_option maxRecDepth 100000 in
theorem behindW.calls (a0_0 : Int) (a0_1 : Int) (a0_2 : Int) (r1 : Int) (r2 : Int) (w : World) (h : behindW.f a0_0 a0_1 a0_2 = some (r1, r2)) :
    Calls Try.prog 33 #[.agg #[.int .u8 a0_0, .int .u64 a0_1, .int .u64 a0_2]] w fun e w' => e = .returned (.agg #[.int .u8 r1, .int .u64 r2]) ∧ Below w.heap.size w w' := by
  have hu40 := Try.underlying40
  have hu33 := Try.underlying33
  have HB := Aside0.mk (Below.refl w.heap.size w)
  have H : (some (a0_0, IntKind.u64.wrap (a0_1 + a0_2))) = some (r1, r2) := h
  clear h
  simp only [Option.some.injEq, Prod.mk.injEq] at H
  obtain ⟨rfl, rfl⟩ := H
  go_enter Try.func33, Try.ntmps33
  go_wp2_with (first | ((with_reducible refine gate_dst (N := 1) rfl ?_); refine box_event ?hg (N := 1) ?hd (cs := #[.int .u8 a0_0, .int .u64 a0_1, .int .u64 a0_2]) (t := 40) ?hr ?_; (case hd => rfl); (case hg => rfl); (case hr => first | (go_simp; done) | (go_simp; rfl)); intro gb128 hg w2 hbox hb; have n0_ := Aside0.mk (below_step (by repeat (first | (with_reducible first | exact HB.out | apply below_alloc | apply pw_below_drewN | apply below_drew1) | exact HB.out)) hb); have n1_ := Aside0.mk (hbox); have n2_ := Aside0.mk ((by rw [hg]; exact (below_size (by repeat (first | (with_reducible first | exact HB.out | apply below_alloc | apply pw_below_drewN | apply below_drew1) | exact HB.out))) : w.heap.size ≤ gb128)); have n3_ := Aside0.mk ((by rw [hg]; exact (below_size (by repeat (first | (with_reducible first | exact HB.out | apply below_alloc | apply pw_below_drewN | apply below_drew1) | exact HB.out))) : w.heap.size ≤ gb128)); clear HB; have HB := n0_; have BK128 := n1_; have GW128 := n2_; have GE128 := n3_; clear n0_ n1_ n2_ n3_; clear hb hbox hg) | ((with_reducible refine gate_dst (N := 2) rfl ?_); refine box_event ?hg (N := 2) ?hd (cs := #[.int .u8 0, .int .u64 0]) (t := 33) ?hr ?_; (case hd => rfl); (case hg => rfl); (case hr => first | (go_simp; done) | (go_simp; rfl)); intro gb129 hg w3 hbox hb; have n0_ := Aside0.mk (blk_below (g := gb128) (o := .cells #[.int .u8 a0_0, .int .u64 a0_1, .int .u64 a0_2] 40 (0, 0)) (by (with_reducible repeat (first | refine blk_drewN ?_ _ | refine blk_drew ?_ | refine blk_alloc ?_ _)); exact BK128.out) hb); have n1_ := Aside0.mk (below_step (by repeat (first | (with_reducible first | exact HB.out | apply below_alloc | apply pw_below_drewN | apply below_drew1 | refine below_set ?_ GE128.out) | exact HB.out)) hb); have n2_ := Aside0.mk (hbox); have n3_ := Aside0.mk ((by rw [hg]; exact (below_size (by repeat (first | (with_reducible first | exact HB.out | apply below_alloc | apply pw_below_drewN | apply below_drew1 | refine below_set ?_ GE128.out) | exact HB.out))) : w.heap.size ≤ gb129)); have n4_ := Aside0.mk ((by rw [hg]; exact (below_size (by repeat (first | (with_reducible first | exact HB.out | apply below_alloc | apply pw_below_drewN | apply below_drew1 | refine below_set ?_ GE128.out) | exact HB.out))) : w.heap.size ≤ gb129)); have n5_ := Aside0.mk ((by rw [hg]; exact Nat.ne_of_lt (blk_lt (g := gb128) (o := .cells #[.int .u8 a0_0, .int .u64 a0_1, .int .u64 a0_2] 40 (0, 0)) (by (with_reducible repeat (first | refine blk_drewN ?_ _ | refine blk_drew ?_ | refine blk_alloc ?_ _)); exact BK128.out)) : gb128 ≠ gb129)); have n6_ := Aside0.mk ((by rw [hg]; exact Nat.ne_of_gt (blk_lt (g := gb128) (o := .cells #[.int .u8 a0_0, .int .u64 a0_1, .int .u64 a0_2] 40 (0, 0)) (by (with_reducible repeat (first | refine blk_drewN ?_ _ | refine blk_drew ?_ | refine blk_alloc ?_ _)); exact BK128.out)) : gb129 ≠ gb128)); clear BK128; clear HB; have BK128 := n0_; have HB := n1_; have BK129 := n2_; have GW129 := n3_; have GE129 := n4_; have NB128_129 := n5_; have NB129_128 := n6_; clear n0_ n1_ n2_ n3_ n4_ n5_ n6_; clear hb hbox hg; have hnb4 := NB128_129.out; have hnc4 := NB129_128.out; have hcz5_0 : w3.cell? ⟨gb128, 0, none⟩ = some (.int .u8 a0_0) := (blk_cell BK128.out 0).trans rfl; have hcz5_1 : w3.cell? ⟨gb128, 1, none⟩ = some (.int .u64 a0_1) := (blk_cell BK128.out 1).trans rfl; have hcz5_2 : w3.cell? ⟨gb128, 2, none⟩ = some (.int .u64 a0_2) := (blk_cell BK128.out 2).trans rfl; have hfz5_0 := blk_frozen BK128.out 0; have hfz5_1 := blk_frozen BK128.out 1; have hfz5_2 := blk_frozen BK128.out 2; have hcz6_0 : w3.cell? ⟨gb129, 0, none⟩ = some (.int .u8 0) := (blk_cell BK129.out 0).trans rfl; have hcz6_1 : w3.cell? ⟨gb129, 1, none⟩ = some (.int .u64 0) := (blk_cell BK129.out 1).trans rfl; have hfz6_0 := blk_frozen BK129.out 0; have hfz6_1 := blk_frozen BK129.out 1))
  refine bodyPost_ret (results_cell_row rfl _ _ gb129 33 #[.int .u8 a0_0, .int .u64 (IntKind.u64.wrap (a0_1 + a0_2))] (0, 0) _ rfl (by (with_reducible repeat (first | refine blk_drewN ?_ _ | refine blk_drew ?_ | refine blk_alloc ?_ _)); refine blk_put (cs := #[.int .u8 a0_0, .int .u64 0]) ?_ 1 _ rfl; (with_reducible repeat (first | refine blk_drewN ?_ _ | refine blk_drew ?_ | refine blk_alloc ?_ _)); refine blk_put (cs := #[.int .u8 0, .int .u64 0]) ?_ 0 _ rfl; (with_reducible repeat (first | refine blk_drewN ?_ _ | refine blk_drew ?_ | refine blk_alloc ?_ _)); exact BK129.out) Try.underlying33 rfl (by kernel_rfl)) rfl ?_
  exact ⟨by first | rfl | (simp [errW_none, errW_some] <;> rfl) | (simp [*, errW_none, errW_some] <;> rfl), by repeat (first | (with_reducible first | exact HB.out | apply below_alloc | apply pw_below_drewN | apply below_drew1 | refine below_set ?_ GE128.out | refine below_set ?_ GE129.out) | exact HB.out)⟩


/-! ### Join -/
attribute [local go_sem high] eqA33
abbrev Rn := S40
abbrev kRn : Kd Rn := k40
abbrev kI : Kd I := k33
abbrev tRn : Nat := 40
def stepJ (out : List Rn) (x : I) : List Rn :=
  match out.getLast? with
  | some r => if r.f0 = x.f0 ∧ IntKind.u64.wrap (r.f1 + r.f2) = x.f1 then out.dropLast ++ [⟨r.f0, r.f1, IntKind.u64.wrap (r.f2 + 1)⟩] else out ++ [⟨x.f0, x.f1, 1⟩]
  | none => [⟨x.f0, x.f1, 1⟩]
theorem infoRn : (Try.prog.info? 40).map (fun i => (i.zero, i.size, i.bytes)) = some (some (.agg #[.int .u8 0, .int .u64 0, .int .u64 0]), 3, 24) := by kernel_rfl
theorem step_one (out : List Rn) (x : I) : (stepJ out x).length ≤ out.length + 1 := by
  unfold stepJ
  cases h : out.getLast? with
  | none => simp
  | some r =>
    dsimp only
    split
    · simp only [List.length_append, List.length_dropLast, List.length_cons, List.length_nil]
      omega
    · simp
theorem step_len : ∀ (D : List I) (out : List Rn), (D.foldl stepJ out).length ≤ out.length + D.length
  | [], out => by simp
  | x :: D, out => by
    have h := step_len D (stepJ out x)
    have h1 := step_one out x
    simp only [List.foldl_cons, List.length_cons]
    omega
def idsJ (l : List I) : List I := cpL (sortI (l.filter mayI))
def joinF (l : List I) : List Rn := (idsJ l).foldl stepJ []
theorem cp_len (L : List I) : ∀ k, (cp L k).length ≤ k
  | 0 => Nat.le_refl _
  | k + 1 => by
    rw [cp, List.length_append]
    have := cp_len L k
    cases L[k]? with
    | none => simp; omega
    | some x => dsimp only; split <;> simp <;> omega
theorem ids_len (l : List I) : (idsJ l).length ≤ l.length := by
  have h1 := cp_len (sortI (l.filter mayI)) (sortI (l.filter mayI)).length
  have h2 : (sortI (l.filter mayI)).length = (l.filter mayI).length := by simp [sortI]
  have h3 := List.length_filter_le mayI l
  unfold idsJ cpL
  omega
theorem behind_calls (r : Rn) (W : World) : Calls Try.prog 33 #[.agg #[.int .u8 r.f0, .int .u64 r.f1, .int .u64 r.f2]] W fun e w' => e = .returned (.agg #[.int .u8 r.f0, .int .u64 (IntKind.u64.wrap (r.f1 + r.f2))]) ∧ Below W.heap.size W w' :=
  behindW.calls r.f0 r.f1 r.f2 _ _ W rfl
theorem joinF_nil : joinF [] = [] := by simp [joinF, idsJ, cpL, sortI, cp]
theorem row2_of_R {w : World} {base : Nat} {ok : Nat → Prop} {v : Value} {L : List I} (h : Kd.R kI tI w base ok v L) : (v = .slice none 0 0 ∧ L = []) ∨ ∃ b c, v = .slice (some ⟨b, 0, none⟩) L.length c ∧ L.length ≤ c ∧ base ≤ b ∧ Row2 w b L := by
  obtain ⟨hok, cs, ⟨hl, ho⟩, hr⟩ := h
  rcases ho with ⟨rfl, hn⟩ | ⟨g, cap, cur, rfl, hb, hg, hc, hm, hs, ht⟩
  · exact .inl ⟨rfl, List.eq_nil_of_length_eq_zero hn⟩
  · refine .inr ⟨g, cap, rfl, hc, hb, blk_lt hg, fun j x hx => ?_⟩
    have hj : j < L.length := (List.getElem?_eq_some_iff.1 hx).1
    obtain ⟨A, c2, e, _, hC⟩ := Kd.R_reads (d := kI) (e := tI) (w := w) (base := base) (ok := ok) (v := .slice (some ⟨g, 0, none⟩) L.length cap) ⟨hok, cs, ⟨hl, .inr ⟨g, cap, cur, rfl, hb, hg, hc, hm, hs, ht⟩⟩, hr⟩
    cases e
    obtain ⟨ad, q, e, _, hK, hq⟩ := Kd.C_get hC z33 (j : Int) (by omega) (by omega)
    cases e
    have hxe : L.getD ((j : Int)).toNat z33 = x := by simp [List.getD, hx]
    rw [hxe] at hK
    obtain rfl := k33_open hK
    have q0 := hq 0 _ rfl
    have q1 := hq 1 _ rfl
    rw [add_plain] at q0 q1
    exact ⟨q0, q1, blk_frozen hg _, blk_frozen hg _⟩
theorem Index_nil (a : Option Addr) (c : Nat) (fv : Value) (w : World) :
    Calls Try.prog 38 #[.slice a 0 c, fv] w fun e w' => e = .returned (.int .i64 (-1)) ∧ w' = w := by
  go_enter Try.func38, Try.ntmps38
  go_wp2_with fail
  go_loopg [8] 0 (fun _ s8 wr => s8 = .int .i64 0 ∧ wr = w)
  case atStart => exact ⟨rfl, rfl⟩
  case round =>
    obtain ⟨rfl, rfl⟩ := hrel
    go_wp2_with fail
    go_ret
    exact ⟨rfl, rfl⟩
theorem Delete_nil (a : Option Addr) (c : Nat) (fv : Value) (w : World) :
    Calls Try.prog 27 #[.slice a 0 c, fv] w fun e w' => e = .returned (.slice a 0 c) ∧ w' = w := by
  go_enter Try.func27, Try.ntmps27
  go_wp2_with fail
  refine (Index_nil a c fv w).mono ?_
  rintro e w1 ⟨rfl, rfl⟩
  go_wp2_with fail
  go_ret
  exact ⟨rfl, rfl⟩
theorem Compact_nil (a : Option Addr) (c : Nat) (w : World) :
    Calls Try.prog 32 #[.slice a 0 c] w fun e w' => e = .returned (.slice a 0 c) ∧ w' = w := by
  go_enter Try.func32, Try.ntmps32
  go_wp2_with fail
  go_ret
  exact ⟨rfl, rfl⟩
theorem Sort_nil (a : Option Addr) (c : Nat) (fv : Value) (w : World) :
    Calls Try.prog 30 #[.slice a 0 c, fv] w fun e w' => e = .returned (.tuple #[]) ∧ w' = w :=
  AnyF.slices_SortFunc_none sortID a c fv w
theorem R_some {w : World} {base N co : Nat} {ok : Nat → Prop} {A : Option Addr} {L : List Rn} (h : Kd.R kRn tRn w base ok (.slice A N co) L) (hn : 0 < N) : ∃ g, A = some ⟨g, 0, none⟩ := by
  obtain ⟨_, cs, ⟨_, ho⟩, _⟩ := h
  rcases ho with ⟨e, _⟩ | ⟨g, cap, cur, e, _⟩
  · cases e
    omega
  · cases e
    exact ⟨g, rfl⟩
set_option maxHeartbeats 4000000 in
theorem Join_calls (A0 : Option Addr) (c0 : Nat) (l0 : List I) (w : World) (hr0 : Kd.C kI w A0 l0.length l0) (hc0 : l0.length ≤ c0) (hl : l0.length ≤ 1000000) :
    Calls Try.prog 9 #[.slice A0 l0.length c0] w fun e w' => ∃ v0_ : Value, e = .returned v0_ ∧ Kd.R kRn tRn w' w.heap.size (fun _ => True) v0_ (joinF l0) ∧ Below w.heap.size w w' := by
  have CL := Aside0.mk (api_ID_28.calls A0 c0 l0 l0 w hr0 hc0 (by unfold api_ID_28.f; rw [if_pos (by omega)]))
  have HC := Aside0.mk hr0
  have LE := ids_len l0
  obtain ⟨D, hD⟩ : ∃ D, D = idsJ l0 := ⟨_, rfl⟩
  rw [joinF, ← hD]
  rw [← hD] at LE
  have ED := Aside0.mk hD
  clear hr0 hD
  go_enter Try.func9, Try.ntmps9
  go_wp2_with fail
  refine CL.out.mono ?_
  rintro e w1 ⟨v, rfl, hR, hb⟩
  rcases row2_of_R hR with ⟨rfl, rfl⟩ | ⟨b, c, rfl, hcl, hbb, hrow⟩
  · have B1 := Aside0.mk hb
    have LE := Aside0.mk LE
    clear hb hR CL
    go_wp2_with fail
    refine (Delete_nil none 0 _ w1).mono ?_
    rintro e w2 ⟨rfl, rfl⟩
    go_wp2_with fail
    refine (Sort_nil none 0 _ w2).mono ?_
    rintro e w3 ⟨rfl, rfl⟩
    go_wp2_with fail
    refine (Compact_nil none 0 w3).mono ?_
    rintro e w4 ⟨rfl, rfl⟩
    go_wp2_with fail
    go_loopg [4, 16] 0 (fun _ s4 s16 wr => s4 = .slice none 0 0 ∧ s16 = .int .i64 0 ∧ wr = w4)
    case atStart => exact ⟨rfl, rfl, rfl⟩
    case round =>
      obtain ⟨rfl, rfl, rfl⟩ := hrel
      go_wp2_with fail
      go_ret
      obtain rfl : D = [] := List.eq_nil_of_length_eq_zero (by simpa using LE.out)
      exact ⟨_, rfl, Kd.R_nil _ _ _ _ _, B1.out⟩
  · have B1 := Aside0.mk hb
    have R1 := Aside0.mk hrow
    clear hb hR CL hrow
    have hf : (l0.filter mayI).length ≤ l0.length := List.length_filter_le _ _
    have HS : Aside0 ((sortI (l0.filter mayI)).length = (l0.filter mayI).length) := ⟨by simp [sortI]⟩
    have hs2 : (sortI (l0.filter mayI)).length ≤ 1000000 := by rw [HS.out]; omega
    have hs3 : (sortI (l0.filter mayI)).length ≤ c := by rw [HS.out]; omega
    have hbn : w.heap.size ≤ b := hbb
    have hB := Aside0.mk hbn
    go_wp2_with fail
    refine (Delete_calls R1.out c hl hcl).mono ?_
    rintro e w2 ⟨rfl, R2, D2⟩
    have R2 := Aside0.mk R2
    have D2 := Aside0.mk D2
    go_wp2_with fail
    refine (Sort_calls R2.out c (by omega)).mono ?_
    rintro e w3 ⟨rfl, R3, D3⟩
    have R3 := Aside0.mk R3
    have D3 := Aside0.mk (D2.out.trans D3)
    rw [← HS.out]
    go_wp2_with fail
    refine (Compact_calls R3.out c hs2 hs3).mono ?_
    rintro e w4 ⟨rfl, R4, D4⟩
    have B4 : Aside0 (Below w.heap.size w w4) := ⟨Beside.step B1.out (D3.out.trans D4) (fun k hk => Nat.le_trans hB.out (Nat.le_of_eq hk.symm))⟩
    have eD : cpL (sortI (l0.filter mayI)) = D := by rw [ED.out, idsJ]
    rw [eD] at R4 ⊢
    clear eD hf HS hs2 hs3 hcl ED
    have R4 := Aside0.mk R4
    clear R1 R2 R3 D2 D3 D4 hbb hbn
    have OL : Aside0 (∀ j, ∀ {out : List Rn}, out = (D.take j).foldl stepJ [] → out.length ≤ 1000000) := ⟨fun j out ho => by rw [ho]; have := step_len (D.take j) []; have := List.length_take_le j D; simp at *; omega⟩
    go_wp2_with fail
    go_loopg [4, 16] D.length (fun gg s4 s16 wr => ∃ j : Nat, s16 = .int .i64 j ∧ j ≤ D.length ∧ D.length - j ≤ gg ∧ Aside0 (Row2 wr b D) ∧ Aside0 (Below w.heap.size w wr) ∧ Aside0 (Kd.R kRn tRn wr w.heap.size (fun k => k ≠ b) s4 ((D.take j).foldl stepJ [])))
    case atStart => exact ⟨0, rfl, Nat.zero_le _, by omega, R4, B4, ⟨Kd.R_nil _ _ _ _ _⟩⟩
    case round =>
      clear R4 B4
      obtain ⟨j, rfl, hj, hgg, RM, HB, RO⟩ := hrel
      by_cases hlt : j < D.length
      · have hltz : (j : Int) < (D.length : Int) := by omega
        obtain ⟨k0, k1, _, _⟩ := RM.out.get j hlt
        have HX := Aside0.mk (List.getElem?_eq_getElem hlt)
        generalize D[j] = x at k0 k1 HX
        have SX : Aside0 ((D.take (j + 1)).foldl stepJ [] = stepJ ((D.take j).foldl stepJ []) x) := ⟨by rw [List.take_add_one, HX.out, List.foldl_append]; rfl⟩
        obtain ⟨out, hout⟩ : ∃ out, out = (D.take j).foldl stepJ [] := ⟨_, rfl⟩
        rw [← hout] at RO SX
        have RO0 := Aside0.mk hout
        clear hout
        obtain ⟨Ao, co, rfl⟩ := Kd.R_slice RO.out
        have hblt := RM.out.lt
        have NB : Aside0 (some b ≠ (Value.slice Ao out.length co).ownBlock) := ⟨fun e => RO.out.1 b e.symm rfl⟩
        have hol : out.length ≤ 1000000 := OL.out j RO0.out
        obtain ⟨N, hN⟩ : ∃ N, N = out.length := ⟨_, rfl⟩
        rw [← hN] at RO hol NB ⊢
        have HN := Aside0.mk hN
        clear hN RO0
        rcases List.eq_nil_or_concat out with hout | ⟨out', r, hout0⟩
        · have E1 : Aside0 (out = []) := ⟨hout⟩
          have HN0 : Aside0 (N = 0) := ⟨by rw [HN.out, hout]; rfl⟩
          have hw1 : IntKind.i64.wrap ((N : Int) - 1) = -1 := by rw [HN0.out]; decide
          have SJ : Aside0 (stepJ out x = out ++ [⟨x.f0, x.f1, 1⟩]) := ⟨by rw [hout]; rfl⟩
          clear hout
          go_wp2_with fail
          go_quiet (fail)
          have BW : Aside0 (Below wr.heap.size wr ((wr.alloc (.cells #[.int .u8 x.f0, .int .u64 x.f1] tI)).drewN nq)) := ⟨pw_below_drewN (below_alloc (Below.refl _ _) _) _⟩
          have hsz : Aside0 (w.heap.size ≤ ((wr.alloc (.cells #[.int .u8 x.f0, .int .u64 x.f1] tI)).drewN nq).heap.size) := ⟨Nat.le_trans HB.out.size BW.out.size⟩
          have HBL : Aside0 (b < ((wr.alloc (.cells #[.int .u8 x.f0, .int .u64 x.f1] tI)).drewN nq).heap.size) := ⟨Nat.lt_of_lt_of_le hblt BW.out.size⟩
          have BXq : Aside0 (((wr.alloc (.cells #[.int .u8 x.f0, .int .u64 x.f1] tI)).drewN nq).heap[wr.heap.size]? = some (.cells #[.int .u8 x.f0, .int .u64 x.f1] tI (0, 0))) := ⟨blk_drewN (blk_new wr _) nq⟩
          generalize (wr.alloc (.cells #[.int .u8 x.f0, .int .u64 x.f1] tI)).drewN nq = wq at BW hsz HBL BXq ⊢
          have e0 : wq.cell? ⟨wr.heap.size, 0, none⟩ = some (.int .u8 x.f0) := (blk_cell BXq.out 0).trans rfl
          have e1 : wq.cell? ⟨wr.heap.size, 1, none⟩ = some (.int .u64 x.f1) := (blk_cell BXq.out 1).trans rfl
          go_upto_region 10 with (fail)
          go_wp2_with ((with_reducible refine gate_dst (N := 49) rfl ?_); refine Kd.R_append kRn (w0 := w) w.heap.size rfl (.tmp 42) (.tmp 48) 24 tRn (.agg #[.int .u8 0, .int .u64 0, .int .u64 0]) 24 rfl Try.underlying24 infoRn rfl (by decide) (by omega) (.slice Ao N co) out (⟨x.f0, x.f1, 1⟩ : Rn) [.int .u8 x.f0, .int .u64 x.f1, .int .u64 1] (fun k => k ≠ b) (fun _ => False) rfl rfl (k40_mkM _ _ _ (⟨x.f0, x.f1, 1⟩ : Rn)) (fun _ hk => hk.elim) (fun k hk e => Nat.lt_irrefl _ (Nat.lt_of_lt_of_le HBL.out (Nat.le_trans hk (Nat.le_of_eq e)))) (Kd.R_below RO.out BW.out) (below_then HB.out HB.out.size BW.out) hsz.out (by rw [← HN.out]; omega) ?_; intro v1 w6 ho hb hg hat; have RO6 := Aside0.mk ho; have B6 := Aside0.mk hb; have G6 := Aside0.mk hg; clear ho hb hg hat)
          go_roundg (D.length - (j + 1))
          case measure => omega
          case rel =>
            refine ⟨j + 1, by go_num, by omega, Nat.le_refl _, ⟨?_⟩, B6, ⟨by rw [SX.out, SJ.out]; exact RO6.out⟩⟩
            exact (RM.out.below BW.out).move G6.out.size (G6.out.block b (Nat.lt_of_lt_of_le hblt BW.out.size) NB.out)
        · have hout : out = out' ++ [r] := by rw [hout0, List.concat_eq_append]
          have E1 : Aside0 (out = out' ++ [r]) := ⟨hout⟩
          clear hout0
          obtain ⟨n, hn⟩ : ∃ n, n = out'.length := ⟨_, rfl⟩
          have hNn : N = n + 1 := by rw [HN.out, hout, hn]; simp
          have HNn := Aside0.mk (And.intro hNn hn)
          have SJ : Aside0 (stepJ out x = if r.f0 = x.f0 ∧ IntKind.u64.wrap (r.f1 + r.f2) = x.f1 then out' ++ [⟨r.f0, r.f1, IntKind.u64.wrap (r.f2 + 1)⟩] else out ++ [⟨x.f0, x.f1, 1⟩]) := ⟨by rw [hout]; simp [stepJ]⟩
          clear hout hn
          have hgz : (0 : Int) ≤ (n : Int) := by omega
          have hnz1 : (n : Int) < (n : Int) + 1 := by omega
          have hnz2 : n < n + 1 := by omega
          have hnz3 : (n : Int) < ((n + 1 : Nat) : Int) := by omega
          have hnz : (n : Int) < (N : Int) := by omega
          have hw1 : IntKind.i64.wrap ((N : Int) - 1) = (n : Int) := by rw [IntKind.wrap_i64]; omega
          obtain ⟨g, rfl⟩ : ∃ g, Ao = some ⟨g, 0, none⟩ := by
            rcases R_some RO.out (by omega) with ⟨g, e⟩
            cases e
            exact ⟨g, rfl⟩
          have NB2 : Aside0 (some b ≠ (Value.slice (some ⟨g, 0, none⟩) (n + 1) co).ownBlock) := ⟨by rw [← hNn]; exact NB.out⟩
          obtain ⟨cc, hcl, hM, hcc, hcf⟩ := Kd.R_elem RO.out z40 (n : Int) (by omega) hnz
          have hr : out.getD ((n : Int)).toNat z40 = r := by
            rw [E1.out, Int.toNat_natCast, HNn.out.2, List.getD, List.getElem?_append_right (Nat.le_refl _)]
            simp
          rw [hr] at hM
          clear hr
          obtain rfl := k40_openM hM
          rw [Int.toNat_natCast] at hcc hcf
          have q0 := hcc 0 _ rfl
          have q1 := hcc 1 _ rfl
          have q2 := hcc 2 _ rfl
          have f2 := hcf 2
          have HCC := Aside0.mk hcc
          have HGB : Aside0 (g ≠ b) := ⟨fun e => RO.out.1 g rfl (by rw [e])⟩
          clear hcc hcf hcl hM
          change wr.cell? ⟨g, n * 3 + 0, none⟩ = _ at q0
          change wr.cell? ⟨g, n * 3 + 1, none⟩ = _ at q1
          change wr.cell? ⟨g, n * 3 + 2, none⟩ = _ at q2
          change wr.frozen? ⟨g, n * 3 + 2, none⟩ = _ at f2
          rw [Nat.add_zero] at q0
          obtain ⟨bb, hbb⟩ : ∃ bb, bb = IntKind.u64.wrap (r.f1 + r.f2) := ⟨_, rfl⟩
          have BH : Aside0 (∀ W, Calls Try.prog 33 #[.agg #[.int .u8 r.f0, .int .u64 r.f1, .int .u64 r.f2]] W fun e w' => e = .returned (.agg #[.int .u8 r.f0, .int .u64 bb]) ∧ Below W.heap.size W w') := ⟨fun W => by rw [hbb]; exact behind_calls r W⟩
          have BX := Aside0.mk (blk_new wr (.cells #[.int .u8 x.f0, .int .u64 x.f1] tI))
          obtain ⟨s, hs⟩ : ∃ s, (r.f0 == x.f0 && (bb == x.f1)) = s := ⟨_, rfl⟩
          have HBB := Aside0.mk hbb
          clear hbb
          go_wp2_with fail
          go_region_held3 (fun w' => w'.cell? ⟨wr.heap.size, 0, none⟩ = some (.int .u8 x.f0) ∧ w'.cell? ⟨wr.heap.size, 1, none⟩ = some (.int .u64 x.f1) ∧ w'.cell? ⟨g, n * 3, none⟩ = some (.int .u8 r.f0) ∧ w'.cell? ⟨g, n * 3 + 1, none⟩ = some (.int .u64 r.f1) ∧ w'.cell? ⟨g, n * 3 + 2, none⟩ = some (.int .u64 r.f2)) (go_keep) ((go_at_call 33; refine (BH.out _).mono ?_; rintro e w2 ⟨rfl, hb⟩; have B2 : Aside0 (Below wr.heap.size wr w2) := ⟨below_step (below_drew (below_alloc (Below.refl _ _) _)) hb⟩; have BX2 := Aside0.mk (blk_below (blk_drew BX.out) hb); clear hb; have y0 := pw_cell_below B2.out q0; have y1 := pw_cell_below B2.out q1; have y2 := pw_cell_below B2.out q2; have y3 : w2.cell? ⟨wr.heap.size, 0, none⟩ = some (.int .u8 x.f0) := (blk_cell BX2.out 0).trans rfl; have y4 : w2.cell? ⟨wr.heap.size, 1, none⟩ = some (.int .u64 x.f1) := (blk_cell BX2.out 1).trans rfl))
          clear k0 k1 q0 q1 q2 BX BH y0 y1 
          have R2 : Aside0 (Kd.R kRn tRn w2 w.heap.size (fun k => k ≠ b) (.slice (some ⟨g, 0, none⟩) (n + 1) co) out) := ⟨by rw [← HNn.out.1]; exact Kd.R_below RO.out B2.out⟩
          cases s with
          | true =>
            have hb2 : r.f0 = x.f0 ∧ bb = x.f1 := by simpa using hs
            have SJ2 : Aside0 (stepJ out x = out' ++ [⟨r.f0, r.f1, IntKind.u64.wrap (r.f2 + 1)⟩]) := ⟨by rw [SJ.out, if_pos ⟨hb2.1, by rw [← HBB.out]; exact hb2.2⟩]⟩
            clear hb2 SJ
            have z2 : w2.frozen? ⟨g, n * 3 + 2, none⟩ = false := f2 ▸ B2.out.frozen (World.block_lt_of_cell? _ _ (HCC.out 2 _ rfl))
            have HCC2 : Aside0 (∀ (j : Nat) (u : Value), ([.int .u8 r.f0, .int .u64 r.f1, .int .u64 r.f2] : List Value)[j]? = some u → w2.cell? ⟨g, ((n : Int)).toNat * 3 + j, none⟩ = some u) := ⟨fun j u hu => by rw [Int.toNat_natCast]; exact pw_cell_below B2.out (HCC.out j u hu)⟩
            obtain ⟨rr, hrr⟩ : ∃ rr, rr = IntKind.u64.wrap (r.f2 + 1) := ⟨_, rfl⟩
            have RS : Aside0 (out.set ((n : Int)).toNat ⟨r.f0, r.f1, rr⟩ = stepJ out x) := ⟨by rw [SJ2.out, E1.out, Int.toNat_natCast, HNn.out.2, hrr, List.set_append_right _ _ (Nat.le_refl _)]; simp⟩
            rw [← hrr] at SJ2
            replace hrr : IntKind.u64.wrap (r.f2 + 1) = rr := hrr.symm
            go_upto_region 9 with (fail)
            go_wp2_with ((with_reducible refine gate_ (.store 31 (.tmp 41) (.tmp 39)) rfl ?_); refine Kd.R_store kRn (w0 := w) w.heap.size rfl rfl 31 (.tmp 41) (.tmp 39) rfl tRn (n : Int) 2 out ⟨r.f0, r.f1, rr⟩ (.int .u64 rr) [.int .u64 rr] [.int .u8 r.f0, .int .u64 r.f1, .int .u64 r.f2] (fun k => k ≠ b) (fun _ => False) rfl (by rw [Int.toNat_natCast]; rfl) rfl rfl (by kernel_rfl) (fun q hq => by rw [List.mem_singleton.1 hq]; rfl) R2.out (by omega) (by omega) rfl HCC2.out (by show 2 + 1 ≤ 3; exact Nat.le_refl _) (k40_mkM _ _ _ (⟨r.f0, r.f1, rr⟩ : Rn)) (fun _ hk => hk.elim) (below_then HB.out HB.out.size B2.out) ?_; intro w6 ho hb hg; have RO6 := Aside0.mk ho; have B6 := Aside0.mk hb; have G6 := Aside0.mk hg; clear ho hb hg)
            go_roundg (D.length - (j + 1))
            case measure => omega
            case rel =>
              refine ⟨j + 1, by go_num, by omega, Nat.le_refl _, ⟨?_⟩, B6, ⟨by rw [SX.out, ← RS.out]; exact RO6.out⟩⟩
              exact (RM.out.below B2.out).move G6.out.size (G6.out.block b (Nat.lt_of_lt_of_le hblt B2.out.size) NB2.out)
          | false =>
            have SJ2 : Aside0 (stepJ out x = out ++ [⟨x.f0, x.f1, 1⟩]) := ⟨by rw [SJ.out, if_neg (fun h => by rw [← HBB.out] at h; simp [h.1, h.2] at hs)]⟩
            clear SJ
            have hsz : Aside0 (w.heap.size ≤ w2.heap.size) := ⟨Nat.le_trans HB.out.size B2.out.size⟩
            have HBL : Aside0 (b < w2.heap.size) := ⟨Nat.lt_of_lt_of_le hblt B2.out.size⟩
            go_upto_region 10 with (fail)
            go_wp2_with ((with_reducible refine gate_dst (N := 49) rfl ?_); refine Kd.R_append kRn (w0 := w) w.heap.size rfl (.tmp 42) (.tmp 48) 24 tRn (.agg #[.int .u8 0, .int .u64 0, .int .u64 0]) 24 rfl Try.underlying24 infoRn rfl (by decide) (by omega) (.slice (some ⟨g, 0, none⟩) (n + 1) co) out (⟨x.f0, x.f1, 1⟩ : Rn) [.int .u8 x.f0, .int .u64 x.f1, .int .u64 1] (fun k => k ≠ b) (fun _ => False) rfl rfl (k40_mkM _ _ _ (⟨x.f0, x.f1, 1⟩ : Rn)) (fun _ hk => hk.elim) (fun k hk e => Nat.lt_irrefl _ (Nat.lt_of_lt_of_le HBL.out (Nat.le_trans hk (Nat.le_of_eq e)))) R2.out (below_then HB.out HB.out.size B2.out) hsz.out (by rw [← HN.out]; omega) ?_; intro v1 w6 ho hb hg hat; have RO6 := Aside0.mk ho; have B6 := Aside0.mk hb; have G6 := Aside0.mk hg; clear ho hb hg hat)
            go_roundg (D.length - (j + 1))
            case measure => omega
            case rel =>
              refine ⟨j + 1, by go_num, by omega, Nat.le_refl _, ⟨?_⟩, B6, ⟨by rw [SX.out, SJ2.out]; exact RO6.out⟩⟩
              exact (RM.out.below B2.out).move G6.out.size (G6.out.block b HBL.out NB2.out)
      · obtain rfl : j = D.length := by omega
        have hltz : ¬ (D.length : Int) < (D.length : Int) := by omega
        have RO2 : Aside0 (Kd.R kRn tRn wr w.heap.size (fun _ => True) _ (D.foldl stepJ [])) := ⟨Kd.R_mono (by rw [List.take_length] at RO; exact RO.out) (fun _ _ => trivial)⟩
        go_wp2_with fail
        go_ret
        exact ⟨_, rfl, RO2.out, HB.out⟩

end Go.Proofs.Ytgcnaebhmcggoaa.Walk
