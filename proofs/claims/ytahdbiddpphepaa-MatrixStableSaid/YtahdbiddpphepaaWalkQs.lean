/- Rows that are left. Conditions: none beyond the statement's own. -/
import Derived.Test.YtahdbiddpphepaaWalkDelV
import Derived.Test.YtahdbiddpphepaaWalkNew
import Derived.Test.YtahdbiddpphepaaF2
import Derived.Test.YtahdbiddpphepaaArgs
import Derived.Deep.QuietTactic
import Derived.BigQuiet
import Derived.Lib.QuietBelow
import Derived.Outline
import Derived.Deep.RegionHeld3
import Derived.Deep.CutRange
namespace Go.Proofs.Ytahdbiddpphepaa.Walk
open Go.RowKit Go.Proofs.Ytahdbiddpphepaa.F Go.Proofs.YtahdbiddpphepaaW.PrintWords Go.Proofs.YtahdbiddpphepaaW.PrintLast Go.Proofs.YtahdbiddpphepaaW.PrintMore Go.Proofs.Ytahdbiddpphepaa.Open
open Go.Sort (grow)
attribute [local go_sem] max2_int min2_int max_two min_two max_three min_three max_four min_four
set_option linter.unusedVariables false
set_option linter.unusedSimpArgs false

/-! ### rows that are left -/
inductive All2 {α β : Type} (R : α → β → Prop) : List α → List β → Prop
  | nil : All2 R [] []
  | cons {a : α} {b : β} {l : List α} {m : List β} : R a b → All2 R l m → All2 R (a :: l) (b :: m)
namespace All2
variable {α β : Type} {R R' : α → β → Prop}
theorem of_get : ∀ {K : List α} {L : List β}, K.length = L.length → (∀ (j : Nat) (v : α), K[j]? = some v → ∃ x, L[j]? = some x ∧ R v x) → All2 R K L
  | [], [], _, _ => .nil
  | a :: K, b :: L, hl, h => .cons (by obtain ⟨x, hx, hr⟩ := h 0 a rfl; cases hx; exact hr) (of_get (by simpa using hl) (fun j v hv => h (j + 1) v hv))
  | [], _ :: _, hl, _ => by cases hl
  | _ :: _, [], hl, _ => by cases hl
theorem len {K : List α} {L : List β} (h : All2 R K L) : K.length = L.length := by
  induction h with
  | nil => rfl
  | cons _ _ ih => simp [ih]
theorem get {K : List α} {L : List β} (h : All2 R K L) : ∀ {j : Nat} {v : α}, K[j]? = some v → ∃ x, L[j]? = some x ∧ R v x := by
  induction h with
  | nil => intro j v hv; cases hv
  | cons hr _ ih =>
    intro j v hv
    match j with
    | 0 => cases hv; exact ⟨_, rfl, hr⟩
    | j + 1 => exact ih hv
theorem mono {K : List α} {L : List β} (h : All2 R K L) (hm : ∀ a b, R a b → R' a b) : All2 R' K L := by
  induction h with
  | nil => exact .nil
  | cons hr _ ih => exact .cons (hm _ _ hr) ih
theorem filt {K : List α} {L : List β} (h : All2 R K L) {p : α → Bool} {q : β → Bool} (hpq : ∀ a b, R a b → p a = q b) : All2 R (K.filter p) (L.filter q) := by
  induction h with
  | nil => exact .nil
  | @cons a b l m hr _ ih =>
    have := hpq a b hr
    cases hp : p a with
    | true => rw [List.filter_cons_of_pos hp, List.filter_cons_of_pos (by rw [← this, hp])]; exact .cons hr ih
    | false => rw [List.filter_cons_of_neg (by simp [hp]), List.filter_cons_of_neg (by rw [← this, hp]; decide)]; exact ih
end All2
def left (L : List X) : List X := L.filter fun x => !x.f3
theorem left_len (L : List X) : (left L).length ≤ L.length := List.length_filter_le _ _
section
variable {w : World} {S : Nat → Prop} {g rb cp : Nat} {L : List X}
theorem V_block {base : Nat} {K : List V} {v : Value} (h : Kd.R kV tX w base (fun _ => True) v K) (hn : 0 < K.length) : ∃ b c, v = .slice (some ⟨b, 0, none⟩) K.length c ∧ base ≤ b ∧ K.length ≤ c := by
  obtain ⟨_, cs, ⟨_, ho⟩, _⟩ := h
  rcases ho with ⟨_, hz⟩ | ⟨g, cap, cur, e, hb, _, hc, _⟩
  · omega
  · exact ⟨g, cap, e, hb, hc⟩
theorem left_calls (h : Mat w S g rb cp L) : Calls Try.prog 35 #[.pointer (some ⟨g, 0, none⟩)] w fun e w' => ∃ (A : Addr) (c : Nat) (K : List V), e = .returned (.slice (some A) K.length c) ∧ Kd.C kV w' (some A) K.length K ∧ K.length ≤ 64 ∧ All2 (VX w' (fun k => S k ∧ k < w.heap.size)) K (left L) ∧ Below w.heap.size w w' := by
  obtain ⟨hcp, K0, hK0, hC, hv⟩ := h.bound.views
  have AV := Aside0.mk (All2.of_get hK0 hv)
  have h64 := h.ok.n2
  have h1 := h.ok.n1
  have hl0 : K0.length ≤ 64 := by omega
  rw [← hK0] at hC
  have CL := Aside0.mk (CloneV_calls ⟨rb, 0, none⟩ cp K0 w hC (by omega) hl0)
  have HC := h.cell
  rw [← hK0] at HC
  have HM := Aside0.mk h
  have hpos : 0 < K0.length := by omega
  clear hv hC h hK0
  go_enter Try.func35, Try.ntmps35
  go_wp2_with fail
  refine (CL.out).mono ?_
  rintro e w1 ⟨v, rfl, hR, hb⟩
  obtain ⟨b, c, rfl, hbb, hcl⟩ := V_block hR hpos
  have R1 := Aside0.mk hR
  have B1 := Aside0.mk hb
  have A1 := Aside0.mk (AV.out.mono (fun v x hx => VX.step hx (w1 := w1) (fun k hk _ => hb.block k hk.2)))
  clear hR hb AV CL HC
  go_wp2_with fail
  refine (DeleteV_calls R1.out hl0 hcl).mono ?_
  rintro e w2 ⟨rfl, hC2, hb2⟩
  have C2 := Aside0.mk hC2
  have B2 : Aside0 (Below w.heap.size w w2) := ⟨Beside.step B1.out hb2 (fun k hk => by rw [hk]; exact hbb)⟩
  have A2 := Aside0.mk (A1.out.filt (p := st) (q := fun x => !x.f3) (fun v x hx => by unfold st; rw [hx.g]))
  have A3 := Aside0.mk (A2.out.mono (fun v x hx => VX.step hx (w1 := w2) (fun k hk _ => hb2.block k (Nat.lt_of_lt_of_le hk.2 B1.out.size) (fun e => by omega))))
  have hfl : (K0.filter st).length ≤ 64 := Nat.le_trans (List.length_filter_le _ _) hl0
  clear hC2 hb2
  go_wp2_with fail
  go_ret
  exact ⟨_, _, _, rfl, C2.out, hfl, A3.out, B2.out⟩
theorem left_nil (w : World) : Calls Try.prog 35 #[.pointer none] w fun e w' => e = .returned (.slice none 0 0) ∧ w' = w := by
  go_enter Try.func35, Try.ntmps35
  go_wp2
  go_ret
  exact ⟨rfl, rfl⟩
/-! ### Stable -/
abbrev tS : Nat := 27
abbrev kSl : Kd (List Int) := Kd.slice tU kU
theorem infoS : (Try.prog.info? tS).map (fun i => (i.zero, i.size, i.bytes)) = some (some (.slice none 0 0), 1, 24) := by kernel_rfl
/-- A row of headers reads as a row of rows. -/
theorem heads_C {W : World} {A : Option Addr} {n : Nat} {H : List Hd} {D : List (List Int)} (h : Kd.C kH W A n H) (hd : All2 (fun (a : Hd) (d : List Int) => a.n = d.length ∧ a.n ≤ a.c ∧ Kd.C kU W a.A d.length d) H D) : Kd.C kSl W A n D := by
  obtain ⟨h1, h2, h3⟩ := h
  refine ⟨hd.len.symm.trans h1, h2, fun hn => ?_⟩
  obtain ⟨ad, e, hc⟩ := h3 hn
  refine ⟨ad, e, fun j d hj => ?_⟩
  have hjH : j < H.length := by rw [hd.len]; exact (List.getElem?_eq_some_iff.1 hj).1
  obtain ⟨d', hd', hn', hcc, hC⟩ := hd.get (List.getElem?_eq_getElem hjH)
  rw [hj] at hd'
  cases hd'
  obtain ⟨c, hcl, hK, hcs⟩ := hc j _ (List.getElem?_eq_getElem hjH)
  obtain rfl := hK
  refine ⟨[hv H[j]], rfl, ⟨H[j].A, H[j].c, ?_, by rw [← hn']; exact hcc, hC⟩, hcs⟩
  unfold hv
  rw [hn']
end
theorem longest_le {m : Nat} : ∀ (l : List (List Int)), (∀ a ∈ l, a.length ≤ m) → longest l ≤ m
  | [], _ => Nat.zero_le _
  | a :: l, h => Nat.max_le.2 ⟨h a List.mem_cons_self, longest_le l (fun b hb => h b (List.mem_cons_of_mem _ hb))⟩
def stable (L : List X) : List Int := if (left L).length = 0 then List.replicate L.length 0 else foldAll mn ((left L).map (·.f1))
theorem left_mem {L : List X} {x : X} (h : x ∈ left L) : x ∈ L := (List.mem_filter.1 h).1
theorem stable_min {L : List X} (h : mok L) : vec_Min.f ((left L).map (·.f1)) = some (foldAll mn ((left L).map (·.f1))) := by
  have h2 := h.n2
  have hl := left_len L
  refine if_pos ⟨by simp; omega, Nat.le_trans (longest_le (m := 64) _ (fun a ha => ?_)) (by decide)⟩
  obtain ⟨x, hx, rfl⟩ := List.mem_map.1 ha
  rw [(h.row x (left_mem hx)).l1]
  exact h2
theorem VX.head1 {w : World} {ok : Nat → Prop} {v : V} {x : X} (h : VX w ok v x) : v.h1.n = x.f1.length ∧ v.h1.n ≤ v.h1.c ∧ Kd.C kU w v.h1.A x.f1.length x.f1 := by
  have := Kd.R_reads' h.r1
  exact ⟨h.n1, this.2.1, this.2.2⟩
theorem VX.head2 {w : World} {ok : Nat → Prop} {v : V} {x : X} (h : VX w ok v x) : v.h2.n = x.f2.length ∧ v.h2.n ≤ v.h2.c ∧ Kd.C kU w v.h2.A x.f2.length x.f2 := by
  have := Kd.R_reads' h.r2
  exact ⟨h.n2, this.2.1, this.2.2⟩
theorem All2.map {α β γ δ : Type} {R : α → β → Prop} {R' : γ → δ → Prop} {K : List α} {L : List β} (h : All2 R K L) (f : α → γ) (q : β → δ) (hr : ∀ a b, R a b → R' (f a) (q b)) : All2 R' (K.map f) (L.map q) := by
  induction h with
  | nil => exact .nil
  | cons hab _ ih => exact .cons (hr _ _ hab) ih
section
variable {w : World} {S : Nat → Prop} {g rb cp : Nat} {L : List X}
set_option maxHeartbeats 4000000 in
theorem Stable_calls (h : Mat w S g rb cp L) : Calls Try.prog 14 #[.pointer (some ⟨g, 0, none⟩)] w fun e w' => ∃ v, e = .returned v ∧ Kd.R kU tU w' w.heap.size (fun _ => True) v (stable L) ∧ Below w.heap.size w w' := by
  have LF := Aside0.mk (left_calls h)
  have HM := Aside0.mk h
  have hn2 := h.ok.n2
  have SM := Aside0.mk (stable_min h.ok)
  clear h
  go_enter Try.func14, Try.ntmps14
  go_wp2_with fail
  refine LF.out.mono ?_
  rintro e w1 ⟨A, c, K, rfl, hC, hK64, hA, hb⟩
  have C1 := Aside0.mk hC
  have A1 := Aside0.mk hA
  have B1 := Aside0.mk hb
  clear hC hA hb LF
  go_wp2_with fail
  go_loopg [3, 11] K.length (fun gg s3 s11 wr => ∃ j : Nat, s11 = .int .i64 j ∧ j ≤ K.length ∧ K.length - j ≤ gg ∧ Aside0 (Below w1.heap.size w1 wr) ∧ Aside0 (Kd.R kH tS wr w1.heap.size (fun _ => True) s3 ((K.take j).map (·.h1))))
  case atStart => exact ⟨0, rfl, Nat.zero_le _, by omega, ⟨Below.refl _ _⟩, ⟨Kd.R_nil _ _ _ _ _⟩⟩
  case round =>
    obtain ⟨j, rfl, hj, hgg, HB, RO⟩ := hrel
    by_cases hlt : j < K.length
    · have hltz : (j : Int) < (K.length : Int) := by omega
      obtain ⟨ad, cc, e, hcl, hKK, hcc⟩ := Kd.C_get C1.out zV (j : Int) (by omega) hltz
      cases e
      have HX : Aside0 (K[j]? = some (K.getD ((j : Int)).toNat zV)) := ⟨by rw [Int.toNat_natCast, List.getD, List.getElem?_eq_getElem hlt]; rfl⟩
      generalize K.getD ((j : Int)).toNat zV = x at hKK HX
      obtain rfl := kV_open hKK
      rw [Int.toNat_natCast] at hcc
      have q0 : wr.cell? (A.add (j * 4)) = some (.int .u64 x.i) := pw_cell_below HB.out (hcc 0 _ rfl)
      have q1 : wr.cell? ⟨(A.add (j * 4)).block, (A.add (j * 4)).off + 1, none⟩ = some (.slice x.h1.A x.h1.n x.h1.c) := by
        rw [← add_field _ _ 1 (by omega)]
        exact pw_cell_below HB.out (hcc 1 _ rfl)
      have q2 : wr.cell? ⟨(A.add (j * 4)).block, (A.add (j * 4)).off + 2, none⟩ = some (.slice x.h2.A x.h2.n x.h2.c) := by
        rw [← add_field _ _ 2 (by omega)]
        exact pw_cell_below HB.out (hcc 2 _ rfl)
      have q3 : wr.cell? ⟨(A.add (j * 4)).block, (A.add (j * 4)).off + 3, none⟩ = some (.bool x.g) := by
        rw [← add_field _ _ 3 (by omega)]
        exact pw_cell_below HB.out (hcc 3 _ rfl)
      have hwj : IntKind.i64.wrap ((j : Int) + 1) = ((j + 1 : Nat) : Int) := by rw [IntKind.wrap_i64]; omega
      obtain ⟨Ao, co, rfl⟩ := Kd.R_slice RO.out
      have hlen : ((K.take j).map (·.h1)).length = j := by simp; omega
      rw [hlen] at RO ⊢
      have EJ : Aside0 ((K.take (j + 1)).map (·.h1) = (K.take j).map (·.h1) ++ [x.h1]) := ⟨by rw [List.take_add_one, HX.out]; simp⟩
      have HL := Aside0.mk hlen
      have hs1 : Aside0 (w1.heap.size ≤ wr.heap.size) := ⟨HB.out.size⟩
      clear hcc hcl hKK hlen
      have BXq : Aside0 ((wr.alloc (.cells #[.int .u64 x.i, .slice x.h1.A x.h1.n x.h1.c, .slice x.h2.A x.h2.n x.h2.c, .bool x.g] tX)).heap[wr.heap.size]? = some (.cells #[.int .u64 x.i, .slice x.h1.A x.h1.n x.h1.c, .slice x.h2.A x.h2.n x.h2.c, .bool x.g] tX (0, 0))) := ⟨blk_new wr _⟩
      go_upto_region 7 with (fail)
      have BQ : Aside0 (Below w1.heap.size w1 (wr.alloc (.cells #[.int .u64 x.i, .slice x.h1.A x.h1.n x.h1.c, .slice x.h2.A x.h2.n x.h2.c, .bool x.g] tX))) := ⟨below_alloc HB.out _⟩
      have RQ := Aside0.mk (Kd.R_alloc RO.out (.cells #[.int .u64 x.i, .slice x.h1.A x.h1.n x.h1.c, .slice x.h2.A x.h2.n x.h2.c, .bool x.g] tX))
      generalize wr.alloc (.cells #[.int .u64 x.i, .slice x.h1.A x.h1.n x.h1.c, .slice x.h2.A x.h2.n x.h2.c, .bool x.g] tX) = wq at BXq BQ RQ ⊢
      have e1 : wq.cell? ⟨wr.heap.size, 1, none⟩ = some (.slice x.h1.A x.h1.n x.h1.c) := (blk_cell BXq.out 1).trans rfl
      clear q0 q1 q2 q3 RO
      go_wp2_with ((with_reducible refine gate_dst (N := 19) rfl ?_); refine Kd.R_append kH (w0 := w1) w1.heap.size rfl (.tmp 15) (.tmp 18) 66 tS (.slice none 0 0) 24 rfl Try.underlying66 infoS rfl (by decide) (by decide) (.slice Ao j co) ((K.take j).map (·.h1)) x.h1 [hv x.h1] (fun _ => True) (fun _ => False) rfl rfl rfl (fun _ hk => hk.elim) (fun _ _ => trivial) RQ.out BQ.out BQ.out.size (by rw [HL.out]; omega) ?_; intro v1 w6 ho hb hg hat; have RO6 := Aside0.mk ho; have B6 := Aside0.mk hb; clear ho hb hg hat)
      go_roundg (K.length - (j + 1))
      case measure => omega
      case rel => exact ⟨j + 1, by go_num, by omega, Nat.le_refl _, B6, ⟨by rw [EJ.out]; exact RO6.out⟩⟩
    · obtain rfl : j = K.length := by omega
      have hltz : ¬ (K.length : Int) < (K.length : Int) := by omega
      obtain ⟨Ao, co, rfl⟩ := Kd.R_slice RO.out
      have hlen : ((K.take K.length).map (·.h1)).length = K.length := by simp
      rw [hlen] at RO ⊢
      have HKL := Aside0.mk A1.out.len
      have BW := Aside0.mk (below_step B1.out HB.out)
      have MW := Aside0.mk (HM.out.below BW.out)
      clear hlen
      by_cases hz : K.length = 0
      · have hzz : ((K.length : Int) == 0) = true := by rw [hz]; rfl
        have ST : Aside0 (stable L = List.replicate L.length 0) := ⟨if_pos (by rw [← HKL.out]; exact hz)⟩
        have c0 := MW.out.cell
        have hmk := print_make (P := Try.prog) 27 tU .u64 8 Try.underlying27 infoU (by decide) L.length (by omega)
        have ZR := Aside0.mk (zero_row wr w.heap.size (fun _ => True) L.length BW.out.size hn2 trivial)
        clear hz
        go_wp2_with fail
        go_ret
        rw [ST.out]
        exact ⟨_, rfl, ZR.out, below_alloc BW.out _⟩
      · have hzz : ((K.length : Int) == 0) = false := beq_eq_false_iff_ne.2 (by omega)
        have ST : Aside0 (stable L = foldAll mn ((left L).map (·.f1))) := ⟨if_neg (by rw [← HKL.out]; exact hz)⟩
        have hCD : Kd.C kSl wr Ao K.length ((left L).map (·.f1)) := heads_C (by
          have := (Kd.R_reads' RO.out).2.2
          rw [List.take_length, List.length_map] at this
          exact this) (All2.map A1.out _ _ (fun v x hx => (VX.head1 (VX.step hx (w1 := wr) (fun k hk hlt => HB.out.block k hlt)))))
        have hco : K.length ≤ co := (Kd.R_reads' RO.out).2.1
        have el : ((left L).map (·.f1)).length = K.length := by rw [List.length_map, HKL.out]
        rw [← el] at hCD hco
        have VM := Aside0.mk (vec_Min.calls Ao co ((left L).map (·.f1)) _ wr hCD hco SM.out)
        rw [el] at VM
        clear hCD hco el hz
        go_wp2_with fail
        refine VM.out.mono ?_
        rintro e w7 ⟨v, rfl, hR, hb⟩
        have R7 := Aside0.mk (Kd.R_lower hR BW.out.size)
        have B7 := Aside0.mk (below_step BW.out hb)
        clear hR hb
        go_wp2_with fail
        go_ret
        rw [ST.out]
        exact ⟨_, rfl, R7.out, B7.out⟩
end

end Go.Proofs.Ytahdbiddpphepaa.Walk
