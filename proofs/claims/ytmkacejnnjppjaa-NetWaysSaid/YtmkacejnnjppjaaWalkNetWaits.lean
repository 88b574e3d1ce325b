/- Waits. Conditions: none beyond the statement's own. -/
import Derived.Test.YtmkacejnnjppjaaWalkNetSend
import Derived.Test.YtmkacejnnjppjaaArgs
import Derived.Deep.QuietTactic
import Derived.BigQuiet
import Derived.Lib.QuietBelow
import Derived.Outline
import Derived.Deep.RegionHeld3
import Derived.Deep.CutRange
namespace Go.Proofs.Ytmkacejnnjppjaa.Walk
open Go.RowKit Go.Proofs.Ytmkacejnnjppjaa.F Go.Proofs.YtmkacejnnjppjaaW.PrintWords Go.Proofs.YtmkacejnnjppjaaW.PrintLast Go.Proofs.YtmkacejnnjppjaaW.PrintMore Go.Proofs.Ytmkacejnnjppjaa.Open
open Go.Sort (grow)
attribute [local go_sem] max2_int min2_int max_two min_two max_three min_three max_four min_four
set_option linter.unusedVariables false
set_option linter.unusedSimpArgs false

/-! ### A set of numbers -/
abbrev tSet : Nat := 68
def fkI (x : Int) : Value := .int .i64 x
def fvU (_ : Unit) : Value := .agg #[]
theorem fkI_inj (x y : Int) (h : fkI x = fkI y) : x = y := by simpa [fkI] using h
theorem lawI : Go.Maps.Keyed Try.prog 3 := Go.Maps.int_keyed Try.underlying3
def units (K : List Int) : List (Int × Unit) := K.map fun k => (k, ())
def addK (K : List Int) (x : Int) : List Int := if x ∈ K then K else K ++ [x]
def setK (l : List Int) : List Int := l.foldl addK []
theorem addK_nodup {K : List Int} (h : K.Nodup) (x : Int) : (addK K x).Nodup := by
  unfold addK
  split
  · exact h
  · rename_i hx
    rw [List.nodup_append]
    exact ⟨h, by simp, fun a ha b hb => by rw [List.mem_singleton.1 hb]; exact fun e => hx (e ▸ ha)⟩
theorem addK_mem {K : List Int} {x y : Int} : y ∈ addK K x ↔ y ∈ K ∨ y = x := by
  unfold addK
  split
  · rename_i hx
    constructor
    · exact .inl
    · rintro (h | rfl)
      · exact h
      · exact hx
  · simp
theorem foldl_addK_mem {y : Int} : ∀ (l K : List Int), y ∈ l.foldl addK K ↔ y ∈ K ∨ y ∈ l
  | [], K => by simp
  | x :: l, K => by
    rw [List.foldl_cons, foldl_addK_mem l, addK_mem, List.mem_cons]
    exact ⟨fun h => by rcases h with (h | h) | h; exact .inl h; exact .inr (.inl h); exact .inr (.inr h), fun h => by rcases h with h | h | h; exact .inl (.inl h); exact .inl (.inr h); exact .inr h⟩
theorem setK_mem {l : List Int} {y : Int} : y ∈ setK l ↔ y ∈ l := by
  unfold setK
  rw [foldl_addK_mem]
  simp
theorem setK_nodup (l : List Int) : (setK l).Nodup := by
  have : ∀ (l K : List Int), K.Nodup → (l.foldl addK K).Nodup := by
    intro l
    induction l with
    | nil => exact fun K h => h
    | cons x l ih => exact fun K h => ih _ (addK_nodup h x)
  exact this l [] .nil
theorem units_add {w : World} {b : Nat} {K : List Int} {x : Int} (h : MapE Try.prog 3 fkI fvU w b (units K)) (hx : i64 x) :
    ∃ w', (Instr.mapUpdate tSet (.map (some b)) (.int .i64 x) (.agg #[])).run Try.prog w = .ok () w' ∧ MapE Try.prog 3 fkI fvU w' b (units (addK K x)) ∧ Beside (fun j => j = b) w w' := by
  have hk := Go.Maps.keyOf_int_mk (P := Try.prog) Try.underlying3 (i64_wf hx)
  have hm : ∀ v, mlk (units K) x = some v → x ∈ K := fun v hv => by
    obtain ⟨y, hy, e⟩ := List.mem_map.1 (mlk_some hv)
    injection e with e
    exact e ▸ hy
  cases hl : mlk (units K) x with
  | none =>
    obtain ⟨w', h1, h2, h3, _⟩ := h.push lawI fkI_inj Try.underlying68 (x := x) hk hl ()
    have e : units (addK K x) = units K ++ [(x, ())] := by
      unfold addK
      rw [if_neg (fun hx => mlk_none hl (x, ()) (List.mem_map.2 ⟨x, hx, rfl⟩) rfl)]
      simp [units]
    exact ⟨w', h1, by rw [e]; exact h2, h3⟩
  | some v =>
    obtain ⟨w', j, h1, h2, h3, h4, _⟩ := h.again lawI fkI_inj Try.underlying68 (x := x) hk hl ()
    have e : units (addK K x) = (units K).set j (x, ()) := by
      unfold addK
      rw [if_pos (hm v hl)]
      apply List.ext_getElem?
      intro i
      rw [List.getElem?_set]
      split
      · rename_i e
        subst e
        have := (List.getElem?_eq_some_iff.1 h2).1
        rw [if_pos this, h2]
      · rfl
    exact ⟨w', h1, by rw [e]; exact h3, h4⟩
theorem setK_len (l : List Int) : (setK l).length ≤ l.length := by
  have : ∀ (l K : List Int), (l.foldl addK K).length ≤ K.length + l.length := by
    intro l
    induction l with
    | nil => exact fun K => Nat.le_refl _
    | cons x l ih =>
      intro K
      have h1 := ih (addK K x)
      have h2 : (addK K x).length ≤ K.length + 1 := by unfold addK; split <;> simp
      rw [List.foldl_cons, List.length_cons]
      omega
  simpa [setK] using this l []
/-! ### Waits -/
def rowSum (ln : Int → Int → Nat) (a : Int) (K : List Int) : Nat := (K.map fun b => ln a b).sum
def allSum (ln : Int → Int → Nat) (K : List Int) (L : List Int) : Nat := (L.map fun a => rowSum ln a K).sum
theorem units_split {K : List Int} {l1 l2 : List (Int × Unit)} {p : Int × Unit} (h : units K = l1 ++ p :: l2) : ∃ K1 x K2, K = K1 ++ x :: K2 ∧ l1 ++ l2 = units (K1 ++ K2) ∧ p = (x, ()) := by
  unfold units at h
  obtain ⟨K1, r, rfl, e1, e2⟩ := List.map_eq_append_iff.1 h
  obtain ⟨x, K2, rfl, e3, e4⟩ := List.map_eq_cons_iff.1 e2
  exact ⟨K1, x, K2, rfl, by rw [← e1, ← e4]; simp [units], e3.symm⟩
theorem sum_split (f : Int → Nat) (K1 K2 : List Int) (x : Int) : ((K1 ++ x :: K2).map f).sum = f x + ((K1 ++ K2).map f).sum := by
  simp only [List.map_append, List.sum_append, List.map_cons, List.sum_cons]
  omega
theorem rowSum_le (ln : Int → Int → Nat) (h : ∀ a b, ln a b ≤ 4096) (a : Int) : ∀ (K : List Int), rowSum ln a K ≤ K.length * 4096
  | [] => by simp [rowSum]
  | x :: K => by
    have h1 := rowSum_le ln h a K
    have h2 := h a x
    unfold rowSum at h1 ⊢
    rw [List.map_cons, List.sum_cons, List.length_cons, Nat.succ_mul]
    omega
theorem allSum_le (ln : Int → Int → Nat) (h : ∀ a b, ln a b ≤ 4096) (K : List Int) : ∀ (L : List Int), allSum ln K L ≤ L.length * (K.length * 4096)
  | [] => by simp [allSum]
  | x :: L => by
    have h1 := allSum_le ln h K L
    have h2 := rowSum_le ln h x K
    unfold allSum at h1 ⊢
    rw [List.map_cons, List.sum_cons, List.length_cons, Nat.succ_mul]
    omega
structure SetS (w wr : World) (b : Nat) (K : List Int) : Prop where
  map : MapE Try.prog 3 fkI fvU wr b (units K)
  up : w.heap.size ≤ b
  below : Below w.heap.size w wr
structure RngS (w wr : World) (b r : Nat) (K L : List Int) : Prop where
  map : MapR Try.prog 3 fkI fvU wr b r (units K) (units L)
  up : w.heap.size ≤ b ∧ w.heap.size ≤ r
  below : Below w.heap.size w wr
structure Rng2 (w wr : World) (b r r2 : Nat) (K L M : List Int) : Prop where
  one : MapR Try.prog 3 fkI fvU wr b r (units K) (units L)
  two : MapR Try.prog 3 fkI fvU wr b r2 (units K) (units M)
  up : w.heap.size ≤ b ∧ w.heap.size ≤ r ∧ w.heap.size ≤ r2
  ne : r ≠ r2
  below : Below w.heap.size w wr
theorem SetS.range {w wr : World} {b : Nat} {K : List Int} (h : SetS w wr b K) : ∃ w', (Instr.range tSet (.map (some b))).run Try.prog wr = .ok (.pointer (some ⟨wr.heap.size, 0, none⟩)) w' ∧ RngS w w' b wr.heap.size K K := by
  obtain ⟨w', h1, h2, h3, _⟩ := h.map.range Try.underlying68
  exact ⟨w', h1, h2, ⟨h.up, h.below.size⟩, below_step h.below h3⟩
theorem RngS.next {w wr : World} {b r : Nat} {K L : List Int} (h : RngS w wr b r K L) : (L = [] ∧ ∀ ty, (Instr.next (.pointer (some ⟨r, 0, none⟩)) false ty).run Try.prog wr = .ok (.tuple #[.bool false]) wr) ∨
    ∃ L1 x L2 w', L = L1 ++ x :: L2 ∧ (∀ ty, (Instr.next (.pointer (some ⟨r, 0, none⟩)) false ty).run Try.prog wr = .ok (.tuple #[.bool true, .int .i64 x, .agg #[]]) w') ∧ (Instr.entry (.pointer (some ⟨r, 0, none⟩))).run Try.prog w' = .ok (.tuple #[.int .i64 x, .agg #[]]) w' ∧ RngS w w' b r K (L1 ++ L2) := by
  rcases h.map.next with ⟨h1, h2⟩ | ⟨l1, p, l2, w', h1, h2, h3, h4, h5, h6⟩
  · refine .inl ⟨?_, h2⟩
    unfold units at h1
    exact List.map_eq_nil_iff.1 h1
  · obtain ⟨K1, x, K2, rfl, e, rfl⟩ := units_split h1
    rw [e] at h3
    exact .inr ⟨K1, x, K2, w', rfl, h2, h6, h3, h.up, Beside.step h.below h4 (fun k hk => by rw [hk]; exact h.up.2)⟩
theorem RngS.range {w wr : World} {b r : Nat} {K L : List Int} (h : RngS w wr b r K L) : ∃ w', (Instr.range tSet (.map (some b))).run Try.prog wr = .ok (.pointer (some ⟨wr.heap.size, 0, none⟩)) w' ∧ Rng2 w w' b r wr.heap.size K L K := by
  obtain ⟨w', h1, h2, h3, _⟩ := h.map.map.range Try.underlying68
  have := h.map.lt
  exact ⟨w', h1, h.map.below h3, h2, ⟨h.up.1, h.up.2, h.below.size⟩, by omega, below_step h.below h3⟩
theorem Rng2.next {w wr : World} {b r r2 : Nat} {K L M : List Int} (h : Rng2 w wr b r r2 K L M) : (M = [] ∧ (∀ ty, (Instr.next (.pointer (some ⟨r2, 0, none⟩)) false ty).run Try.prog wr = .ok (.tuple #[.bool false]) wr) ∧ RngS w wr b r K L) ∨
    ∃ L1 x L2 w', M = L1 ++ x :: L2 ∧ (∀ ty, (Instr.next (.pointer (some ⟨r2, 0, none⟩)) false ty).run Try.prog wr = .ok (.tuple #[.bool true, .int .i64 x, .agg #[]]) w') ∧ (Instr.entry (.pointer (some ⟨r2, 0, none⟩))).run Try.prog w' = .ok (.tuple #[.int .i64 x, .agg #[]]) w' ∧ Rng2 w w' b r r2 K L (L1 ++ L2) := by
  rcases h.two.next with ⟨h1, h2⟩ | ⟨l1, p, l2, w', h1, h2, h3, h4, h5, h6⟩
  · refine .inl ⟨?_, h2, h.one, ⟨h.up.1, h.up.2.1⟩, h.below⟩
    unfold units at h1
    exact List.map_eq_nil_iff.1 h1
  · obtain ⟨K1, x, K2, rfl, e, rfl⟩ := units_split h1
    rw [e] at h3
    exact .inr ⟨K1, x, K2, w', rfl, h2, h6, h.one.beside h4 (fun e => h.two.ne e.symm) h.ne, h3, h.up, h.ne, Beside.step h.below h4 (fun k hk => by rw [hk]; exact h.up.2.2)⟩
theorem Rng2.beside {w wr w1 : World} {b r r2 : Nat} {K L M : List Int} (h : Rng2 w wr b r r2 K L M) (hb : Below wr.heap.size wr w1) : Rng2 w w1 b r r2 K L M := ⟨h.one.below hb, h.two.below hb, h.up, h.ne, below_step h.below hb⟩
set_option maxHeartbeats 2000000 in
theorem Waits_calls {w : World} {x : Value} {A : Option Addr} {c : Nat} (l : List Int) (ln : Int → Int → Nat) (hr : Kd.C (Kd.int .i64) w A l.length l) (hl : ∀ y ∈ l, i64 y) (hll : l.length ≤ 100) (hln : ∀ a b, ln a b ≤ 4096)
    (hB : ∀ W, Below w.heap.size w W → ∀ a b, i64 a → i64 b → ∃ v, (Calls Try.prog 7 #[x, .int .i64 a, .int .i64 b] W fun e w' => e = .returned v ∧ w' = W) ∧ Calls Try.prog 12 #[v] W fun e w' => e = .returned (.int .i64 (ln a b)) ∧ w' = W) :
    Calls Try.prog 8 #[x, .slice A l.length c] w fun e w' => e = .returned (.int .i64 (allSum ln (setK l) (setK l))) ∧ Below w.heap.size w w' := by
  have HR := Aside0.mk hr
  have HL := Aside0.mk hl
  have HB := Aside0.mk hB
  have hmk := @run_makeMap Try.prog
  have S0 : Aside0 (SetS w (w.alloc (.map #[] 0)) w.heap.size []) := ⟨⟨MapE.made w Try.prog 3 fkI fvU, Nat.le_refl _, below_alloc (Below.refl _ _) _⟩⟩
  clear hr hl hB
  go_enter Try.func8, Try.ntmps8
  go_wp2_with fail
  generalize w.alloc (.map #[] 0) = w1 at S0 ⊢
  obtain ⟨mb, hmb⟩ : ∃ mb, mb = w.heap.size := ⟨_, rfl⟩
  rw [← hmb] at S0
  rw [← hmb]
  clear hmb hmk
  go_loopg [14] l.length (fun gg s14 wr => ∃ i : Nat, s14 = .int .i64 i ∧ i ≤ l.length ∧ l.length - i ≤ gg ∧ Aside0 (SetS w wr mb (setK (l.take i))))
  case atStart => exact ⟨0, rfl, Nat.zero_le _, by omega, by rw [List.take_zero]; exact S0⟩
  case round =>
    clear S0
    obtain ⟨i, rfl, hi, hgg, SR⟩ := hrel
    by_cases hlt : i < l.length
    · have hltz : (i : Int) < (l.length : Int) := by omega
      have HX : Aside0 (l[i]? = some l[i]) := ⟨List.getElem?_eq_getElem hlt⟩
      have ES : Aside0 (setK (l.take (i + 1)) = addK (setK (l.take i)) l[i]) := ⟨by unfold setK; rw [List.take_add_one, HX.out, Option.toList_some, List.foldl_append]; rfl⟩
      obtain ⟨ad, ead, hx⟩ := Kd.at_int HR.out (i : Int) (by omega) (by omega)
      have k0 : wr.cell? (ad.add i) = some (.int .i64 l[i]) := by
        have := pw_cell_below SR.out.below hx
        rwa [Int.toNat_natCast, show rd l (i : Int) = l[i] by simp [rd, List.getD, hlt]] at this
      cases ead
      obtain ⟨w', hup, hM, hb⟩ := units_add SR.out.map (HL.out _ (List.mem_of_getElem? HX.out))
      have S2 : Aside0 (SetS w w' mb (setK (l.take (i + 1)))) := ⟨by rw [ES.out]; exact ⟨hM, SR.out.up, Beside.step SR.out.below hb (fun k hk => by rw [hk]; exact SR.out.up)⟩⟩
      clear hM hb ES hx
      generalize l[i] = y at k0 hup
      have hwi : IntKind.i64.wrap ((i : Int) + 1) = ((i + 1 : Nat) : Int) := by rw [IntKind.wrap_i64]; omega
      go_wp2_with fail
      go_roundg (l.length - (i + 1))
      case measure => omega
      case rel => exact ⟨i + 1, by go_num, by omega, by omega, S2⟩
    · obtain rfl : i = l.length := by omega
      have hltz : ¬ (l.length : Int) < (l.length : Int) := by omega
      rw [List.take_length] at SR
      have KI : Aside0 (∀ z ∈ setK l, i64 z) := ⟨fun z hz => HL.out z (setK_mem.1 hz)⟩
      have hkl : (setK l).length ≤ 100 := by have := setK_len l; omega
      have hT := allSum_le ln hln (setK l) (setK l)
      obtain ⟨T, hTe⟩ : ∃ T, T = allSum ln (setK l) (setK l) := ⟨_, rfl⟩
      rw [← hTe] at hT
      have TB : T ≤ 100000000 := by
        have : (setK l).length * ((setK l).length * 4096) ≤ 100 * (100 * 4096) := Nat.mul_le_mul hkl (Nat.mul_le_mul hkl (Nat.le_refl _))
        omega
      have TE := Aside0.mk hTe
      clear hT hTe hkl HL HR
      obtain ⟨K, hK⟩ : ∃ K, K = setK l := ⟨_, rfl⟩
      have KE := Aside0.mk hK
      rw [← hK] at KI SR
      clear hK
      obtain ⟨w2, hrg, h2⟩ := SR.out.range
      have R2 := Aside0.mk h2
      clear h2 SR
      go_wp2_with fail
      generalize wr.heap.size = r at R2 ⊢
      clear hrg
      go_loopg [8] K.length (fun gg s8 wj => ∃ (L : List Int) (n : Nat), s8 = .int .i64 n ∧ L.length ≤ gg ∧ n + allSum ln K L = T ∧ Aside0 (∀ z ∈ L, i64 z) ∧ Aside0 (RngS w wj mb r K L))
      case atStart => exact ⟨K, 0, rfl, Nat.le_refl _, by rw [TE.out, ← KE.out]; omega, KI, R2⟩
      case round =>
        clear R2
        obtain ⟨L, n, rfl, hgL, hsum, LI, RR⟩ := hrel
        rcases RR.out.next with ⟨rfl, hnx⟩ | ⟨L1, x0, L2, w3, rfl, hnx, hen, h3⟩
        · have hn : n = T := by simpa [allSum] using hsum
          subst hn
          have B2 := Aside0.mk RR.out.below
          clear RR hsum
          go_wp2_with fail
          go_ret
          exact ⟨congrArg (fun z : Nat => Ending.returned (.int .i64 (z : Int))) TE.out, B2.out⟩
        · obtain ⟨w4, hrg, h4⟩ := h3.range
          have R4 := Aside0.mk h4
          have hx0 := Aside0.mk (LI.out x0 (by simp))
          have LI2 : Aside0 (∀ z ∈ L1 ++ L2, i64 z) := ⟨fun z hz => LI.out z (by simp at hz ⊢; rcases hz with h | h <;> simp [h])⟩
          have hs2 : n + rowSum ln x0 K + allSum ln K (L1 ++ L2) = T := by
            have := sum_split (fun a => rowSum ln a K) L1 L2 x0
            unfold allSum at hsum ⊢
            omega
          have hgL2 : (L1 ++ L2).length + 1 ≤ gk := by simp at hgL ⊢; omega
          clear h3 h4 RR LI hsum hgL
          generalize L1 ++ L2 = LL at R4 LI2 hs2 hgL2
          obtain ⟨go_, hgo⟩ : ∃ go_, go_ = gk := ⟨_, rfl⟩
          have GO := Aside0.mk hgo
          clear hgo
          go_wp2_with fail
          generalize w3.heap.size = r2 at R4 ⊢
          clear hrg hnx hen
          go_loopg [8] K.length (fun gg s8 wj => ∃ (M : List Int) (m : Nat), s8 = .int .i64 m ∧ M.length ≤ gg ∧ m + rowSum ln x0 M + allSum ln K LL = T ∧ Aside0 (∀ z ∈ M, i64 z) ∧ Aside0 (Rng2 w wj mb r r2 K LL M))
          case atStart => exact ⟨K, n, rfl, Nat.le_refl _, hs2, KI, R4⟩
          case round =>
            clear R4 hs2
            obtain ⟨M, m, rfl, hgM, hsum, MI, RR⟩ := hrel
            rcases RR.out.next with ⟨rfl, hnx, h5⟩ | ⟨M1, y0, M2, w5, rfl, hnx, hen, h5⟩
            · have hn : m + allSum ln K LL = T := by simpa [rowSum] using hsum
              have R5 := Aside0.mk h5
              clear RR h5 hsum
              go_wp2_with fail
              go_roundg LL.length
              case measure => have := GO.out; omega
              case rel => exact ⟨LL, m, rfl, Nat.le_refl _, hn, LI2, R5⟩
            · have R5 := Aside0.mk h5
              have hy0 := MI.out y0 (by simp)
              have MI2 : Aside0 (∀ z ∈ M1 ++ M2, i64 z) := ⟨fun z hz => MI.out z (by simp at hz ⊢; rcases hz with h | h <;> simp [h])⟩
              have hs2 : m + ln x0 y0 + rowSum ln x0 (M1 ++ M2) + allSum ln K LL = T := by
                have := sum_split (fun b => ln x0 b) M1 M2 y0
                unfold rowSum at hsum ⊢
                omega
              have hgM2 : (M1 ++ M2).length + 1 ≤ gk := by simp at hgM ⊢; omega
              obtain ⟨v, hb, hln2⟩ := HB.out w5 h5.below x0 y0 hx0.out hy0
              have BC := Aside0.mk hb
              have LC := Aside0.mk hln2
              clear h5 RR MI hsum hgM hb hln2 hy0
              generalize M1 ++ M2 = MM at R5 MI2 hs2 hgM2
              have hwm : IntKind.i64.wrap ((m : Int) + (ln x0 y0 : Nat)) = ((m + ln x0 y0 : Nat) : Int) := by rw [IntKind.wrap_i64]; omega
              go_wp2_with fail
              refine BC.out.mono ?_
              rintro e w6 ⟨rfl, h⟩
              have h := h.symm
              subst h
              go_wp2_with fail
              refine LC.out.mono ?_
              rintro e w6 ⟨rfl, h⟩
              have h := h.symm
              subst h
              go_wp2_with fail
              go_roundg MM.length
              case measure => omega
              case rel => exact ⟨MM, m + ln x0 y0, by first | rfl | rw [hwm], Nat.le_refl _, hs2, MI2, R5⟩
/-! ### Lost -/
def lostOf (V : List Bv) : Int := (V.map fun v => v.2).sum
def loE (E : List Ent) (V : List Bv) (e : Ent) : Int := (V.getD ((wIdx E e.1).getD 0) v0).2
theorem wIdx_at {E : List Ent} (hn : (E.map (·.1)).Nodup) {i : Nat} {e : Ent} (h : E[i]? = some e) : wIdx E e.1 = some i := by
  unfold wIdx
  rw [List.findIdx?_eq_some_iff_getElem]
  obtain ⟨hi, he⟩ := List.getElem?_eq_some_iff.1 h
  refine ⟨hi, by simp [he], fun j hj => ?_⟩
  simp only [decide_eq_true_eq]
  intro e2
  have h1 : (E.map (·.1))[j]'(by simp; omega) = (E.map (·.1))[i]'(by simpa using hi) := by simp [e2, he]
  exact List.pairwise_iff_getElem.1 hn j i (by simp; omega) (by simpa using hi) (by omega) h1
theorem loE_sum {E : List Ent} {V : List Bv} (hn : (E.map (·.1)).Nodup) (hl : E.length = V.length) : (E.map (loE E V)).sum = lostOf V := by
  unfold lostOf
  congr 1
  apply List.ext_getElem?
  intro i
  rw [List.getElem?_map, List.getElem?_map]
  cases he : E[i]? with
  | none =>
    rw [List.getElem?_eq_none (by have := List.getElem?_eq_none_iff.1 he; omega)]
    rfl
  | some e =>
    have hi := (List.getElem?_eq_some_iff.1 he).1
    rw [List.getElem?_eq_getElem (show i < V.length by omega)]
    simp only [Option.map_some]
    unfold loE
    rw [wIdx_at hn he]
    simp [List.getD_eq_getElem?_getD, List.getElem?_eq_getElem (show i < V.length by omega)]
theorem sum_splitE (f : Ent → Int) (K1 K2 : List Ent) (x : Ent) : ((K1 ++ x :: K2).map f).sum = f x + ((K1 ++ K2).map f).sum := by
  simp only [List.map_append, List.sum_append, List.map_cons, List.sum_cons]
  omega
theorem sum_nonneg (f : Ent → Int) : ∀ (l : List Ent), (∀ e ∈ l, 0 ≤ f e) → 0 ≤ (l.map f).sum
  | [], _ => Int.le_refl _
  | x :: l, h => by
    have h1 := h x List.mem_cons_self
    have h2 := sum_nonneg f l (fun e he => h e (List.mem_cons_of_mem _ he))
    rw [List.map_cons, List.sum_cons]
    omega
theorem NetS.bag {w : World} {S : Nat → Prop} {g mb n room : Nat} {E : List Ent} {V : List Bv} (h : NetS w S g mb n room E V) {e : Ent} (he : e ∈ E) : ∃ v : Bv, Bag w S e.2 room v.1 v.2 ∧ loE E V e = v.2 ∧ 0 ≤ v.2 := by
  obtain ⟨i, hi⟩ := List.mem_iff_getElem?.1 he
  have hl := (List.getElem?_eq_some_iff.1 hi).1
  have hl2 := h.bags.len
  have hv : V[i]? = some V[i] := List.getElem?_eq_getElem (by omega)
  obtain ⟨Si, hB, hsub, _⟩ := h.bags.at hi hv
  refine ⟨V[i], hB.mono fun k hk => (hsub k hk).1, ?_, hB.ok.l0⟩
  unfold loE
  rw [wIdx_at h.map.nodup hi]
  simp [List.getD_eq_getElem?_getD, hv]
structure LostS (w wr : World) (g mb n room r : Nat) (E : List Ent) (V : List Bv) (L : List Ent) : Prop where
  ex : ∃ S : Nat → Prop, NetS wr S g mb n room E V ∧ ∀ k, S k → k < w.heap.size
  map : MapR Try.prog tWay fkW fvB wr mb r E L
  up : w.heap.size ≤ r
  sub : ∀ e ∈ L, e ∈ E
  below : Below w.heap.size w wr
theorem LostS.next {w wr : World} {g mb n room r : Nat} {E : List Ent} {V : List Bv} {L : List Ent} (h : LostS w wr g mb n room r E V L) : (L = [] ∧ ∀ ty, (Instr.next (.pointer (some ⟨r, 0, none⟩)) false ty).run Try.prog wr = .ok (.tuple #[.bool false]) wr) ∨
    ∃ L1 e L2 w', L = L1 ++ e :: L2 ∧ (∀ ty, (Instr.next (.pointer (some ⟨r, 0, none⟩)) false ty).run Try.prog wr = .ok (.tuple #[.bool true, fkW e.1, .pointer (some ⟨e.2, 0, none⟩)]) w') ∧ (Instr.entry (.pointer (some ⟨r, 0, none⟩))).run Try.prog w' = .ok (.tuple #[fkW e.1, .pointer (some ⟨e.2, 0, none⟩)]) w' ∧ LostS w w' g mb n room r E V (L1 ++ L2) ∧
      Calls Try.prog 23 #[.pointer (some ⟨e.2, 0, none⟩)] w' fun e' w2 => e' = .returned (.int .i64 (loE E V e)) ∧ w2 = w' := by
  rcases h.map.next with h1 | ⟨l1, p, l2, w', h1, h2, h3, h4, h5, h6⟩
  · exact .inl h1
  · obtain ⟨S, hN, hS⟩ := h.ex
    have hN' := hN.beside h4 (fun k hk hk2 => by have := hS k hk; have := h.up; omega)
    obtain ⟨v, hB, e1, _⟩ := hN'.bag (h.sub p (by rw [h1]; simp))
    exact .inr ⟨l1, p, l2, w', h1, h2, h6, ⟨⟨S, hN', hS⟩, h3, h.up, fun e he => h.sub e (by rw [h1]; simp at he ⊢; rcases he with he | he <;> simp [he]), Beside.step h.below h4 (fun k hk => by rw [hk]; exact h.up)⟩, by rw [e1]; exact Lost_calls hB⟩
set_option maxHeartbeats 2000000 in
theorem NetLost_calls {w : World} {S : Nat → Prop} {g mb n room : Nat} {E : List Ent} {V : List Bv} (h : NetS w S g mb n room E V) (hb : lostOf V ≤ 4611686018427387904) :
    Calls Try.prog 9 #[.pointer (some ⟨g, 0, none⟩)] w fun e w' => e = .returned (.int .i64 (lostOf V)) ∧ Below w.heap.size w w' := by
  have c1 := h.c1
  have hN := h.bound
  obtain ⟨w1, hrg, hM, hb1, _⟩ := hN.map.range Try.underlying63
  have L0 : Aside0 (LostS w w1 g mb n room w.heap.size E V E) := ⟨⟨_, hN.below hb1, fun k hk => hk.2⟩, hM, Nat.le_refl _, fun e he => he, hb1⟩
  have hpos : Aside0 (∀ e ∈ E, 0 ≤ loE E V e) := ⟨fun e he => by obtain ⟨v, _, e1, h0⟩ := h.bag he; omega⟩
  have hT := loE_sum h.map.nodup h.bags.len
  have TB := Aside0.mk hb
  obtain ⟨T, hTe⟩ : ∃ T, T = lostOf V := ⟨_, rfl⟩
  rw [← hTe] at hT TB
  have TE := Aside0.mk hTe
  clear h hN hM hb1 hb hTe
  go_enter Try.func9, Try.ntmps9
  go_wp2_with fail
  generalize w.heap.size = r at L0 ⊢
  clear hrg c1
  go_loopg [3] E.length (fun gg s3 wj => ∃ (L : List Ent) (n0 : Int), s3 = .int .i64 n0 ∧ L.length ≤ gg ∧ 0 ≤ n0 ∧ n0 + (L.map (loE E V)).sum = T ∧ Aside0 (LostS w wj g mb n room r E V L))
  case atStart => exact ⟨E, 0, rfl, Nat.le_refl _, Int.le_refl _, by rw [hT]; omega, L0⟩
  case round =>
    clear L0
    obtain ⟨L, n0, rfl, hgL, hn0, hsum, RR⟩ := hrel
    rcases RR.out.next with ⟨rfl, hnx⟩ | ⟨L1, e0, L2, w3, rfl, hnx, hen, h3, hlc⟩
    · have hn : n0 = T := by simpa using hsum
      subst hn
      have B2 := Aside0.mk RR.out.below
      clear RR hsum
      go_wp2_with fail
      go_ret
      exact ⟨congrArg (fun z : Int => Ending.returned (.int .i64 z)) TE.out, B2.out⟩
    · have R3 := Aside0.mk h3
      have LC := Aside0.mk hlc
      have h0 := hpos.out e0 (RR.out.sub e0 (by simp))
      have hrest : 0 ≤ ((L1 ++ L2).map (loE E V)).sum := sum_nonneg _ _ (fun e he => hpos.out e (R3.out.sub e he))
      have hs2 : n0 + loE E V e0 + ((L1 ++ L2).map (loE E V)).sum = T := by
        have := sum_splitE (loE E V) L1 L2 e0
        omega
      have hgL2 : (L1 ++ L2).length + 1 ≤ gk := by simp at hgL ⊢; omega
      have hwm : IntKind.i64.wrap (n0 + loE E V e0) = n0 + loE E V e0 := by rw [IntKind.wrap_i64]; have := TB.out; omega
      clear RR h3 hlc hsum hgL
      generalize L1 ++ L2 = LL at R3 hs2 hrest hgL2
      generalize loE E V e0 = q0 at LC hs2 hwm h0
      go_wp2_with fail
      refine LC.out.mono ?_
      rintro e w6 ⟨rfl, h⟩
      have h := h.symm
      subst h
      go_wp2_with fail
      go_roundg LL.length
      case measure => omega
      case rel => exact ⟨LL, n0 + q0, by first | rfl | rw [hwm], Nat.le_refl _, by omega, hs2, R3⟩
theorem NetLost_nil (w : World) : Calls Try.prog 9 #[.pointer none] w fun e w' => e = .returned (.int .i64 0) ∧ w' = w := by
  go_enter Try.func9, Try.ntmps9
  go_wp2
  go_ret
  exact ⟨rfl, rfl⟩

end Go.Proofs.Ytmkacejnnjppjaa.Walk
