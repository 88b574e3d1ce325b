/- The document's Turned. Conditions: none beyond the statement's own. -/
import Derived.Test.YtemgfogpeogdeaaWalkTurn
import Derived.Test.YtemgfogpeogdeaaArgs
import Derived.Deep.QuietTactic
import Derived.BigQuiet
import Derived.Lib.QuietBelow
import Derived.Outline
import Derived.Deep.RegionHeld3
import Derived.Deep.CutRange
namespace Go.Proofs.Ytemgfogpeogdeaa.Walk
open Go.RowKit Go.Proofs.Ytemgfogpeogdeaa.F Go.Proofs.YtemgfogpeogdeaaW.PrintWords Go.Proofs.YtemgfogpeogdeaaW.PrintLast Go.Proofs.YtemgfogpeogdeaaW.PrintMore Go.Proofs.Ytemgfogpeogdeaa.Open
open Go.Sort (grow)
attribute [local go_sem] max2_int min2_int max_two min_two max_three min_three max_four min_four
set_option linter.unusedVariables false
set_option linter.unusedSimpArgs false

/-! ### The document's Turned -/
/-- A row of bytes whose block may be marked behind its end. -/
def RowF (w : World) (ib n : Nat) (xs : List Int) : Prop := xs.length = n ∧ ∃ (cur : Array Value) (t f1 f2 : Nat), w.heap[ib]? = some (.cells cur t (f1, f2)) ∧ n ≤ f1 ∧ n ≤ cur.size ∧ ∀ (j : Nat) (x : Int), xs[j]? = some x → cur[j]? = some (Value.int .u8 x)
theorem RowF.cell {w : World} {ib n : Nat} {xs : List Int} (h : RowF w ib n xs) (q : Nat) (hq : q < n) : w.cell? ⟨ib, q, none⟩ = some (.int .u8 (xs.getD q 0)) ∧ w.frozen? ⟨ib, q, none⟩ = false := by
  obtain ⟨hl, cur, t, f1, f2, hb, hf, hs, hc⟩ := h
  have e : xs[q]? = some (xs.getD q 0) := by rw [List.getD_eq_getElem?_getD, List.getElem?_eq_getElem (by omega)]; rfl
  refine ⟨(cell_of_row w ib q cur t (f1, f2) hb).trans (hc q _ e), ?_⟩
  unfold World.frozen?
  simp [hb]
  omega
theorem RowF.put {w : World} {ib n : Nat} {xs : List Int} (h : RowF w ib n xs) (q : Nat) (hq : q < n) (X : Int) : RowF (w.setCell ⟨ib, q, none⟩ (.int .u8 X)) ib n (xs.set q X) := by
  obtain ⟨hl, cur, t, f1, f2, hb, hf, hs, hc⟩ := h
  refine ⟨by rw [List.length_set]; exact hl, cur.setIfInBounds q (.int .u8 X), t, f1, f2, ?_, hf, by simpa using hs, fun j x hj => ?_⟩
  · have hlt := blk_lt hb
    simp only [World.setCell]
    rw [Array.getElem?_modify]
    simp [hb]
  · by_cases hjq : q = j
    · subst hjq
      rw [List.getElem?_set_self (by omega)] at hj
      obtain rfl := Option.some.inj hj
      rw [Array.getElem?_setIfInBounds_self_of_lt (by omega)]
    · rw [List.getElem?_set_ne hjq] at hj
      rw [Array.getElem?_setIfInBounds_ne hjq]
      exact hc j x hj
theorem RowF.C {w : World} {ib n : Nat} {xs : List Int} (h : RowF w ib n xs) (hn : n ≤ 1000000) : (Kd.int .u8).C w (some ⟨ib, 0, none⟩) n xs := by
  refine ⟨h.1, by omega, fun _ => ⟨_, rfl, fun j x hj => ⟨[.int .u8 x], rfl, rfl, fun i u hu => ?_⟩⟩⟩
  obtain ⟨hi, rfl⟩ := List.getElem?_eq_some_iff.1 hu
  obtain rfl : i = 0 := by simpa using hi
  have hl := (List.getElem?_eq_some_iff.1 hj).1
  have h1 := (h.cell j (by rw [← h.1]; exact hl)).1
  rw [add_plain]
  rw [List.getD_eq_getElem?_getD, hj] at h1
  show w.cell? ⟨ib, j * 1 + 0, none⟩ = _
  rw [Nat.mul_one]
  exact h1
theorem RowF.of_str {w : World} {x : List Int} (hx : ∀ y ∈ x, 0 ≤ y ∧ y < 256) : RowF (Lib.bytesWorld w 5 (strOfNums x)) w.heap.size x.length x := by
  have hsz : (strOfNums x).size = x.length := strOfNums_size x
  have hcs : x.length ≤ (Lib.bytesCells w 5 (strOfNums x)).size := by
    unfold Lib.bytesCells
    rw [Array.size_append, Array.size_map]
    have : (strOfNums x).data.size = x.length := hsz
    omega
  refine ⟨rfl, _, _, _, _, Lib.bytesWorld_at_new w 5 (strOfNums x), hcs, hcs, fun j y hj => ?_⟩
  have hj' := (List.getElem?_eq_some_iff.1 hj).1
  have h := Lib.bytesWorld_cell w 5 (strOfNums x) j (by rw [hsz]; exact hj')
  rw [cell_of_row _ w.heap.size j _ _ _ (Lib.bytesWorld_at_new w 5 (strOfNums x))] at h
  rw [h, strOfNums_data, List.getD_eq_getElem?_getD, List.getElem?_map, hj]
  have hy := hx y (List.mem_of_getElem? hj)
  have e : (((UInt8.ofNat y.toNat).toNat : Nat) : Int) = y := by
    rw [UInt8.toNat_ofNat']
    omega
  show some (Value.int .u8 (((UInt8.ofNat y.toNat).toNat : Nat) : Int)) = _
  rw [e]
theorem bytesWorld_below (w : World) (e : TypeId) (s : ByteArray) : Below w.heap.size w (Lib.bytesWorld w e s) :=
  ⟨rfl, rfl, rfl, by rw [Lib.bytesWorld_size]; omega, fun k hk => Lib.bytesWorld_at_old w e s k hk⟩
theorem div_two (bits : Int) (k : Nat) : bits / 2 ^ k / 2 = bits / 2 ^ (k + 1) := by
  rw [Int.ediv_ediv_of_nonneg (Int.le_of_lt (Int.pow_pos (by decide))), Int.pow_succ]
set_option maxHeartbeats 4000000 in
theorem Turned_calls (x : List Int) (a : Nat) (bits : Int) (w : World) (hx : ∀ y ∈ x, 0 ≤ y ∧ y < 256) (hl : x.length ≤ 1000000) (hf : (a : Int) ≤ 8 * (x.length : Int) - 32) (hb0 : 0 ≤ bits) (hb1 : bits < 4294967296) :
    Calls Try.prog 20 #[.string (strOfNums x), .int .i64 a, .int .u32 bits] w fun e w' => e = .returned (.string (strOfNums (turnN bits a x 32))) ∧ Below w.heap.size w w' := by
  have hcv : (convert 9 24 (.string (strOfNums x))).run Try.prog w = .ok (.slice (some ⟨w.heap.size, 0, none⟩) x.length (grownCap w x.length 0 5)) (Lib.bytesWorld w 5 (strOfNums x)) := by
    have h := Lib.run_convert_string_bytes (P := Try.prog) w 9 24 5 (strOfNums x) Try.underlying9 Try.underlying24 Try.underlying5
    rwa [strOfNums_size] at h
  have R0 := Aside0.mk (RowF.of_str (w := w) hx)
  have B0 := Aside0.mk (bytesWorld_below w 5 (strOfNums x))
  clear hx
  go_enter Try.func20, Try.ntmps20
  go_wp2_with fail
  clear hcv
  generalize Lib.bytesWorld w 5 (strOfNums x) = w1 at *
  generalize grownCap w x.length 0 5 = cap
  have HF := Aside0.mk hf
  have HL := Aside0.mk hl
  obtain ⟨ib, hib⟩ : ∃ ib, ib = w.heap.size := ⟨_, rfl⟩
  have IB : Aside0 (w.heap.size ≤ ib) := ⟨by omega⟩
  rw [← hib] at R0 ⊢
  clear hib
  go_loopg [8, 2] 32 (fun kq v8 v2 w' => ∃ (k : Nat) (B : Int), v8 = .int .i64 k ∧ v2 = .int .u32 B ∧ k ≤ 32 ∧ 32 ≤ kq + k ∧ Aside0 (B = bits / 2 ^ k) ∧ Aside0 (RowF w' ib x.length (turnN bits a x k)) ∧ Aside0 (Below w.heap.size w w'))
  case atStart => exact ⟨0, bits, rfl, rfl, by omega, by omega, ⟨by simp⟩, R0, B0⟩
  case round =>
    obtain ⟨k, B, rfl, rfl, hk, hkk, HB, R1, B1⟩ := hrel
    generalize wr = w2 at *
    by_cases hlt : k < 32
    · have hlt' : decide ((k : Int) < 32) = true := decide_eq_true (by omega)
      have hlt2 : decide (k < 32) = true := decide_eq_true hlt
      have hB0 : 0 ≤ B := by rw [HB.out]; exact Int.ediv_nonneg hb0 (Int.le_of_lt (Int.pow_pos (by decide)))
      have hB1 : B < 4294967296 := by
        have h3 : bits / 2 ^ k ≤ bits := Int.ediv_le_self _ hb0
        rw [HB.out]
        omega
      obtain ⟨B2, hB2⟩ : ∃ B2, B2 = bits / 2 ^ (k + 1) := ⟨_, rfl⟩
      have HB2 := Aside0.mk hB2
      have hBd : B / 2 = B2 := by rw [HB.out, hB2]; exact div_two bits k
      have HQ2 : Aside0 (B.tdiv 2 = B2) := ⟨by rw [Int.tdiv_eq_ediv_of_nonneg hB0]; exact hBd⟩
      have HQ3 : Aside0 (IntKind.u32.wrap B2 = B2) := ⟨wraps_u32 _ (by omega) (by show B2 < 4294967296; omega)⟩
      have HWK : Aside0 (wrap64 ((k : Int) + 1) = ((k + 1 : Nat) : Int)) := ⟨by rw [w64 (by omega) (by omega)]; simp⟩
      have htt : B.tmod 2 = B % 2 := Int.tmod_eq_emod_of_nonneg hB0
      by_cases htb : tb bits k = true
      · have hc : (B.tmod 2 == 1) = true := by
          rw [htt, HB.out]
          exact beq_iff_eq.2 (of_decide_eq_true htb)
        obtain ⟨q, hq⟩ : ∃ q : Nat, q = (a + k) / 8 := ⟨_, rfl⟩
        obtain ⟨r, hr⟩ : ∃ r : Nat, r = (a + k) % 8 := ⟨_, rfl⟩
        have hqb : q < x.length := by have := HF.out; omega
        have HJ : Aside0 (((a : Int) + (k : Int)).tmod 8 = (r : Int) ∧ ((a : Int) + (k : Int)).tdiv 8 = (q : Int)) := ⟨by
          rw [Int.tmod_eq_emod_of_nonneg (by omega), Int.tdiv_eq_ediv_of_nonneg (by omega)]
          omega⟩
        have HWA : Aside0 (wrap64 ((a : Int) + (k : Int)) = ((a + k : Nat) : Int)) := ⟨by rw [w64 (by omega) (by have := HL.out; have := HF.out; omega)]; simp⟩
        have HQ : Aside0 (wrap64 (q : Int) = (q : Int)) := ⟨w64 (by omega) (by have := HL.out; omega)⟩
        have hr7 : r ≤ 7 := by omega
        have QE := Aside0.mk hq
        have RE := Aside0.mk hr
        have TB := Aside0.mk htb
        have hq0 : (0 ≤ (q : Int)) = True := eq_true (by omega)
        have hq1 : ((q : Int) < (x.length : Int)) = True := eq_true (by omega)
        obtain ⟨hby, hbz⟩ := R1.out.cell q hqb
        obtain ⟨v, hv⟩ : ∃ v, v = (turnN bits a x k).getD q 0 := ⟨_, rfl⟩
        rw [← hv] at hby
        have HV := Aside0.mk hv
        have RP : Aside0 (∀ X : Int, RowF (w2.setCell ⟨ib, q, none⟩ (.int .u8 X)) ib x.length ((turnN bits a x k).set q X)) := ⟨fun X => R1.out.put q hqb X⟩
        clear htt hBd hB2 hq hr hqb htb hv hB0 hB1
        have hwa := HWA.out
        go_upto_region 7 with (fail)
        clear hc hwa
        obtain ⟨hJm, hJd⟩ := HJ.out
        clear HJ HWA
        generalize (a : Int) + (k : Int) = J at hJm hJd ⊢
        have HJD := Aside0.mk hJd
        have HJM := Aside0.mk hJm
        clear hJd hJm
        go_wp2_with fail
        obtain ⟨go_, hgo⟩ : ∃ go_, go_ = gk := ⟨_, rfl⟩
        have GO := Aside0.mk hgo
        clear hgo
        go_loopg [10, 11] r (fun kq v10 v11 w' => ∃ (i : Nat) (C : Int), v10 = .int .u8 C ∧ v11 = .int .i64 i ∧ i ≤ r ∧ r ≤ kq + i ∧ Aside0 (C = 2 ^ i) ∧ w2 = w')
        case atStart => exact ⟨0, 1, rfl, rfl, Nat.zero_le _, Nat.le_refl _, ⟨by simp⟩, rfl⟩
        case round =>
          obtain ⟨i, C, rfl, rfl, hi, hki, HC, rfl⟩ := hrel
          by_cases hir : i < r
          · have hir' : decide ((i : Int) < (r : Int)) = true := decide_eq_true (Int.ofNat_lt.2 hir)
            have hir2 : decide (i < r) = true := decide_eq_true hir
            obtain ⟨C2, hC2⟩ : ∃ C2 : Int, C2 = 2 ^ (i + 1) := ⟨_, rfl⟩
            have HC2 := Aside0.mk hC2
            have HCM : Aside0 (C * 2 = C2) := ⟨by rw [HC.out, hC2, Int.pow_succ]⟩
            have HCW : Aside0 (IntKind.u8.wrap C2 = C2) := ⟨by
              have : i = 0 ∨ i = 1 ∨ i = 2 ∨ i = 3 ∨ i = 4 ∨ i = 5 ∨ i = 6 := by omega
              rw [hC2]
              exact wraps_u8 _ (Int.le_of_lt (Int.pow_pos (by decide))) (by rcases this with h | h | h | h | h | h | h <;> rw [h] <;> decide)⟩
            have HWI : Aside0 (wrap64 ((i : Int) + 1) = ((i + 1 : Nat) : Int)) := ⟨by rw [w64 (by omega) (by omega)]; simp⟩
            clear hC2
            have hjm := HJM.out
            have hcm := HCM.out
            have hcw := HCW.out
            go_upto_region 10 with (fail)
            clear hcm hcw hjm
            go_wp2_with fail
            go_roundg (gk - 1)
            case measure => omega
            case rel => exact ⟨i + 1, C2, by rfl, by simp, by omega, by omega, HC2, rfl⟩
          · have hir' : decide ((i : Int) < (r : Int)) = false := decide_eq_false (fun h => hir (Int.ofNat_lt.1 h))
            have hir2 : decide (i < r) = false := decide_eq_false hir
            obtain rfl : i = r := Nat.le_antisymm hi (Nat.le_of_not_lt hir)
            have hflip : (turnN bits a x k).set q (Go.bits BinOp.xor IntKind.u8 v C) = turnN bits a x (k + 1) := by
              have h1 : turnN bits a x (k + 1) = flip (a + k) (turnN bits a x k) := if_pos TB.out
              rw [h1, HC.out, HV.out, QE.out, RE.out]
              rfl
            have R2 : Aside0 (RowF (w2.setCell ⟨ib, q, none⟩ (.int .u8 (Go.bits BinOp.xor IntKind.u8 v C))) ib x.length (turnN bits a x (k + 1))) := ⟨by rw [← hflip]; exact RP.out _⟩
            have B3 : Aside0 (Below w.heap.size w (w2.setCell ⟨ib, q, none⟩ (.int .u8 (Go.bits BinOp.xor IntKind.u8 v C)))) := ⟨B1.out.setCell (p := ⟨ib, q, none⟩) IB.out _⟩
            clear hflip
            have hjm := HJM.out
            have hjd := HJD.out
            have hq := HQ.out
            have hqi := (i64_w _).trans HQ.out
            go_upto_region 13 with (fail)
            clear hjd hq hqi hjm
            have hq2 := HQ2.out
            have hq3 := HQ3.out
            go_upto_region 4 with (fail)
            clear hq2 hq3
            go_wp2_with fail
            go_roundg (go_ - 1)
            case measure => have := GO.out; omega
            case rel => exact ⟨k + 1, B2, by simp, by rfl, by omega, by have := GO.out; omega, HB2, R2, B3⟩
      · have hc : (B.tmod 2 == 1) = false := by
          rw [htt, HB.out]
          exact beq_eq_false_iff_ne.2 (fun h => htb (decide_eq_true h))
        have RN : Aside0 (RowF w2 ib x.length (turnN bits a x (k + 1))) := ⟨by
          have h1 : turnN bits a x (k + 1) = turnN bits a x k := if_neg htb
          rw [h1]
          exact R1.out⟩
        clear htt hBd hB2 htb hB0 hB1
        have hq2 := HQ2.out
        have hq3 := HQ3.out
        go_upto_region 4 with (fail)
        clear hq2 hq3
        go_wp2_with fail
        go_roundg (gk - 1)
        case measure => omega
        case rel => exact ⟨k + 1, B2, by simp, by rfl, by omega, by omega, HB2, RN, B1⟩
    · have hlt' : decide ((k : Int) < 32) = false := decide_eq_false (by omega)
      have hlt2 : decide (k < 32) = false := decide_eq_false hlt
      obtain rfl : k = 32 := by omega
      have hs : (convert 24 9 (.slice (some ⟨ib, 0, none⟩) x.length cap)).run Try.prog w2 = .ok (.string (strOfNums (turnN bits a x 32))) w2 := str_run (R1.out.C HL.out)
      go_wp2_with fail
      go_ret
      exact ⟨rfl, B1.out⟩

end Go.Proofs.Ytemgfogpeogdeaa.Walk
