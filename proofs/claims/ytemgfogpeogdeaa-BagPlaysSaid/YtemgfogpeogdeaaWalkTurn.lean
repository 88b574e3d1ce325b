/- Turn. Conditions: none beyond the statement's own. -/
import Derived.Test.YtemgfogpeogdeaaWalkTwice
import Derived.Test.YtemgfogpeogdeaaArgs
import Derived.Deep.QuietTactic
import Derived.BigQuiet
import Derived.Lib.QuietBelow
import Derived.Outline
import Derived.Deep.RegionHeld3
import Derived.Deep.CutRange
import Derived.StillTailTactics
namespace Go.Proofs.Ytemgfogpeogdeaa.Walk
open Go.RowKit Go.Proofs.Ytemgfogpeogdeaa.F Go.Proofs.YtemgfogpeogdeaaW.PrintWords Go.Proofs.YtemgfogpeogdeaaW.PrintLast Go.Proofs.YtemgfogpeogdeaaW.PrintMore Go.Proofs.Ytemgfogpeogdeaa.Open
open Go.Sort (grow)
attribute [local go_sem] max2_int min2_int max_two min_two max_three min_three max_four min_four
set_option linter.unusedVariables false
set_option linter.unusedSimpArgs false

/-! ### Turn -/
def tb (bits : Int) (k : Nat) : Bool := decide ((bits / 2 ^ k) % 2 = 1)
theorem wraps_u32 (n : Int) (h₀ : 0 ≤ n) (h₁ : n < 2 ^ 32) : IntKind.u32.wrap n = n := by rw [IntKind.wrap_u32]; omega
theorem tb_eq (bits : Int) (k : Nat) (h0 : 0 ≤ bits) (h1 : bits < 4294967296) : (Go.bits BinOp.and IntKind.u32 (bits / 2 ^ k) 1 == 1) = tb bits k := by
  have h2 : 0 ≤ bits / 2 ^ k := Int.ediv_nonneg h0 (Int.le_of_lt (Int.pow_pos (by decide)))
  have h3 : bits / 2 ^ k ≤ bits := Int.ediv_le_self _ h0
  have h := bits_mask .u32 32 (by decide) wraps_u32 1 (by decide) (bits / 2 ^ k) h2 (by show bits / 2 ^ k < 4294967296; omega)
  have h' : Go.bits BinOp.and IntKind.u32 (bits / 2 ^ k) 1 = (bits / 2 ^ k) % 2 := h
  rw [h']
  rfl
def flip (j : Nat) (b : List Int) : List Int := b.set (j / 8) (Go.bits .xor .u8 (b.getD (j / 8) 0) (2 ^ (j % 8)))
def turnN (bits : Int) (a : Nat) (b : List Int) : Nat → List Int
  | 0 => b
  | k + 1 => if tb bits k = true then flip (a + k) (turnN bits a b k) else turnN bits a b k
theorem flip_length (j : Nat) (b : List Int) : (flip j b).length = b.length := by simp [flip]
theorem turnN_length (bits : Int) (a : Nat) (b : List Int) : ∀ k, (turnN bits a b k).length = b.length
  | 0 => rfl
  | k + 1 => by
    unfold turnN
    split
    · rw [flip_length, turnN_length bits a b k]
    · exact turnN_length bits a b k
def mayTurn (L : List Th) (i a bits : Int) : Bool := decide ((0 ≤ i ∧ i < L.length) ∧ bits ≠ 0 ∧ 0 ≤ a ∧ (L.getD i.toNat zT).f1 = false ∧ a ≤ 8 * ((L.getD i.toNat zT).f0.length : Int) - 32)
def turn (L : List Th) (i a bits : Int) : List Th := if mayTurn L i a bits = true then L.set i.toNat ⟨turnN bits a.toNat (L.getD i.toNat zT).f0 32, true⟩ else L
set_option maxHeartbeats 4000000 in
theorem Turn_calls {w : World} {S : Nat → Prop} {g n : Nat} {L : List Th} {lost : Int} (h : Bag w S g n L lost) (i a bits : Int) (ha : a ≤ 9223372036854775807) (hb0 : 0 ≤ bits) (hb1 : bits < 4294967296) : Calls Try.prog 16 #[.pointer (some ⟨g, 0, none⟩), .int .i64 i, .int .i64 a, .int .u32 bits] w fun e w' => e = .returned (.bool (mayTurn L i a bits)) ∧ Bag w' S g n (turn L i a bits) lost ∧ Beside S w w' := by
  have TH := Aside0.mk (there_calls h i)
  have H := Aside0.mk h
  obtain ⟨A1, c1, q0, q1, q2, hB, hS⟩ := h.cell
  have HS := Aside0.mk hS
  have HB := Aside0.mk hB
  by_cases hi : 0 ≤ i ∧ i < L.length
  · have e1 : has L i = true := decide_eq_true hi
    rw [e1] at TH
    by_cases hb : bits = 0
    · have e3 : mayTurn L i a bits = false := decide_eq_false (fun h => h.2.1 hb)
      have e2 : turn L i a bits = L := if_neg (by rw [e3]; simp)
      rw [e2, e3]
      subst hb
      clear e1 e2 e3 hi h hS hB
      go_enter Try.func16, Try.ntmps16
      go_wp2_with fail
      refine (TH.out).mono ?_
      rintro e w1 ⟨rfl, rfl⟩
      go_wp2_with fail
      go_ret
      exact ⟨rfl, H.out, Beside.refl S w1⟩
    · have hb' : (bits == 0) = false := beq_eq_false_iff_ne.2 hb
      by_cases h0 : a < 0
      · have e3 : mayTurn L i a bits = false := decide_eq_false (fun h => by have := h.2.2.1; omega)
        have e2 : turn L i a bits = L := if_neg (by rw [e3]; simp)
        rw [e2, e3]
        have h0' : decide (a < 0) = true := decide_eq_true h0
        clear e1 e2 e3 hi h hS hB
        go_enter Try.func16, Try.ntmps16
        go_wp2_with fail
        refine (TH.out).mono ?_
        rintro e w1 ⟨rfl, rfl⟩
        go_wp2_with fail
        go_ret
        exact ⟨rfl, H.out, Beside.refl S w1⟩
      · have h0' : decide (a < 0) = false := decide_eq_false h0
        obtain ⟨rg, cap, hv, hrb, hrl, _⟩ := Kd.S_form hS (by omega)
        injection hv with h1 _ h3
        subst h1
        subst h3
        obtain ⟨m, rfl⟩ : ∃ m : Nat, i = (m : Int) := ⟨i.toNat, by omega⟩
        obtain ⟨a, rfl⟩ : ∃ a' : Nat, a = (a' : Int) := ⟨a.toNat, by omega⟩
        have hml : m < L.length := by omega
        obtain ⟨oki, cc, hcl, hM, hcc, hoki, hback⟩ := Kd.S_borrow hS zT (m : Int) (by omega) (by omega)
        rw [Int.toNat_natCast] at hM hcc
        have hxm : L.getD m zT ∈ L := by
          rw [List.getD_eq_getElem?_getD, List.getElem?_eq_getElem hml]
          exact List.getElem_mem _
        have hx8 := h.ok.fr _ hxm
        obtain ⟨x, hx⟩ : ∃ x, x = L.getD m zT := ⟨_, rfl⟩
        have e3 : mayTurn L m a bits = decide (x.f1 = false ∧ (a : Int) ≤ 8 * (x.f0.length : Int) - 32) := by
          unfold mayTurn
          rw [Int.toNat_natCast, ← hx]
          congr 1
          exact propext ⟨fun h => h.2.2.2, fun h => ⟨hi, hb, by omega, h⟩⟩
        rw [← hx] at hM hx8
        have hLs : L.set m ⟨turnN bits a x.f0 0, x.f1⟩ = L := by
          show L.set m x = L
          rw [hx, List.getD_eq_getElem?_getD, List.getElem?_eq_getElem hml]
          simp
        obtain ⟨v0, rfl, hR0⟩ := k57_openM hM
        obtain ⟨A0, d0, rfl⟩ := Kd.R_slice hR0
        have k0 : w.cell? ⟨rg, m * 2, none⟩ = some (.slice A0 x.f0.length d0) := by have h9 := hcc 0 _ rfl; rw [add_plain] at h9; exact h9
        have k1 : w.cell? ⟨rg, m * 2 + 1, none⟩ = some (.bool x.f1) := by have h9 := hcc 1 _ rfl; rw [add_plain] at h9; exact h9
        have HX := Aside0.mk hx
        have X8 := Aside0.mk hx8
        have E3 := Aside0.mk e3
        have LS := Aside0.mk hLs
        have ML := Aside0.mk hml
        have hwl : wrap64 (8 * (x.f0.length : Int)) = 8 * (x.f0.length : Int) := w64 (by omega) (by omega)
        have hwl2 : wrap64 (8 * (x.f0.length : Int) - 32) = 8 * (x.f0.length : Int) - 32 := w64 (by omega) (by omega)
        have pm : (0 ≤ (m : Int)) = True := eq_true (by omega)
        have qm : ((m : Int) < (L.length : Int)) = True := eq_true (by omega)
        have HI := Aside0.mk hi
        clear e1 hi h hS hB hback hM hcc hcl hR0 hoki hx hx8 e3 hLs hml hxm hrb hrl q0 q2
        cases hf : x.f1 with
        | true =>
          rw [hf] at k1
          have hf3 : mayTurn L m a bits = false := by rw [E3.out, hf]; simp
          have e2 : turn L m a bits = L := if_neg (by rw [hf3]; simp)
          rw [e2, hf3]
          clear e2 hf3 hf
          go_enter Try.func16, Try.ntmps16
          go_wp2_with fail
          refine (TH.out).mono ?_
          rintro e w1 ⟨rfl, rfl⟩
          go_wp2_with fail
          go_ret
          exact ⟨rfl, H.out, Beside.refl S _⟩
        | false =>
          rw [hf] at k1
          by_cases hfit : 8 * (x.f0.length : Int) - 32 < a
          · have hfit' : decide (8 * (x.f0.length : Int) - 32 < (a : Int)) = true := decide_eq_true hfit
            have hf3 : mayTurn L m a bits = false := by rw [E3.out, hf]; simp; omega
            have e2 : turn L m a bits = L := if_neg (by rw [hf3]; simp)
            rw [e2, hf3]
            clear e2 hf3 hf
            go_enter Try.func16, Try.ntmps16
            go_wp2_with fail
            refine (TH.out).mono ?_
            rintro e w1 ⟨rfl, rfl⟩
            go_wp2_with fail
            go_ret
            exact ⟨rfl, H.out, Beside.refl S _⟩
          · have hfit' : decide (8 * (x.f0.length : Int) - 32 < (a : Int)) = false := decide_eq_false hfit
            have hf3 : mayTurn L m a bits = true := by rw [E3.out, hf]; simp; omega
            have e2 : turn L m a bits = L.set m ⟨turnN bits a x.f0 32, true⟩ := by
              unfold turn
              rw [if_pos hf3, Int.toNat_natCast, Int.toNat_natCast, ← HX.out]
            rw [e2, hf3]
            have FIT := Aside0.mk hfit
            have HF := Aside0.mk hf
            clear e2 hf3 hf hfit
            go_enter Try.func16, Try.ntmps16
            go_wp2_with fail
            refine (TH.out).mono ?_
            rintro e w ⟨rfl, rfl⟩
            go_wp2_with fail
            clear hwl hwl2
            go_loopg [45] 32 (fun kq v45 w' => ∃ k : Nat, v45 = .int .i64 k ∧ k ≤ 32 ∧ 32 ≤ kq + k ∧ Aside0 (Kd.S kT eT w' 0 (fun b => S b ∧ b ≠ g) (.slice (some ⟨rg, 0, none⟩) L.length c1) (L.set m ⟨turnN bits a x.f0 k, x.f1⟩)) ∧ Aside0 (w'.heap[g]? = some (.cells #[.int .i64 n, .slice (some ⟨rg, 0, none⟩) L.length c1, .int .i64 lost] tB (0, 0))) ∧ Aside0 (Beside S w w'))
            case atStart => exact ⟨0, rfl, by omega, by omega, ⟨by rw [LS.out]; exact HS.out⟩, HB, ⟨Beside.refl S w⟩⟩
            case round =>
              clear k0 k1 q1
              obtain ⟨k, rfl, hk, hkk, S1, G1, B1⟩ := hrel
              obtain ⟨b, hb⟩ : ∃ b, b = turnN bits a x.f0 k := ⟨_, rfl⟩
              have BL : Aside0 (b.length = x.f0.length) := ⟨by rw [hb, turnN_length]⟩
              have HBB := Aside0.mk hb
              rw [← hb] at S1
              clear hb
              obtain ⟨oki, cc, hcl, hM, hcc, hoki, hback⟩ := Kd.S_borrow S1.out zT (m : Int) (by omega) (by have := ML.out; omega)
              have hge : (L.set m ⟨b, x.f1⟩).getD m zT = ⟨b, x.f1⟩ := by
                rw [List.getD_eq_getElem?_getD, List.getElem?_set_self ML.out]
                rfl
              rw [Int.toNat_natCast] at hM hcc
              rw [hge] at hM
              obtain ⟨v0, rfl, hR0⟩ := k57_openM hM
              by_cases hlt : k < 32
              · have hlt' : decide ((k : Int) < 32) = true := decide_eq_true (by omega)
                have hlt2 : decide (k < 32) = true := decide_eq_true hlt
                obtain ⟨ib, d0, rfl, _, hib, hil⟩ := R_head hR0 (by show 0 < b.length; have := FIT.out; have := BL.out; omega)
                have k0 : wr.cell? ⟨rg, m * 2, none⟩ = some (.slice (some ⟨ib, 0, none⟩) b.length d0) := by have h9 := hcc 0 _ rfl; rw [add_plain] at h9; exact h9
                have HWA : Aside0 (wrap64 ((a : Int) + (k : Int)) = ((a + k : Nat) : Int)) := ⟨by rw [w64 (by omega) (by have := FIT.out; have := X8.out; omega)]; simp⟩
                by_cases htb : tb bits k = true
                · have HCC : Aside0 ((Go.bits BinOp.and IntKind.u32 (bits / 2 ^ k) 1 == 1) = true) := ⟨(tb_eq bits k hb0 hb1).trans htb⟩
                  have HTB := Aside0.mk htb
                  obtain ⟨q, hq⟩ : ∃ q : Nat, q = (a + k) / 8 := ⟨_, rfl⟩
                  obtain ⟨r, hr⟩ : ∃ r : Nat, r = (a + k) % 8 := ⟨_, rfl⟩
                  have hqb : q < b.length := by have := FIT.out; have := BL.out; omega
                  have hd0 : ((a : Int) + (k : Int)).tdiv 8 = (q : Int) := by rw [Int.tdiv_eq_ediv_of_nonneg (by omega)]; omega
                  have HM8 : Aside0 (((a : Int) + (k : Int)).tmod 8 = (r : Int)) := ⟨by rw [Int.tmod_eq_emod_of_nonneg (by omega)]; omega⟩
                  have HD1 : Aside0 (wrap64 (((a : Int) + (k : Int)).tdiv 8) = (q : Int)) := ⟨by rw [hd0]; exact w64 (by omega) (by have := X8.out; have := BL.out; omega)⟩
                  clear hd0
                  have HWR : Aside0 (IntKind.i64.wrap ((r : Int)) = (r : Int)) := ⟨(i64_w _).trans (w64 (by omega) (by omega))⟩
                  have r1 : ((r : Int) ≤ 8) = True := eq_true (by omega)
                  have q0 : (0 ≤ (q : Int)) = True := eq_true (by omega)
                  have q1 : ((q : Int) < (b.length : Int)) = True := eq_true (by omega)
                  have r0 : (0 ≤ (r : Int)) = True := eq_true (by omega)
                  have hR1 : Kd.R (Kd.int .u8) 5 wr 0 oki (.slice (some ⟨ib, 0, none⟩) b.length d0) b := hR0
                  obtain ⟨hby, hbz⟩ := Kd.R_celln (0 : Int) hR1 (q : Int) (by omega) (by omega)
                  rw [Int.toNat_natCast] at hby hbz
                  have RP : Aside0 (∀ X : Int, Kd.R (Kd.int .u8) 5 (wr.setCell ⟨ib, q, none⟩ (.int .u8 X)) 0 oki (.slice (some ⟨ib, 0, none⟩) b.length d0) (b.set q X) ∧ wr.grownBy (wr.setCell ⟨ib, q, none⟩ (.int .u8 X)) (some ib)) := ⟨fun X => by
                    have h := Kd.R_putg hR1 (q : Int) X
                    rwa [Int.toNat_natCast] at h⟩
                  have HCL := Aside0.mk hcl
                  have BK := Aside0.mk (And.intro hoki (fun (w1 : World) (row : Option Nat) (x' : Th) => @hback w1 row x'))
                  have QE := Aside0.mk hq
                  have RE := Aside0.mk hr
                  have OB := Aside0.mk (hR1.1 ib (by simp [Value.ownBlock]))
                  have HV : Aside0 (∀ v, rdOf (0 : Int) b (q : Int) = v → v = b.getD q 0) := ⟨fun v h => by rw [← h]; rfl⟩
                  obtain ⟨v, hv⟩ : ∃ v, v = rdOf (0 : Int) b (q : Int) := ⟨_, rfl⟩
                  have HVV := Aside0.mk (HV.out v hv.symm)
                  rw [← hv] at hby
                  clear htb hq hr hqb hR1 hR0 hM hcc hcl hoki hback hv HV
                  have hwa := HWA.out
                  have hc := HCC.out
                  go_upto_region 11 with (fail)
                  clear hc
                  have hm8 := HM8.out
                  have hd1 := HD1.out
                  have hd2 := (i64_w _).trans HD1.out
                  have hm8w : (wrap64 ((a : Int) + (k : Int))).tmod 8 = (r : Int) := by rw [HWA.out, Int.natCast_add]; exact HM8.out
                  have hd1w : wrap64 ((wrap64 ((a : Int) + (k : Int))).tdiv 8) = (q : Int) := by rw [HWA.out, Int.natCast_add]; exact HD1.out
                  have hd2w : IntKind.i64.wrap ((wrap64 ((a : Int) + (k : Int))).tdiv 8) = (q : Int) := (i64_w _).trans hd1w
                  clear hwa
                  have hwr := HWR.out
                  -- go_still_tail 13, in two halves
                  refine wp_region_still_tail 13 (by kernel_rfl) (by kernel_rfl) ?_
                  simp only [List.take_succ_cons, List.take_zero, List.drop_succ_cons, List.drop_zero]
                  still_step; still_step; still_step; still_step; still_step; still_step; still_step; still_step; still_step; still_step
                  clear hm8 hd1 hd2 hm8w hd1w hd2w hwr
                  repeat still_step
                  refine wpStill_nil ?_
                  change wpList _ _ _ _ _ wr.drew
                  go_wp2
                  obtain ⟨hr1, hg1⟩ := RP.out (Go.bits BinOp.xor IntKind.u8 v (2 ^ min r 8 % 256))
                  have hflip : b.set q (Go.bits BinOp.xor IntKind.u8 v (2 ^ min r 8 % 256)) = turnN bits a x.f0 (k + 1) := by
                    have h1 : turnN bits a x.f0 (k + 1) = flip (a + k) b := by rw [HBB.out]; exact if_pos HTB.out
                    have h2 : (2 : Int) ^ min r 8 % 256 = 2 ^ r := by
                      have hr8 : r < 8 := by have := RE.out; omega
                      rw [Nat.min_eq_left (by omega)]
                      have : r = 0 ∨ r = 1 ∨ r = 2 ∨ r = 3 ∨ r = 4 ∨ r = 5 ∨ r = 6 ∨ r = 7 := by omega
                      rcases this with h | h | h | h | h | h | h | h <;> rw [h] <;> rfl
                    rw [h1, h2, HVV.out, QE.out, RE.out]
                    rfl
                  obtain ⟨⟨hSi, hig⟩, _⟩ := BK.out.1 ib OB.out
                  have hS2 := BK.out.2 _ (some ib) ⟨b.set q (Go.bits BinOp.xor IntKind.u8 v (2 ^ min r 8 % 256)), x.f1⟩ hg1 (fun k hk => by rw [← Option.some.inj hk]; exact OB.out) (k57_mkM _ 0 oki ⟨b.set q (Go.bits BinOp.xor IntKind.u8 v (2 ^ min r 8 % 256)), x.f1⟩ hr1)
                  rw [Int.toNat_natCast, List.set_set, hflip] at hS2
                  have S2 := Aside0.mk (Kd.S_drew hS2)
                  have G2 : Aside0 ((wr.setCell ⟨ib, q, none⟩ (.int .u8 (Go.bits BinOp.xor IntKind.u8 v (2 ^ min r 8 % 256)))).drew.heap[g]? = some (.cells #[.int .i64 n, .slice (some ⟨rg, 0, none⟩) L.length c1, .int .i64 lost] tB (0, 0))) := ⟨(Below.heap_setCell wr ⟨ib, q, none⟩ _ g (fun e => hig e.symm)).trans G1.out⟩
                  have B2 : Aside0 (Beside S w (wr.setCell ⟨ib, q, none⟩ (.int .u8 (Go.bits BinOp.xor IntKind.u8 v (2 ^ min r 8 % 256)))).drew) := ⟨(B1.out.setCell (p := ⟨ib, q, none⟩) hSi _).drew⟩
                  clear hr1 hg1 hflip hS2 hSi hig
                  go_roundg (gk - 1)
                  case measure => omega
                  case rel => exact ⟨k + 1, by simp, by omega, by omega, S2, G2, B2⟩
                · have hc : (Go.bits BinOp.and IntKind.u32 (bits / 2 ^ k) 1 == 1) = false := (tb_eq bits k hb0 hb1).trans (by simpa using htb)
                  have hn : b = turnN bits a x.f0 (k + 1) := by
                    rw [HBB.out]
                    exact (if_neg htb).symm
                  have HN := Aside0.mk hn
                  clear htb hn hback hM hcc hcl hR0 hoki
                  have hwa := HWA.out
                  go_wp2_with fail
                  clear hwa
                  go_roundg (gk - 1)
                  case measure => omega
                  case rel => exact ⟨k + 1, by simp, by omega, by omega, ⟨by rw [← HN.out]; exact S1.out⟩, G1, B1⟩
              · have hlt' : decide ((k : Int) < 32) = false := decide_eq_false (by omega)
                have hlt2 : decide (k < 32) = false := decide_eq_false hlt
                obtain rfl : k = 32 := by omega
                clear hback hM hcc hcl hR0 hoki
                obtain ⟨oki, cc, hcl, hM, hcc, hfr, hoki, hH⟩ := Kd.S_elem (ok := fun k => (S k ∧ k ≠ g) ∧ ¬ False) (Kd.S_mono S1.out (fun k hk => ⟨hk, fun h => h⟩)) zT (m : Int) (by omega) (by have := ML.out; omega)
                rw [Int.toNat_natCast] at hM hcc hfr
                rw [hge] at hM
                obtain ⟨v0, rfl, hR0⟩ := k57_openM hM
                have k1 : wr.cell? ⟨rg, m * 2 + 1, none⟩ = some (.bool x.f1) := hcc 1 _ rfl
                have z1 : wr.frozen? ⟨rg, m * 2 + 1, none⟩ = false := hfr 1
                obtain ⟨hS2, hg2⟩ := Kd.S_seg (okg := fun _ => False) (okp := oki) (j := 1) (seg := [.bool true]) (x' := ⟨b, true⟩) hH (by omega) (by have := ML.out; omega) (by show (1 : Nat) + 1 ≤ 2; exact Nat.le_refl _) (k57_mkM wr 0 oki ⟨b, true⟩ hR0) (fun k hk => Or.inl hk) (fun k hk => hk.elim)
                rw [Int.toNat_natCast, List.set_set, HBB.out] at hS2
                have S2 : Aside0 (Kd.S kT eT (wr.setCell ⟨rg, m * 2 + 1, none⟩ (.bool true)) 0 (fun b => S b ∧ b ≠ g) (.slice (some ⟨rg, 0, none⟩) L.length c1) (L.set m ⟨turnN bits a x.f0 32, true⟩)) := ⟨hS2⟩
                have RG := Aside0.mk ((Kd.S_R S1.out).1 rg (by simp [Value.ownBlock]))
                clear hS2 hg2 hH hM hcc hcl hR0 hoki hfr
                go_wp2_with fail
                go_ret
                refine ⟨rfl, ⟨⟨H.out.ok.n1, H.out.ok.n2, by rw [List.length_set]; exact H.out.ok.fit, H.out.ok.l0, H.out.ok.l1, fun y hy => ?_⟩, H.out.S_g, _, (Below.heap_setCell wr ⟨rg, m * 2 + 1, none⟩ _ g (fun e => RG.out.2 e.symm)).trans G1.out, S2.out⟩, B1.out.setCell (p := ⟨rg, m * 2 + 1, none⟩) RG.out.1 _⟩
                rcases List.mem_or_eq_of_mem_set hy with h | h
                · exact H.out.ok.fr y h
                · rw [h]
                  show (turnN bits a x.f0 32).length ≤ 1000000
                  rw [turnN_length]
                  exact X8.out
  · have e1 : has L i = false := decide_eq_false hi
    have e3 : mayTurn L i a bits = false := decide_eq_false (fun h => hi h.1)
    have e2 : turn L i a bits = L := if_neg (by rw [e3]; simp)
    rw [e1] at TH
    rw [e2, e3]
    clear e1 e2 e3 hi h hS hB
    go_enter Try.func16, Try.ntmps16
    go_wp2_with fail
    refine (TH.out).mono ?_
    rintro e w1 ⟨rfl, rfl⟩
    go_wp2_with fail
    go_ret
    exact ⟨rfl, H.out, Beside.refl S _⟩

end Go.Proofs.Ytemgfogpeogdeaa.Walk
