/- Chunks are taken. Conditions: none beyond the statement's own. -/
import Derived.Test.YtiiajenhjamjdaaWalkFirst
import Derived.Test.YtiiajenhjamjdaaF5
import Derived.Test.YtiiajenhjamjdaaArgs
import Derived.Deep.QuietTactic
import Derived.BigQuiet
import Derived.Lib.QuietBelow
import Derived.Outline
import Derived.Deep.RegionHeld3
import Derived.Deep.CutRange
namespace Go.Proofs.Ytiiajenhjamjdaa.Walk
open Go.RowKit Go.Proofs.Ytiiajenhjamjdaa.F Go.Proofs.YtiiajenhjamjdaaW.PrintWords Go.Proofs.YtiiajenhjamjdaaW.PrintLast Go.Proofs.YtiiajenhjamjdaaW.PrintMore Go.Proofs.Ytiiajenhjamjdaa.Open
open Go.Sort (grow)
attribute [local go_sem] max2_int min2_int max_two min_two max_three min_three max_four min_four
set_option linter.unusedVariables false
set_option linter.unusedSimpArgs false

/-! ### Take -/
theorem contains_none (a : Int) (W : World) : Calls Try.prog 22 #[.slice none 0 0, .int .u8 a] W fun e w' => e = .returned (.bool false) ∧ Drawn0 W w' :=
  slices_Contains_uint8_uint8.calls 1 none 0 [] a false W (Kd.C_nil _ _) (Nat.le_refl _) rfl
section
variable {w w1 : World} {S S' S2 : Nat → Prop} {g mb n c : Nat} {lost : Int} {v : Value} {A : Option Addr} {L L' : List Fr} {x : Fr}
set_option maxHeartbeats 4000000 in
theorem Take_calls (h : QT w S g mb n lost A c L) (hsb : ∀ k, S k → k < w.heap.size) (most : Int) (hl : L.length ≤ 5000) : Calls Try.prog 11 #[.pointer (some ⟨g, 0, none⟩), .int .i64 most, .slice none 0 0] w fun e w' => ∃ v, e = .returned v ∧
    Kd.N kF eF w' w.heap.size (fun k => (S k ∧ k ≠ g ∧ k ≠ mb) ∨ w.heap.size ≤ k) v (L.take most.toNat) ∧ (∃ A' c', QT w' S g mb n lost A' c' (L.drop most.toNat)) ∧ Beside (fun k => k = g ∨ k = mb) w w' := by
  have HQ := Aside0.mk h
  have HSB := Aside0.mk hsb
  have HGL := Aside0.mk (hsb g h.S_g)
  have HML := Aside0.mk (hsb mb h.S_m)
  clear h hsb
  go_enter Try.func11, Try.ntmps11
  go_wp2_with fail
  go_loopg [7] (L.length + 1) (fun gg s7 wr => ∃ i : Nat, i ≤ L.length ∧ i ≤ most.toNat ∧ L.length + 1 - i ≤ gg ∧ Aside0 (Kd.N kF eF wr w.heap.size (fun k => (S k ∧ k ≠ g ∧ k ≠ mb) ∨ w.heap.size ≤ k) s7 (L.take i)) ∧ (∃ A' c', Aside0 (QT wr S g mb n lost A' c' (L.drop i))) ∧ Aside0 (Beside (fun k => k = g ∨ k = mb) w wr))
  case atStart => exact ⟨0, Nat.zero_le _, Nat.zero_le _, by omega, ⟨Kd.N_nil _ _ _ _ _⟩, ⟨A, c, ⟨HQ.out⟩⟩, ⟨Beside.refl _ _⟩⟩
  case round =>
    obtain ⟨i, hi, him, hgg, NO, ⟨A', c', QI⟩, BI⟩ := hrel
    obtain ⟨Ao, co, rfl⟩ := Kd.N_slice NO.out
    have hol : (L.take i).length = i := by rw [List.length_take]; omega
    rw [hol] at NO ⊢
    have LEN := Aside0.mk (QLen_calls QI.out)
    by_cases hlt : i < L.length
    · have hd : L.drop i = L[i] :: L.drop (i + 1) := List.drop_eq_getElem_cons hlt
      have hdl : (L.drop i).length = (L.drop (i + 1)).length + 1 := by rw [hd]; rfl
      rw [hd] at QI
      obtain ⟨ad, cs, hA, _, hK, hcc, _⟩ := Kd.F_get QI.out.row z37 0 (by omega) (by simp; omega)
      obtain rfl : A' = some ad := hA
      have hK : Kd.FK kF wr (fun k => S k ∧ k ≠ g ∧ k ≠ mb) L[i] cs := hK
      have HX : Aside0 (L.take (i + 1) = L.take i ++ [L[i]]) := ⟨by rw [List.take_add_one, List.getElem?_eq_getElem hlt]; rfl⟩
      have hd0 : Aside0 (L.drop i = L[i] :: L.drop (i + 1)) := ⟨hd⟩
      generalize L[i] = x at *
      obtain ⟨A11, c11, A12, c12, A13, c13, A14, c14, A15, c15, rfl, _⟩ := k37_open (Kd.FK_now hK)
      have k3 : wr.cell? ⟨ad.block, ad.off + 3, none⟩ = some (.int .u8 x.f1.f0) := by
        have h1 := hcc 3 _ rfl
        rwa [show (0 : Int).toNat * kF.sz + 3 = 3 by simp, show ad.add 3 = ⟨ad.block, ad.off + 3, none⟩ by simp [Addr.add]] at h1
      have c1 : wr.cell? ⟨g, 1, none⟩ = some (.slice (some ad) ((L.drop (i + 1)).length + 1) c') := (blk_cell QI.out.blk 1).trans rfl
      clear hK hcc
      rw [hdl] at LEN
      generalize hn : (L.drop (i + 1)).length = N1 at *
      have hz : ((N1 + 1 : Nat) : Int) > 0 := by omega
      have hz2 : (N1 : Int) + 1 > 0 := by omega
      have hz3 : ¬ ((N1 : Int) + 1 ≤ 0) := by omega
      go_wp2_with fail
      refine LEN.out.mono ?_
      rintro e w2 ⟨rfl, rfl⟩
      clear LEN
      go_wp2_with fail
      refine (contains_none _ _).mono ?_
      rintro e w3 ⟨rfl, hd3⟩
      have B3 := Aside0.mk hd3.below
      have Q3 := Aside0.mk (QI.out.below B3.out)
      have N3 := Aside0.mk (Kd.N_below NO.out B3.out)
      have BI3 := Aside0.mk (BI.out.then_below B3.out)
      clear hd3 QI NO BI k3 c1
      by_cases hm : (i : Int) < most
      · have hmd : decide ((i : Int) < most) = true := decide_eq_true hm
        go_wp2_with fail
        refine (first_calls Q3.out).mono ?_
        rintro e w4 ⟨A11, c11, A12, c12, A13, c13, A14, c14, A15, c15, rfl, hk, ⟨A2, hq⟩, hb⟩
        have Q4 := Aside0.mk hq
        have K4 := Aside0.mk hk
        have N4 : Aside0 (Kd.N kF eF w4 w.heap.size (fun k => (S k ∧ k ≠ g ∧ k ≠ mb) ∨ w.heap.size ≤ k) (.slice Ao i co) (L.take i)) := ⟨Kd.N_step N3.out (fun k hk hlt => hb.block k hlt (fun e => by
          have h1 := HGL.out
          have h2 := HML.out
          rcases hk with hk | hk
          · rcases e with e | e
            · exact hk.2.1 e
            · exact hk.2.2 e
          · rcases e with e | e <;> omega))⟩
        have BI4 := Aside0.mk (BI3.out.then_ hb (fun b hb => .inl hb))
        have OWN : Aside0 (∀ k, S k → ¬ some k = (Value.slice Ao i co).ownBlock) := ⟨fun k hk he => by
          have h1 := Kd.N_base N3.out k he.symm
          have h2 := HSB.out k hk
          omega⟩
        have OWB : Aside0 (∀ k, some k = (Value.slice Ao i co).ownBlock → w.heap.size ≤ k) := ⟨fun k he => Kd.N_base N3.out k he.symm⟩
        clear hq hk hb Q3 N3 BI3
        go_wp2_with ((with_reducible refine gate_dst (N := 34) rfl ?_); refine Kd.N_append kF (w0 := w4) w.heap.size rfl (.tmp 30) (.tmp 33) 39 eF _ 184 rfl Try.underlying39 info37 rfl (by decide) (by decide) (.slice Ao i co) (L.take i) x [.int .u8 x.f0.f0, .int .u8 x.f0.f1, .int .u8 x.f0.f2, .int .u8 x.f1.f0, .int .u64 x.f1.f1, .int .u64 x.f2, .int .u32 x.f3, .int .u32 x.f4, .int .u32 x.f5, .int .u64 x.f6, .int .u64 x.f7, .slice A11 x.f8.length c11, .slice A12 x.f9.length c12, .slice A13 x.f10.length c13, .slice A14 x.f11.length c14, .slice A15 x.f12.length c15] (fun k => (S k ∧ k ≠ g ∧ k ≠ mb) ∨ w.heap.size ≤ k) (fun k => S k ∧ k ≠ g ∧ k ≠ mb) rfl rfl K4.out (fun k hk => ⟨.inl hk, OWN.out k hk.1⟩) (fun k hk => .inr (Nat.le_trans BI4.out.size hk)) N4.out (Below.refl _ _) BI4.out.size (by rw [hol]; omega) ?_; intro v1 w5 ho5 hb5 hg5 hat5; have N5 := Aside0.mk ho5; have S5 := Aside0.mk (show Beside (fun b => some b = (Value.slice Ao i co).ownBlock) w4 w5 from ⟨hg5.os, hg5.tape, hg5.output, hg5.size, fun b hb hn => hg5.block b hb (fun he => hn he)⟩); clear ho5 hb5 hg5 hat5)
        rw [← HX.out] at N5
        go_roundg (L.length + 1 - (i + 1))
        case measure => omega
        case rel => exact ⟨i + 1, by omega, by omega, Nat.le_refl _, N5, ⟨_, _, ⟨Q4.out.beside S5.out (fun k hk => OWN.out k hk)⟩⟩, ⟨BI4.out.then_ S5.out (fun b hb => .inr (OWB.out b hb))⟩⟩
      · have hmd : decide ((i : Int) < most) = false := decide_eq_false hm
        go_wp2_with fail
        go_ret
        obtain rfl : i = most.toNat := by omega
        exact ⟨_, rfl, N3.out, ⟨_, _, by have := Q3.out; rw [← hd0.out] at this; exact this⟩, BI3.out⟩
    · obtain rfl : i = L.length := by omega
      have hd : L.drop L.length = [] := List.drop_of_length_le (Nat.le_refl _)
      have hd2 : L.drop most.toNat = [] := List.drop_of_length_le him
      have ht : L.take L.length = L.take most.toNat := by rw [List.take_length, List.take_of_length_le him]
      rw [hd] at QI LEN
      go_wp2_with fail
      refine LEN.out.mono ?_
      rintro e w2 ⟨rfl, rfl⟩
      go_wp2_with fail
      go_ret
      exact ⟨_, rfl, by have := NO.out; rwa [ht] at this, ⟨_, _, by rw [hd2]; exact QI.out⟩, BI.out⟩
end

end Go.Proofs.Ytiiajenhjamjdaa.Walk
