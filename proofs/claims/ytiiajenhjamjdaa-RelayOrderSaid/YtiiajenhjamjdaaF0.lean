/- What is proved: the Go functions that the law reaches come to what the Lean functions beside them tell, and (in the text of the law) the given statement follows. Conditions: none beyond each theorem's own. Written by a program (a turned copy of the kit's print.py), some walks by hand. -/
import Derived.Test.YtiiajenhjamjdaaProg
import Derived.Below
import Derived.Deep.Draws
import Derived.Deep.AppendLies
import Derived.Maps.AppendAt
import Derived.OwnWalk
import Derived.Laws.BytesArg
import Derived.Laws.MakeOwn
import Derived.Laws.OwnMore
import Derived.Deep.OwnRows
import Derived.Tactics
import Derived.Lib.ConvBytes
import Derived.Laws.Slices
import Derived.WalkKit
import Derived.KernelRfl
import Derived.RowKit3
import Derived.Deep.LoopGhost
import Derived.Deep.QuietTactic
import Derived.BigQuiet
import Derived.WideLaws
import Derived.Deep.DeepCutAuto
import Derived.Deep.CutBlock
import Derived.Deep.RegionHeld3
import Derived.Laws.Rows
import Derived.Lib.AppendStr
import Derived.ArgAppend
import Derived.Laws.IdiomCopy
import Derived.OrdersHeld
import Derived.Laws.BitsLemmas
import Derived.RowKit
import Derived.Lib.SliceRun
import Derived.Lib.QuietBelow
import Derived.Test.YtiiajenhjamjdaaWWords
import Derived.Test.YtiiajenhjamjdaaWLast
import Derived.Test.YtiiajenhjamjdaaWTab
import Derived.Test.YtiiajenhjamjdaaWFour
import Derived.Test.YtiiajenhjamjdaaWQPut
import Derived.Test.YtiiajenhjamjdaaWApart
import Derived.Test.YtiiajenhjamjdaaWArr
import Derived.Test.YtiiajenhjamjdaaWZeros
import Derived.Test.YtiiajenhjamjdaaWFoot
import Derived.Test.YtiiajenhjamjdaaWKept
import Derived.Test.YtiiajenhjamjdaaWShare
import Derived.Test.YtiiajenhjamjdaaWN
import Derived.Test.YtiiajenhjamjdaaWFootNe
import Derived.Test.YtiiajenhjamjdaaWAt
import Derived.Test.YtiiajenhjamjdaaWEqStruct
import Derived.Test.YtiiajenhjamjdaaWRepsOne
import Derived.Test.YtiiajenhjamjdaaWInv
import Derived.Test.YtiiajenhjamjdaaWInvWords
import Derived.Test.YtiiajenhjamjdaaWGuard
import Derived.Test.YtiiajenhjamjdaaWNEv
import Derived.Test.YtiiajenhjamjdaaWMore
namespace Go.Proofs.Ytiiajenhjamjdaa.F
open Go.RowKit Go.Proofs.YtiiajenhjamjdaaW.PrintWords Go.Proofs.YtiiajenhjamjdaaW.PrintLast Go.Proofs.YtiiajenhjamjdaaW.PrintMore
attribute [local go_sem] max2_int min2_int max_two min_two max_three min_three max_four min_four   -- for this text's walks alone
set_option linter.unusedVariables false
set_option linter.unusedSimpArgs false



def errW : Option Int → Value
  | none => .nilIface
  | some c => .iface 0 (.int .i64 c)
theorem errW_none : errW none = .nilIface := rfl
theorem errW_some (c : Int) : errW (some c) = .iface 0 (.int .i64 c) := rfl

theorem info5 : (Try.prog.info? 5).map (fun i => (i.zero, i.size, i.bytes)) = some (some (.int .u8 0), 1, 1) := by kernel_rfl
theorem info31 : (Try.prog.info? 31).map (fun i => (i.zero, i.size, i.bytes)) = some (some (.int .u64 0), 1, 8) := by kernel_rfl
theorem info35 : (Try.prog.info? 35).map (fun i => (i.zero, i.size, i.bytes)) = some (some (.slice none 0 0), 1, 24) := by kernel_rfl
theorem info37 : (Try.prog.info? 37).map (fun i => (i.zero, i.size, i.bytes)) = some (some (.agg #[(.int .u8 0), (.int .u8 0), (.int .u8 0), (.int .u8 0), (.int .u64 0), (.int .u64 0), (.int .u32 0), (.int .u32 0), (.int .u32 0), (.int .u64 0), (.int .u64 0), (.slice none 0 0), (.slice none 0 0), (.slice none 0 0), (.slice none 0 0), (.slice none 0 0)]), 16, 184) := by kernel_rfl
theorem info78 : (Try.prog.info? 78).map (fun i => (i.zero, i.size, i.bytes)) = some (some (.agg #[(.int .u8 0), (.int .u64 0), (.int .u64 0)]), 3, 24) := by kernel_rfl
-- the values' own types
/-! #### struct type 78 -/
structure S78 where
  f0 : Int
  f1 : Int
  f2 : Int
def z78 : S78 := ⟨(0 : Int), (0 : Int), (0 : Int)⟩
def k78 : Kd S78 := Kd.iso (Kd.pair (Kd.int .u8) (Kd.pair (Kd.int .u64) (Kd.int .u64))) (fun x : S78 => (x.f0, x.f1, x.f2))
theorem k78_open {w : World} {x : S78} {cs : List Value} (h : k78.K w x cs) : cs = [.int .u8 x.f0, .int .u64 x.f1, .int .u64 x.f2] := by
  obtain ⟨_, _, rfl, rfl, ⟨_, _, rfl, rfl, rfl⟩⟩ := h
  exact rfl
theorem k78_openM {w : World} {base : Nat} {ok : Nat → Prop} {x : S78} {cs : List Value} (h : k78.M w base ok x cs) : cs = [.int .u8 x.f0, .int .u64 x.f1, .int .u64 x.f2] := by
  obtain ⟨_, _, rfl, rfl, ⟨_, _, rfl, rfl, rfl⟩⟩ := h
  exact rfl
theorem k78_mk (w : World) (x : S78)  : k78.K w x [.int .u8 x.f0, .int .u64 x.f1, .int .u64 x.f2] := ⟨[.int .u8 x.f0], [.int .u64 x.f1, .int .u64 x.f2], rfl, rfl, ⟨[.int .u64 x.f1], [.int .u64 x.f2], rfl, rfl, rfl⟩⟩
theorem k78_mkM (w : World) (base : Nat) (ok : Nat → Prop) (x : S78)  : k78.M w base ok x [.int .u8 x.f0, .int .u64 x.f1, .int .u64 x.f2] := ⟨[.int .u8 x.f0], [.int .u64 x.f1, .int .u64 x.f2], rfl, rfl, ⟨[.int .u64 x.f1], [.int .u64 x.f2], rfl, rfl, rfl⟩⟩
theorem k78_mkF (W : World) (ok : Nat → Prop) (x : S78) : Kd.FK k78 W ok x [.int .u8 x.f0, .int .u64 x.f1, .int .u64 x.f2] := fun W2 _ => k78_mk W2 x
def rd_T78 (xs : List S78) (i : Int) : S78 := xs.getD i.toNat z78
theorem at_T78 {w : World} {A : Option Addr} {n : Nat} {xs : List S78} (h : Kd.C k78 w A n xs) (i : Int) (h0 : 0 ≤ i) (h1 : i < n) : ∃ ad , A = some ad ∧ w.cell? (ad.add (i.toNat * 3)) = some (.int .u8 (rd_T78 xs i).f0) ∧ w.cell? ⟨(ad.add (i.toNat * 3)).block, (ad.add (i.toNat * 3)).off + 1, none⟩ = some (.int .u64 (rd_T78 xs i).f1) ∧ w.cell? ⟨(ad.add (i.toNat * 3)).block, (ad.add (i.toNat * 3)).off + 2, none⟩ = some (.int .u64 (rd_T78 xs i).f2) := by
  obtain ⟨ad, c, e, _, hK, hc0⟩ := Kd.C_get h z78 i h0 h1
  have hc : ∀ j u, c[j]? = some u → w.cell? (ad.add (i.toNat * 3 + j)) = some u := hc0
  obtain rfl := k78_open hK
  exact ⟨ad, e, hc 0 _ rfl, by rw [← add_field _ _ 1 (by omega)]; exact hc 1 _ rfl, by rw [← add_field _ _ 2 (by omega)]; exact hc 2 _ rfl⟩

def rd_L3 (xs : List (List S78)) (i : Int) : (List S78) := xs.getD i.toNat ([] : List S78)
theorem at_L3 {w : World} {A : Option Addr} {n : Nat} {xs : List (List S78)} (h : Kd.C (Kd.slice 78 k78) w A n xs) (i : Int) (h0 : 0 ≤ i) (h1 : i < n) : ∃ ad A0 c0, A = some ad ∧ w.cell? (ad.add i.toNat) = some (.slice A0 (rd_L3 xs i).length c0) ∧ (rd_L3 xs i).length ≤ c0 ∧ k78.C w A0 (rd_L3 xs i).length (rd_L3 xs i) := by
  obtain ⟨ad, c, e, _, hK, hc0⟩ := Kd.C_get h ([] : List S78) i h0 h1
  have hc : ∀ j u, c[j]? = some u → w.cell? (ad.add (i.toNat * 1 + j)) = some u := hc0
  obtain ⟨A0, c0, rfl, l0, g0⟩ := hK
  exact ⟨ad, A0, c0, e, by have hq := hc 0 _ rfl; rwa [Nat.mul_one, Nat.add_zero] at hq, l0, g0⟩

def rd_L4 (xs : List (List Int)) (i : Int) : (List Int) := xs.getD i.toNat ([] : List Int)
theorem at_L4 {w : World} {A : Option Addr} {n : Nat} {xs : List (List Int)} (h : Kd.C (Kd.slice 31 (Kd.int .u64)) w A n xs) (i : Int) (h0 : 0 ≤ i) (h1 : i < n) : ∃ ad A0 c0, A = some ad ∧ w.cell? (ad.add i.toNat) = some (.slice A0 (rd_L4 xs i).length c0) ∧ (rd_L4 xs i).length ≤ c0 ∧ (Kd.int .u64).C w A0 (rd_L4 xs i).length (rd_L4 xs i) := by
  obtain ⟨ad, c, e, _, hK, hc0⟩ := Kd.C_get h ([] : List Int) i h0 h1
  have hc : ∀ j u, c[j]? = some u → w.cell? (ad.add (i.toNat * 1 + j)) = some u := hc0
  obtain ⟨A0, c0, rfl, l0, g0⟩ := hK
  exact ⟨ad, A0, c0, e, by have hq := hc 0 _ rfl; rwa [Nat.mul_one, Nat.add_zero] at hq, l0, g0⟩

def rd_L5 (xs : List (List Int)) (i : Int) : (List Int) := xs.getD i.toNat ([] : List Int)
theorem at_L5 {w : World} {A : Option Addr} {n : Nat} {xs : List (List Int)} (h : Kd.C (Kd.slice 5 (Kd.int .u8)) w A n xs) (i : Int) (h0 : 0 ≤ i) (h1 : i < n) : ∃ ad A0 c0, A = some ad ∧ w.cell? (ad.add i.toNat) = some (.slice A0 (rd_L5 xs i).length c0) ∧ (rd_L5 xs i).length ≤ c0 ∧ (Kd.int .u8).C w A0 (rd_L5 xs i).length (rd_L5 xs i) := by
  obtain ⟨ad, c, e, _, hK, hc0⟩ := Kd.C_get h ([] : List Int) i h0 h1
  have hc : ∀ j u, c[j]? = some u → w.cell? (ad.add (i.toNat * 1 + j)) = some u := hc0
  obtain ⟨A0, c0, rfl, l0, g0⟩ := hK
  exact ⟨ad, A0, c0, e, by have hq := hc 0 _ rfl; rwa [Nat.mul_one, Nat.add_zero] at hq, l0, g0⟩

/-! #### struct type 30 -/
structure S30 where
  f0 : Int
  f1 : Int
  f2 : Int
def z30 : S30 := ⟨(0 : Int), (0 : Int), (0 : Int)⟩
def k30 : Kd S30 := Kd.iso (Kd.pair (Kd.int .u8) (Kd.pair (Kd.int .u8) (Kd.int .u8))) (fun x : S30 => (x.f0, x.f1, x.f2))
theorem k30_open {w : World} {x : S30} {cs : List Value} (h : k30.K w x cs) : cs = [.int .u8 x.f0, .int .u8 x.f1, .int .u8 x.f2] := by
  obtain ⟨_, _, rfl, rfl, ⟨_, _, rfl, rfl, rfl⟩⟩ := h
  exact rfl
theorem k30_openM {w : World} {base : Nat} {ok : Nat → Prop} {x : S30} {cs : List Value} (h : k30.M w base ok x cs) : cs = [.int .u8 x.f0, .int .u8 x.f1, .int .u8 x.f2] := by
  obtain ⟨_, _, rfl, rfl, ⟨_, _, rfl, rfl, rfl⟩⟩ := h
  exact rfl
theorem k30_mk (w : World) (x : S30)  : k30.K w x [.int .u8 x.f0, .int .u8 x.f1, .int .u8 x.f2] := ⟨[.int .u8 x.f0], [.int .u8 x.f1, .int .u8 x.f2], rfl, rfl, ⟨[.int .u8 x.f1], [.int .u8 x.f2], rfl, rfl, rfl⟩⟩
theorem k30_mkM (w : World) (base : Nat) (ok : Nat → Prop) (x : S30)  : k30.M w base ok x [.int .u8 x.f0, .int .u8 x.f1, .int .u8 x.f2] := ⟨[.int .u8 x.f0], [.int .u8 x.f1, .int .u8 x.f2], rfl, rfl, ⟨[.int .u8 x.f1], [.int .u8 x.f2], rfl, rfl, rfl⟩⟩
theorem k30_mkF (W : World) (ok : Nat → Prop) (x : S30) : Kd.FK k30 W ok x [.int .u8 x.f0, .int .u8 x.f1, .int .u8 x.f2] := fun W2 _ => k30_mk W2 x
def rd_T30 (xs : List S30) (i : Int) : S30 := xs.getD i.toNat z30
theorem at_T30 {w : World} {A : Option Addr} {n : Nat} {xs : List S30} (h : Kd.C k30 w A n xs) (i : Int) (h0 : 0 ≤ i) (h1 : i < n) : ∃ ad , A = some ad ∧ w.cell? (ad.add (i.toNat * 3)) = some (.int .u8 (rd_T30 xs i).f0) ∧ w.cell? ⟨(ad.add (i.toNat * 3)).block, (ad.add (i.toNat * 3)).off + 1, none⟩ = some (.int .u8 (rd_T30 xs i).f1) ∧ w.cell? ⟨(ad.add (i.toNat * 3)).block, (ad.add (i.toNat * 3)).off + 2, none⟩ = some (.int .u8 (rd_T30 xs i).f2) := by
  obtain ⟨ad, c, e, _, hK, hc0⟩ := Kd.C_get h z30 i h0 h1
  have hc : ∀ j u, c[j]? = some u → w.cell? (ad.add (i.toNat * 3 + j)) = some u := hc0
  obtain rfl := k30_open hK
  exact ⟨ad, e, hc 0 _ rfl, by rw [← add_field _ _ 1 (by omega)]; exact hc 1 _ rfl, by rw [← add_field _ _ 2 (by omega)]; exact hc 2 _ rfl⟩

/-! #### struct type 33 -/
structure S33 where
  f0 : Int
  f1 : Int
def z33 : S33 := ⟨(0 : Int), (0 : Int)⟩
def k33 : Kd S33 := Kd.iso (Kd.pair (Kd.int .u8) (Kd.int .u64)) (fun x : S33 => (x.f0, x.f1))
theorem k33_open {w : World} {x : S33} {cs : List Value} (h : k33.K w x cs) : cs = [.int .u8 x.f0, .int .u64 x.f1] := by
  obtain ⟨_, _, rfl, rfl, rfl⟩ := h
  exact rfl
theorem k33_openM {w : World} {base : Nat} {ok : Nat → Prop} {x : S33} {cs : List Value} (h : k33.M w base ok x cs) : cs = [.int .u8 x.f0, .int .u64 x.f1] := by
  obtain ⟨_, _, rfl, rfl, rfl⟩ := h
  exact rfl
theorem k33_mk (w : World) (x : S33)  : k33.K w x [.int .u8 x.f0, .int .u64 x.f1] := ⟨[.int .u8 x.f0], [.int .u64 x.f1], rfl, rfl, rfl⟩
theorem k33_mkM (w : World) (base : Nat) (ok : Nat → Prop) (x : S33)  : k33.M w base ok x [.int .u8 x.f0, .int .u64 x.f1] := ⟨[.int .u8 x.f0], [.int .u64 x.f1], rfl, rfl, rfl⟩
theorem k33_mkF (W : World) (ok : Nat → Prop) (x : S33) : Kd.FK k33 W ok x [.int .u8 x.f0, .int .u64 x.f1] := fun W2 _ => k33_mk W2 x
def rd_T33 (xs : List S33) (i : Int) : S33 := xs.getD i.toNat z33
theorem at_T33 {w : World} {A : Option Addr} {n : Nat} {xs : List S33} (h : Kd.C k33 w A n xs) (i : Int) (h0 : 0 ≤ i) (h1 : i < n) : ∃ ad , A = some ad ∧ w.cell? (ad.add (i.toNat * 2)) = some (.int .u8 (rd_T33 xs i).f0) ∧ w.cell? ⟨(ad.add (i.toNat * 2)).block, (ad.add (i.toNat * 2)).off + 1, none⟩ = some (.int .u64 (rd_T33 xs i).f1) := by
  obtain ⟨ad, c, e, _, hK, hc0⟩ := Kd.C_get h z33 i h0 h1
  have hc : ∀ j u, c[j]? = some u → w.cell? (ad.add (i.toNat * 2 + j)) = some u := hc0
  obtain rfl := k33_open hK
  exact ⟨ad, e, hc 0 _ rfl, by rw [← add_field _ _ 1 (by omega)]; exact hc 1 _ rfl⟩

/-! #### struct type 37 -/
structure S37 where
  f0 : S30
  f1 : S33
  f2 : Int
  f3 : Int
  f4 : Int
  f5 : Int
  f6 : Int
  f7 : Int
  f8 : (List S78)
  f9 : (List S78)
  f10 : (List Int)
  f11 : (List Int)
  f12 : (List Int)
def z37 : S37 := ⟨z30, z33, (0 : Int), (0 : Int), (0 : Int), (0 : Int), (0 : Int), (0 : Int), ([] : List S78), ([] : List S78), ([] : List Int), ([] : List Int), ([] : List Int)⟩
def k37 : Kd S37 := Kd.iso (Kd.pair k30 (Kd.pair k33 (Kd.pair (Kd.int .u64) (Kd.pair (Kd.int .u32) (Kd.pair (Kd.int .u32) (Kd.pair (Kd.int .u32) (Kd.pair (Kd.int .u64) (Kd.pair (Kd.int .u64) (Kd.pair (Kd.slice 78 k78) (Kd.pair (Kd.slice 78 k78) (Kd.pair (Kd.slice 31 (Kd.int .u64)) (Kd.pair (Kd.slice 31 (Kd.int .u64)) (Kd.slice 5 (Kd.int .u8)))))))))))))) (fun x : S37 => (x.f0, x.f1, x.f2, x.f3, x.f4, x.f5, x.f6, x.f7, x.f8, x.f9, x.f10, x.f11, x.f12))
theorem k37_open {w : World} {x : S37} {cs : List Value} (h : k37.K w x cs) : ∃ A11 c11 A12 c12 A13 c13 A14 c14 A15 c15, cs = [.int .u8 x.f0.f0, .int .u8 x.f0.f1, .int .u8 x.f0.f2, .int .u8 x.f1.f0, .int .u64 x.f1.f1, .int .u64 x.f2, .int .u32 x.f3, .int .u32 x.f4, .int .u32 x.f5, .int .u64 x.f6, .int .u64 x.f7, .slice A11 x.f8.length c11, .slice A12 x.f9.length c12, .slice A13 x.f10.length c13, .slice A14 x.f11.length c14, .slice A15 x.f12.length c15] ∧ x.f8.length ≤ c11 ∧ k78.C w A11 x.f8.length x.f8 ∧ x.f9.length ≤ c12 ∧ k78.C w A12 x.f9.length x.f9 ∧ x.f10.length ≤ c13 ∧ (Kd.int .u64).C w A13 x.f10.length x.f10 ∧ x.f11.length ≤ c14 ∧ (Kd.int .u64).C w A14 x.f11.length x.f11 ∧ x.f12.length ≤ c15 ∧ (Kd.int .u8).C w A15 x.f12.length x.f12 := by
  obtain ⟨_, _, rfl, s0, ⟨_, _, rfl, s3, ⟨_, _, rfl, rfl, ⟨_, _, rfl, rfl, ⟨_, _, rfl, rfl, ⟨_, _, rfl, rfl, ⟨_, _, rfl, rfl, ⟨_, _, rfl, rfl, ⟨_, _, rfl, ⟨A11, c11, rfl, l11, g11⟩, ⟨_, _, rfl, ⟨A12, c12, rfl, l12, g12⟩, ⟨_, _, rfl, ⟨A13, c13, rfl, l13, g13⟩, ⟨_, _, rfl, ⟨A14, c14, rfl, l14, g14⟩, ⟨A15, c15, rfl, l15, g15⟩⟩⟩⟩⟩⟩⟩⟩⟩⟩⟩⟩⟩ := h
  obtain rfl := k30_open s0
  obtain rfl := k33_open s3
  exact ⟨A11, c11, A12, c12, A13, c13, A14, c14, A15, c15, rfl, l11, g11, l12, g12, l13, g13, l14, g14, l15, g15⟩
theorem k37_openM {w : World} {base : Nat} {ok : Nat → Prop} {x : S37} {cs : List Value} (h : k37.M w base ok x cs) : ∃ v11 v12 v13 v14 v15, cs = [.int .u8 x.f0.f0, .int .u8 x.f0.f1, .int .u8 x.f0.f2, .int .u8 x.f1.f0, .int .u64 x.f1.f1, .int .u64 x.f2, .int .u32 x.f3, .int .u32 x.f4, .int .u32 x.f5, .int .u64 x.f6, .int .u64 x.f7, v11, v12, v13, v14, v15] ∧ k78.R 78 w base ok v11 x.f8 ∧ k78.R 78 w base ok v12 x.f9 ∧ (Kd.int .u64).R 31 w base ok v13 x.f10 ∧ (Kd.int .u64).R 31 w base ok v14 x.f11 ∧ (Kd.int .u8).R 5 w base ok v15 x.f12 := by
  obtain ⟨_, _, rfl, s0, ⟨_, _, rfl, s3, ⟨_, _, rfl, rfl, ⟨_, _, rfl, rfl, ⟨_, _, rfl, rfl, ⟨_, _, rfl, rfl, ⟨_, _, rfl, rfl, ⟨_, _, rfl, rfl, ⟨_, _, rfl, ⟨v11, rfl, g11⟩, ⟨_, _, rfl, ⟨v12, rfl, g12⟩, ⟨_, _, rfl, ⟨v13, rfl, g13⟩, ⟨_, _, rfl, ⟨v14, rfl, g14⟩, ⟨v15, rfl, g15⟩⟩⟩⟩⟩⟩⟩⟩⟩⟩⟩⟩⟩ := h
  obtain rfl := k30_openM s0
  obtain rfl := k33_openM s3
  exact ⟨v11, v12, v13, v14, v15, rfl, g11, g12, g13, g14, g15⟩
theorem k37_mk (w : World) (x : S37) {A11 : Option Addr} {c11 : Nat} (l11 : x.f8.length ≤ c11) (g11 : k78.C w A11 x.f8.length x.f8) {A12 : Option Addr} {c12 : Nat} (l12 : x.f9.length ≤ c12) (g12 : k78.C w A12 x.f9.length x.f9) {A13 : Option Addr} {c13 : Nat} (l13 : x.f10.length ≤ c13) (g13 : (Kd.int .u64).C w A13 x.f10.length x.f10) {A14 : Option Addr} {c14 : Nat} (l14 : x.f11.length ≤ c14) (g14 : (Kd.int .u64).C w A14 x.f11.length x.f11) {A15 : Option Addr} {c15 : Nat} (l15 : x.f12.length ≤ c15) (g15 : (Kd.int .u8).C w A15 x.f12.length x.f12) : k37.K w x [.int .u8 x.f0.f0, .int .u8 x.f0.f1, .int .u8 x.f0.f2, .int .u8 x.f1.f0, .int .u64 x.f1.f1, .int .u64 x.f2, .int .u32 x.f3, .int .u32 x.f4, .int .u32 x.f5, .int .u64 x.f6, .int .u64 x.f7, .slice A11 x.f8.length c11, .slice A12 x.f9.length c12, .slice A13 x.f10.length c13, .slice A14 x.f11.length c14, .slice A15 x.f12.length c15] := ⟨[.int .u8 x.f0.f0, .int .u8 x.f0.f1, .int .u8 x.f0.f2], [.int .u8 x.f1.f0, .int .u64 x.f1.f1, .int .u64 x.f2, .int .u32 x.f3, .int .u32 x.f4, .int .u32 x.f5, .int .u64 x.f6, .int .u64 x.f7, .slice A11 x.f8.length c11, .slice A12 x.f9.length c12, .slice A13 x.f10.length c13, .slice A14 x.f11.length c14, .slice A15 x.f12.length c15], rfl, (k30_mk w x.f0 ), ⟨[.int .u8 x.f1.f0, .int .u64 x.f1.f1], [.int .u64 x.f2, .int .u32 x.f3, .int .u32 x.f4, .int .u32 x.f5, .int .u64 x.f6, .int .u64 x.f7, .slice A11 x.f8.length c11, .slice A12 x.f9.length c12, .slice A13 x.f10.length c13, .slice A14 x.f11.length c14, .slice A15 x.f12.length c15], rfl, (k33_mk w x.f1 ), ⟨[.int .u64 x.f2], [.int .u32 x.f3, .int .u32 x.f4, .int .u32 x.f5, .int .u64 x.f6, .int .u64 x.f7, .slice A11 x.f8.length c11, .slice A12 x.f9.length c12, .slice A13 x.f10.length c13, .slice A14 x.f11.length c14, .slice A15 x.f12.length c15], rfl, rfl, ⟨[.int .u32 x.f3], [.int .u32 x.f4, .int .u32 x.f5, .int .u64 x.f6, .int .u64 x.f7, .slice A11 x.f8.length c11, .slice A12 x.f9.length c12, .slice A13 x.f10.length c13, .slice A14 x.f11.length c14, .slice A15 x.f12.length c15], rfl, rfl, ⟨[.int .u32 x.f4], [.int .u32 x.f5, .int .u64 x.f6, .int .u64 x.f7, .slice A11 x.f8.length c11, .slice A12 x.f9.length c12, .slice A13 x.f10.length c13, .slice A14 x.f11.length c14, .slice A15 x.f12.length c15], rfl, rfl, ⟨[.int .u32 x.f5], [.int .u64 x.f6, .int .u64 x.f7, .slice A11 x.f8.length c11, .slice A12 x.f9.length c12, .slice A13 x.f10.length c13, .slice A14 x.f11.length c14, .slice A15 x.f12.length c15], rfl, rfl, ⟨[.int .u64 x.f6], [.int .u64 x.f7, .slice A11 x.f8.length c11, .slice A12 x.f9.length c12, .slice A13 x.f10.length c13, .slice A14 x.f11.length c14, .slice A15 x.f12.length c15], rfl, rfl, ⟨[.int .u64 x.f7], [.slice A11 x.f8.length c11, .slice A12 x.f9.length c12, .slice A13 x.f10.length c13, .slice A14 x.f11.length c14, .slice A15 x.f12.length c15], rfl, rfl, ⟨[.slice A11 x.f8.length c11], [.slice A12 x.f9.length c12, .slice A13 x.f10.length c13, .slice A14 x.f11.length c14, .slice A15 x.f12.length c15], rfl, ⟨A11, c11, rfl, l11, g11⟩, ⟨[.slice A12 x.f9.length c12], [.slice A13 x.f10.length c13, .slice A14 x.f11.length c14, .slice A15 x.f12.length c15], rfl, ⟨A12, c12, rfl, l12, g12⟩, ⟨[.slice A13 x.f10.length c13], [.slice A14 x.f11.length c14, .slice A15 x.f12.length c15], rfl, ⟨A13, c13, rfl, l13, g13⟩, ⟨[.slice A14 x.f11.length c14], [.slice A15 x.f12.length c15], rfl, ⟨A14, c14, rfl, l14, g14⟩, ⟨A15, c15, rfl, l15, g15⟩⟩⟩⟩⟩⟩⟩⟩⟩⟩⟩⟩⟩
theorem k37_mkM (w : World) (base : Nat) (ok : Nat → Prop) (x : S37) {v11 : Value} (g11 : k78.R 78 w base ok v11 x.f8) {v12 : Value} (g12 : k78.R 78 w base ok v12 x.f9) {v13 : Value} (g13 : (Kd.int .u64).R 31 w base ok v13 x.f10) {v14 : Value} (g14 : (Kd.int .u64).R 31 w base ok v14 x.f11) {v15 : Value} (g15 : (Kd.int .u8).R 5 w base ok v15 x.f12) : k37.M w base ok x [.int .u8 x.f0.f0, .int .u8 x.f0.f1, .int .u8 x.f0.f2, .int .u8 x.f1.f0, .int .u64 x.f1.f1, .int .u64 x.f2, .int .u32 x.f3, .int .u32 x.f4, .int .u32 x.f5, .int .u64 x.f6, .int .u64 x.f7, v11, v12, v13, v14, v15] := ⟨[.int .u8 x.f0.f0, .int .u8 x.f0.f1, .int .u8 x.f0.f2], [.int .u8 x.f1.f0, .int .u64 x.f1.f1, .int .u64 x.f2, .int .u32 x.f3, .int .u32 x.f4, .int .u32 x.f5, .int .u64 x.f6, .int .u64 x.f7, v11, v12, v13, v14, v15], rfl, (k30_mkM w base ok x.f0 ), ⟨[.int .u8 x.f1.f0, .int .u64 x.f1.f1], [.int .u64 x.f2, .int .u32 x.f3, .int .u32 x.f4, .int .u32 x.f5, .int .u64 x.f6, .int .u64 x.f7, v11, v12, v13, v14, v15], rfl, (k33_mkM w base ok x.f1 ), ⟨[.int .u64 x.f2], [.int .u32 x.f3, .int .u32 x.f4, .int .u32 x.f5, .int .u64 x.f6, .int .u64 x.f7, v11, v12, v13, v14, v15], rfl, rfl, ⟨[.int .u32 x.f3], [.int .u32 x.f4, .int .u32 x.f5, .int .u64 x.f6, .int .u64 x.f7, v11, v12, v13, v14, v15], rfl, rfl, ⟨[.int .u32 x.f4], [.int .u32 x.f5, .int .u64 x.f6, .int .u64 x.f7, v11, v12, v13, v14, v15], rfl, rfl, ⟨[.int .u32 x.f5], [.int .u64 x.f6, .int .u64 x.f7, v11, v12, v13, v14, v15], rfl, rfl, ⟨[.int .u64 x.f6], [.int .u64 x.f7, v11, v12, v13, v14, v15], rfl, rfl, ⟨[.int .u64 x.f7], [v11, v12, v13, v14, v15], rfl, rfl, ⟨[v11], [v12, v13, v14, v15], rfl, ⟨v11, rfl, g11⟩, ⟨[v12], [v13, v14, v15], rfl, ⟨v12, rfl, g12⟩, ⟨[v13], [v14, v15], rfl, ⟨v13, rfl, g13⟩, ⟨[v14], [v15], rfl, ⟨v14, rfl, g14⟩, ⟨v15, rfl, g15⟩⟩⟩⟩⟩⟩⟩⟩⟩⟩⟩⟩⟩
theorem k37_openF {W : World} {ok : Nat → Prop} {x : S37} {cs : List Value} (h : Kd.FK k37 W ok x cs) : ∃ A11 c11 A12 c12 A13 c13 A14 c14 A15 c15, cs = [.int .u8 x.f0.f0, .int .u8 x.f0.f1, .int .u8 x.f0.f2, .int .u8 x.f1.f0, .int .u64 x.f1.f1, .int .u64 x.f2, .int .u32 x.f3, .int .u32 x.f4, .int .u32 x.f5, .int .u64 x.f6, .int .u64 x.f7, .slice A11 x.f8.length c11, .slice A12 x.f9.length c12, .slice A13 x.f10.length c13, .slice A14 x.f11.length c14, .slice A15 x.f12.length c15] ∧ x.f8.length ≤ c11 ∧ Kd.F k78 W ok A11 x.f8.length x.f8 ∧ x.f9.length ≤ c12 ∧ Kd.F k78 W ok A12 x.f9.length x.f9 ∧ x.f10.length ≤ c13 ∧ Kd.F (Kd.int .u64) W ok A13 x.f10.length x.f10 ∧ x.f11.length ≤ c14 ∧ Kd.F (Kd.int .u64) W ok A14 x.f11.length x.f11 ∧ x.f12.length ≤ c15 ∧ Kd.F (Kd.int .u8) W ok A15 x.f12.length x.f12 := by
  obtain ⟨A11, c11, A12, c12, A13, c13, A14, c14, A15, c15, rfl, l11, _, l12, _, l13, _, l14, _, l15, _⟩ := k37_open (Kd.FK_now h)
  exact ⟨A11, c11, A12, c12, A13, c13, A14, c14, A15, c15, rfl, l11, (fun W' hW => by obtain ⟨A11_, c11_, A12_, c12_, A13_, c13_, A14_, c14_, A15_, c15_, he, l11_, g11_, l12_, g12_, l13_, g13_, l14_, g14_, l15_, g15_⟩ := k37_open (h W' hW); injection (Option.some.inj (show some (Value.slice A11 x.f8.length c11) = some (Value.slice A11_ x.f8.length c11_) from congrArg (fun l => l[11]?) he)) with ha_ _ _; rw [ha_]; exact g11_), l12, (fun W' hW => by obtain ⟨A11_, c11_, A12_, c12_, A13_, c13_, A14_, c14_, A15_, c15_, he, l11_, g11_, l12_, g12_, l13_, g13_, l14_, g14_, l15_, g15_⟩ := k37_open (h W' hW); injection (Option.some.inj (show some (Value.slice A12 x.f9.length c12) = some (Value.slice A12_ x.f9.length c12_) from congrArg (fun l => l[12]?) he)) with ha_ _ _; rw [ha_]; exact g12_), l13, (fun W' hW => by obtain ⟨A11_, c11_, A12_, c12_, A13_, c13_, A14_, c14_, A15_, c15_, he, l11_, g11_, l12_, g12_, l13_, g13_, l14_, g14_, l15_, g15_⟩ := k37_open (h W' hW); injection (Option.some.inj (show some (Value.slice A13 x.f10.length c13) = some (Value.slice A13_ x.f10.length c13_) from congrArg (fun l => l[13]?) he)) with ha_ _ _; rw [ha_]; exact g13_), l14, (fun W' hW => by obtain ⟨A11_, c11_, A12_, c12_, A13_, c13_, A14_, c14_, A15_, c15_, he, l11_, g11_, l12_, g12_, l13_, g13_, l14_, g14_, l15_, g15_⟩ := k37_open (h W' hW); injection (Option.some.inj (show some (Value.slice A14 x.f11.length c14) = some (Value.slice A14_ x.f11.length c14_) from congrArg (fun l => l[14]?) he)) with ha_ _ _; rw [ha_]; exact g14_), l15, (fun W' hW => by obtain ⟨A11_, c11_, A12_, c12_, A13_, c13_, A14_, c14_, A15_, c15_, he, l11_, g11_, l12_, g12_, l13_, g13_, l14_, g14_, l15_, g15_⟩ := k37_open (h W' hW); injection (Option.some.inj (show some (Value.slice A15 x.f12.length c15) = some (Value.slice A15_ x.f12.length c15_) from congrArg (fun l => l[15]?) he)) with ha_ _ _; rw [ha_]; exact g15_)⟩
theorem k37_mkF (W : World) (ok : Nat → Prop) (x : S37) {A11 : Option Addr} {c11 : Nat} (l11 : x.f8.length ≤ c11) (g11 : Kd.F k78 W ok A11 x.f8.length x.f8) {A12 : Option Addr} {c12 : Nat} (l12 : x.f9.length ≤ c12) (g12 : Kd.F k78 W ok A12 x.f9.length x.f9) {A13 : Option Addr} {c13 : Nat} (l13 : x.f10.length ≤ c13) (g13 : Kd.F (Kd.int .u64) W ok A13 x.f10.length x.f10) {A14 : Option Addr} {c14 : Nat} (l14 : x.f11.length ≤ c14) (g14 : Kd.F (Kd.int .u64) W ok A14 x.f11.length x.f11) {A15 : Option Addr} {c15 : Nat} (l15 : x.f12.length ≤ c15) (g15 : Kd.F (Kd.int .u8) W ok A15 x.f12.length x.f12) : Kd.FK k37 W ok x [.int .u8 x.f0.f0, .int .u8 x.f0.f1, .int .u8 x.f0.f2, .int .u8 x.f1.f0, .int .u64 x.f1.f1, .int .u64 x.f2, .int .u32 x.f3, .int .u32 x.f4, .int .u32 x.f5, .int .u64 x.f6, .int .u64 x.f7, .slice A11 x.f8.length c11, .slice A12 x.f9.length c12, .slice A13 x.f10.length c13, .slice A14 x.f11.length c14, .slice A15 x.f12.length c15] := fun W2 hW => k37_mk W2 x l11 (g11 W2 hW) l12 (g12 W2 hW) l13 (g13 W2 hW) l14 (g14 W2 hW) l15 (g15 W2 hW)
def rd_T37 (xs : List S37) (i : Int) : S37 := xs.getD i.toNat z37
theorem at_T37 {w : World} {A : Option Addr} {n : Nat} {xs : List S37} (h : Kd.C k37 w A n xs) (i : Int) (h0 : 0 ≤ i) (h1 : i < n) : ∃ ad A11 c11 A12 c12 A13 c13 A14 c14 A15 c15, A = some ad ∧ w.cell? (ad.add (i.toNat * 16)) = some (.int .u8 (rd_T37 xs i).f0.f0) ∧ w.cell? ⟨(ad.add (i.toNat * 16)).block, (ad.add (i.toNat * 16)).off + 1, none⟩ = some (.int .u8 (rd_T37 xs i).f0.f1) ∧ w.cell? ⟨(ad.add (i.toNat * 16)).block, (ad.add (i.toNat * 16)).off + 2, none⟩ = some (.int .u8 (rd_T37 xs i).f0.f2) ∧ w.cell? ⟨(ad.add (i.toNat * 16)).block, (ad.add (i.toNat * 16)).off + 3, none⟩ = some (.int .u8 (rd_T37 xs i).f1.f0) ∧ w.cell? ⟨(ad.add (i.toNat * 16)).block, (ad.add (i.toNat * 16)).off + 4, none⟩ = some (.int .u64 (rd_T37 xs i).f1.f1) ∧ w.cell? ⟨(ad.add (i.toNat * 16)).block, (ad.add (i.toNat * 16)).off + 5, none⟩ = some (.int .u64 (rd_T37 xs i).f2) ∧ w.cell? ⟨(ad.add (i.toNat * 16)).block, (ad.add (i.toNat * 16)).off + 6, none⟩ = some (.int .u32 (rd_T37 xs i).f3) ∧ w.cell? ⟨(ad.add (i.toNat * 16)).block, (ad.add (i.toNat * 16)).off + 7, none⟩ = some (.int .u32 (rd_T37 xs i).f4) ∧ w.cell? ⟨(ad.add (i.toNat * 16)).block, (ad.add (i.toNat * 16)).off + 8, none⟩ = some (.int .u32 (rd_T37 xs i).f5) ∧ w.cell? ⟨(ad.add (i.toNat * 16)).block, (ad.add (i.toNat * 16)).off + 9, none⟩ = some (.int .u64 (rd_T37 xs i).f6) ∧ w.cell? ⟨(ad.add (i.toNat * 16)).block, (ad.add (i.toNat * 16)).off + 10, none⟩ = some (.int .u64 (rd_T37 xs i).f7) ∧ w.cell? ⟨(ad.add (i.toNat * 16)).block, (ad.add (i.toNat * 16)).off + 11, none⟩ = some (.slice A11 (rd_T37 xs i).f8.length c11) ∧ w.cell? ⟨(ad.add (i.toNat * 16)).block, (ad.add (i.toNat * 16)).off + 12, none⟩ = some (.slice A12 (rd_T37 xs i).f9.length c12) ∧ w.cell? ⟨(ad.add (i.toNat * 16)).block, (ad.add (i.toNat * 16)).off + 13, none⟩ = some (.slice A13 (rd_T37 xs i).f10.length c13) ∧ w.cell? ⟨(ad.add (i.toNat * 16)).block, (ad.add (i.toNat * 16)).off + 14, none⟩ = some (.slice A14 (rd_T37 xs i).f11.length c14) ∧ w.cell? ⟨(ad.add (i.toNat * 16)).block, (ad.add (i.toNat * 16)).off + 15, none⟩ = some (.slice A15 (rd_T37 xs i).f12.length c15) ∧ (rd_T37 xs i).f8.length ≤ c11 ∧ k78.C w A11 (rd_T37 xs i).f8.length (rd_T37 xs i).f8 ∧ (rd_T37 xs i).f9.length ≤ c12 ∧ k78.C w A12 (rd_T37 xs i).f9.length (rd_T37 xs i).f9 ∧ (rd_T37 xs i).f10.length ≤ c13 ∧ (Kd.int .u64).C w A13 (rd_T37 xs i).f10.length (rd_T37 xs i).f10 ∧ (rd_T37 xs i).f11.length ≤ c14 ∧ (Kd.int .u64).C w A14 (rd_T37 xs i).f11.length (rd_T37 xs i).f11 ∧ (rd_T37 xs i).f12.length ≤ c15 ∧ (Kd.int .u8).C w A15 (rd_T37 xs i).f12.length (rd_T37 xs i).f12 := by
  obtain ⟨ad, c, e, _, hK, hc0⟩ := Kd.C_get h z37 i h0 h1
  have hc : ∀ j u, c[j]? = some u → w.cell? (ad.add (i.toNat * 16 + j)) = some u := hc0
  obtain ⟨A11, c11, A12, c12, A13, c13, A14, c14, A15, c15, rfl, l11, g11, l12, g12, l13, g13, l14, g14, l15, g15⟩ := k37_open hK
  exact ⟨ad, A11, c11, A12, c12, A13, c13, A14, c14, A15, c15, e, hc 0 _ rfl, by rw [← add_field _ _ 1 (by omega)]; exact hc 1 _ rfl, by rw [← add_field _ _ 2 (by omega)]; exact hc 2 _ rfl, by rw [← add_field _ _ 3 (by omega)]; exact hc 3 _ rfl, by rw [← add_field _ _ 4 (by omega)]; exact hc 4 _ rfl, by rw [← add_field _ _ 5 (by omega)]; exact hc 5 _ rfl, by rw [← add_field _ _ 6 (by omega)]; exact hc 6 _ rfl, by rw [← add_field _ _ 7 (by omega)]; exact hc 7 _ rfl, by rw [← add_field _ _ 8 (by omega)]; exact hc 8 _ rfl, by rw [← add_field _ _ 9 (by omega)]; exact hc 9 _ rfl, by rw [← add_field _ _ 10 (by omega)]; exact hc 10 _ rfl, by rw [← add_field _ _ 11 (by omega)]; exact hc 11 _ rfl, by rw [← add_field _ _ 12 (by omega)]; exact hc 12 _ rfl, by rw [← add_field _ _ 13 (by omega)]; exact hc 13 _ rfl, by rw [← add_field _ _ 14 (by omega)]; exact hc 14 _ rfl, by rw [← add_field _ _ 15 (by omega)]; exact hc 15 _ rfl, l11, g11, l12, g12, l13, g13, l14, g14, l15, g15⟩

def rd_L12 (xs : List (List (List Int))) (i : Int) : (List (List Int)) := xs.getD i.toNat ([] : List (List Int))
theorem at_L12 {w : World} {A : Option Addr} {n : Nat} {xs : List (List (List Int))} (h : Kd.C (Kd.slice 35 (Kd.slice 31 (Kd.int .u64))) w A n xs) (i : Int) (h0 : 0 ≤ i) (h1 : i < n) : ∃ ad A0 c0, A = some ad ∧ w.cell? (ad.add i.toNat) = some (.slice A0 (rd_L12 xs i).length c0) ∧ (rd_L12 xs i).length ≤ c0 ∧ (Kd.slice 31 (Kd.int .u64)).C w A0 (rd_L12 xs i).length (rd_L12 xs i) := by
  obtain ⟨ad, c, e, _, hK, hc0⟩ := Kd.C_get h ([] : List (List Int)) i h0 h1
  have hc : ∀ j u, c[j]? = some u → w.cell? (ad.add (i.toNat * 1 + j)) = some u := hc0
  obtain ⟨A0, c0, rfl, l0, g0⟩ := hK
  exact ⟨ad, A0, c0, e, by have hq := hc 0 _ rfl; rwa [Nat.mul_one, Nat.add_zero] at hq, l0, g0⟩

def rd_L13 (xs : List (List (List Int))) (i : Int) : (List (List Int)) := xs.getD i.toNat ([] : List (List Int))
theorem at_L13 {w : World} {A : Option Addr} {n : Nat} {xs : List (List (List Int))} (h : Kd.C (Kd.slice 23 (Kd.slice 5 (Kd.int .u8))) w A n xs) (i : Int) (h0 : 0 ≤ i) (h1 : i < n) : ∃ ad A0 c0, A = some ad ∧ w.cell? (ad.add i.toNat) = some (.slice A0 (rd_L13 xs i).length c0) ∧ (rd_L13 xs i).length ≤ c0 ∧ (Kd.slice 5 (Kd.int .u8)).C w A0 (rd_L13 xs i).length (rd_L13 xs i) := by
  obtain ⟨ad, c, e, _, hK, hc0⟩ := Kd.C_get h ([] : List (List Int)) i h0 h1
  have hc : ∀ j u, c[j]? = some u → w.cell? (ad.add (i.toNat * 1 + j)) = some u := hc0
  obtain ⟨A0, c0, rfl, l0, g0⟩ := hK
  exact ⟨ad, A0, c0, e, by have hq := hc 0 _ rfl; rwa [Nat.mul_one, Nat.add_zero] at hq, l0, g0⟩

/-! #### struct type 49 -/
structure S49 where
  f0 : Int
  f1 : S37
  f2 : Int
  f3 : (List Int)
  f4 : (List (List Int))
def z49 : S49 := ⟨(0 : Int), z37, (0 : Int), ([] : List Int), ([] : List (List Int))⟩
def k49 : Kd S49 := Kd.iso (Kd.pair (Kd.int .i64) (Kd.pair k37 (Kd.pair (Kd.int .i64) (Kd.pair (Kd.slice 5 (Kd.int .u8)) (Kd.slice 35 (Kd.slice 31 (Kd.int .u64))))))) (fun x : S49 => (x.f0, x.f1, x.f2, x.f3, x.f4))
theorem k49_open {w : World} {x : S49} {cs : List Value} (h : k49.K w x cs) : ∃ A12 c12 A13 c13 A14 c14 A15 c15 A16 c16 A18 c18 A19 c19, cs = [.int .i64 x.f0, .int .u8 x.f1.f0.f0, .int .u8 x.f1.f0.f1, .int .u8 x.f1.f0.f2, .int .u8 x.f1.f1.f0, .int .u64 x.f1.f1.f1, .int .u64 x.f1.f2, .int .u32 x.f1.f3, .int .u32 x.f1.f4, .int .u32 x.f1.f5, .int .u64 x.f1.f6, .int .u64 x.f1.f7, .slice A12 x.f1.f8.length c12, .slice A13 x.f1.f9.length c13, .slice A14 x.f1.f10.length c14, .slice A15 x.f1.f11.length c15, .slice A16 x.f1.f12.length c16, .int .i64 x.f2, .slice A18 x.f3.length c18, .slice A19 x.f4.length c19] ∧ x.f1.f8.length ≤ c12 ∧ k78.C w A12 x.f1.f8.length x.f1.f8 ∧ x.f1.f9.length ≤ c13 ∧ k78.C w A13 x.f1.f9.length x.f1.f9 ∧ x.f1.f10.length ≤ c14 ∧ (Kd.int .u64).C w A14 x.f1.f10.length x.f1.f10 ∧ x.f1.f11.length ≤ c15 ∧ (Kd.int .u64).C w A15 x.f1.f11.length x.f1.f11 ∧ x.f1.f12.length ≤ c16 ∧ (Kd.int .u8).C w A16 x.f1.f12.length x.f1.f12 ∧ x.f3.length ≤ c18 ∧ (Kd.int .u8).C w A18 x.f3.length x.f3 ∧ x.f4.length ≤ c19 ∧ (Kd.slice 31 (Kd.int .u64)).C w A19 x.f4.length x.f4 := by
  obtain ⟨_, _, rfl, rfl, ⟨_, _, rfl, s1, ⟨_, _, rfl, rfl, ⟨_, _, rfl, ⟨A18, c18, rfl, l18, g18⟩, ⟨A19, c19, rfl, l19, g19⟩⟩⟩⟩⟩ := h
  obtain ⟨A12, c12, A13, c13, A14, c14, A15, c15, A16, c16, rfl, l12, g12, l13, g13, l14, g14, l15, g15, l16, g16⟩ := k37_open s1
  exact ⟨A12, c12, A13, c13, A14, c14, A15, c15, A16, c16, A18, c18, A19, c19, rfl, l12, g12, l13, g13, l14, g14, l15, g15, l16, g16, l18, g18, l19, g19⟩
theorem k49_openM {w : World} {base : Nat} {ok : Nat → Prop} {x : S49} {cs : List Value} (h : k49.M w base ok x cs) : ∃ v12 v13 v14 v15 v16 v18 v19, cs = [.int .i64 x.f0, .int .u8 x.f1.f0.f0, .int .u8 x.f1.f0.f1, .int .u8 x.f1.f0.f2, .int .u8 x.f1.f1.f0, .int .u64 x.f1.f1.f1, .int .u64 x.f1.f2, .int .u32 x.f1.f3, .int .u32 x.f1.f4, .int .u32 x.f1.f5, .int .u64 x.f1.f6, .int .u64 x.f1.f7, v12, v13, v14, v15, v16, .int .i64 x.f2, v18, v19] ∧ k78.R 78 w base ok v12 x.f1.f8 ∧ k78.R 78 w base ok v13 x.f1.f9 ∧ (Kd.int .u64).R 31 w base ok v14 x.f1.f10 ∧ (Kd.int .u64).R 31 w base ok v15 x.f1.f11 ∧ (Kd.int .u8).R 5 w base ok v16 x.f1.f12 ∧ (Kd.int .u8).R 5 w base ok v18 x.f3 ∧ (Kd.slice 31 (Kd.int .u64)).R 35 w base ok v19 x.f4 := by
  obtain ⟨_, _, rfl, rfl, ⟨_, _, rfl, s1, ⟨_, _, rfl, rfl, ⟨_, _, rfl, ⟨v18, rfl, g18⟩, ⟨v19, rfl, g19⟩⟩⟩⟩⟩ := h
  obtain ⟨v12, v13, v14, v15, v16, rfl, g12, g13, g14, g15, g16⟩ := k37_openM s1
  exact ⟨v12, v13, v14, v15, v16, v18, v19, rfl, g12, g13, g14, g15, g16, g18, g19⟩
theorem k49_mk (w : World) (x : S49) {A12 : Option Addr} {c12 : Nat} (l12 : x.f1.f8.length ≤ c12) (g12 : k78.C w A12 x.f1.f8.length x.f1.f8) {A13 : Option Addr} {c13 : Nat} (l13 : x.f1.f9.length ≤ c13) (g13 : k78.C w A13 x.f1.f9.length x.f1.f9) {A14 : Option Addr} {c14 : Nat} (l14 : x.f1.f10.length ≤ c14) (g14 : (Kd.int .u64).C w A14 x.f1.f10.length x.f1.f10) {A15 : Option Addr} {c15 : Nat} (l15 : x.f1.f11.length ≤ c15) (g15 : (Kd.int .u64).C w A15 x.f1.f11.length x.f1.f11) {A16 : Option Addr} {c16 : Nat} (l16 : x.f1.f12.length ≤ c16) (g16 : (Kd.int .u8).C w A16 x.f1.f12.length x.f1.f12) {A18 : Option Addr} {c18 : Nat} (l18 : x.f3.length ≤ c18) (g18 : (Kd.int .u8).C w A18 x.f3.length x.f3) {A19 : Option Addr} {c19 : Nat} (l19 : x.f4.length ≤ c19) (g19 : (Kd.slice 31 (Kd.int .u64)).C w A19 x.f4.length x.f4) : k49.K w x [.int .i64 x.f0, .int .u8 x.f1.f0.f0, .int .u8 x.f1.f0.f1, .int .u8 x.f1.f0.f2, .int .u8 x.f1.f1.f0, .int .u64 x.f1.f1.f1, .int .u64 x.f1.f2, .int .u32 x.f1.f3, .int .u32 x.f1.f4, .int .u32 x.f1.f5, .int .u64 x.f1.f6, .int .u64 x.f1.f7, .slice A12 x.f1.f8.length c12, .slice A13 x.f1.f9.length c13, .slice A14 x.f1.f10.length c14, .slice A15 x.f1.f11.length c15, .slice A16 x.f1.f12.length c16, .int .i64 x.f2, .slice A18 x.f3.length c18, .slice A19 x.f4.length c19] := ⟨[.int .i64 x.f0], [.int .u8 x.f1.f0.f0, .int .u8 x.f1.f0.f1, .int .u8 x.f1.f0.f2, .int .u8 x.f1.f1.f0, .int .u64 x.f1.f1.f1, .int .u64 x.f1.f2, .int .u32 x.f1.f3, .int .u32 x.f1.f4, .int .u32 x.f1.f5, .int .u64 x.f1.f6, .int .u64 x.f1.f7, .slice A12 x.f1.f8.length c12, .slice A13 x.f1.f9.length c13, .slice A14 x.f1.f10.length c14, .slice A15 x.f1.f11.length c15, .slice A16 x.f1.f12.length c16, .int .i64 x.f2, .slice A18 x.f3.length c18, .slice A19 x.f4.length c19], rfl, rfl, ⟨[.int .u8 x.f1.f0.f0, .int .u8 x.f1.f0.f1, .int .u8 x.f1.f0.f2, .int .u8 x.f1.f1.f0, .int .u64 x.f1.f1.f1, .int .u64 x.f1.f2, .int .u32 x.f1.f3, .int .u32 x.f1.f4, .int .u32 x.f1.f5, .int .u64 x.f1.f6, .int .u64 x.f1.f7, .slice A12 x.f1.f8.length c12, .slice A13 x.f1.f9.length c13, .slice A14 x.f1.f10.length c14, .slice A15 x.f1.f11.length c15, .slice A16 x.f1.f12.length c16], [.int .i64 x.f2, .slice A18 x.f3.length c18, .slice A19 x.f4.length c19], rfl, (k37_mk w x.f1 l12 g12 l13 g13 l14 g14 l15 g15 l16 g16), ⟨[.int .i64 x.f2], [.slice A18 x.f3.length c18, .slice A19 x.f4.length c19], rfl, rfl, ⟨[.slice A18 x.f3.length c18], [.slice A19 x.f4.length c19], rfl, ⟨A18, c18, rfl, l18, g18⟩, ⟨A19, c19, rfl, l19, g19⟩⟩⟩⟩⟩
theorem k49_mkM (w : World) (base : Nat) (ok : Nat → Prop) (x : S49) {v12 : Value} (g12 : k78.R 78 w base ok v12 x.f1.f8) {v13 : Value} (g13 : k78.R 78 w base ok v13 x.f1.f9) {v14 : Value} (g14 : (Kd.int .u64).R 31 w base ok v14 x.f1.f10) {v15 : Value} (g15 : (Kd.int .u64).R 31 w base ok v15 x.f1.f11) {v16 : Value} (g16 : (Kd.int .u8).R 5 w base ok v16 x.f1.f12) {v18 : Value} (g18 : (Kd.int .u8).R 5 w base ok v18 x.f3) {v19 : Value} (g19 : (Kd.slice 31 (Kd.int .u64)).R 35 w base ok v19 x.f4) : k49.M w base ok x [.int .i64 x.f0, .int .u8 x.f1.f0.f0, .int .u8 x.f1.f0.f1, .int .u8 x.f1.f0.f2, .int .u8 x.f1.f1.f0, .int .u64 x.f1.f1.f1, .int .u64 x.f1.f2, .int .u32 x.f1.f3, .int .u32 x.f1.f4, .int .u32 x.f1.f5, .int .u64 x.f1.f6, .int .u64 x.f1.f7, v12, v13, v14, v15, v16, .int .i64 x.f2, v18, v19] := ⟨[.int .i64 x.f0], [.int .u8 x.f1.f0.f0, .int .u8 x.f1.f0.f1, .int .u8 x.f1.f0.f2, .int .u8 x.f1.f1.f0, .int .u64 x.f1.f1.f1, .int .u64 x.f1.f2, .int .u32 x.f1.f3, .int .u32 x.f1.f4, .int .u32 x.f1.f5, .int .u64 x.f1.f6, .int .u64 x.f1.f7, v12, v13, v14, v15, v16, .int .i64 x.f2, v18, v19], rfl, rfl, ⟨[.int .u8 x.f1.f0.f0, .int .u8 x.f1.f0.f1, .int .u8 x.f1.f0.f2, .int .u8 x.f1.f1.f0, .int .u64 x.f1.f1.f1, .int .u64 x.f1.f2, .int .u32 x.f1.f3, .int .u32 x.f1.f4, .int .u32 x.f1.f5, .int .u64 x.f1.f6, .int .u64 x.f1.f7, v12, v13, v14, v15, v16], [.int .i64 x.f2, v18, v19], rfl, (k37_mkM w base ok x.f1 g12 g13 g14 g15 g16), ⟨[.int .i64 x.f2], [v18, v19], rfl, rfl, ⟨[v18], [v19], rfl, ⟨v18, rfl, g18⟩, ⟨v19, rfl, g19⟩⟩⟩⟩⟩
theorem k49_openF {W : World} {ok : Nat → Prop} {x : S49} {cs : List Value} (h : Kd.FK k49 W ok x cs) : ∃ A12 c12 A13 c13 A14 c14 A15 c15 A16 c16 A18 c18 A19 c19, cs = [.int .i64 x.f0, .int .u8 x.f1.f0.f0, .int .u8 x.f1.f0.f1, .int .u8 x.f1.f0.f2, .int .u8 x.f1.f1.f0, .int .u64 x.f1.f1.f1, .int .u64 x.f1.f2, .int .u32 x.f1.f3, .int .u32 x.f1.f4, .int .u32 x.f1.f5, .int .u64 x.f1.f6, .int .u64 x.f1.f7, .slice A12 x.f1.f8.length c12, .slice A13 x.f1.f9.length c13, .slice A14 x.f1.f10.length c14, .slice A15 x.f1.f11.length c15, .slice A16 x.f1.f12.length c16, .int .i64 x.f2, .slice A18 x.f3.length c18, .slice A19 x.f4.length c19] ∧ x.f1.f8.length ≤ c12 ∧ Kd.F k78 W ok A12 x.f1.f8.length x.f1.f8 ∧ x.f1.f9.length ≤ c13 ∧ Kd.F k78 W ok A13 x.f1.f9.length x.f1.f9 ∧ x.f1.f10.length ≤ c14 ∧ Kd.F (Kd.int .u64) W ok A14 x.f1.f10.length x.f1.f10 ∧ x.f1.f11.length ≤ c15 ∧ Kd.F (Kd.int .u64) W ok A15 x.f1.f11.length x.f1.f11 ∧ x.f1.f12.length ≤ c16 ∧ Kd.F (Kd.int .u8) W ok A16 x.f1.f12.length x.f1.f12 ∧ x.f3.length ≤ c18 ∧ Kd.F (Kd.int .u8) W ok A18 x.f3.length x.f3 ∧ x.f4.length ≤ c19 ∧ Kd.F (Kd.slice 31 (Kd.int .u64)) W ok A19 x.f4.length x.f4 := by
  obtain ⟨A12, c12, A13, c13, A14, c14, A15, c15, A16, c16, A18, c18, A19, c19, rfl, l12, _, l13, _, l14, _, l15, _, l16, _, l18, _, l19, _⟩ := k49_open (Kd.FK_now h)
  exact ⟨A12, c12, A13, c13, A14, c14, A15, c15, A16, c16, A18, c18, A19, c19, rfl, l12, (fun W' hW => by obtain ⟨A12_, c12_, A13_, c13_, A14_, c14_, A15_, c15_, A16_, c16_, A18_, c18_, A19_, c19_, he, l12_, g12_, l13_, g13_, l14_, g14_, l15_, g15_, l16_, g16_, l18_, g18_, l19_, g19_⟩ := k49_open (h W' hW); injection (Option.some.inj (show some (Value.slice A12 x.f1.f8.length c12) = some (Value.slice A12_ x.f1.f8.length c12_) from congrArg (fun l => l[12]?) he)) with ha_ _ _; rw [ha_]; exact g12_), l13, (fun W' hW => by obtain ⟨A12_, c12_, A13_, c13_, A14_, c14_, A15_, c15_, A16_, c16_, A18_, c18_, A19_, c19_, he, l12_, g12_, l13_, g13_, l14_, g14_, l15_, g15_, l16_, g16_, l18_, g18_, l19_, g19_⟩ := k49_open (h W' hW); injection (Option.some.inj (show some (Value.slice A13 x.f1.f9.length c13) = some (Value.slice A13_ x.f1.f9.length c13_) from congrArg (fun l => l[13]?) he)) with ha_ _ _; rw [ha_]; exact g13_), l14, (fun W' hW => by obtain ⟨A12_, c12_, A13_, c13_, A14_, c14_, A15_, c15_, A16_, c16_, A18_, c18_, A19_, c19_, he, l12_, g12_, l13_, g13_, l14_, g14_, l15_, g15_, l16_, g16_, l18_, g18_, l19_, g19_⟩ := k49_open (h W' hW); injection (Option.some.inj (show some (Value.slice A14 x.f1.f10.length c14) = some (Value.slice A14_ x.f1.f10.length c14_) from congrArg (fun l => l[14]?) he)) with ha_ _ _; rw [ha_]; exact g14_), l15, (fun W' hW => by obtain ⟨A12_, c12_, A13_, c13_, A14_, c14_, A15_, c15_, A16_, c16_, A18_, c18_, A19_, c19_, he, l12_, g12_, l13_, g13_, l14_, g14_, l15_, g15_, l16_, g16_, l18_, g18_, l19_, g19_⟩ := k49_open (h W' hW); injection (Option.some.inj (show some (Value.slice A15 x.f1.f11.length c15) = some (Value.slice A15_ x.f1.f11.length c15_) from congrArg (fun l => l[15]?) he)) with ha_ _ _; rw [ha_]; exact g15_), l16, (fun W' hW => by obtain ⟨A12_, c12_, A13_, c13_, A14_, c14_, A15_, c15_, A16_, c16_, A18_, c18_, A19_, c19_, he, l12_, g12_, l13_, g13_, l14_, g14_, l15_, g15_, l16_, g16_, l18_, g18_, l19_, g19_⟩ := k49_open (h W' hW); injection (Option.some.inj (show some (Value.slice A16 x.f1.f12.length c16) = some (Value.slice A16_ x.f1.f12.length c16_) from congrArg (fun l => l[16]?) he)) with ha_ _ _; rw [ha_]; exact g16_), l18, (fun W' hW => by obtain ⟨A12_, c12_, A13_, c13_, A14_, c14_, A15_, c15_, A16_, c16_, A18_, c18_, A19_, c19_, he, l12_, g12_, l13_, g13_, l14_, g14_, l15_, g15_, l16_, g16_, l18_, g18_, l19_, g19_⟩ := k49_open (h W' hW); injection (Option.some.inj (show some (Value.slice A18 x.f3.length c18) = some (Value.slice A18_ x.f3.length c18_) from congrArg (fun l => l[18]?) he)) with ha_ _ _; rw [ha_]; exact g18_), l19, (fun W' hW => by obtain ⟨A12_, c12_, A13_, c13_, A14_, c14_, A15_, c15_, A16_, c16_, A18_, c18_, A19_, c19_, he, l12_, g12_, l13_, g13_, l14_, g14_, l15_, g15_, l16_, g16_, l18_, g18_, l19_, g19_⟩ := k49_open (h W' hW); injection (Option.some.inj (show some (Value.slice A19 x.f4.length c19) = some (Value.slice A19_ x.f4.length c19_) from congrArg (fun l => l[19]?) he)) with ha_ _ _; rw [ha_]; exact g19_)⟩
theorem k49_mkF (W : World) (ok : Nat → Prop) (x : S49) {A12 : Option Addr} {c12 : Nat} (l12 : x.f1.f8.length ≤ c12) (g12 : Kd.F k78 W ok A12 x.f1.f8.length x.f1.f8) {A13 : Option Addr} {c13 : Nat} (l13 : x.f1.f9.length ≤ c13) (g13 : Kd.F k78 W ok A13 x.f1.f9.length x.f1.f9) {A14 : Option Addr} {c14 : Nat} (l14 : x.f1.f10.length ≤ c14) (g14 : Kd.F (Kd.int .u64) W ok A14 x.f1.f10.length x.f1.f10) {A15 : Option Addr} {c15 : Nat} (l15 : x.f1.f11.length ≤ c15) (g15 : Kd.F (Kd.int .u64) W ok A15 x.f1.f11.length x.f1.f11) {A16 : Option Addr} {c16 : Nat} (l16 : x.f1.f12.length ≤ c16) (g16 : Kd.F (Kd.int .u8) W ok A16 x.f1.f12.length x.f1.f12) {A18 : Option Addr} {c18 : Nat} (l18 : x.f3.length ≤ c18) (g18 : Kd.F (Kd.int .u8) W ok A18 x.f3.length x.f3) {A19 : Option Addr} {c19 : Nat} (l19 : x.f4.length ≤ c19) (g19 : Kd.F (Kd.slice 31 (Kd.int .u64)) W ok A19 x.f4.length x.f4) : Kd.FK k49 W ok x [.int .i64 x.f0, .int .u8 x.f1.f0.f0, .int .u8 x.f1.f0.f1, .int .u8 x.f1.f0.f2, .int .u8 x.f1.f1.f0, .int .u64 x.f1.f1.f1, .int .u64 x.f1.f2, .int .u32 x.f1.f3, .int .u32 x.f1.f4, .int .u32 x.f1.f5, .int .u64 x.f1.f6, .int .u64 x.f1.f7, .slice A12 x.f1.f8.length c12, .slice A13 x.f1.f9.length c13, .slice A14 x.f1.f10.length c14, .slice A15 x.f1.f11.length c15, .slice A16 x.f1.f12.length c16, .int .i64 x.f2, .slice A18 x.f3.length c18, .slice A19 x.f4.length c19] := fun W2 hW => k49_mk W2 x l12 (g12 W2 hW) l13 (g13 W2 hW) l14 (g14 W2 hW) l15 (g15 W2 hW) l16 (g16 W2 hW) l18 (g18 W2 hW) l19 (g19 W2 hW)
def rd_T49 (xs : List S49) (i : Int) : S49 := xs.getD i.toNat z49
theorem at_T49 {w : World} {A : Option Addr} {n : Nat} {xs : List S49} (h : Kd.C k49 w A n xs) (i : Int) (h0 : 0 ≤ i) (h1 : i < n) : ∃ ad A12 c12 A13 c13 A14 c14 A15 c15 A16 c16 A18 c18 A19 c19, A = some ad ∧ w.cell? (ad.add (i.toNat * 20)) = some (.int .i64 (rd_T49 xs i).f0) ∧ w.cell? ⟨(ad.add (i.toNat * 20)).block, (ad.add (i.toNat * 20)).off + 1, none⟩ = some (.int .u8 (rd_T49 xs i).f1.f0.f0) ∧ w.cell? ⟨(ad.add (i.toNat * 20)).block, (ad.add (i.toNat * 20)).off + 2, none⟩ = some (.int .u8 (rd_T49 xs i).f1.f0.f1) ∧ w.cell? ⟨(ad.add (i.toNat * 20)).block, (ad.add (i.toNat * 20)).off + 3, none⟩ = some (.int .u8 (rd_T49 xs i).f1.f0.f2) ∧ w.cell? ⟨(ad.add (i.toNat * 20)).block, (ad.add (i.toNat * 20)).off + 4, none⟩ = some (.int .u8 (rd_T49 xs i).f1.f1.f0) ∧ w.cell? ⟨(ad.add (i.toNat * 20)).block, (ad.add (i.toNat * 20)).off + 5, none⟩ = some (.int .u64 (rd_T49 xs i).f1.f1.f1) ∧ w.cell? ⟨(ad.add (i.toNat * 20)).block, (ad.add (i.toNat * 20)).off + 6, none⟩ = some (.int .u64 (rd_T49 xs i).f1.f2) ∧ w.cell? ⟨(ad.add (i.toNat * 20)).block, (ad.add (i.toNat * 20)).off + 7, none⟩ = some (.int .u32 (rd_T49 xs i).f1.f3) ∧ w.cell? ⟨(ad.add (i.toNat * 20)).block, (ad.add (i.toNat * 20)).off + 8, none⟩ = some (.int .u32 (rd_T49 xs i).f1.f4) ∧ w.cell? ⟨(ad.add (i.toNat * 20)).block, (ad.add (i.toNat * 20)).off + 9, none⟩ = some (.int .u32 (rd_T49 xs i).f1.f5) ∧ w.cell? ⟨(ad.add (i.toNat * 20)).block, (ad.add (i.toNat * 20)).off + 10, none⟩ = some (.int .u64 (rd_T49 xs i).f1.f6) ∧ w.cell? ⟨(ad.add (i.toNat * 20)).block, (ad.add (i.toNat * 20)).off + 11, none⟩ = some (.int .u64 (rd_T49 xs i).f1.f7) ∧ w.cell? ⟨(ad.add (i.toNat * 20)).block, (ad.add (i.toNat * 20)).off + 12, none⟩ = some (.slice A12 (rd_T49 xs i).f1.f8.length c12) ∧ w.cell? ⟨(ad.add (i.toNat * 20)).block, (ad.add (i.toNat * 20)).off + 13, none⟩ = some (.slice A13 (rd_T49 xs i).f1.f9.length c13) ∧ w.cell? ⟨(ad.add (i.toNat * 20)).block, (ad.add (i.toNat * 20)).off + 14, none⟩ = some (.slice A14 (rd_T49 xs i).f1.f10.length c14) ∧ w.cell? ⟨(ad.add (i.toNat * 20)).block, (ad.add (i.toNat * 20)).off + 15, none⟩ = some (.slice A15 (rd_T49 xs i).f1.f11.length c15) ∧ w.cell? ⟨(ad.add (i.toNat * 20)).block, (ad.add (i.toNat * 20)).off + 16, none⟩ = some (.slice A16 (rd_T49 xs i).f1.f12.length c16) ∧ w.cell? ⟨(ad.add (i.toNat * 20)).block, (ad.add (i.toNat * 20)).off + 17, none⟩ = some (.int .i64 (rd_T49 xs i).f2) ∧ w.cell? ⟨(ad.add (i.toNat * 20)).block, (ad.add (i.toNat * 20)).off + 18, none⟩ = some (.slice A18 (rd_T49 xs i).f3.length c18) ∧ w.cell? ⟨(ad.add (i.toNat * 20)).block, (ad.add (i.toNat * 20)).off + 19, none⟩ = some (.slice A19 (rd_T49 xs i).f4.length c19) ∧ (rd_T49 xs i).f1.f8.length ≤ c12 ∧ k78.C w A12 (rd_T49 xs i).f1.f8.length (rd_T49 xs i).f1.f8 ∧ (rd_T49 xs i).f1.f9.length ≤ c13 ∧ k78.C w A13 (rd_T49 xs i).f1.f9.length (rd_T49 xs i).f1.f9 ∧ (rd_T49 xs i).f1.f10.length ≤ c14 ∧ (Kd.int .u64).C w A14 (rd_T49 xs i).f1.f10.length (rd_T49 xs i).f1.f10 ∧ (rd_T49 xs i).f1.f11.length ≤ c15 ∧ (Kd.int .u64).C w A15 (rd_T49 xs i).f1.f11.length (rd_T49 xs i).f1.f11 ∧ (rd_T49 xs i).f1.f12.length ≤ c16 ∧ (Kd.int .u8).C w A16 (rd_T49 xs i).f1.f12.length (rd_T49 xs i).f1.f12 ∧ (rd_T49 xs i).f3.length ≤ c18 ∧ (Kd.int .u8).C w A18 (rd_T49 xs i).f3.length (rd_T49 xs i).f3 ∧ (rd_T49 xs i).f4.length ≤ c19 ∧ (Kd.slice 31 (Kd.int .u64)).C w A19 (rd_T49 xs i).f4.length (rd_T49 xs i).f4 := by
  obtain ⟨ad, c, e, _, hK, hc0⟩ := Kd.C_get h z49 i h0 h1
  have hc : ∀ j u, c[j]? = some u → w.cell? (ad.add (i.toNat * 20 + j)) = some u := hc0
  obtain ⟨A12, c12, A13, c13, A14, c14, A15, c15, A16, c16, A18, c18, A19, c19, rfl, l12, g12, l13, g13, l14, g14, l15, g15, l16, g16, l18, g18, l19, g19⟩ := k49_open hK
  exact ⟨ad, A12, c12, A13, c13, A14, c14, A15, c15, A16, c16, A18, c18, A19, c19, e, hc 0 _ rfl, by rw [← add_field _ _ 1 (by omega)]; exact hc 1 _ rfl, by rw [← add_field _ _ 2 (by omega)]; exact hc 2 _ rfl, by rw [← add_field _ _ 3 (by omega)]; exact hc 3 _ rfl, by rw [← add_field _ _ 4 (by omega)]; exact hc 4 _ rfl, by rw [← add_field _ _ 5 (by omega)]; exact hc 5 _ rfl, by rw [← add_field _ _ 6 (by omega)]; exact hc 6 _ rfl, by rw [← add_field _ _ 7 (by omega)]; exact hc 7 _ rfl, by rw [← add_field _ _ 8 (by omega)]; exact hc 8 _ rfl, by rw [← add_field _ _ 9 (by omega)]; exact hc 9 _ rfl, by rw [← add_field _ _ 10 (by omega)]; exact hc 10 _ rfl, by rw [← add_field _ _ 11 (by omega)]; exact hc 11 _ rfl, by rw [← add_field _ _ 12 (by omega)]; exact hc 12 _ rfl, by rw [← add_field _ _ 13 (by omega)]; exact hc 13 _ rfl, by rw [← add_field _ _ 14 (by omega)]; exact hc 14 _ rfl, by rw [← add_field _ _ 15 (by omega)]; exact hc 15 _ rfl, by rw [← add_field _ _ 16 (by omega)]; exact hc 16 _ rfl, by rw [← add_field _ _ 17 (by omega)]; exact hc 17 _ rfl, by rw [← add_field _ _ 18 (by omega)]; exact hc 18 _ rfl, by rw [← add_field _ _ 19 (by omega)]; exact hc 19 _ rfl, l12, g12, l13, g13, l14, g14, l15, g15, l16, g16, l18, g18, l19, g19⟩

def rd_L15 (xs : List (List S49)) (i : Int) : (List S49) := xs.getD i.toNat ([] : List S49)
theorem at_L15 {w : World} {A : Option Addr} {n : Nat} {xs : List (List S49)} (h : Kd.C (Kd.slice 49 k49) w A n xs) (i : Int) (h0 : 0 ≤ i) (h1 : i < n) : ∃ ad A0 c0, A = some ad ∧ w.cell? (ad.add i.toNat) = some (.slice A0 (rd_L15 xs i).length c0) ∧ (rd_L15 xs i).length ≤ c0 ∧ k49.C w A0 (rd_L15 xs i).length (rd_L15 xs i) := by
  obtain ⟨ad, c, e, _, hK, hc0⟩ := Kd.C_get h ([] : List S49) i h0 h1
  have hc : ∀ j u, c[j]? = some u → w.cell? (ad.add (i.toNat * 1 + j)) = some u := hc0
  obtain ⟨A0, c0, rfl, l0, g0⟩ := hK
  exact ⟨ad, A0, c0, e, by have hq := hc 0 _ rfl; rwa [Nat.mul_one, Nat.add_zero] at hq, l0, g0⟩

/-! ### small words of my own -/
section
variable {P : Program} {ops : Array Oper} {Q : Exit → Act → World → Prop} {md : Region.Mode}
/-- A region of open order is walked on under a stronger class of worlds, which holds now. -/
theorem restart_ {S S' : World → Prop} (himp : ∀ w, S' w → S w) : ∀ {fuel : Nat} {l : Array Bool} {a : Act} {w : World}, S' w → wpAnyLast P md ops Q S' [] fuel l a w → wpAnyLast P md ops Q S [] fuel l a w
  | 0, _, _, _, _, h => h
  | _ + 1, _, _, _, hS, h => ⟨h.1, fun i hi => wpOp_mono (fun _ _ h' => ⟨fun _ _ => himp _ (h'.1 (by simp) hS), restart_ himp (h'.1 (by simp) hS) h'.2⟩) (h.2 i hi)⟩
end
/-- An owned row that isn't empty begins at its block's head. -/
theorem R_head {α : Type} {d : Kd α} {e : Nat} {w : World} {base : Nat} {ok : Nat → Prop} {v : Value} {xs : List α} (h : d.R e w base ok v xs) (hn : 0 < xs.length) : ∃ g c, v = .slice (some ⟨g, 0, none⟩) xs.length c ∧ xs.length ≤ c ∧ base ≤ g ∧ g < w.heap.size := by
  obtain ⟨inner, ho⟩ := Kd.R_own h
  rcases ho.2 with ⟨_, h0⟩ | ⟨g, cap, cur, rfl, hb, hg, hl, _⟩
  · omega
  · exact ⟨g, cap, rfl, hl, hb, (Array.getElem?_eq_some_iff.1 hg).1⟩
/-- An element of a row of rows. -/
theorem at_row {α : Type} {e : Nat} {d : Kd α} {w : World} {A : Option Addr} {n : Nat} {xs : List (List α)} (h : Kd.C (Kd.slice e d) w A n xs) (i : Nat) (hi : i < n) : ∃ ad A0 c0, A = some ad ∧ w.cell? (ad.add i) = some (.slice A0 (xs.getD i []).length c0) ∧ (xs.getD i []).length ≤ c0 ∧ d.C w A0 (xs.getD i []).length (xs.getD i []) := by
  obtain ⟨ad, c, e, _, hK, hc0⟩ := Kd.C_get h ([] : List α) (i : Int) (by omega) (by omega)
  have hc : ∀ j u, c[j]? = some u → w.cell? (ad.add ((i : Int).toNat * 1 + j)) = some u := hc0
  obtain ⟨A0, c0, rfl, l0, g0⟩ := hK
  exact ⟨ad, A0, c0, e, by have hq := hc 0 _ rfl; simpa using hq, l0, g0⟩
/-- A row cut: from m on; up to m. -/
theorem kcut_from {P : Program} {α : Type} (d : Kd α) (t e : TypeId) (kl : IntKind) (ht : P.underlying t = some (.slice e)) (hinfo : (P.info? e).map (fun i => i.size) = some d.sz) (A : Option Addr) (c : Nat) (xs : List α) (m : Nat) (hm : m ≤ xs.length) (hc : xs.length ≤ c) :
    ∃ A' : Option Addr, (∀ W : World, (Instr.slice t (.slice A xs.length c) (some (.int kl (m : Int))) none none).run P W = .ok (.slice A' (xs.drop m).length (c - m)) W) ∧
      (∀ w, d.C w A xs.length xs → d.C w A' (xs.drop m).length (xs.drop m)) ∧ (xs.drop m).length ≤ c - m := by
  obtain ⟨i, hi, hsz⟩ := Option.map_eq_some_iff.1 hinfo
  have hl : (xs.drop m).length = xs.length - m := List.length_drop
  refine ⟨if c = m then A else A.map (·.add (m * d.sz)), fun W => ?_, fun w h => Kd.C_drop h hm hc, by rw [hl]; omega⟩
  have hel : P.elem t = e := by simp [Program.elem, ht]
  have hu : P.underlying t = some (.slice (P.elem t)) := by rw [hel]; exact ht
  rw [run_slice_l W t A xs.length c hu kl (m : Int) (Int.natCast_nonneg _) (by omega), hel, hl]
  simp [sizeOf, typeInfo, hi, hsz, sliced, Result.andThen]
theorem kcut_to {P : Program} {α : Type} (d : Kd α) (t e : TypeId) (kl : IntKind) (ht : P.underlying t = some (.slice e)) (hinfo : (P.info? e).map (fun i => i.size) = some d.sz) (A : Option Addr) (c : Nat) (xs : List α) (m : Nat) (hm : m ≤ xs.length) (hc : xs.length ≤ c) :
    ∃ A' : Option Addr, (∀ W : World, (Instr.slice t (.slice A xs.length c) none (some (.int kl (m : Int))) none).run P W = .ok (.slice A' (xs.take m).length c) W) ∧
      (∀ w, d.C w A xs.length xs → d.C w A' (xs.take m).length (xs.take m)) ∧ (xs.take m).length ≤ c := by
  obtain ⟨i, hi, hsz⟩ := Option.map_eq_some_iff.1 hinfo
  have hl : (xs.take m).length = m := by rw [List.length_take]; omega
  refine ⟨A, fun W => ?_, fun w h => Kd.C_take h hm, by rw [hl]; omega⟩
  have hel : P.elem t = e := by simp [Program.elem, ht]
  have hu : P.underlying t = some (.slice (P.elem t)) := by rw [hel]; exact ht
  have ha : (A.map fun x => x.add 0) = A := by cases A <;> simp [Addr.add]
  rw [run_slice_h W t A xs.length c hu kl (m : Int) (Int.natCast_nonneg _) (by omega), hel, hl]
  simp [sizeOf, typeInfo, hi, hsz, sliced, Result.andThen, ha]
/-- A literal row of rows that are only read: its block holds their headers. -/
theorem C_heads {α : Type} {e t : Nat} {d : Kd α} {w : World} {g : Nat} (rows : List (Option Addr × Nat × List α)) (hb : w.heap[g]? = some (.cells (rows.map fun r => Value.slice r.1 r.2.2.length r.2.1).toArray t (0, 0))) (hm : rows.length ≤ 9223372036854775807)
    (h : ∀ r ∈ rows, r.2.2.length ≤ r.2.1 ∧ d.C w r.1 r.2.2.length r.2.2) : (Kd.slice e d).C w (some ⟨g, 0, none⟩) rows.length (rows.map fun r => r.2.2) := by
  refine ⟨by simp, by simpa using hm, fun hn => ⟨_, rfl, fun j p hj => ?_⟩⟩
  rw [List.getElem?_map] at hj
  obtain ⟨r, hr, rfl⟩ := Option.map_eq_some_iff.1 hj
  obtain ⟨h1, h2⟩ := h r (List.mem_of_getElem? hr)
  refine ⟨[.slice r.1 r.2.2.length r.2.1], rfl, ⟨r.1, r.2.1, rfl, h1, h2⟩, fun i u hu => ?_⟩
  cases i with
  | zero =>
    obtain rfl := Option.some.inj hu
    rw [add_plain]
    have hc : w.cell? ⟨g, j, none⟩ = _ := blk_cell hb j
    have e0 : j * (Kd.slice e d).sz + 0 = j := by show j * 1 + 0 = j; omega
    rw [e0, hc]
    simp [hr]
  | succ i => cases hu
theorem rd_over {l : List Int} {i : Int} (h : (l.length : Int) ≤ i) : rd l i = 0 := by simp [rd, List.getD, List.getElem?_eq_none (show l.length ≤ i.toNat by omega)]
def u64s (l : List Int) : Prop := ∀ x ∈ l, 0 ≤ x ∧ x < 18446744073709551616
instance (l : List Int) : Decidable (u64s l) := inferInstanceAs (Decidable (∀ x ∈ l, _))
theorem u64s_rd {l : List Int} (h : u64s l) (i : Int) : 0 ≤ rd l i ∧ rd l i < 18446744073709551616 := by
  unfold rd
  by_cases hi : i.toNat < l.length
  · have := h _ (List.getElem_mem hi)
    simpa [List.getD, hi] using this
  · simp [List.getD, List.getElem?_eq_none (show l.length ≤ i.toNat by omega)]

end Go.Proofs.Ytiiajenhjamjdaa.F
