/- What is proved: the Go functions that the law reaches come to what the Lean functions beside them tell, and (in the text of the law) the given statement follows. Conditions: none beyond each theorem's own. Written by a program (a turned copy of the kit's print.py), some walks by hand. -/
import Derived.Test.YtemgfogpeogdeaaProg
import Derived.Below
import Derived.Deep.Draws
import Derived.Deep.AppendLies
import Derived.Maps.AppendAt
import Derived.OwnWalk
import Derived.Laws.BytesArg
import Derived.Laws.MakeOwn
import Derived.Laws.OwnMore
import Derived.Deep.OwnRows
import Derived.Tactics
import Derived.Lib.ConvBytes
import Derived.Laws.Slices
import Derived.WalkKit
import Derived.KernelRfl
import Derived.RowKit3
import Derived.Deep.LoopGhost
import Derived.Deep.QuietTactic
import Derived.BigQuiet
import Derived.WideLaws
import Derived.Deep.DeepCutAuto
import Derived.Deep.CutBlock
import Derived.Deep.RegionHeld3
import Derived.Laws.Rows
import Derived.Lib.AppendStr
import Derived.ArgAppend
import Derived.Laws.IdiomCopy
import Derived.OrdersHeld
import Derived.Laws.BitsLemmas
import Derived.RowKit
import Derived.Lib.SliceRun
import Derived.Lib.QuietBelow
import Derived.Test.YtemgfogpeogdeaaWWords
import Derived.Test.YtemgfogpeogdeaaWLast
import Derived.Test.YtemgfogpeogdeaaWTab
import Derived.Test.YtemgfogpeogdeaaWFour
import Derived.Test.YtemgfogpeogdeaaWQPut
import Derived.Test.YtemgfogpeogdeaaWApart
import Derived.Test.YtemgfogpeogdeaaWArr
import Derived.Test.YtemgfogpeogdeaaWZeros
import Derived.Test.YtemgfogpeogdeaaWFoot
import Derived.Test.YtemgfogpeogdeaaWKept
import Derived.Test.YtemgfogpeogdeaaWShare
import Derived.Test.YtemgfogpeogdeaaWN
import Derived.Test.YtemgfogpeogdeaaWFootNe
import Derived.Test.YtemgfogpeogdeaaWAt
import Derived.Test.YtemgfogpeogdeaaWEqStruct
import Derived.Test.YtemgfogpeogdeaaWRepsOne
import Derived.Test.YtemgfogpeogdeaaWInv
import Derived.Test.YtemgfogpeogdeaaWInvWords
import Derived.Test.YtemgfogpeogdeaaWGuard
import Derived.Test.YtemgfogpeogdeaaWNEv
import Derived.Test.YtemgfogpeogdeaaWMore
namespace Go.Proofs.Ytemgfogpeogdeaa.F
open Go.RowKit Go.Proofs.YtemgfogpeogdeaaW.PrintWords Go.Proofs.YtemgfogpeogdeaaW.PrintLast Go.Proofs.YtemgfogpeogdeaaW.PrintMore
attribute [local go_sem] max2_int min2_int max_two min_two max_three min_three max_four min_four   -- for this text's walks alone
set_option linter.unusedVariables false
set_option linter.unusedSimpArgs false



def errW : Option Int → Value
  | none => .nilIface
  | some c => .iface 0 (.int .i64 c)
theorem errW_none : errW none = .nilIface := rfl
theorem errW_some (c : Int) : errW (some c) = .iface 0 (.int .i64 c) := rfl

theorem info5 : (Try.prog.info? 5).map (fun i => (i.zero, i.size, i.bytes)) = some (some (.int .u8 0), 1, 1) := by kernel_rfl
theorem info48 : (Try.prog.info? 48).map (fun i => (i.zero, i.size, i.bytes)) = some (some (.agg #[(.string ⟨#[]⟩), (.bool false)]), 2, 24) := by kernel_rfl
-- the values' own types
def rd_L1 (xs : List (List Int)) (i : Int) : (List Int) := xs.getD i.toNat ([] : List Int)
theorem at_L1 {w : World} {A : Option Addr} {n : Nat} {xs : List (List Int)} (h : Kd.C (Kd.slice 5 (Kd.int .u8)) w A n xs) (i : Int) (h0 : 0 ≤ i) (h1 : i < n) : ∃ ad A0 c0, A = some ad ∧ w.cell? (ad.add i.toNat) = some (.slice A0 (rd_L1 xs i).length c0) ∧ (rd_L1 xs i).length ≤ c0 ∧ (Kd.int .u8).C w A0 (rd_L1 xs i).length (rd_L1 xs i) := by
  obtain ⟨ad, c, e, _, hK, hc0⟩ := Kd.C_get h ([] : List Int) i h0 h1
  have hc : ∀ j u, c[j]? = some u → w.cell? (ad.add (i.toNat * 1 + j)) = some u := hc0
  obtain ⟨A0, c0, rfl, l0, g0⟩ := hK
  exact ⟨ad, A0, c0, e, by have hq := hc 0 _ rfl; rwa [Nat.mul_one, Nat.add_zero] at hq, l0, g0⟩

/-! #### struct type 57 -/
structure S57 where
  f0 : (List Int)
  f1 : Bool
def z57 : S57 := ⟨([] : List Int), false⟩
def k57 : Kd S57 := Kd.iso (Kd.pair (Kd.slice 5 (Kd.int .u8)) Kd.bool) (fun x : S57 => (x.f0, x.f1))
theorem k57_open {w : World} {x : S57} {cs : List Value} (h : k57.K w x cs) : ∃ A0 c0, cs = [.slice A0 x.f0.length c0, .bool x.f1] ∧ x.f0.length ≤ c0 ∧ (Kd.int .u8).C w A0 x.f0.length x.f0 := by
  obtain ⟨_, _, rfl, ⟨A0, c0, rfl, l0, g0⟩, rfl⟩ := h
  exact ⟨A0, c0, rfl, l0, g0⟩
theorem k57_openM {w : World} {base : Nat} {ok : Nat → Prop} {x : S57} {cs : List Value} (h : k57.M w base ok x cs) : ∃ v0, cs = [v0, .bool x.f1] ∧ (Kd.int .u8).R 5 w base ok v0 x.f0 := by
  obtain ⟨_, _, rfl, ⟨v0, rfl, g0⟩, rfl⟩ := h
  exact ⟨v0, rfl, g0⟩
theorem k57_mk (w : World) (x : S57) {A0 : Option Addr} {c0 : Nat} (l0 : x.f0.length ≤ c0) (g0 : (Kd.int .u8).C w A0 x.f0.length x.f0) : k57.K w x [.slice A0 x.f0.length c0, .bool x.f1] := ⟨[.slice A0 x.f0.length c0], [.bool x.f1], rfl, ⟨A0, c0, rfl, l0, g0⟩, rfl⟩
theorem k57_mkM (w : World) (base : Nat) (ok : Nat → Prop) (x : S57) {v0 : Value} (g0 : (Kd.int .u8).R 5 w base ok v0 x.f0) : k57.M w base ok x [v0, .bool x.f1] := ⟨[v0], [.bool x.f1], rfl, ⟨v0, rfl, g0⟩, rfl⟩
def rd_T57 (xs : List S57) (i : Int) : S57 := xs.getD i.toNat z57
theorem at_T57 {w : World} {A : Option Addr} {n : Nat} {xs : List S57} (h : Kd.C k57 w A n xs) (i : Int) (h0 : 0 ≤ i) (h1 : i < n) : ∃ ad A0 c0, A = some ad ∧ w.cell? (ad.add (i.toNat * 2)) = some (.slice A0 (rd_T57 xs i).f0.length c0) ∧ w.cell? ⟨(ad.add (i.toNat * 2)).block, (ad.add (i.toNat * 2)).off + 1, none⟩ = some (.bool (rd_T57 xs i).f1) ∧ (rd_T57 xs i).f0.length ≤ c0 ∧ (Kd.int .u8).C w A0 (rd_T57 xs i).f0.length (rd_T57 xs i).f0 := by
  obtain ⟨ad, c, e, _, hK, hc0⟩ := Kd.C_get h z57 i h0 h1
  have hc : ∀ j u, c[j]? = some u → w.cell? (ad.add (i.toNat * 2 + j)) = some u := hc0
  obtain ⟨A0, c0, rfl, l0, g0⟩ := k57_open hK
  exact ⟨ad, A0, c0, e, hc 0 _ rfl, by rw [← add_field _ _ 1 (by omega)]; exact hc 1 _ rfl, l0, g0⟩

/-! #### struct type 48 -/
structure S48 where
  f0 : ByteArray
  f1 : Bool
def z48 : S48 := ⟨(⟨#[]⟩ : ByteArray), false⟩
def k48 : Kd S48 := Kd.iso (Kd.pair Kd.string Kd.bool) (fun x : S48 => (x.f0, x.f1))
theorem k48_open {w : World} {x : S48} {cs : List Value} (h : k48.K w x cs) : cs = [.string x.f0, .bool x.f1] := by
  obtain ⟨_, _, rfl, rfl, rfl⟩ := h
  exact rfl
theorem k48_openM {w : World} {base : Nat} {ok : Nat → Prop} {x : S48} {cs : List Value} (h : k48.M w base ok x cs) : cs = [.string x.f0, .bool x.f1] := by
  obtain ⟨_, _, rfl, rfl, rfl⟩ := h
  exact rfl
theorem k48_mk (w : World) (x : S48)  : k48.K w x [.string x.f0, .bool x.f1] := ⟨[.string x.f0], [.bool x.f1], rfl, rfl, rfl⟩
theorem k48_mkM (w : World) (base : Nat) (ok : Nat → Prop) (x : S48)  : k48.M w base ok x [.string x.f0, .bool x.f1] := ⟨[.string x.f0], [.bool x.f1], rfl, rfl, rfl⟩
def rd_T48 (xs : List S48) (i : Int) : S48 := xs.getD i.toNat z48
theorem at_T48 {w : World} {A : Option Addr} {n : Nat} {xs : List S48} (h : Kd.C k48 w A n xs) (i : Int) (h0 : 0 ≤ i) (h1 : i < n) : ∃ ad , A = some ad ∧ w.cell? (ad.add (i.toNat * 2)) = some (.string (rd_T48 xs i).f0) ∧ w.cell? ⟨(ad.add (i.toNat * 2)).block, (ad.add (i.toNat * 2)).off + 1, none⟩ = some (.bool (rd_T48 xs i).f1) := by
  obtain ⟨ad, c, e, _, hK, hc0⟩ := Kd.C_get h z48 i h0 h1
  have hc : ∀ j u, c[j]? = some u → w.cell? (ad.add (i.toNat * 2 + j)) = some u := hc0
  obtain rfl := k48_open hK
  exact ⟨ad, e, hc 0 _ rfl, by rw [← add_field _ _ 1 (by omega)]; exact hc 1 _ rfl⟩

def rd_L7 (xs : List (List (List Int))) (i : Int) : (List (List Int)) := xs.getD i.toNat ([] : List (List Int))
theorem at_L7 {w : World} {A : Option Addr} {n : Nat} {xs : List (List (List Int))} (h : Kd.C (Kd.slice 24 (Kd.slice 5 (Kd.int .u8))) w A n xs) (i : Int) (h0 : 0 ≤ i) (h1 : i < n) : ∃ ad A0 c0, A = some ad ∧ w.cell? (ad.add i.toNat) = some (.slice A0 (rd_L7 xs i).length c0) ∧ (rd_L7 xs i).length ≤ c0 ∧ (Kd.slice 5 (Kd.int .u8)).C w A0 (rd_L7 xs i).length (rd_L7 xs i) := by
  obtain ⟨ad, c, e, _, hK, hc0⟩ := Kd.C_get h ([] : List (List Int)) i h0 h1
  have hc : ∀ j u, c[j]? = some u → w.cell? (ad.add (i.toNat * 1 + j)) = some u := hc0
  obtain ⟨A0, c0, rfl, l0, g0⟩ := hK
  exact ⟨ad, A0, c0, e, by have hq := hc 0 _ rfl; rwa [Nat.mul_one, Nat.add_zero] at hq, l0, g0⟩

/-! #### struct type 36 -/
structure S36 where
  f0 : Int
  f1 : (List Int)
  f2 : Int
  f3 : Int
  f4 : Int
def z36 : S36 := ⟨(0 : Int), ([] : List Int), (0 : Int), (0 : Int), (0 : Int)⟩
def k36 : Kd S36 := Kd.iso (Kd.pair (Kd.int .i64) (Kd.pair (Kd.slice 5 (Kd.int .u8)) (Kd.pair (Kd.int .i64) (Kd.pair (Kd.int .i64) (Kd.int .u32))))) (fun x : S36 => (x.f0, x.f1, x.f2, x.f3, x.f4))
theorem k36_open {w : World} {x : S36} {cs : List Value} (h : k36.K w x cs) : ∃ A1 c1, cs = [.int .i64 x.f0, .slice A1 x.f1.length c1, .int .i64 x.f2, .int .i64 x.f3, .int .u32 x.f4] ∧ x.f1.length ≤ c1 ∧ (Kd.int .u8).C w A1 x.f1.length x.f1 := by
  obtain ⟨_, _, rfl, rfl, ⟨_, _, rfl, ⟨A1, c1, rfl, l1, g1⟩, ⟨_, _, rfl, rfl, ⟨_, _, rfl, rfl, rfl⟩⟩⟩⟩ := h
  exact ⟨A1, c1, rfl, l1, g1⟩
theorem k36_openM {w : World} {base : Nat} {ok : Nat → Prop} {x : S36} {cs : List Value} (h : k36.M w base ok x cs) : ∃ v1, cs = [.int .i64 x.f0, v1, .int .i64 x.f2, .int .i64 x.f3, .int .u32 x.f4] ∧ (Kd.int .u8).R 5 w base ok v1 x.f1 := by
  obtain ⟨_, _, rfl, rfl, ⟨_, _, rfl, ⟨v1, rfl, g1⟩, ⟨_, _, rfl, rfl, ⟨_, _, rfl, rfl, rfl⟩⟩⟩⟩ := h
  exact ⟨v1, rfl, g1⟩
theorem k36_mk (w : World) (x : S36) {A1 : Option Addr} {c1 : Nat} (l1 : x.f1.length ≤ c1) (g1 : (Kd.int .u8).C w A1 x.f1.length x.f1) : k36.K w x [.int .i64 x.f0, .slice A1 x.f1.length c1, .int .i64 x.f2, .int .i64 x.f3, .int .u32 x.f4] := ⟨[.int .i64 x.f0], [.slice A1 x.f1.length c1, .int .i64 x.f2, .int .i64 x.f3, .int .u32 x.f4], rfl, rfl, ⟨[.slice A1 x.f1.length c1], [.int .i64 x.f2, .int .i64 x.f3, .int .u32 x.f4], rfl, ⟨A1, c1, rfl, l1, g1⟩, ⟨[.int .i64 x.f2], [.int .i64 x.f3, .int .u32 x.f4], rfl, rfl, ⟨[.int .i64 x.f3], [.int .u32 x.f4], rfl, rfl, rfl⟩⟩⟩⟩
theorem k36_mkM (w : World) (base : Nat) (ok : Nat → Prop) (x : S36) {v1 : Value} (g1 : (Kd.int .u8).R 5 w base ok v1 x.f1) : k36.M w base ok x [.int .i64 x.f0, v1, .int .i64 x.f2, .int .i64 x.f3, .int .u32 x.f4] := ⟨[.int .i64 x.f0], [v1, .int .i64 x.f2, .int .i64 x.f3, .int .u32 x.f4], rfl, rfl, ⟨[v1], [.int .i64 x.f2, .int .i64 x.f3, .int .u32 x.f4], rfl, ⟨v1, rfl, g1⟩, ⟨[.int .i64 x.f2], [.int .i64 x.f3, .int .u32 x.f4], rfl, rfl, ⟨[.int .i64 x.f3], [.int .u32 x.f4], rfl, rfl, rfl⟩⟩⟩⟩
def rd_T36 (xs : List S36) (i : Int) : S36 := xs.getD i.toNat z36
theorem at_T36 {w : World} {A : Option Addr} {n : Nat} {xs : List S36} (h : Kd.C k36 w A n xs) (i : Int) (h0 : 0 ≤ i) (h1 : i < n) : ∃ ad A1 c1, A = some ad ∧ w.cell? (ad.add (i.toNat * 5)) = some (.int .i64 (rd_T36 xs i).f0) ∧ w.cell? ⟨(ad.add (i.toNat * 5)).block, (ad.add (i.toNat * 5)).off + 1, none⟩ = some (.slice A1 (rd_T36 xs i).f1.length c1) ∧ w.cell? ⟨(ad.add (i.toNat * 5)).block, (ad.add (i.toNat * 5)).off + 2, none⟩ = some (.int .i64 (rd_T36 xs i).f2) ∧ w.cell? ⟨(ad.add (i.toNat * 5)).block, (ad.add (i.toNat * 5)).off + 3, none⟩ = some (.int .i64 (rd_T36 xs i).f3) ∧ w.cell? ⟨(ad.add (i.toNat * 5)).block, (ad.add (i.toNat * 5)).off + 4, none⟩ = some (.int .u32 (rd_T36 xs i).f4) ∧ (rd_T36 xs i).f1.length ≤ c1 ∧ (Kd.int .u8).C w A1 (rd_T36 xs i).f1.length (rd_T36 xs i).f1 := by
  obtain ⟨ad, c, e, _, hK, hc0⟩ := Kd.C_get h z36 i h0 h1
  have hc : ∀ j u, c[j]? = some u → w.cell? (ad.add (i.toNat * 5 + j)) = some u := hc0
  obtain ⟨A1, c1, rfl, l1, g1⟩ := k36_open hK
  exact ⟨ad, A1, c1, e, hc 0 _ rfl, by rw [← add_field _ _ 1 (by omega)]; exact hc 1 _ rfl, by rw [← add_field _ _ 2 (by omega)]; exact hc 2 _ rfl, by rw [← add_field _ _ 3 (by omega)]; exact hc 3 _ rfl, by rw [← add_field _ _ 4 (by omega)]; exact hc 4 _ rfl, l1, g1⟩

def rd_L10 (xs : List (List S36)) (i : Int) : (List S36) := xs.getD i.toNat ([] : List S36)
theorem at_L10 {w : World} {A : Option Addr} {n : Nat} {xs : List (List S36)} (h : Kd.C (Kd.slice 36 k36) w A n xs) (i : Int) (h0 : 0 ≤ i) (h1 : i < n) : ∃ ad A0 c0, A = some ad ∧ w.cell? (ad.add i.toNat) = some (.slice A0 (rd_L10 xs i).length c0) ∧ (rd_L10 xs i).length ≤ c0 ∧ k36.C w A0 (rd_L10 xs i).length (rd_L10 xs i) := by
  obtain ⟨ad, c, e, _, hK, hc0⟩ := Kd.C_get h ([] : List S36) i h0 h1
  have hc : ∀ j u, c[j]? = some u → w.cell? (ad.add (i.toNat * 1 + j)) = some u := hc0
  obtain ⟨A0, c0, rfl, l0, g0⟩ := hK
  exact ⟨ad, A0, c0, e, by have hq := hc 0 _ rfl; rwa [Nat.mul_one, Nat.add_zero] at hq, l0, g0⟩

/-! ### small words of my own -/
section
variable {P : Program} {ops : Array Oper} {Q : Exit → Act → World → Prop} {md : Region.Mode}
/-- A region of open order is walked on under a stronger class of worlds, which holds now. -/
theorem restart_ {S S' : World → Prop} (himp : ∀ w, S' w → S w) : ∀ {fuel : Nat} {l : Array Bool} {a : Act} {w : World}, S' w → wpAnyLast P md ops Q S' [] fuel l a w → wpAnyLast P md ops Q S [] fuel l a w
  | 0, _, _, _, _, h => h
  | _ + 1, _, _, _, hS, h => ⟨h.1, fun i hi => wpOp_mono (fun _ _ h' => ⟨fun _ _ => himp _ (h'.1 (by simp) hS), restart_ himp (h'.1 (by simp) hS) h'.2⟩) (h.2 i hi)⟩
end
/-- An owned row that isn't empty begins at its block's head. -/
theorem R_head {α : Type} {d : Kd α} {e : Nat} {w : World} {base : Nat} {ok : Nat → Prop} {v : Value} {xs : List α} (h : d.R e w base ok v xs) (hn : 0 < xs.length) : ∃ g c, v = .slice (some ⟨g, 0, none⟩) xs.length c ∧ xs.length ≤ c ∧ base ≤ g ∧ g < w.heap.size := by
  obtain ⟨inner, ho⟩ := Kd.R_own h
  rcases ho.2 with ⟨_, h0⟩ | ⟨g, cap, cur, rfl, hb, hg, hl, _⟩
  · omega
  · exact ⟨g, cap, rfl, hl, hb, (Array.getElem?_eq_some_iff.1 hg).1⟩
/-- An element of a row of rows. -/
theorem at_row {α : Type} {e : Nat} {d : Kd α} {w : World} {A : Option Addr} {n : Nat} {xs : List (List α)} (h : Kd.C (Kd.slice e d) w A n xs) (i : Nat) (hi : i < n) : ∃ ad A0 c0, A = some ad ∧ w.cell? (ad.add i) = some (.slice A0 (xs.getD i []).length c0) ∧ (xs.getD i []).length ≤ c0 ∧ d.C w A0 (xs.getD i []).length (xs.getD i []) := by
  obtain ⟨ad, c, e, _, hK, hc0⟩ := Kd.C_get h ([] : List α) (i : Int) (by omega) (by omega)
  have hc : ∀ j u, c[j]? = some u → w.cell? (ad.add ((i : Int).toNat * 1 + j)) = some u := hc0
  obtain ⟨A0, c0, rfl, l0, g0⟩ := hK
  exact ⟨ad, A0, c0, e, by have hq := hc 0 _ rfl; simpa using hq, l0, g0⟩
/-- A row cut: from m on; up to m. -/
theorem kcut_from {P : Program} {α : Type} (d : Kd α) (t e : TypeId) (kl : IntKind) (ht : P.underlying t = some (.slice e)) (hinfo : (P.info? e).map (fun i => i.size) = some d.sz) (A : Option Addr) (c : Nat) (xs : List α) (m : Nat) (hm : m ≤ xs.length) (hc : xs.length ≤ c) :
    ∃ A' : Option Addr, (∀ W : World, (Instr.slice t (.slice A xs.length c) (some (.int kl (m : Int))) none none).run P W = .ok (.slice A' (xs.drop m).length (c - m)) W) ∧
      (∀ w, d.C w A xs.length xs → d.C w A' (xs.drop m).length (xs.drop m)) ∧ (xs.drop m).length ≤ c - m := by
  obtain ⟨i, hi, hsz⟩ := Option.map_eq_some_iff.1 hinfo
  have hl : (xs.drop m).length = xs.length - m := List.length_drop
  refine ⟨if c = m then A else A.map (·.add (m * d.sz)), fun W => ?_, fun w h => Kd.C_drop h hm hc, by rw [hl]; omega⟩
  have hel : P.elem t = e := by simp [Program.elem, ht]
  have hu : P.underlying t = some (.slice (P.elem t)) := by rw [hel]; exact ht
  rw [run_slice_l W t A xs.length c hu kl (m : Int) (Int.natCast_nonneg _) (by omega), hel, hl]
  simp [sizeOf, typeInfo, hi, hsz, sliced, Result.andThen]
theorem kcut_to {P : Program} {α : Type} (d : Kd α) (t e : TypeId) (kl : IntKind) (ht : P.underlying t = some (.slice e)) (hinfo : (P.info? e).map (fun i => i.size) = some d.sz) (A : Option Addr) (c : Nat) (xs : List α) (m : Nat) (hm : m ≤ xs.length) (hc : xs.length ≤ c) :
    ∃ A' : Option Addr, (∀ W : World, (Instr.slice t (.slice A xs.length c) none (some (.int kl (m : Int))) none).run P W = .ok (.slice A' (xs.take m).length c) W) ∧
      (∀ w, d.C w A xs.length xs → d.C w A' (xs.take m).length (xs.take m)) ∧ (xs.take m).length ≤ c := by
  obtain ⟨i, hi, hsz⟩ := Option.map_eq_some_iff.1 hinfo
  have hl : (xs.take m).length = m := by rw [List.length_take]; omega
  refine ⟨A, fun W => ?_, fun w h => Kd.C_take h hm, by rw [hl]; omega⟩
  have hel : P.elem t = e := by simp [Program.elem, ht]
  have hu : P.underlying t = some (.slice (P.elem t)) := by rw [hel]; exact ht
  have ha : (A.map fun x => x.add 0) = A := by cases A <;> simp [Addr.add]
  rw [run_slice_h W t A xs.length c hu kl (m : Int) (Int.natCast_nonneg _) (by omega), hel, hl]
  simp [sizeOf, typeInfo, hi, hsz, sliced, Result.andThen, ha]
/-- A literal row of rows that are only read: its block holds their headers. -/
theorem C_heads {α : Type} {e t : Nat} {d : Kd α} {w : World} {g : Nat} (rows : List (Option Addr × Nat × List α)) (hb : w.heap[g]? = some (.cells (rows.map fun r => Value.slice r.1 r.2.2.length r.2.1).toArray t (0, 0))) (hm : rows.length ≤ 9223372036854775807)
    (h : ∀ r ∈ rows, r.2.2.length ≤ r.2.1 ∧ d.C w r.1 r.2.2.length r.2.2) : (Kd.slice e d).C w (some ⟨g, 0, none⟩) rows.length (rows.map fun r => r.2.2) := by
  refine ⟨by simp, by simpa using hm, fun hn => ⟨_, rfl, fun j p hj => ?_⟩⟩
  rw [List.getElem?_map] at hj
  obtain ⟨r, hr, rfl⟩ := Option.map_eq_some_iff.1 hj
  obtain ⟨h1, h2⟩ := h r (List.mem_of_getElem? hr)
  refine ⟨[.slice r.1 r.2.2.length r.2.1], rfl, ⟨r.1, r.2.1, rfl, h1, h2⟩, fun i u hu => ?_⟩
  cases i with
  | zero =>
    obtain rfl := Option.some.inj hu
    rw [add_plain]
    have hc : w.cell? ⟨g, j, none⟩ = _ := blk_cell hb j
    have e0 : j * (Kd.slice e d).sz + 0 = j := by show j * 1 + 0 = j; omega
    rw [e0, hc]
    simp [hr]
  | succ i => cases hu
theorem rd_over {l : List Int} {i : Int} (h : (l.length : Int) ≤ i) : rd l i = 0 := by simp [rd, List.getD, List.getElem?_eq_none (show l.length ≤ i.toNat by omega)]
def u64s (l : List Int) : Prop := ∀ x ∈ l, 0 ≤ x ∧ x < 18446744073709551616
instance (l : List Int) : Decidable (u64s l) := inferInstanceAs (Decidable (∀ x ∈ l, _))
theorem u64s_rd {l : List Int} (h : u64s l) (i : Int) : 0 ≤ rd l i ∧ rd l i < 18446744073709551616 := by
  unfold rd
  by_cases hi : i.toNat < l.length
  · have := h _ (List.getElem_mem hi)
    simpa [List.getD, hi] using this
  · simp [List.getD, List.getElem?_eq_none (show l.length ≤ i.toNat by omega)]

end Go.Proofs.Ytemgfogpeogdeaa.F
