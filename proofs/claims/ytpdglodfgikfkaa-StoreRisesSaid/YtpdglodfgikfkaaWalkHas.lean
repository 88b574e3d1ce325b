/- Has. Conditions: none beyond the statement's own. -/
import Derived.Test.YtpdglodfgikfkaaWalkSt
import Derived.Test.YtpdglodfgikfkaaArgs
import Derived.Deep.QuietTactic
import Derived.BigQuiet
import Derived.Lib.QuietBelow
import Derived.Outline
import Derived.Deep.RegionHeld3
import Derived.Deep.CutRange
namespace Go.Proofs.Ytpdglodfgikfkaa.Walk
open Go.RowKit Go.Proofs.Ytpdglodfgikfkaa.F Go.Proofs.YtpdglodfgikfkaaW.PrintWords Go.Proofs.YtpdglodfgikfkaaW.PrintLast Go.Proofs.YtpdglodfgikfkaaW.PrintMore Go.Proofs.Ytpdglodfgikfkaa.Open
open Go.Sort (grow)
attribute [local go_sem] max2_int min2_int max_two min_two max_three min_three max_four min_four
set_option linter.unusedVariables false
set_option linter.unusedSimpArgs false

/-! ### Has -/
abbrev kD : Kd S29 := k29
def ix (x : S29) : Ix := (x.f0, x.f1)
theorem zeroP (w : World) : (zeroValue 30).run Try.prog w = .ok (.slice none 0 0) w := by kernel_rfl
def getV (E : Es) (x : Ix) : Value := match mlk E x with | some p => p.v | none => .slice none 0 0
def getX (E : Es) (x : Ix) : List Int := match mlk E x with | some p => p.x | none => []
theorem look_id {w : World} {mb : Nat} {E : Es} (h : MapE Try.prog tID fkD fvP w mb E) {x : Ix} (hx : idr x) : (Instr.lookup tPM (.map (some mb)) (.agg #[.int .u8 x.1, .int .u64 x.2]) true).run Try.prog w = .ok (.tuple #[getV E x, .bool (hasE E x)]) w := by
  obtain ⟨l, hl⟩ := id_key hx
  have := h.look true lawID fkD_inj Try.underlying54 (zeroP w) (x := x) hl
  rw [show fkD x = .agg #[.int .u8 x.1, .int .u64 x.2] from rfl] at this
  rw [this]
  unfold getV hasE
  cases mlk E x <;> rfl
/-- A row of ids. -/
theorem id_at {w : World} {A : Option Addr} {l : List S29} (h : Kd.C kD w A l.length l) {i : Nat} {x : S29} (hx : l[i]? = some x) : ∃ ad, A = some ad ∧ w.cell? (ad.add (i * 2)) = some (.int .u8 x.f0) ∧ w.cell? ⟨(ad.add (i * 2)).block, (ad.add (i * 2)).off + 1, none⟩ = some (.int .u64 x.f1) := by
  have hi : i < l.length := (List.getElem?_eq_some_iff.1 hx).1
  obtain ⟨ad, cc, e, hcl, hK, hcc⟩ := Kd.C_get h z29 (i : Int) (by omega) (by omega)
  have e2 : l.getD ((i : Int)).toNat z29 = x := by simp [List.getD, hx]
  rw [e2] at hK
  obtain rfl := k29_open hK
  rw [Int.toNat_natCast] at hcc
  exact ⟨ad, e, hcc 0 _ rfl, by rw [← add_field _ _ 1 (by omega)]; exact hcc 1 _ rfl⟩
theorem lit_ids {w : World} {g t : Nat} {x : Ix} (hb : w.heap[g]? = some (.cells #[.int .u8 x.1, .int .u64 x.2] t (0, 0))) : Kd.C kD w (some ⟨g, 0, none⟩) 1 [⟨x.1, x.2⟩] := by
  refine ⟨rfl, by omega, fun _ => ⟨_, rfl, fun j p hj => ?_⟩⟩
  obtain ⟨hl, rfl⟩ := List.getElem?_eq_some_iff.1 hj
  obtain rfl : j = 0 := by simpa using hl
  refine ⟨[.int .u8 x.1, .int .u64 x.2], rfl, k29_mk w _, fun i u hu => ?_⟩
  rw [add_plain]
  rw [show 0 * kD.sz + i = i by omega, blk_cell hb, List.getElem?_toArray]
  exact hu
def allE (E : Es) (l : List S29) : Bool := l.all fun x => hasE E (ix x)
theorem allE_take {E : Es} {l : List S29} {i : Nat} {x : S29} (hx : l[i]? = some x) : allE E (l.take (i + 1)) = (allE E (l.take i) && hasE E (ix x)) := by
  unfold allE
  rw [List.take_add_one, hx, Option.toList_some, List.all_append]
  simp
theorem allE_miss {E : Es} {l : List S29} {i : Nat} {x : S29} (hx : l[i]? = some x) (h : hasE E (ix x) = false) : allE E l = false := by
  unfold allE
  rw [List.all_eq_false]
  exact ⟨x, List.mem_of_getElem? hx, by rw [h]; decide⟩
section
variable {w : World} {S : Nat → Prop} {g mb fb hb n : Nat} {room : Int} {E : Es} {F H : List Int}
set_option maxHeartbeats 1000000 in
theorem Has_calls {A : Option Addr} {c : Nat} (h : St w S g mb fb hb n room E F H) (l : List S29) (hr : Kd.C kD w A l.length l) (hl : ∀ x ∈ l, idr (ix x)) :
    Calls Try.prog 12 #[.pointer (some ⟨g, 0, none⟩), .slice A l.length c] w fun e w' => e = .returned (.bool (allE E l)) ∧ Below w.heap.size w w' := by
  have HS := Aside0.mk h
  have HR := Aside0.mk hr
  have HL := Aside0.mk hl
  have B0 := Aside0.mk (Below.refl w.heap.size w)
  have hll := hr.2.1
  clear h hr hl
  go_enter Try.func12, Try.ntmps12
  go_wp2_with fail
  go_loopg [11] l.length (fun gg s11 wr => ∃ i : Nat, s11 = .int .i64 i ∧ i ≤ l.length ∧ l.length - i ≤ gg ∧ Aside0 (allE E (l.take i) = true) ∧ Aside0 (Below w.heap.size w wr))
  case atStart => exact ⟨0, rfl, Nat.zero_le _, by omega, ⟨rfl⟩, B0⟩
  case round =>
    clear B0
    obtain ⟨i, rfl, hi, hgg, AR, BR⟩ := hrel
    by_cases hlt : i < l.length
    · have hltz : (i : Int) < (l.length : Int) := by omega
      have HX : Aside0 (l[i]? = some l[i]) := ⟨List.getElem?_eq_getElem hlt⟩
      have WX := Aside0.mk (HL.out _ (List.mem_of_getElem? HX.out))
      obtain ⟨ad, e, k0, k1⟩ := id_at HR.out HX.out
      cases e
      have k0 := pw_cell_below BR.out k0
      have k1 := pw_cell_below BR.out k1
      have hwi : IntKind.i64.wrap ((i : Int) + 1) = ((i + 1 : Nat) : Int) := by rw [IntKind.wrap_i64]; omega
      generalize l[i] = x at HX WX k0 k1
      go_upto_region 6 with (fail)
      have BX : Aside0 ((wr.alloc (.cells #[.int .u8 x.f0, .int .u64 x.f1] tID)).heap[wr.heap.size]? = some (.cells #[.int .u8 x.f0, .int .u64 x.f1] tID (0, 0))) := ⟨blk_new wr _⟩
      have BQ := Aside0.mk (below_alloc BR.out (.cells #[.int .u8 x.f0, .int .u64 x.f1] tID))
      generalize wr.alloc (.cells #[.int .u8 x.f0, .int .u64 x.f1] tID) = wq at BX BQ ⊢
      have q0 : wq.cell? ⟨wr.heap.size, 0, none⟩ = some (.int .u8 x.f0) := (blk_cell BX.out 0).trans rfl
      have q1 : wq.cell? ⟨wr.heap.size, 1, none⟩ = some (.int .u64 x.f1) := (blk_cell BX.out 1).trans rfl
      have c2 := (HS.out.below BQ.out).c2
      have hu := Try.underlying29
      have LK : (Instr.lookup tPM (.map (some mb)) (.agg #[.int .u8 x.f0, .int .u64 x.f1]) true).run Try.prog wq.drew = .ok (.tuple #[getV E (ix x), .bool (hasE E (ix x))]) wq.drew := look_id ((HS.out.below (below_drew BQ.out)).map) WX.out
      clear k0 k1
      cases hh : hasE E (ix x) with
      | true =>
        have AR2 : Aside0 (allE E (l.take (i + 1)) = true) := ⟨by rw [allE_take HX.out, AR.out, hh]; rfl⟩
        rw [hh] at LK
        clear hh
        go_region_held3 (fun w' => w'.cell? ⟨wr.heap.size, 0, none⟩ = some (.int .u8 x.f0) ∧ w'.cell? ⟨wr.heap.size, 1, none⟩ = some (.int .u64 x.f1) ∧ w'.cell? ⟨g, 2, none⟩ = some (.map (some mb)) ∧ (Instr.lookup tPM (.map (some mb)) (.agg #[.int .u8 x.f0, .int .u64 x.f1]) true).run Try.prog w' = .ok (.tuple #[getV E (ix x), .bool true]) w') (go_keep) (fail)
        have B7 := Aside0.mk (below_drew BQ.out)
        go_wp2_with fail
        go_roundg (l.length - (i + 1))
        case measure => omega
        case rel => exact ⟨i + 1, by go_num, by omega, by omega, AR2, B7⟩
      | false =>
        have AF := Aside0.mk (allE_miss HX.out hh)
        rw [hh] at LK
        clear hh
        go_region_held3 (fun w' => w'.cell? ⟨wr.heap.size, 0, none⟩ = some (.int .u8 x.f0) ∧ w'.cell? ⟨wr.heap.size, 1, none⟩ = some (.int .u64 x.f1) ∧ w'.cell? ⟨g, 2, none⟩ = some (.map (some mb)) ∧ (Instr.lookup tPM (.map (some mb)) (.agg #[.int .u8 x.f0, .int .u64 x.f1]) true).run Try.prog w' = .ok (.tuple #[getV E (ix x), .bool false]) w') (go_keep) (fail)
        have B7 := Aside0.mk (below_drew BQ.out)
        go_wp2_with fail
        go_ret
        exact ⟨congrArg (fun z : Bool => Ending.returned (.bool z)) AF.out.symm, B7.out⟩
    · obtain rfl : i = l.length := by omega
      have hltz : ¬ (l.length : Int) < (l.length : Int) := by omega
      rw [List.take_length] at AR
      go_wp2_with fail
      go_ret
      exact ⟨congrArg (fun z : Bool => Ending.returned (.bool z)) AR.out.symm, BR.out⟩
/-- One id is asked for. -/
theorem Has1_calls (h : St w S g mb fb hb n room E F H) {x : Ix} (hx : idr x) {b t : Nat} (hb' : w.heap[b]? = some (.cells #[.int .u8 x.1, .int .u64 x.2] t (0, 0))) :
    Calls Try.prog 12 #[.pointer (some ⟨g, 0, none⟩), .slice (some ⟨b, 0, none⟩) 1 1] w fun e w' => e = .returned (.bool (hasE E x)) ∧ Below w.heap.size w w' := by
  have := Has_calls (c := 1) h [⟨x.1, x.2⟩] (lit_ids hb') (fun y hy => by rw [List.mem_singleton.1 hy]; exact hx)
  rwa [show allE E [⟨x.1, x.2⟩] = hasE E x by simp [allE, ix]] at this
end

end Go.Proofs.Ytpdglodfgikfkaa.Walk
