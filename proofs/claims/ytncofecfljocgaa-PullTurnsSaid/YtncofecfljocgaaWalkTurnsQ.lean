/- What the law of turns plays with, in plain Lean. Conditions: none beyond the statement's own. -/
import Derived.Test.YtncofecfljocgaaWalkTurnsP
import Derived.Test.YtncofecfljocgaaF2
import Derived.Test.YtncofecfljocgaaArgs
import Derived.Deep.QuietTactic
import Derived.BigQuiet
import Derived.Lib.QuietBelow
import Derived.Outline
import Derived.Deep.RegionHeld3
import Derived.Deep.CutRange
namespace Go.Proofs.Ytncofecfljocgaa.Walk
open Go.RowKit Go.Proofs.Ytncofecfljocgaa.F Go.Proofs.YtncofecfljocgaaW.PrintWords Go.Proofs.YtncofecfljocgaaW.PrintLast Go.Proofs.YtncofecfljocgaaW.PrintMore Go.Proofs.Ytncofecfljocgaa.Open
open Go.Sort (grow)
attribute [local go_sem] max2_int min2_int max_two min_two max_three min_three max_four min_four
set_option linter.unusedVariables false
set_option linter.unusedSimpArgs false

/-! ### What the law of turns plays with, in plain Lean -/
def tl (me : Int) (hs : List Bool) (p : Nat) : Bool := hs.getD p false && decide ((p : Int) ≠ me)
def xT (n : Nat) : X := tellX (x0 n) 0 [] [1]
def gT (n : Nat) (me : Int) (hs : List Bool) (i p : Nat) : X := if p < i ∧ tl me hs p = true then xT n else x0 n
def LT (n : Nat) (me : Int) (hs : List Bool) (i : Nat) : List X := (List.range n).map (gT n me hs i)
def HLt (n : Nat) (me : Int) (hs : List Bool) : List Int := ((List.range n).filter (tl me hs)).map fun p : Nat => (p : Int)
theorem LT_zero (n : Nat) (me : Int) (hs : List Bool) : LT n me hs 0 = newL n := by
  unfold LT newL
  apply List.ext_getElem?
  intro j
  rw [List.getElem?_map, List.getElem?_replicate]
  by_cases h : j < n
  · rw [if_pos h, List.getElem?_range h]
    simp [gT]
  · rw [if_neg h, List.getElem?_eq_none (by simp; omega)]
    rfl
theorem LT_no {n : Nat} {me : Int} {hs : List Bool} {i : Nat} (h : tl me hs i = false) : LT n me hs (i + 1) = LT n me hs i := by
  unfold LT
  apply List.map_congr_left
  intro p _
  unfold gT
  by_cases e : p = i
  · subst e
    rw [if_neg (by rw [h]; simp), if_neg (by omega)]
  · by_cases hp : p < i
    · by_cases ht : tl me hs p = true
      · rw [if_pos ⟨by omega, ht⟩, if_pos ⟨hp, ht⟩]
      · rw [if_neg (fun hh => ht hh.2), if_neg (fun hh => ht hh.2)]
    · rw [if_neg (by omega), if_neg (by omega)]
theorem LT_yes {n : Nat} {me : Int} {hs : List Bool} {i : Nat} (hi : i < n) (h : tl me hs i = true) : tellL (LT n me hs i) (i : Int) 0 [] [1] = LT n me hs (i + 1) := by
  have hx : (LT n me hs i)[i]? = some (x0 n) := by
    unfold LT
    rw [List.getElem?_map, List.getElem?_range hi]
    simp [gT]
  have ha : at_ (LT n me hs i) (i : Int) = some (x0 n) := by
    unfold at_
    rw [if_pos (by omega), Int.toNat_natCast, hx]
  unfold tellL
  rw [ha]
  dsimp only
  rw [Int.toNat_natCast]
  apply List.ext_getElem?
  intro j
  rw [List.getElem?_set]
  by_cases e : i = j
  · subst e
    rw [if_pos rfl]
    unfold LT
    rw [List.getElem?_map, List.getElem?_range hi]
    simp [gT, h, hi, xT]
  · rw [if_neg e]
    unfold LT
    rw [List.getElem?_map, List.getElem?_map]
    by_cases hj : j < n
    · rw [List.getElem?_range hj]
      simp only [Option.map_some, Option.some.injEq]
      unfold gT
      by_cases hp : j < i
      · by_cases ht : tl me hs j = true
        · rw [if_pos ⟨hp, ht⟩, if_pos ⟨by omega, ht⟩]
        · rw [if_neg (fun hh => ht hh.2), if_neg (fun hh => ht hh.2)]
      · rw [if_neg (by omega), if_neg (by omega)]
    · rw [List.getElem?_eq_none (by simp; omega)]
      rfl
theorem xT_get {n : Nat} {j : Nat} (hj : j < n) : (xT n).f2.getD j 0 = if j = 0 then 1 else 0 := by
  have h := riseL_get (a := List.replicate n 0) (b := [1]) (j := j) (by simpa using hj)
  show (riseL (List.replicate n 0) [1]).getD j 0 = _
  rw [List.getD_eq_getElem?_getD, h]
  have h0 : rd (List.replicate n 0) (j : Int) = 0 := by
    unfold rd
    rw [Int.toNat_natCast, List.getD_eq_getElem?_getD, List.getElem?_replicate, if_pos hj]
    rfl
  rw [h0]
  by_cases e : j = 0
  · subst e; rfl
  · obtain ⟨j', rfl⟩ : ∃ j', j = j' + 1 := ⟨j - 1, by omega⟩
    rw [if_neg e]
    have h1 : rd [1] ((j' + 1 : Nat) : Int) = 0 := by
      unfold rd
      rw [Int.toNat_natCast]
      rfl
    rw [h1]
    rfl
theorem xT_over {n : Nat} {j : Nat} (hj : n ≤ j) : (xT n).f2.getD j 0 = 0 := by
  show (riseL (List.replicate n 0) [1]).getD j 0 = _
  rw [List.getD_eq_getElem?_getD, List.getElem?_eq_none (by rw [riseL_len]; simpa using hj)]
  rfl
theorem x0_get (n j : Nat) : (x0 n).f2.getD j 0 = 0 := by
  show (List.replicate n (0 : Int)).getD j 0 = 0
  rw [List.getD_eq_getElem?_getD, List.getElem?_replicate]
  split <;> rfl
theorem holdN_map {a b : Int} {g : Nat → X} {t : Nat → Bool} (hg : ∀ p, holdX a b (g p) = t p) : ∀ m k, holdN a b k ((List.range' k m).map g) = ((List.range' k m).filter t).map fun p : Nat => (p : Int)
  | 0, k => rfl
  | m + 1, k => by
    rw [List.range'_succ, List.map_cons, holdN, hg, holdN_map hg m (k + 1), List.filter_cons]
    cases t k <;> simp
theorem holders_none {L : List X} {f s : Int} (h : ∀ x ∈ L, holdX f s x = false) : holders L f s = [] := by
  unfold holders
  split
  · have : ∀ (l : List X) (p : Nat), (∀ x ∈ l, holdX f s x = false) → holdN f s p l = [] := by
      intro l
      induction l with
      | nil => intro p _; rfl
      | cons a l ih =>
        intro p hl
        rw [holdN, hl a List.mem_cons_self, ih (p + 1) (fun x hx => hl x (List.mem_cons_of_mem _ hx))]
        rfl
    exact this L 0 h
  · rfl
theorem gT_mem {n : Nat} {me : Int} {hs : List Bool} {i : Nat} {x : X} (h : x ∈ LT n me hs i) : x = xT n ∨ x = x0 n := by
  unfold LT at h
  obtain ⟨p, _, rfl⟩ := List.mem_map.1 h
  unfold gT
  split
  · exact .inl rfl
  · exact .inr rfl
theorem holders_02 {n : Nat} (hn : 2 ≤ n) (me : Int) (hs : List Bool) (i : Nat) : holders (LT n me hs i) 0 2 = [] := by
  refine holders_none fun x hx => ?_
  rcases gT_mem hx with rfl | rfl
  · unfold holdX
    rw [show (0 : Int).toNat = 0 from rfl, xT_get (by omega)]
    simp
  · unfold holdX
    rw [x0_get]
    simp
theorem holders_f1 {n : Nat} (me : Int) (hs : List Bool) (i : Nat) {f : Int} (hf : 1 ≤ f) : holders (LT n me hs i) f 1 = [] := by
  refine holders_none fun x hx => ?_
  rcases gT_mem hx with rfl | rfl
  · unfold holdX
    by_cases h : f.toNat < n
    · rw [xT_get h, if_neg (by omega)]
      simp
    · rw [xT_over (by omega)]
      simp
  · unfold holdX
    rw [x0_get]
    simp
theorem may_01 {n : Nat} (h : 2 ≤ n) : mayN 0 1 (n : Int) = true := by
  unfold mayN ident_May.f
  have h1 : wrap64 0 < mn (n : Int) 64 := by
    unfold mn
    rw [show wrap64 0 = 0 by unfold wrap64; omega]
    split <;> omega
  rw [if_pos h1]
  rfl
theorem holders_01 {n : Nat} (hn : 2 ≤ n) (me : Int) (hs : List Bool) : holders (LT n me hs n) 0 1 = HLt n me hs := by
  have hl : (LT n me hs n).length = n := by simp [LT]
  unfold holders
  rw [hl, if_pos (may_01 hn)]
  unfold LT HLt
  rw [List.range_eq_range', holdN_map (t := fun p => decide (p < n) && tl me hs p) (fun p => by
    unfold gT
    by_cases hp : p < n ∧ tl me hs p = true
    · rw [if_pos hp]
      unfold holdX
      rw [show (0 : Int).toNat = 0 from rfl, xT_get (by omega), hp.2, decide_eq_true hp.1]
      rfl
    · rw [if_neg hp]
      unfold holdX
      rw [x0_get]
      by_cases h1 : p < n
      · have : tl me hs p = false := by
          cases h2 : tl me hs p with
          | false => rfl
          | true => exact absurd ⟨h1, h2⟩ hp
        rw [this]
        simp
      · rw [decide_eq_false h1]
        simp)]
  congr 1
  apply List.filter_congr
  intro p hp
  have : p < n := by simpa [← List.range_eq_range'] using hp
  simp [this]
theorem HLt_ok {n : Nat} {me : Int} {hs : List Bool} (h1 : 2 ≤ n) (h2 : n ≤ 20) (hm : 0 ≤ me ∧ me < n) : HLok (n : Int) me (HLt n me hs) := by
  refine ⟨by omega, hm, fun q hq => ?_, ?_⟩
  · unfold HLt at hq
    obtain ⟨p, hp, rfl⟩ := List.mem_map.1 hq
    obtain ⟨hp1, hp2⟩ := List.mem_filter.1 hp
    have hpn : p < n := by simpa using hp1
    unfold tl at hp2
    simp only [Bool.and_eq_true, decide_eq_true_eq] at hp2
    exact ⟨by omega, by omega, hp2.2⟩
  · unfold HLt
    exact List.pairwise_map.2 (List.Pairwise.imp (fun h e => h (by omega)) ((List.nodup_range).filter _))
structure PS (n me again : Int) (i : Nat) (now : Int) (p : Pu) : Prop where
  hn : p.n = n
  hme : p.me = me
  hag : p.again = again
  hct : p.count = i
  hla : 0 ≤ p.last ∧ p.last < n
  hw : (p.want = none ∧ p.sender = n - 1) ∨ ∃ t, p.want = some (0, 1, true, t) ∧ t + again = now
theorem hpL_all {n me : Int} {HL : List Int} (ok : HLok n me HL) : hpL n me [] HL = HL := by
  unfold hpL
  rw [List.filter_eq_self]
  intro q hq
  have := ok.mem q hq
  unfold goes
  simp only [List.not_mem_nil, decide_false, Bool.or_false, Bool.not_or, Bool.and_eq_true, Bool.not_eq_true', decide_eq_false_iff_not]
  omega
theorem clN_id {a : Int} (h : 0 ≤ a ∧ a ≤ 1099511627776) : clN a = a := by
  unfold clN
  rw [if_neg (show ¬ 1099511627776 < a by omega)]
  split <;> omega
theorem PS.one {n me again now : Int} {i : Nat} {p : Pu} {H : Int → Int → List Int} {HL : List Int} (h : PS n me again i now p) (ok : HLok n me HL) (hH : H 0 1 = HL) (hp : 0 < HL.length) (hnow : 0 ≤ now ∧ now ≤ 100000000) :
    ∃ y p', (wayL n p.last).find? (fun q => decide (q ∈ HL)) = some y ∧ nextP p now [] [] H = (p', 0, 1, y, true) ∧ p'.n = n ∧ p'.me = me ∧ p'.again = again ∧ p'.count = i + 1 ∧ p'.last = y ∧ p'.want = some (0, 1, true, now) := by
  obtain ⟨q0, hq0⟩ := List.exists_mem_of_length_pos hp
  have hn := ok.rng
  obtain ⟨y, hy, _⟩ := nx_spec (n := n) (me := me) (l := p.last) (P := fun q => decide (q ∈ HL)) ⟨by omega, by omega, h.hla.1, h.hla.2⟩ ok.mer (fun q hq => ⟨(ok.mem q (of_decide_eq_true hq)).1, (ok.mem q (of_decide_eq_true hq)).2.1⟩) ⟨q0, decide_eq_true hq0⟩
  have hlk : lacksB n me [] [] H 0 1 = true := by
    unfold lacksB
    rw [hH, hpL_all ok, decide_eq_true (show (0 : Int) < n by omega), decide_eq_true hp]
    rfl
  have hlo : ∀ P : Pu, P.n = n → P.me = me → P.last = p.last → lastOf P 0 1 [] H = y := by
    intro P h1 h2 h3
    unfold lastOf
    rw [h1, h2, h3, hH, hpL_all ok, hy]
    rfl
  rcases h.hw with ⟨hw, hs⟩ | ⟨t, hw, ht⟩
  · have hpk : pickS p.n p.me [] [] H (wayL p.n p.sender) = some 0 := by
      rw [h.hn, h.hme, hs, wayL_eq ⟨by omega, by omega, by omega, by omega⟩]
      obtain ⟨m, hm⟩ : ∃ m, n.toNat = m + 1 := ⟨n.toNat - 1, by omega⟩
      rw [hm, List.range_succ_eq_map, List.map_cons]
      have e0 : md n (n - 1 + (1 + ((0 : Nat) : Int))) = 0 := by
        unfold md
        rw [if_neg (by omega)]
        omega
      rw [e0]
      unfold pickS
      rw [List.find?_cons, show nextS [] 0 = 1 from rfl, hlk]
    have hsel : selP p [] [] H = { p with want := some (0, 1, false, 0), sender := 0 } := by
      unfold selP keepP
      rw [hw]
      dsimp only
      rw [hw]
      dsimp only
      unfold choP
      rw [hpk]
      rfl
    refine ⟨y, askP { p with want := some (0, 1, false, 0), sender := 0 } 0 1 now [] H, hy, ?_, h.hn, h.hme, h.hag, by show p.count + 1 = _; rw [h.hct], hlo { p with want := some (0, 1, false, 0), sender := 0 } h.hn h.hme rfl, rfl⟩
    unfold nextP
    rw [hsel]
    dsimp only
    rw [if_neg (by rintro ⟨h, _⟩; cases h), clN_id (by omega), hlo { p with want := some (0, 1, false, 0), sender := 0 } h.hn h.hme rfl]
  · have hsel : selP p [] [] H = p := by
      unfold selP keepP
      rw [hw]
      dsimp only
      rw [h.hn, h.hme, if_pos hlk, hw]
    refine ⟨y, askP p 0 1 now [] H, hy, ?_, h.hn, h.hme, h.hag, by show p.count + 1 = _; rw [h.hct], hlo _ h.hn h.hme rfl, rfl⟩
    unfold nextP
    rw [hsel, hw]
    dsimp only
    rw [clN_id (by omega), if_neg (by rw [h.hag]; rintro ⟨_, h2⟩; omega), hlo _ h.hn h.hme rfl]
theorem PS.two {n me again now : Int} {p : Pu} {H : Int → Int → List Int} {HL : List Int} (hn : p.n = n) (hme : p.me = me) (hag : p.again = again) (hw : p.want = some (0, 1, true, now)) (ok : HLok n me HL) (hH : H 0 1 = HL) (hp : 0 < HL.length) (hnow : 0 ≤ now ∧ now ≤ 100000000) (ha : 1 ≤ again ∧ again ≤ 1000) :
    nextP p (now + again - 1) [] [] H = (p, 0, 0, -1, false) := by
  have hn2 := ok.rng
  have hlk : lacksB n me [] [] H 0 1 = true := by
    unfold lacksB
    rw [hH, hpL_all ok, decide_eq_true (show (0 : Int) < n by omega), decide_eq_true hp]
    rfl
  have hsel : selP p [] [] H = p := by
    unfold selP keepP
    rw [hw]
    dsimp only
    rw [hn, hme, if_pos hlk, hw]
  unfold nextP
  rw [hsel, hw]
  dsimp only
  rw [clN_id (by omega), if_pos ⟨rfl, by rw [hag]; omega⟩]
theorem PS.fin {n me again now : Int} {i : Nat} {p : Pu} {H : Int → Int → List Int} (h : PS n me again i now p) (hn : 2 ≤ n ∧ n ≤ 20) (hse : 0 ≤ p.sender ∧ p.sender < n) (h02 : H 0 2 = []) (hf1 : ∀ f, 1 ≤ f → H f 1 = []) (now' : Int) : (nextP p now' [1] [] H).2.2.2.2 = false ∧ (nextP p now' [1] [] H).1.count = i := by
  have hk : keepP p [1] [] H = { p with want := none } := by
    unfold keepP
    rcases h.hw with ⟨hw, _⟩ | ⟨t, hw, _⟩
    · rw [hw]
      dsimp only
      cases p
      simp only at hw
      subst hw
      rfl
    · rw [hw]
      dsimp only
      have : lacksB p.n p.me [1] [] H 0 1 = false := by
        unfold lacksB
        rw [show decide (nextS [1] 0 = 1) = false from rfl]
        simp
      rw [if_neg (by rw [this]; decide)]
  have hpk : pickS p.n p.me [1] [] H (wayL p.n p.sender) = none := by
    unfold pickS
    rw [List.find?_eq_none]
    intro y hy
    have hyb := wayL_in (n := p.n) (s := p.sender) ⟨by rw [h.hn]; omega, by rw [h.hn]; omega, hse.1, by rw [h.hn]; exact hse.2⟩ y hy
    have hnil : H y (nextS [1] y) = [] := by
      by_cases e : y = 0
      · rw [e, show nextS [1] 0 = 2 from rfl]
        exact h02
      · have : nextS [1] y = 1 := by
          unfold nextS rd
          obtain ⟨j, hj⟩ : ∃ j, y.toNat = j + 1 := ⟨y.toNat - 1, by omega⟩
          rw [hj]
          rfl
        rw [this]
        exact hf1 y (by omega)
    unfold lacksB
    rw [hnil]
    simp [hpL]
  have hsel : selP p [1] [] H = { p with want := none } := by
    unfold selP
    rw [hk]
    dsimp only
    unfold choP
    dsimp only
    rw [hpk]
  unfold nextP
  rw [hsel]
  exact ⟨rfl, h.hct⟩

end Go.Proofs.Ytncofecfljocgaa.Walk
