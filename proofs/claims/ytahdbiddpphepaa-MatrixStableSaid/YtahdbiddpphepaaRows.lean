/-
  No cell of these rows narrows 'for every input' (looked for: loops, veiled, ifaces, maps, wideKeys, modest, calm, conditions, laid).
  DERIVED. THE GIVEN ROWS OF THIS SEAT. 5 by the template 'for every input the law returns true; each argument reads behind the call as it read before'; 0 by the template 'total and deterministic' (their statements: YtahdbiddpphepaaTotals.lean).
  GIVEN WITH THE SEED: the statements are not yours to turn. If you find one false, say at which input.
  Laid BY PROGRAM, IN A SANDBOX (cutbox-rows.mjs): the forced cells as the released guide's own fill.sh prints them over the translation 3b122437d7c97d55… (all of the seat's roots in one cut). By AI agents, Wed Nov 11 2026. No macro, syntax, notation, axiom, sorry.
-/
import Derived.Test.YtahdbiddpphepaaChecked
import GoSem.Claim
import GoSem.ClaimJoined
import GoSem.ClaimMapViews
import Derived.JoinedTies
import Derived.KernelRfl
namespace Go.Proofs.Ytahdbiddpphepaa
/- THE CELL 'sum', in the pinned program and in every row, IS THE sha256 OF THE DUMP (.gsa) THAT YtahdbiddpphepaaProg.lean LOADS. Nothing in Lean hashes anything: it is a label: what it is worth is what the hold of that sum in a sandbox is worth. -/
noncomputable def Try.pinned : Pinned := { name := "ytahdbiddpphepaa", sum := "3b122437d7c97d556cd900ac7d136aa3cb0747173e6fc72ca07cf8220e3f2464", checked := Try.checked }
namespace Rows
def none {H : Type} : Left H := { results := [], args := [] }

/-- 'unisonlaw18.MatrixTurns': WHATEVER THE INPUT: true; the input reads as it did. -/
def matrixTurnsSpec : ChangeSpec := { name := "matrixTurns", fn := fun _ => fun
  | [d1, d2] => { results := [.lit (.bool true)], args := [d1, d2] }
  | _ => none }
def matrixTurnsRow : OpenClaim := { program := "ytahdbiddpphepaa", sum := "3b122437d7c97d556cd900ac7d136aa3cb0747173e6fc72ca07cf8220e3f2464", func := "unison/unisonlaw18.MatrixTurns", spec := "matrixTurns", unfollowed := true, recurses := true, apart := false }
def MatrixTurnsSaid : Prop := matrixTurnsRow.holds Try.pinned (OpenSpec.ofChange matrixTurnsSpec)

/-- ITS FALSE NEIGHBOUR: 'it returns false'. Refute it at one input. -/
def matrixTurnsWrong : ChangeSpec := { name := "matrixTurns", fn := fun _ => fun
  | [d1, d2] => { results := [.lit (.bool false)], args := [d1, d2] }
  | _ => none }
def MatrixTurnsWrongFalsely : Prop := matrixTurnsRow.holds Try.pinned (OpenSpec.ofChange matrixTurnsWrong)

/-- 'unisonlaw18.MatrixRises': WHATEVER THE INPUT: true; the input reads as it did. -/
def matrixRisesSpec : ChangeSpec := { name := "matrixRises", fn := fun _ => fun
  | [d1, d2] => { results := [.lit (.bool true)], args := [d1, d2] }
  | _ => none }
def matrixRisesRow : OpenClaim := { program := "ytahdbiddpphepaa", sum := "3b122437d7c97d556cd900ac7d136aa3cb0747173e6fc72ca07cf8220e3f2464", func := "unison/unisonlaw18.MatrixRises", spec := "matrixRises", unfollowed := true, recurses := true, apart := false }
def MatrixRisesSaid : Prop := matrixRisesRow.holds Try.pinned (OpenSpec.ofChange matrixRisesSpec)

/-- ITS FALSE NEIGHBOUR: 'it returns false'. Refute it at one input. -/
def matrixRisesWrong : ChangeSpec := { name := "matrixRises", fn := fun _ => fun
  | [d1, d2] => { results := [.lit (.bool false)], args := [d1, d2] }
  | _ => none }
def MatrixRisesWrongFalsely : Prop := matrixRisesRow.holds Try.pinned (OpenSpec.ofChange matrixRisesWrong)

/-- 'unisonlaw18.MatrixStable': WHATEVER THE INPUT: true; the input reads as it did. -/
def matrixStableSpec : ChangeSpec := { name := "matrixStable", fn := fun _ => fun
  | [d1, d2, d3] => { results := [.lit (.bool true)], args := [d1, d2, d3] }
  | _ => none }
def matrixStableRow : OpenClaim := { program := "ytahdbiddpphepaa", sum := "3b122437d7c97d556cd900ac7d136aa3cb0747173e6fc72ca07cf8220e3f2464", func := "unison/unisonlaw18.MatrixStable", spec := "matrixStable", unfollowed := true, recurses := true, apart := false }
def MatrixStableSaid : Prop := matrixStableRow.holds Try.pinned (OpenSpec.ofChange matrixStableSpec)

/-- ITS FALSE NEIGHBOUR: 'it returns false'. Refute it at one input. -/
def matrixStableWrong : ChangeSpec := { name := "matrixStable", fn := fun _ => fun
  | [d1, d2, d3] => { results := [.lit (.bool false)], args := [d1, d2, d3] }
  | _ => none }
def MatrixStableWrongFalsely : Prop := matrixStableRow.holds Try.pinned (OpenSpec.ofChange matrixStableWrong)

/-- 'unisonlaw18.MatrixPlays': WHATEVER THE INPUT: true; the input reads as it did. -/
def matrixPlaysSpec : ChangeSpec := { name := "matrixPlays", fn := fun _ => fun
  | [d1, d2, d3] => { results := [.lit (.bool true)], args := [d1, d2, d3] }
  | _ => none }
def matrixPlaysRow : OpenClaim := { program := "ytahdbiddpphepaa", sum := "3b122437d7c97d556cd900ac7d136aa3cb0747173e6fc72ca07cf8220e3f2464", func := "unison/unisonlaw18.MatrixPlays", spec := "matrixPlays", unfollowed := true, recurses := true, apart := false }
def MatrixPlaysSaid : Prop := matrixPlaysRow.holds Try.pinned (OpenSpec.ofChange matrixPlaysSpec)

/-- ITS FALSE NEIGHBOUR: 'it returns false'. Refute it at one input. -/
def matrixPlaysWrong : ChangeSpec := { name := "matrixPlays", fn := fun _ => fun
  | [d1, d2, d3] => { results := [.lit (.bool false)], args := [d1, d2, d3] }
  | _ => none }
def MatrixPlaysWrongFalsely : Prop := matrixPlaysRow.holds Try.pinned (OpenSpec.ofChange matrixPlaysWrong)

/-- 'unisonlaw18.MatrixNil': WHATEVER THE INPUT: true; the input reads as it did. -/
def matrixNilSpec : ChangeSpec := { name := "matrixNil", fn := fun _ => fun
  | [d1, d2] => { results := [.lit (.bool true)], args := [d1, d2] }
  | _ => none }
def matrixNilRow : OpenClaim := { program := "ytahdbiddpphepaa", sum := "3b122437d7c97d556cd900ac7d136aa3cb0747173e6fc72ca07cf8220e3f2464", func := "unison/unisonlaw18.MatrixNil", spec := "matrixNil", unfollowed := true, recurses := true, apart := false }
def MatrixNilSaid : Prop := matrixNilRow.holds Try.pinned (OpenSpec.ofChange matrixNilSpec)

/-- ITS FALSE NEIGHBOUR: 'it returns false'. Refute it at one input. -/
def matrixNilWrong : ChangeSpec := { name := "matrixNil", fn := fun _ => fun
  | [d1, d2] => { results := [.lit (.bool false)], args := [d1, d2] }
  | _ => none }
def MatrixNilWrongFalsely : Prop := matrixNilRow.holds Try.pinned (OpenSpec.ofChange matrixNilWrong)

/- THE SECOND FORM. 'bulk': how many values and letters a reading holds, each counted each time it is reached (what is shared counts as often as it is met; a slice's spare places count too). A statement '..UptoSaid' is the law's where the arguments, and the package variables that the reading takes, are together of bulk at most 1048576: NARROWER than '..Said'. Prove '..Said' where nothing that the law and all that it calls make is longer than what came in: it says more and counts as full. Else prove '..UptoSaid'. A law counts once. -/
mutual
def uptoBulk {H : Type} : DataW H → Nat
  | .lit (.string bytes) => bytes.length + 1
  | .lit _ => 1
  | .nil => 1
  | .ptr d => uptoBulk d + 1
  | .slice elems spare => uptoBulkAll elems + uptoBulkAll spare + 1
  | .agg parts => uptoBulkAll parts + 1
  | .iface _ d => uptoBulk d + 1
  | .map entries => uptoBulkEntries entries + 1
  | .held _ => 1
def uptoBulkAll {H : Type} : List (DataW H) → Nat
  | [] => 0
  | d :: r => uptoBulk d + uptoBulkAll r
def uptoBulkEntries {H : Type} : List (Lit × DataW H) → Nat
  | [] => 0
  | x :: r => uptoBulkEntry x + uptoBulkEntries r
def uptoBulkEntry {H : Type} : Lit × DataW H → Nat
  | (.string bytes, d) => bytes.length + uptoBulk d + 1
  | (_, d) => uptoBulk d + 1
 end
def uptoSmall : (H : Type) → List (DataW H) → Bool := fun _ ds => decide (uptoBulkAll ds ≤ 1048576)
def OpenSpec.upto (s : _root_.Go.ChangeSpec) : _root_.Go.OpenSpec := { _root_.Go.OpenSpec.ofChange s with cond := some uptoSmall }

/-- 'unisonlaw18.MatrixTurns', WHERE WHAT IT READS IS OF BULK AT MOST 1048576: true; the input reads as it did. -/
def matrixTurnsUptoRow : OpenClaim := { program := "ytahdbiddpphepaa", sum := "3b122437d7c97d556cd900ac7d136aa3cb0747173e6fc72ca07cf8220e3f2464", func := "unison/unisonlaw18.MatrixTurns", spec := "matrixTurns", unfollowed := true, recurses := true, apart := false, narrowed := true }
def MatrixTurnsUptoSaid : Prop := matrixTurnsUptoRow.holds Try.pinned (OpenSpec.upto matrixTurnsSpec)

/-- 'unisonlaw18.MatrixRises', WHERE WHAT IT READS IS OF BULK AT MOST 1048576: true; the input reads as it did. -/
def matrixRisesUptoRow : OpenClaim := { program := "ytahdbiddpphepaa", sum := "3b122437d7c97d556cd900ac7d136aa3cb0747173e6fc72ca07cf8220e3f2464", func := "unison/unisonlaw18.MatrixRises", spec := "matrixRises", unfollowed := true, recurses := true, apart := false, narrowed := true }
def MatrixRisesUptoSaid : Prop := matrixRisesUptoRow.holds Try.pinned (OpenSpec.upto matrixRisesSpec)

/-- 'unisonlaw18.MatrixStable', WHERE WHAT IT READS IS OF BULK AT MOST 1048576: true; the input reads as it did. -/
def matrixStableUptoRow : OpenClaim := { program := "ytahdbiddpphepaa", sum := "3b122437d7c97d556cd900ac7d136aa3cb0747173e6fc72ca07cf8220e3f2464", func := "unison/unisonlaw18.MatrixStable", spec := "matrixStable", unfollowed := true, recurses := true, apart := false, narrowed := true }
def MatrixStableUptoSaid : Prop := matrixStableUptoRow.holds Try.pinned (OpenSpec.upto matrixStableSpec)

/-- 'unisonlaw18.MatrixPlays', WHERE WHAT IT READS IS OF BULK AT MOST 1048576: true; the input reads as it did. -/
def matrixPlaysUptoRow : OpenClaim := { program := "ytahdbiddpphepaa", sum := "3b122437d7c97d556cd900ac7d136aa3cb0747173e6fc72ca07cf8220e3f2464", func := "unison/unisonlaw18.MatrixPlays", spec := "matrixPlays", unfollowed := true, recurses := true, apart := false, narrowed := true }
def MatrixPlaysUptoSaid : Prop := matrixPlaysUptoRow.holds Try.pinned (OpenSpec.upto matrixPlaysSpec)

/-- 'unisonlaw18.MatrixNil', WHERE WHAT IT READS IS OF BULK AT MOST 1048576: true; the input reads as it did. -/
def matrixNilUptoRow : OpenClaim := { program := "ytahdbiddpphepaa", sum := "3b122437d7c97d556cd900ac7d136aa3cb0747173e6fc72ca07cf8220e3f2464", func := "unison/unisonlaw18.MatrixNil", spec := "matrixNil", unfollowed := true, recurses := true, apart := false, narrowed := true }
def MatrixNilUptoSaid : Prop := matrixNilUptoRow.holds Try.pinned (OpenSpec.upto matrixNilSpec)

end Rows
end Go.Proofs.Ytahdbiddpphepaa
