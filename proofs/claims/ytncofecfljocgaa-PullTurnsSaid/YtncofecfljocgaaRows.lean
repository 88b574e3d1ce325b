/-
  No cell of these rows narrows 'for every input' (looked for: loops, veiled, ifaces, maps, wideKeys, modest, calm, conditions, laid).
  DERIVED. THE GIVEN ROWS OF THIS SEAT. 4 by the template 'for every input the law returns true; each argument reads behind the call as it read before'; 0 by the template 'total and deterministic' (their statements: YtncofecfljocgaaTotals.lean).
  GIVEN WITH THE SEED: the statements are not yours to turn. If you find one false, say at which input.
  Laid BY PROGRAM, IN A SANDBOX (cutbox-rows.mjs): the forced cells as the released guide's own fill.sh prints them over the translation df19fddd122c5409… (all of the seat's roots in one cut). By AI agents, Wed Nov 11 2026. No macro, syntax, notation, axiom, sorry.
-/
import Derived.Test.YtncofecfljocgaaChecked
import GoSem.Claim
import GoSem.ClaimJoined
import GoSem.ClaimMapViews
import Derived.JoinedTies
import Derived.KernelRfl
namespace Go.Proofs.Ytncofecfljocgaa
/- THE CELL 'sum', in the pinned program and in every row, IS THE sha256 OF THE DUMP (.gsa) THAT YtncofecfljocgaaProg.lean LOADS. Nothing in Lean hashes anything: it is a label: what it is worth is what the hold of that sum in a sandbox is worth. -/
noncomputable def Try.pinned : Pinned := { name := "ytncofecfljocgaa", sum := "df19fddd122c540920ca225a1bf1a48a346938e5b96432f3b1375a7dcd68416b", checked := Try.checked }
namespace Rows
def none {H : Type} : Left H := { results := [], args := [] }

/-- 'unisonlaw20.PullTurns': WHATEVER THE INPUT: true; the input reads as it did. -/
def pullTurnsSpec : ChangeSpec := { name := "pullTurns", fn := fun _ => fun
  | [d1, d2, d3, d4] => { results := [.lit (.bool true)], args := [d1, d2, d3, d4] }
  | _ => none }
def pullTurnsRow : OpenClaim := { program := "ytncofecfljocgaa", sum := "df19fddd122c540920ca225a1bf1a48a346938e5b96432f3b1375a7dcd68416b", func := "unison/unisonlaw20.PullTurns", spec := "pullTurns", unfollowed := true, recurses := true, apart := false }
def PullTurnsSaid : Prop := pullTurnsRow.holds Try.pinned (OpenSpec.ofChange pullTurnsSpec)

/-- ITS FALSE NEIGHBOUR: 'it returns false'. Refute it at one input. -/
def pullTurnsWrong : ChangeSpec := { name := "pullTurns", fn := fun _ => fun
  | [d1, d2, d3, d4] => { results := [.lit (.bool false)], args := [d1, d2, d3, d4] }
  | _ => none }
def PullTurnsWrongFalsely : Prop := pullTurnsRow.holds Try.pinned (OpenSpec.ofChange pullTurnsWrong)

/-- 'unisonlaw20.PullAsks': WHATEVER THE INPUT: true; the input reads as it did. -/
def pullAsksSpec : ChangeSpec := { name := "pullAsks", fn := fun _ => fun
  | [d1, d2, d3, d4] => { results := [.lit (.bool true)], args := [d1, d2, d3, d4] }
  | _ => none }
def pullAsksRow : OpenClaim := { program := "ytncofecfljocgaa", sum := "df19fddd122c540920ca225a1bf1a48a346938e5b96432f3b1375a7dcd68416b", func := "unison/unisonlaw20.PullAsks", spec := "pullAsks", unfollowed := true, recurses := true, apart := false }
def PullAsksSaid : Prop := pullAsksRow.holds Try.pinned (OpenSpec.ofChange pullAsksSpec)

/-- ITS FALSE NEIGHBOUR: 'it returns false'. Refute it at one input. -/
def pullAsksWrong : ChangeSpec := { name := "pullAsks", fn := fun _ => fun
  | [d1, d2, d3, d4] => { results := [.lit (.bool false)], args := [d1, d2, d3, d4] }
  | _ => none }
def PullAsksWrongFalsely : Prop := pullAsksRow.holds Try.pinned (OpenSpec.ofChange pullAsksWrong)

/-- 'unisonlaw20.PullNil': WHATEVER THE INPUT: true; the input reads as it did. -/
def pullNilSpec : ChangeSpec := { name := "pullNil", fn := fun _ => fun
  | [d1, d2] => { results := [.lit (.bool true)], args := [d1, d2] }
  | _ => none }
def pullNilRow : OpenClaim := { program := "ytncofecfljocgaa", sum := "df19fddd122c540920ca225a1bf1a48a346938e5b96432f3b1375a7dcd68416b", func := "unison/unisonlaw20.PullNil", spec := "pullNil", unfollowed := true, recurses := true, apart := false }
def PullNilSaid : Prop := pullNilRow.holds Try.pinned (OpenSpec.ofChange pullNilSpec)

/-- ITS FALSE NEIGHBOUR: 'it returns false'. Refute it at one input. -/
def pullNilWrong : ChangeSpec := { name := "pullNil", fn := fun _ => fun
  | [d1, d2] => { results := [.lit (.bool false)], args := [d1, d2] }
  | _ => none }
def PullNilWrongFalsely : Prop := pullNilRow.holds Try.pinned (OpenSpec.ofChange pullNilWrong)

/-- 'unisonlaw20.PullPlays': WHATEVER THE INPUT: true; the input reads as it did. -/
def pullPlaysSpec : ChangeSpec := { name := "pullPlays", fn := fun _ => fun
  | [d1, d2, d3, d4] => { results := [.lit (.bool true)], args := [d1, d2, d3, d4] }
  | _ => none }
def pullPlaysRow : OpenClaim := { program := "ytncofecfljocgaa", sum := "df19fddd122c540920ca225a1bf1a48a346938e5b96432f3b1375a7dcd68416b", func := "unison/unisonlaw20.PullPlays", spec := "pullPlays", unfollowed := true, recurses := true, apart := false }
def PullPlaysSaid : Prop := pullPlaysRow.holds Try.pinned (OpenSpec.ofChange pullPlaysSpec)

/-- ITS FALSE NEIGHBOUR: 'it returns false'. Refute it at one input. -/
def pullPlaysWrong : ChangeSpec := { name := "pullPlays", fn := fun _ => fun
  | [d1, d2, d3, d4] => { results := [.lit (.bool false)], args := [d1, d2, d3, d4] }
  | _ => none }
def PullPlaysWrongFalsely : Prop := pullPlaysRow.holds Try.pinned (OpenSpec.ofChange pullPlaysWrong)

/- THE SECOND FORM. 'bulk': how many values and letters a reading holds, each counted each time it is reached (what is shared counts as often as it is met; a slice's spare places count too). A statement '..UptoSaid' is the law's where the arguments, and the package variables that the reading takes, are together of bulk at most 1048576: NARROWER than '..Said'. Prove '..Said' where nothing that the law and all that it calls make is longer than what came in: it says more and counts as full. Else prove '..UptoSaid'. A law counts once. -/
mutual
def uptoBulk {H : Type} : DataW H → Nat
  | .lit (.string bytes) => bytes.length + 1
  | .lit _ => 1
  | .nil => 1
  | .ptr d => uptoBulk d + 1
  | .slice elems spare => uptoBulkAll elems + uptoBulkAll spare + 1
  | .agg parts => uptoBulkAll parts + 1
  | .iface _ d => uptoBulk d + 1
  | .map entries => uptoBulkEntries entries + 1
  | .held _ => 1
def uptoBulkAll {H : Type} : List (DataW H) → Nat
  | [] => 0
  | d :: r => uptoBulk d + uptoBulkAll r
def uptoBulkEntries {H : Type} : List (Lit × DataW H) → Nat
  | [] => 0
  | x :: r => uptoBulkEntry x + uptoBulkEntries r
def uptoBulkEntry {H : Type} : Lit × DataW H → Nat
  | (.string bytes, d) => bytes.length + uptoBulk d + 1
  | (_, d) => uptoBulk d + 1
 end
def uptoSmall : (H : Type) → List (DataW H) → Bool := fun _ ds => decide (uptoBulkAll ds ≤ 1048576)
def OpenSpec.upto (s : _root_.Go.ChangeSpec) : _root_.Go.OpenSpec := { _root_.Go.OpenSpec.ofChange s with cond := some uptoSmall }

/-- 'unisonlaw20.PullTurns', WHERE WHAT IT READS IS OF BULK AT MOST 1048576: true; the input reads as it did. -/
def pullTurnsUptoRow : OpenClaim := { program := "ytncofecfljocgaa", sum := "df19fddd122c540920ca225a1bf1a48a346938e5b96432f3b1375a7dcd68416b", func := "unison/unisonlaw20.PullTurns", spec := "pullTurns", unfollowed := true, recurses := true, apart := false, narrowed := true }
def PullTurnsUptoSaid : Prop := pullTurnsUptoRow.holds Try.pinned (OpenSpec.upto pullTurnsSpec)

/-- 'unisonlaw20.PullAsks', WHERE WHAT IT READS IS OF BULK AT MOST 1048576: true; the input reads as it did. -/
def pullAsksUptoRow : OpenClaim := { program := "ytncofecfljocgaa", sum := "df19fddd122c540920ca225a1bf1a48a346938e5b96432f3b1375a7dcd68416b", func := "unison/unisonlaw20.PullAsks", spec := "pullAsks", unfollowed := true, recurses := true, apart := false, narrowed := true }
def PullAsksUptoSaid : Prop := pullAsksUptoRow.holds Try.pinned (OpenSpec.upto pullAsksSpec)

/-- 'unisonlaw20.PullNil', WHERE WHAT IT READS IS OF BULK AT MOST 1048576: true; the input reads as it did. -/
def pullNilUptoRow : OpenClaim := { program := "ytncofecfljocgaa", sum := "df19fddd122c540920ca225a1bf1a48a346938e5b96432f3b1375a7dcd68416b", func := "unison/unisonlaw20.PullNil", spec := "pullNil", unfollowed := true, recurses := true, apart := false, narrowed := true }
def PullNilUptoSaid : Prop := pullNilUptoRow.holds Try.pinned (OpenSpec.upto pullNilSpec)

/-- 'unisonlaw20.PullPlays', WHERE WHAT IT READS IS OF BULK AT MOST 1048576: true; the input reads as it did. -/
def pullPlaysUptoRow : OpenClaim := { program := "ytncofecfljocgaa", sum := "df19fddd122c540920ca225a1bf1a48a346938e5b96432f3b1375a7dcd68416b", func := "unison/unisonlaw20.PullPlays", spec := "pullPlays", unfollowed := true, recurses := true, apart := false, narrowed := true }
def PullPlaysUptoSaid : Prop := pullPlaysUptoRow.holds Try.pinned (OpenSpec.upto pullPlaysSpec)

end Rows
end Go.Proofs.Ytncofecfljocgaa
