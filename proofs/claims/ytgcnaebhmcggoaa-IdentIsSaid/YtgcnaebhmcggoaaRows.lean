/-
  No cell of these rows narrows 'for every input' (looked for: loops, veiled, ifaces, maps, wideKeys, modest, calm, conditions, laid).
  DERIVED. THE GIVEN ROWS OF THIS SEAT. 5 by the template 'for every input the law returns true; each argument reads behind the call as it read before'; 0 by the template 'total and deterministic' (their statements: YtgcnaebhmcggoaaTotals.lean).
  GIVEN WITH THE SEED: the statements are not yours to turn. If you find one false, say at which input.
  Laid BY PROGRAM, IN A SANDBOX (cutbox-rows.mjs): the forced cells as the released guide's own fill.sh prints them over the translation 6498b64b5211dc8d… (all of the seat's roots in one cut). By AI agents, Wed Nov 11 2026. No macro, syntax, notation, axiom, sorry.
-/
import Derived.Test.YtgcnaebhmcggoaaChecked
import GoSem.Claim
import GoSem.ClaimJoined
import GoSem.ClaimMapViews
import Derived.JoinedTies
import Derived.KernelRfl
namespace Go.Proofs.Ytgcnaebhmcggoaa
/- THE CELL 'sum', in the pinned program and in every row, IS THE sha256 OF THE DUMP (.gsa) THAT YtgcnaebhmcggoaaProg.lean LOADS. Nothing in Lean hashes anything: it is a label: what it is worth is what the hold of that sum in a sandbox is worth. -/
noncomputable def Try.pinned : Pinned := { name := "ytgcnaebhmcggoaa", sum := "6498b64b5211dc8da5caff2ebbc62ad92be0231a4e9aaa542befa3a4acdd08bb", checked := Try.checked }
namespace Rows
def none {H : Type} : Left H := { results := [], args := [] }

/-- 'unisonlaw03.IdentJoins': WHATEVER THE INPUT: true; the input reads as it did. -/
def identJoinsSpec : ChangeSpec := { name := "identJoins", fn := fun _ => fun
  | [d] => { results := [.lit (.bool true)], args := [d] }
  | _ => none }
def identJoinsRow : OpenClaim := { program := "ytgcnaebhmcggoaa", sum := "6498b64b5211dc8da5caff2ebbc62ad92be0231a4e9aaa542befa3a4acdd08bb", func := "unison/unisonlaw03.IdentJoins", spec := "identJoins", unfollowed := true, recurses := true, apart := false }
def IdentJoinsSaid : Prop := identJoinsRow.holds Try.pinned (OpenSpec.ofChange identJoinsSpec)

/-- ITS FALSE NEIGHBOUR: 'it returns false'. Refute it at one input. -/
def identJoinsWrong : ChangeSpec := { name := "identJoins", fn := fun _ => fun
  | [d] => { results := [.lit (.bool false)], args := [d] }
  | _ => none }
def IdentJoinsWrongFalsely : Prop := identJoinsRow.holds Try.pinned (OpenSpec.ofChange identJoinsWrong)

/-- 'unisonlaw03.IdentChain': WHATEVER THE INPUT: true; the input reads as it did. -/
def identChainSpec : ChangeSpec := { name := "identChain", fn := fun _ => fun
  | [d1, d2, d3] => { results := [.lit (.bool true)], args := [d1, d2, d3] }
  | _ => none }
def identChainRow : OpenClaim := { program := "ytgcnaebhmcggoaa", sum := "6498b64b5211dc8da5caff2ebbc62ad92be0231a4e9aaa542befa3a4acdd08bb", func := "unison/unisonlaw03.IdentChain", spec := "identChain", unfollowed := true, recurses := true, apart := false }
def IdentChainSaid : Prop := identChainRow.holds Try.pinned (OpenSpec.ofChange identChainSpec)

/-- ITS FALSE NEIGHBOUR: 'it returns false'. Refute it at one input. -/
def identChainWrong : ChangeSpec := { name := "identChain", fn := fun _ => fun
  | [d1, d2, d3] => { results := [.lit (.bool false)], args := [d1, d2, d3] }
  | _ => none }
def IdentChainWrongFalsely : Prop := identChainRow.holds Try.pinned (OpenSpec.ofChange identChainWrong)

/-- 'unisonlaw03.IdentLists': WHATEVER THE INPUT: true; the input reads as it did. -/
def identListsSpec : ChangeSpec := { name := "identLists", fn := fun _ => fun
  | [d1, d2] => { results := [.lit (.bool true)], args := [d1, d2] }
  | _ => none }
def identListsRow : OpenClaim := { program := "ytgcnaebhmcggoaa", sum := "6498b64b5211dc8da5caff2ebbc62ad92be0231a4e9aaa542befa3a4acdd08bb", func := "unison/unisonlaw03.IdentLists", spec := "identLists", unfollowed := true, recurses := true, apart := false }
def IdentListsSaid : Prop := identListsRow.holds Try.pinned (OpenSpec.ofChange identListsSpec)

/-- ITS FALSE NEIGHBOUR: 'it returns false'. Refute it at one input. -/
def identListsWrong : ChangeSpec := { name := "identLists", fn := fun _ => fun
  | [d1, d2] => { results := [.lit (.bool false)], args := [d1, d2] }
  | _ => none }
def IdentListsWrongFalsely : Prop := identListsRow.holds Try.pinned (OpenSpec.ofChange identListsWrong)

/-- 'unisonlaw03.IdentIs': WHATEVER THE INPUT: true; the input reads as it did. -/
def identIsSpec : ChangeSpec := { name := "identIs", fn := fun _ => fun
  | [d1, d2, d3, d4, d5] => { results := [.lit (.bool true)], args := [d1, d2, d3, d4, d5] }
  | _ => none }
def identIsRow : OpenClaim := { program := "ytgcnaebhmcggoaa", sum := "6498b64b5211dc8da5caff2ebbc62ad92be0231a4e9aaa542befa3a4acdd08bb", func := "unison/unisonlaw03.IdentIs", spec := "identIs", unfollowed := true, recurses := true, apart := false }
def IdentIsSaid : Prop := identIsRow.holds Try.pinned (OpenSpec.ofChange identIsSpec)

/-- ITS FALSE NEIGHBOUR: 'it returns false'. Refute it at one input. -/
def identIsWrong : ChangeSpec := { name := "identIs", fn := fun _ => fun
  | [d1, d2, d3, d4, d5] => { results := [.lit (.bool false)], args := [d1, d2, d3, d4, d5] }
  | _ => none }
def IdentIsWrongFalsely : Prop := identIsRow.holds Try.pinned (OpenSpec.ofChange identIsWrong)

/-- 'unisonlaw03.IdentHas': WHATEVER THE INPUT: true; the input reads as it did. -/
def identHasSpec : ChangeSpec := { name := "identHas", fn := fun _ => fun
  | [d1, d2] => { results := [.lit (.bool true)], args := [d1, d2] }
  | _ => none }
def identHasRow : OpenClaim := { program := "ytgcnaebhmcggoaa", sum := "6498b64b5211dc8da5caff2ebbc62ad92be0231a4e9aaa542befa3a4acdd08bb", func := "unison/unisonlaw03.IdentHas", spec := "identHas", unfollowed := true, recurses := true, apart := false }
def IdentHasSaid : Prop := identHasRow.holds Try.pinned (OpenSpec.ofChange identHasSpec)

/-- ITS FALSE NEIGHBOUR: 'it returns false'. Refute it at one input. -/
def identHasWrong : ChangeSpec := { name := "identHas", fn := fun _ => fun
  | [d1, d2] => { results := [.lit (.bool false)], args := [d1, d2] }
  | _ => none }
def IdentHasWrongFalsely : Prop := identHasRow.holds Try.pinned (OpenSpec.ofChange identHasWrong)

/- THE SECOND FORM. 'bulk': how many values and letters a reading holds, each counted each time it is reached (what is shared counts as often as it is met; a slice's spare places count too). A statement '..UptoSaid' is the law's where the arguments, and the package variables that the reading takes, are together of bulk at most 1048576: NARROWER than '..Said'. Prove '..Said' where nothing that the law and all that it calls make is longer than what came in: it says more and counts as full. Else prove '..UptoSaid'. A law counts once. -/
mutual
def uptoBulk {H : Type} : DataW H → Nat
  | .lit (.string bytes) => bytes.length + 1
  | .lit _ => 1
  | .nil => 1
  | .ptr d => uptoBulk d + 1
  | .slice elems spare => uptoBulkAll elems + uptoBulkAll spare + 1
  | .agg parts => uptoBulkAll parts + 1
  | .iface _ d => uptoBulk d + 1
  | .map entries => uptoBulkEntries entries + 1
  | .held _ => 1
def uptoBulkAll {H : Type} : List (DataW H) → Nat
  | [] => 0
  | d :: r => uptoBulk d + uptoBulkAll r
def uptoBulkEntries {H : Type} : List (Lit × DataW H) → Nat
  | [] => 0
  | x :: r => uptoBulkEntry x + uptoBulkEntries r
def uptoBulkEntry {H : Type} : Lit × DataW H → Nat
  | (.string bytes, d) => bytes.length + uptoBulk d + 1
  | (_, d) => uptoBulk d + 1
 end
def uptoSmall : (H : Type) → List (DataW H) → Bool := fun _ ds => decide (uptoBulkAll ds ≤ 1048576)
def OpenSpec.upto (s : _root_.Go.ChangeSpec) : _root_.Go.OpenSpec := { _root_.Go.OpenSpec.ofChange s with cond := some uptoSmall }

/-- 'unisonlaw03.IdentJoins', WHERE WHAT IT READS IS OF BULK AT MOST 1048576: true; the input reads as it did. -/
def identJoinsUptoRow : OpenClaim := { program := "ytgcnaebhmcggoaa", sum := "6498b64b5211dc8da5caff2ebbc62ad92be0231a4e9aaa542befa3a4acdd08bb", func := "unison/unisonlaw03.IdentJoins", spec := "identJoins", unfollowed := true, recurses := true, apart := false, narrowed := true }
def IdentJoinsUptoSaid : Prop := identJoinsUptoRow.holds Try.pinned (OpenSpec.upto identJoinsSpec)

/-- 'unisonlaw03.IdentChain', WHERE WHAT IT READS IS OF BULK AT MOST 1048576: true; the input reads as it did. -/
def identChainUptoRow : OpenClaim := { program := "ytgcnaebhmcggoaa", sum := "6498b64b5211dc8da5caff2ebbc62ad92be0231a4e9aaa542befa3a4acdd08bb", func := "unison/unisonlaw03.IdentChain", spec := "identChain", unfollowed := true, recurses := true, apart := false, narrowed := true }
def IdentChainUptoSaid : Prop := identChainUptoRow.holds Try.pinned (OpenSpec.upto identChainSpec)

/-- 'unisonlaw03.IdentLists', WHERE WHAT IT READS IS OF BULK AT MOST 1048576: true; the input reads as it did. -/
def identListsUptoRow : OpenClaim := { program := "ytgcnaebhmcggoaa", sum := "6498b64b5211dc8da5caff2ebbc62ad92be0231a4e9aaa542befa3a4acdd08bb", func := "unison/unisonlaw03.IdentLists", spec := "identLists", unfollowed := true, recurses := true, apart := false, narrowed := true }
def IdentListsUptoSaid : Prop := identListsUptoRow.holds Try.pinned (OpenSpec.upto identListsSpec)

/-- 'unisonlaw03.IdentIs', WHERE WHAT IT READS IS OF BULK AT MOST 1048576: true; the input reads as it did. -/
def identIsUptoRow : OpenClaim := { program := "ytgcnaebhmcggoaa", sum := "6498b64b5211dc8da5caff2ebbc62ad92be0231a4e9aaa542befa3a4acdd08bb", func := "unison/unisonlaw03.IdentIs", spec := "identIs", unfollowed := true, recurses := true, apart := false, narrowed := true }
def IdentIsUptoSaid : Prop := identIsUptoRow.holds Try.pinned (OpenSpec.upto identIsSpec)

/-- 'unisonlaw03.IdentHas', WHERE WHAT IT READS IS OF BULK AT MOST 1048576: true; the input reads as it did. -/
def identHasUptoRow : OpenClaim := { program := "ytgcnaebhmcggoaa", sum := "6498b64b5211dc8da5caff2ebbc62ad92be0231a4e9aaa542befa3a4acdd08bb", func := "unison/unisonlaw03.IdentHas", spec := "identHas", unfollowed := true, recurses := true, apart := false, narrowed := true }
def IdentHasUptoSaid : Prop := identHasUptoRow.holds Try.pinned (OpenSpec.upto identHasSpec)

end Rows
end Go.Proofs.Ytgcnaebhmcggoaa
