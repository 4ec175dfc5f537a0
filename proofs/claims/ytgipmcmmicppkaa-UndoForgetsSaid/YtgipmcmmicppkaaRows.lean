/-
  No cell of these rows narrows 'for every input' (looked for: loops, veiled, ifaces, maps, wideKeys, modest, calm, conditions, laid).
  DERIVED. THE GIVEN ROWS OF THIS SEAT. 7 by the template 'for every input the law returns true; each argument reads behind the call as it read before'; 0 by the template 'total and deterministic' (their statements: YtgipmcmmicppkaaTotals.lean).
  GIVEN WITH THE SEED: the statements are not yours to turn. If you find one false, say at which input.
  Laid BY PROGRAM, IN A SANDBOX (cutbox-rows.mjs): the forced cells as the released guide's own fill.sh prints them over the translation 2a042930fcf6d057… (all of the seat's roots in one cut). By AI agents, Wed Nov 11 2026. No macro, syntax, notation, axiom, sorry.
-/
import Derived.Test.YtgipmcmmicppkaaChecked
import GoSem.Claim
import GoSem.ClaimJoined
import GoSem.ClaimMapViews
import Derived.JoinedTies
import Derived.KernelRfl
namespace Go.Proofs.Ytgipmcmmicppkaa
/- THE CELL 'sum', in the pinned program and in every row, IS THE sha256 OF THE DUMP (.gsa) THAT YtgipmcmmicppkaaProg.lean LOADS. Nothing in Lean hashes anything: it is a label: what it is worth is what the hold of that sum in a sandbox is worth. -/
noncomputable def Try.pinned : Pinned := { name := "ytgipmcmmicppkaa", sum := "2a042930fcf6d0572059daf9b9bd66ec5ce732fef9a6cd08e6741eb2e47f6052", checked := Try.checked }
namespace Rows
def none {H : Type} : Left H := { results := [], args := [] }

/-- 'refmeshlaw13.UndoFirst': WHATEVER THE INPUT: true; the input reads as it did. -/
def undoFirstSpec : ChangeSpec := { name := "undoFirst", fn := fun _ => fun
  | [d1, d2] => { results := [.lit (.bool true)], args := [d1, d2] }
  | _ => none }
def undoFirstRow : OpenClaim := { program := "ytgipmcmmicppkaa", sum := "2a042930fcf6d0572059daf9b9bd66ec5ce732fef9a6cd08e6741eb2e47f6052", func := "refmesh/refmeshlaw13.UndoFirst", spec := "undoFirst", unfollowed := true, recurses := true, apart := false }
def UndoFirstSaid : Prop := undoFirstRow.holds Try.pinned (OpenSpec.ofChange undoFirstSpec)

/-- ITS FALSE NEIGHBOUR: 'it returns false'. Refute it at one input. -/
def undoFirstWrong : ChangeSpec := { name := "undoFirst", fn := fun _ => fun
  | [d1, d2] => { results := [.lit (.bool false)], args := [d1, d2] }
  | _ => none }
def UndoFirstWrongFalsely : Prop := undoFirstRow.holds Try.pinned (OpenSpec.ofChange undoFirstWrong)

/-- 'refmeshlaw13.UndoForgets': WHATEVER THE INPUT: true; the input reads as it did. -/
def undoForgetsSpec : ChangeSpec := { name := "undoForgets", fn := fun _ => fun
  | [d1, d2, d3, d4] => { results := [.lit (.bool true)], args := [d1, d2, d3, d4] }
  | _ => none }
def undoForgetsRow : OpenClaim := { program := "ytgipmcmmicppkaa", sum := "2a042930fcf6d0572059daf9b9bd66ec5ce732fef9a6cd08e6741eb2e47f6052", func := "refmesh/refmeshlaw13.UndoForgets", spec := "undoForgets", unfollowed := true, recurses := true, apart := false }
def UndoForgetsSaid : Prop := undoForgetsRow.holds Try.pinned (OpenSpec.ofChange undoForgetsSpec)

/-- ITS FALSE NEIGHBOUR: 'it returns false'. Refute it at one input. -/
def undoForgetsWrong : ChangeSpec := { name := "undoForgets", fn := fun _ => fun
  | [d1, d2, d3, d4] => { results := [.lit (.bool false)], args := [d1, d2, d3, d4] }
  | _ => none }
def UndoForgetsWrongFalsely : Prop := undoForgetsRow.holds Try.pinned (OpenSpec.ofChange undoForgetsWrong)

/-- 'refmeshlaw13.UndoStates': WHATEVER THE INPUT: true; the input reads as it did. -/
def undoStatesSpec : ChangeSpec := { name := "undoStates", fn := fun _ => fun
  | [d1, d2] => { results := [.lit (.bool true)], args := [d1, d2] }
  | _ => none }
def undoStatesRow : OpenClaim := { program := "ytgipmcmmicppkaa", sum := "2a042930fcf6d0572059daf9b9bd66ec5ce732fef9a6cd08e6741eb2e47f6052", func := "refmesh/refmeshlaw13.UndoStates", spec := "undoStates", unfollowed := true, recurses := true, apart := false }
def UndoStatesSaid : Prop := undoStatesRow.holds Try.pinned (OpenSpec.ofChange undoStatesSpec)

/-- ITS FALSE NEIGHBOUR: 'it returns false'. Refute it at one input. -/
def undoStatesWrong : ChangeSpec := { name := "undoStates", fn := fun _ => fun
  | [d1, d2] => { results := [.lit (.bool false)], args := [d1, d2] }
  | _ => none }
def UndoStatesWrongFalsely : Prop := undoStatesRow.holds Try.pinned (OpenSpec.ofChange undoStatesWrong)

/-- 'refmeshlaw13.UndoOperations': WHATEVER THE INPUT: true; the input reads as it did. -/
def undoOperationsSpec : ChangeSpec := { name := "undoOperations", fn := fun _ => fun
  | [d] => { results := [.lit (.bool true)], args := [d] }
  | _ => none }
def undoOperationsRow : OpenClaim := { program := "ytgipmcmmicppkaa", sum := "2a042930fcf6d0572059daf9b9bd66ec5ce732fef9a6cd08e6741eb2e47f6052", func := "refmesh/refmeshlaw13.UndoOperations", spec := "undoOperations", unfollowed := true, recurses := true, apart := false }
def UndoOperationsSaid : Prop := undoOperationsRow.holds Try.pinned (OpenSpec.ofChange undoOperationsSpec)

/-- ITS FALSE NEIGHBOUR: 'it returns false'. Refute it at one input. -/
def undoOperationsWrong : ChangeSpec := { name := "undoOperations", fn := fun _ => fun
  | [d] => { results := [.lit (.bool false)], args := [d] }
  | _ => none }
def UndoOperationsWrongFalsely : Prop := undoOperationsRow.holds Try.pinned (OpenSpec.ofChange undoOperationsWrong)

/-- 'refmeshlaw13.UndoRestores': WHATEVER THE INPUT: true; the input reads as it did. -/
def undoRestoresSpec : ChangeSpec := { name := "undoRestores", fn := fun _ => fun
  | [d1, d2] => { results := [.lit (.bool true)], args := [d1, d2] }
  | _ => none }
def undoRestoresRow : OpenClaim := { program := "ytgipmcmmicppkaa", sum := "2a042930fcf6d0572059daf9b9bd66ec5ce732fef9a6cd08e6741eb2e47f6052", func := "refmesh/refmeshlaw13.UndoRestores", spec := "undoRestores", unfollowed := true, recurses := true, apart := false }
def UndoRestoresSaid : Prop := undoRestoresRow.holds Try.pinned (OpenSpec.ofChange undoRestoresSpec)

/-- ITS FALSE NEIGHBOUR: 'it returns false'. Refute it at one input. -/
def undoRestoresWrong : ChangeSpec := { name := "undoRestores", fn := fun _ => fun
  | [d1, d2] => { results := [.lit (.bool false)], args := [d1, d2] }
  | _ => none }
def UndoRestoresWrongFalsely : Prop := undoRestoresRow.holds Try.pinned (OpenSpec.ofChange undoRestoresWrong)

/-- 'refmeshlaw13.UndoCommits': WHATEVER THE INPUT: true; the input reads as it did. -/
def undoCommitsSpec : ChangeSpec := { name := "undoCommits", fn := fun _ => fun
  | [d] => { results := [.lit (.bool true)], args := [d] }
  | _ => none }
def undoCommitsRow : OpenClaim := { program := "ytgipmcmmicppkaa", sum := "2a042930fcf6d0572059daf9b9bd66ec5ce732fef9a6cd08e6741eb2e47f6052", func := "refmesh/refmeshlaw13.UndoCommits", spec := "undoCommits", unfollowed := true, recurses := true, apart := false }
def UndoCommitsSaid : Prop := undoCommitsRow.holds Try.pinned (OpenSpec.ofChange undoCommitsSpec)

/-- ITS FALSE NEIGHBOUR: 'it returns false'. Refute it at one input. -/
def undoCommitsWrong : ChangeSpec := { name := "undoCommits", fn := fun _ => fun
  | [d] => { results := [.lit (.bool false)], args := [d] }
  | _ => none }
def UndoCommitsWrongFalsely : Prop := undoCommitsRow.holds Try.pinned (OpenSpec.ofChange undoCommitsWrong)

/-- 'refmeshlaw13.UndoAgain': WHATEVER THE INPUT: true; the input reads as it did. -/
def undoAgainSpec : ChangeSpec := { name := "undoAgain", fn := fun _ => fun
  | [d] => { results := [.lit (.bool true)], args := [d] }
  | _ => none }
def undoAgainRow : OpenClaim := { program := "ytgipmcmmicppkaa", sum := "2a042930fcf6d0572059daf9b9bd66ec5ce732fef9a6cd08e6741eb2e47f6052", func := "refmesh/refmeshlaw13.UndoAgain", spec := "undoAgain", unfollowed := true, recurses := true, apart := false }
def UndoAgainSaid : Prop := undoAgainRow.holds Try.pinned (OpenSpec.ofChange undoAgainSpec)

/-- ITS FALSE NEIGHBOUR: 'it returns false'. Refute it at one input. -/
def undoAgainWrong : ChangeSpec := { name := "undoAgain", fn := fun _ => fun
  | [d] => { results := [.lit (.bool false)], args := [d] }
  | _ => none }
def UndoAgainWrongFalsely : Prop := undoAgainRow.holds Try.pinned (OpenSpec.ofChange undoAgainWrong)

/- THE SECOND FORM. 'bulk': how many values and letters a reading holds, each counted each time it is reached (what is shared counts as often as it is met; a slice's spare places count too). A statement '..UptoSaid' is the law's where the arguments, and the package variables that the reading takes, are together of bulk at most 1048576: NARROWER than '..Said'. Prove '..Said' where nothing that the law and all that it calls make is longer than what came in: it says more and counts as full. Else prove '..UptoSaid'. A law counts once. -/
mutual
def uptoBulk {H : Type} : DataW H → Nat
  | .lit (.string bytes) => bytes.length + 1
  | .lit _ => 1
  | .nil => 1
  | .ptr d => uptoBulk d + 1
  | .slice elems spare => uptoBulkAll elems + uptoBulkAll spare + 1
  | .agg parts => uptoBulkAll parts + 1
  | .iface _ d => uptoBulk d + 1
  | .map entries => uptoBulkEntries entries + 1
  | .held _ => 1
def uptoBulkAll {H : Type} : List (DataW H) → Nat
  | [] => 0
  | d :: r => uptoBulk d + uptoBulkAll r
def uptoBulkEntries {H : Type} : List (Lit × DataW H) → Nat
  | [] => 0
  | x :: r => uptoBulkEntry x + uptoBulkEntries r
def uptoBulkEntry {H : Type} : Lit × DataW H → Nat
  | (.string bytes, d) => bytes.length + uptoBulk d + 1
  | (_, d) => uptoBulk d + 1
 end
def uptoSmall : (H : Type) → List (DataW H) → Bool := fun _ ds => decide (uptoBulkAll ds ≤ 1048576)
def OpenSpec.upto (s : _root_.Go.ChangeSpec) : _root_.Go.OpenSpec := { _root_.Go.OpenSpec.ofChange s with cond := some uptoSmall }

/-- 'refmeshlaw13.UndoFirst', WHERE WHAT IT READS IS OF BULK AT MOST 1048576: true; the input reads as it did. -/
def undoFirstUptoRow : OpenClaim := { program := "ytgipmcmmicppkaa", sum := "2a042930fcf6d0572059daf9b9bd66ec5ce732fef9a6cd08e6741eb2e47f6052", func := "refmesh/refmeshlaw13.UndoFirst", spec := "undoFirst", unfollowed := true, recurses := true, apart := false, narrowed := true }
def UndoFirstUptoSaid : Prop := undoFirstUptoRow.holds Try.pinned (OpenSpec.upto undoFirstSpec)

/-- 'refmeshlaw13.UndoForgets', WHERE WHAT IT READS IS OF BULK AT MOST 1048576: true; the input reads as it did. -/
def undoForgetsUptoRow : OpenClaim := { program := "ytgipmcmmicppkaa", sum := "2a042930fcf6d0572059daf9b9bd66ec5ce732fef9a6cd08e6741eb2e47f6052", func := "refmesh/refmeshlaw13.UndoForgets", spec := "undoForgets", unfollowed := true, recurses := true, apart := false, narrowed := true }
def UndoForgetsUptoSaid : Prop := undoForgetsUptoRow.holds Try.pinned (OpenSpec.upto undoForgetsSpec)

/-- 'refmeshlaw13.UndoStates', WHERE WHAT IT READS IS OF BULK AT MOST 1048576: true; the input reads as it did. -/
def undoStatesUptoRow : OpenClaim := { program := "ytgipmcmmicppkaa", sum := "2a042930fcf6d0572059daf9b9bd66ec5ce732fef9a6cd08e6741eb2e47f6052", func := "refmesh/refmeshlaw13.UndoStates", spec := "undoStates", unfollowed := true, recurses := true, apart := false, narrowed := true }
def UndoStatesUptoSaid : Prop := undoStatesUptoRow.holds Try.pinned (OpenSpec.upto undoStatesSpec)

/-- 'refmeshlaw13.UndoOperations', WHERE WHAT IT READS IS OF BULK AT MOST 1048576: true; the input reads as it did. -/
def undoOperationsUptoRow : OpenClaim := { program := "ytgipmcmmicppkaa", sum := "2a042930fcf6d0572059daf9b9bd66ec5ce732fef9a6cd08e6741eb2e47f6052", func := "refmesh/refmeshlaw13.UndoOperations", spec := "undoOperations", unfollowed := true, recurses := true, apart := false, narrowed := true }
def UndoOperationsUptoSaid : Prop := undoOperationsUptoRow.holds Try.pinned (OpenSpec.upto undoOperationsSpec)

/-- 'refmeshlaw13.UndoRestores', WHERE WHAT IT READS IS OF BULK AT MOST 1048576: true; the input reads as it did. -/
def undoRestoresUptoRow : OpenClaim := { program := "ytgipmcmmicppkaa", sum := "2a042930fcf6d0572059daf9b9bd66ec5ce732fef9a6cd08e6741eb2e47f6052", func := "refmesh/refmeshlaw13.UndoRestores", spec := "undoRestores", unfollowed := true, recurses := true, apart := false, narrowed := true }
def UndoRestoresUptoSaid : Prop := undoRestoresUptoRow.holds Try.pinned (OpenSpec.upto undoRestoresSpec)

/-- 'refmeshlaw13.UndoCommits', WHERE WHAT IT READS IS OF BULK AT MOST 1048576: true; the input reads as it did. -/
def undoCommitsUptoRow : OpenClaim := { program := "ytgipmcmmicppkaa", sum := "2a042930fcf6d0572059daf9b9bd66ec5ce732fef9a6cd08e6741eb2e47f6052", func := "refmesh/refmeshlaw13.UndoCommits", spec := "undoCommits", unfollowed := true, recurses := true, apart := false, narrowed := true }
def UndoCommitsUptoSaid : Prop := undoCommitsUptoRow.holds Try.pinned (OpenSpec.upto undoCommitsSpec)

/-- 'refmeshlaw13.UndoAgain', WHERE WHAT IT READS IS OF BULK AT MOST 1048576: true; the input reads as it did. -/
def undoAgainUptoRow : OpenClaim := { program := "ytgipmcmmicppkaa", sum := "2a042930fcf6d0572059daf9b9bd66ec5ce732fef9a6cd08e6741eb2e47f6052", func := "refmesh/refmeshlaw13.UndoAgain", spec := "undoAgain", unfollowed := true, recurses := true, apart := false, narrowed := true }
def UndoAgainUptoSaid : Prop := undoAgainUptoRow.holds Try.pinned (OpenSpec.upto undoAgainSpec)

end Rows
end Go.Proofs.Ytgipmcmmicppkaa
