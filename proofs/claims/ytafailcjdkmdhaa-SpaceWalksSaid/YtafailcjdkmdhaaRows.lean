/-
  No cell of these rows narrows 'for every input' (looked for: loops, veiled, ifaces, maps, wideKeys, modest, calm, conditions, laid).
  DERIVED. THE GIVEN ROWS OF THIS SEAT. 6 by the template 'for every input the law returns true; each argument reads behind the call as it read before'; 0 by the template 'total and deterministic' (their statements: YtafailcjdkmdhaaTotals.lean).
  GIVEN WITH THE SEED: the statements are not yours to turn. If you find one false, say at which input.
  Laid BY PROGRAM, IN A SANDBOX (cutbox-rows.mjs): the forced cells as the released guide's own fill.sh prints them over the translation a03987dd223f2b30… (all of the seat's roots in one cut). By AI agents, Wed Nov 11 2026. No macro, syntax, notation, axiom, sorry.
-/
import Derived.Test.YtafailcjdkmdhaaChecked
import GoSem.Claim
import GoSem.ClaimJoined
import GoSem.ClaimMapViews
import Derived.JoinedTies
import Derived.KernelRfl
namespace Go.Proofs.Ytafailcjdkmdhaa
/- THE CELL 'sum', in the pinned program and in every row, IS THE sha256 OF THE DUMP (.gsa) THAT YtafailcjdkmdhaaProg.lean LOADS. Nothing in Lean hashes anything: it is a label: what it is worth is what the hold of that sum in a sandbox is worth. -/
noncomputable def Try.pinned : Pinned := { name := "ytafailcjdkmdhaa", sum := "a03987dd223f2b30a93bee80f9c4c3d7cba3ff20cd8601722805a3d4870c35cc", checked := Try.checked }
namespace Rows
def none {H : Type} : Left H := { results := [], args := [] }

/-- 'refmeshlaw06.SpaceLimits': WHATEVER THE INPUT: true; the input reads as it did. -/
def spaceLimitsSpec : ChangeSpec := { name := "spaceLimits", fn := fun _ => fun
  | [d1, d2] => { results := [.lit (.bool true)], args := [d1, d2] }
  | _ => none }
def spaceLimitsRow : OpenClaim := { program := "ytafailcjdkmdhaa", sum := "a03987dd223f2b30a93bee80f9c4c3d7cba3ff20cd8601722805a3d4870c35cc", func := "refmesh/refmeshlaw06.SpaceLimits", spec := "spaceLimits", unfollowed := true, recurses := true, apart := false }
def SpaceLimitsSaid : Prop := spaceLimitsRow.holds Try.pinned (OpenSpec.ofChange spaceLimitsSpec)

/-- ITS FALSE NEIGHBOUR: 'it returns false'. Refute it at one input. -/
def spaceLimitsWrong : ChangeSpec := { name := "spaceLimits", fn := fun _ => fun
  | [d1, d2] => { results := [.lit (.bool false)], args := [d1, d2] }
  | _ => none }
def SpaceLimitsWrongFalsely : Prop := spaceLimitsRow.holds Try.pinned (OpenSpec.ofChange spaceLimitsWrong)

/-- 'refmeshlaw06.SpaceAddresses': WHATEVER THE INPUT: true; the input reads as it did. -/
def spaceAddressesSpec : ChangeSpec := { name := "spaceAddresses", fn := fun _ => fun
  | [d1, d2, d3, d4] => { results := [.lit (.bool true)], args := [d1, d2, d3, d4] }
  | _ => none }
def spaceAddressesRow : OpenClaim := { program := "ytafailcjdkmdhaa", sum := "a03987dd223f2b30a93bee80f9c4c3d7cba3ff20cd8601722805a3d4870c35cc", func := "refmesh/refmeshlaw06.SpaceAddresses", spec := "spaceAddresses", unfollowed := true, recurses := true, apart := false }
def SpaceAddressesSaid : Prop := spaceAddressesRow.holds Try.pinned (OpenSpec.ofChange spaceAddressesSpec)

/-- ITS FALSE NEIGHBOUR: 'it returns false'. Refute it at one input. -/
def spaceAddressesWrong : ChangeSpec := { name := "spaceAddresses", fn := fun _ => fun
  | [d1, d2, d3, d4] => { results := [.lit (.bool false)], args := [d1, d2, d3, d4] }
  | _ => none }
def SpaceAddressesWrongFalsely : Prop := spaceAddressesRow.holds Try.pinned (OpenSpec.ofChange spaceAddressesWrong)

/-- 'refmeshlaw06.SpaceWalks': WHATEVER THE INPUT: true; the input reads as it did. -/
def spaceWalksSpec : ChangeSpec := { name := "spaceWalks", fn := fun _ => fun
  | [d1, d2] => { results := [.lit (.bool true)], args := [d1, d2] }
  | _ => none }
def spaceWalksRow : OpenClaim := { program := "ytafailcjdkmdhaa", sum := "a03987dd223f2b30a93bee80f9c4c3d7cba3ff20cd8601722805a3d4870c35cc", func := "refmesh/refmeshlaw06.SpaceWalks", spec := "spaceWalks", unfollowed := true, recurses := true, apart := false }
def SpaceWalksSaid : Prop := spaceWalksRow.holds Try.pinned (OpenSpec.ofChange spaceWalksSpec)

/-- ITS FALSE NEIGHBOUR: 'it returns false'. Refute it at one input. -/
def spaceWalksWrong : ChangeSpec := { name := "spaceWalks", fn := fun _ => fun
  | [d1, d2] => { results := [.lit (.bool false)], args := [d1, d2] }
  | _ => none }
def SpaceWalksWrongFalsely : Prop := spaceWalksRow.holds Try.pinned (OpenSpec.ofChange spaceWalksWrong)

/-- 'refmeshlaw06.SpaceDamage': WHATEVER THE INPUT: true; the input reads as it did. -/
def spaceDamageSpec : ChangeSpec := { name := "spaceDamage", fn := fun _ => fun
  | [d1, d2, d3, d4] => { results := [.lit (.bool true)], args := [d1, d2, d3, d4] }
  | _ => none }
def spaceDamageRow : OpenClaim := { program := "ytafailcjdkmdhaa", sum := "a03987dd223f2b30a93bee80f9c4c3d7cba3ff20cd8601722805a3d4870c35cc", func := "refmesh/refmeshlaw06.SpaceDamage", spec := "spaceDamage", unfollowed := true, recurses := true, apart := false }
def SpaceDamageSaid : Prop := spaceDamageRow.holds Try.pinned (OpenSpec.ofChange spaceDamageSpec)

/-- ITS FALSE NEIGHBOUR: 'it returns false'. Refute it at one input. -/
def spaceDamageWrong : ChangeSpec := { name := "spaceDamage", fn := fun _ => fun
  | [d1, d2, d3, d4] => { results := [.lit (.bool false)], args := [d1, d2, d3, d4] }
  | _ => none }
def SpaceDamageWrongFalsely : Prop := spaceDamageRow.holds Try.pinned (OpenSpec.ofChange spaceDamageWrong)

/-- 'refmeshlaw06.SpaceTruncation': WHATEVER THE INPUT: true; the input reads as it did. -/
def spaceTruncationSpec : ChangeSpec := { name := "spaceTruncation", fn := fun _ => fun
  | [d1, d2, d3, d4] => { results := [.lit (.bool true)], args := [d1, d2, d3, d4] }
  | _ => none }
def spaceTruncationRow : OpenClaim := { program := "ytafailcjdkmdhaa", sum := "a03987dd223f2b30a93bee80f9c4c3d7cba3ff20cd8601722805a3d4870c35cc", func := "refmesh/refmeshlaw06.SpaceTruncation", spec := "spaceTruncation", unfollowed := true, recurses := true, apart := false }
def SpaceTruncationSaid : Prop := spaceTruncationRow.holds Try.pinned (OpenSpec.ofChange spaceTruncationSpec)

/-- ITS FALSE NEIGHBOUR: 'it returns false'. Refute it at one input. -/
def spaceTruncationWrong : ChangeSpec := { name := "spaceTruncation", fn := fun _ => fun
  | [d1, d2, d3, d4] => { results := [.lit (.bool false)], args := [d1, d2, d3, d4] }
  | _ => none }
def SpaceTruncationWrongFalsely : Prop := spaceTruncationRow.holds Try.pinned (OpenSpec.ofChange spaceTruncationWrong)

/-- 'refmeshlaw06.SpaceClones': WHATEVER THE INPUT: true; the input reads as it did. -/
def spaceClonesSpec : ChangeSpec := { name := "spaceClones", fn := fun _ => fun
  | [d1, d2, d3] => { results := [.lit (.bool true)], args := [d1, d2, d3] }
  | _ => none }
def spaceClonesRow : OpenClaim := { program := "ytafailcjdkmdhaa", sum := "a03987dd223f2b30a93bee80f9c4c3d7cba3ff20cd8601722805a3d4870c35cc", func := "refmesh/refmeshlaw06.SpaceClones", spec := "spaceClones", unfollowed := true, recurses := true, apart := false }
def SpaceClonesSaid : Prop := spaceClonesRow.holds Try.pinned (OpenSpec.ofChange spaceClonesSpec)

/-- ITS FALSE NEIGHBOUR: 'it returns false'. Refute it at one input. -/
def spaceClonesWrong : ChangeSpec := { name := "spaceClones", fn := fun _ => fun
  | [d1, d2, d3] => { results := [.lit (.bool false)], args := [d1, d2, d3] }
  | _ => none }
def SpaceClonesWrongFalsely : Prop := spaceClonesRow.holds Try.pinned (OpenSpec.ofChange spaceClonesWrong)

/- THE SECOND FORM. 'bulk': how many values and letters a reading holds, each counted each time it is reached (what is shared counts as often as it is met; a slice's spare places count too). A statement '..UptoSaid' is the law's where the arguments, and the package variables that the reading takes, are together of bulk at most 1048576: NARROWER than '..Said'. Prove '..Said' where nothing that the law and all that it calls make is longer than what came in: it says more and counts as full. Else prove '..UptoSaid'. A law counts once. -/
mutual
def uptoBulk {H : Type} : DataW H → Nat
  | .lit (.string bytes) => bytes.length + 1
  | .lit _ => 1
  | .nil => 1
  | .ptr d => uptoBulk d + 1
  | .slice elems spare => uptoBulkAll elems + uptoBulkAll spare + 1
  | .agg parts => uptoBulkAll parts + 1
  | .iface _ d => uptoBulk d + 1
  | .map entries => uptoBulkEntries entries + 1
  | .held _ => 1
def uptoBulkAll {H : Type} : List (DataW H) → Nat
  | [] => 0
  | d :: r => uptoBulk d + uptoBulkAll r
def uptoBulkEntries {H : Type} : List (Lit × DataW H) → Nat
  | [] => 0
  | x :: r => uptoBulkEntry x + uptoBulkEntries r
def uptoBulkEntry {H : Type} : Lit × DataW H → Nat
  | (.string bytes, d) => bytes.length + uptoBulk d + 1
  | (_, d) => uptoBulk d + 1
 end
def uptoSmall : (H : Type) → List (DataW H) → Bool := fun _ ds => decide (uptoBulkAll ds ≤ 1048576)
def OpenSpec.upto (s : _root_.Go.ChangeSpec) : _root_.Go.OpenSpec := { _root_.Go.OpenSpec.ofChange s with cond := some uptoSmall }

/-- 'refmeshlaw06.SpaceLimits', WHERE WHAT IT READS IS OF BULK AT MOST 1048576: true; the input reads as it did. -/
def spaceLimitsUptoRow : OpenClaim := { program := "ytafailcjdkmdhaa", sum := "a03987dd223f2b30a93bee80f9c4c3d7cba3ff20cd8601722805a3d4870c35cc", func := "refmesh/refmeshlaw06.SpaceLimits", spec := "spaceLimits", unfollowed := true, recurses := true, apart := false, narrowed := true }
def SpaceLimitsUptoSaid : Prop := spaceLimitsUptoRow.holds Try.pinned (OpenSpec.upto spaceLimitsSpec)

/-- 'refmeshlaw06.SpaceAddresses', WHERE WHAT IT READS IS OF BULK AT MOST 1048576: true; the input reads as it did. -/
def spaceAddressesUptoRow : OpenClaim := { program := "ytafailcjdkmdhaa", sum := "a03987dd223f2b30a93bee80f9c4c3d7cba3ff20cd8601722805a3d4870c35cc", func := "refmesh/refmeshlaw06.SpaceAddresses", spec := "spaceAddresses", unfollowed := true, recurses := true, apart := false, narrowed := true }
def SpaceAddressesUptoSaid : Prop := spaceAddressesUptoRow.holds Try.pinned (OpenSpec.upto spaceAddressesSpec)

/-- 'refmeshlaw06.SpaceWalks', WHERE WHAT IT READS IS OF BULK AT MOST 1048576: true; the input reads as it did. -/
def spaceWalksUptoRow : OpenClaim := { program := "ytafailcjdkmdhaa", sum := "a03987dd223f2b30a93bee80f9c4c3d7cba3ff20cd8601722805a3d4870c35cc", func := "refmesh/refmeshlaw06.SpaceWalks", spec := "spaceWalks", unfollowed := true, recurses := true, apart := false, narrowed := true }
def SpaceWalksUptoSaid : Prop := spaceWalksUptoRow.holds Try.pinned (OpenSpec.upto spaceWalksSpec)

/-- 'refmeshlaw06.SpaceDamage', WHERE WHAT IT READS IS OF BULK AT MOST 1048576: true; the input reads as it did. -/
def spaceDamageUptoRow : OpenClaim := { program := "ytafailcjdkmdhaa", sum := "a03987dd223f2b30a93bee80f9c4c3d7cba3ff20cd8601722805a3d4870c35cc", func := "refmesh/refmeshlaw06.SpaceDamage", spec := "spaceDamage", unfollowed := true, recurses := true, apart := false, narrowed := true }
def SpaceDamageUptoSaid : Prop := spaceDamageUptoRow.holds Try.pinned (OpenSpec.upto spaceDamageSpec)

/-- 'refmeshlaw06.SpaceTruncation', WHERE WHAT IT READS IS OF BULK AT MOST 1048576: true; the input reads as it did. -/
def spaceTruncationUptoRow : OpenClaim := { program := "ytafailcjdkmdhaa", sum := "a03987dd223f2b30a93bee80f9c4c3d7cba3ff20cd8601722805a3d4870c35cc", func := "refmesh/refmeshlaw06.SpaceTruncation", spec := "spaceTruncation", unfollowed := true, recurses := true, apart := false, narrowed := true }
def SpaceTruncationUptoSaid : Prop := spaceTruncationUptoRow.holds Try.pinned (OpenSpec.upto spaceTruncationSpec)

/-- 'refmeshlaw06.SpaceClones', WHERE WHAT IT READS IS OF BULK AT MOST 1048576: true; the input reads as it did. -/
def spaceClonesUptoRow : OpenClaim := { program := "ytafailcjdkmdhaa", sum := "a03987dd223f2b30a93bee80f9c4c3d7cba3ff20cd8601722805a3d4870c35cc", func := "refmesh/refmeshlaw06.SpaceClones", spec := "spaceClones", unfollowed := true, recurses := true, apart := false, narrowed := true }
def SpaceClonesUptoSaid : Prop := spaceClonesUptoRow.holds Try.pinned (OpenSpec.upto spaceClonesSpec)

end Rows
end Go.Proofs.Ytafailcjdkmdhaa
