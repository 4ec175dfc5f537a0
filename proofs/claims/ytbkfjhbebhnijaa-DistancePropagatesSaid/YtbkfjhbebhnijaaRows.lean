/-
  No cell of these rows narrows 'for every input' (looked for: loops, veiled, ifaces, maps, wideKeys, modest, calm, conditions, laid).
  DERIVED. THE GIVEN ROWS OF THIS SEAT. 8 by the template 'for every input the law returns true; each argument reads behind the call as it read before'; 0 by the template 'total and deterministic' (their statements: YtbkfjhbebhnijaaTotals.lean).
  GIVEN WITH THE SEED: the statements are not yours to turn. If you find one false, say at which input.
  Laid BY PROGRAM, IN A SANDBOX (cutbox-rows.mjs): the forced cells as the released guide's own fill.sh prints them over the translation 19e7746d661f08f0… (all of the seat's roots in one cut). By AI agents, Wed Nov 11 2026. No macro, syntax, notation, axiom, sorry.
-/
import Derived.Test.YtbkfjhbebhnijaaChecked
import GoSem.Claim
import GoSem.ClaimJoined
import GoSem.ClaimMapViews
import Derived.JoinedTies
import Derived.KernelRfl
namespace Go.Proofs.Ytbkfjhbebhnijaa
/- THE CELL 'sum', in the pinned program and in every row, IS THE sha256 OF THE DUMP (.gsa) THAT YtbkfjhbebhnijaaProg.lean LOADS. Nothing in Lean hashes anything: it is a label: what it is worth is what the hold of that sum in a sandbox is worth. -/
noncomputable def Try.pinned : Pinned := { name := "ytbkfjhbebhnijaa", sum := "19e7746d661f08f0a77cd9a44401f86bbaddd86f81cdda1b45e4200b87ca2640", checked := Try.checked }
namespace Rows
def none {H : Type} : Left H := { results := [], args := [] }

/-- 'refmeshlaw31.DistanceStubs': WHATEVER THE INPUT: true; the input reads as it did. -/
def distanceStubsSpec : ChangeSpec := { name := "distanceStubs", fn := fun _ => fun
  | [d1, d2] => { results := [.lit (.bool true)], args := [d1, d2] }
  | _ => none }
def distanceStubsRow : OpenClaim := { program := "ytbkfjhbebhnijaa", sum := "19e7746d661f08f0a77cd9a44401f86bbaddd86f81cdda1b45e4200b87ca2640", func := "refmesh/refmeshlaw31.DistanceStubs", spec := "distanceStubs", unfollowed := true, recurses := true, plainKeys := false, apart := false }
def DistanceStubsSaid : Prop := distanceStubsRow.holds Try.pinned (OpenSpec.ofChange distanceStubsSpec)

/-- ITS FALSE NEIGHBOUR: 'it returns false'. Refute it at one input. -/
def distanceStubsWrong : ChangeSpec := { name := "distanceStubs", fn := fun _ => fun
  | [d1, d2] => { results := [.lit (.bool false)], args := [d1, d2] }
  | _ => none }
def DistanceStubsWrongFalsely : Prop := distanceStubsRow.holds Try.pinned (OpenSpec.ofChange distanceStubsWrong)

/-- 'refmeshlaw31.DistanceRounds': WHATEVER THE INPUT: true; the input reads as it did. -/
def distanceRoundsSpec : ChangeSpec := { name := "distanceRounds", fn := fun _ => fun
  | [d1, d2, d3] => { results := [.lit (.bool true)], args := [d1, d2, d3] }
  | _ => none }
def distanceRoundsRow : OpenClaim := { program := "ytbkfjhbebhnijaa", sum := "19e7746d661f08f0a77cd9a44401f86bbaddd86f81cdda1b45e4200b87ca2640", func := "refmesh/refmeshlaw31.DistanceRounds", spec := "distanceRounds", unfollowed := true, recurses := true, plainKeys := false, apart := false }
def DistanceRoundsSaid : Prop := distanceRoundsRow.holds Try.pinned (OpenSpec.ofChange distanceRoundsSpec)

/-- ITS FALSE NEIGHBOUR: 'it returns false'. Refute it at one input. -/
def distanceRoundsWrong : ChangeSpec := { name := "distanceRounds", fn := fun _ => fun
  | [d1, d2, d3] => { results := [.lit (.bool false)], args := [d1, d2, d3] }
  | _ => none }
def DistanceRoundsWrongFalsely : Prop := distanceRoundsRow.holds Try.pinned (OpenSpec.ofChange distanceRoundsWrong)

/-- 'refmeshlaw31.DistanceBounds': WHATEVER THE INPUT: true; the input reads as it did. -/
def distanceBoundsSpec : ChangeSpec := { name := "distanceBounds", fn := fun _ => fun
  | [d1, d2] => { results := [.lit (.bool true)], args := [d1, d2] }
  | _ => none }
def distanceBoundsRow : OpenClaim := { program := "ytbkfjhbebhnijaa", sum := "19e7746d661f08f0a77cd9a44401f86bbaddd86f81cdda1b45e4200b87ca2640", func := "refmesh/refmeshlaw31.DistanceBounds", spec := "distanceBounds", unfollowed := true, recurses := true, plainKeys := false, apart := false }
def DistanceBoundsSaid : Prop := distanceBoundsRow.holds Try.pinned (OpenSpec.ofChange distanceBoundsSpec)

/-- ITS FALSE NEIGHBOUR: 'it returns false'. Refute it at one input. -/
def distanceBoundsWrong : ChangeSpec := { name := "distanceBounds", fn := fun _ => fun
  | [d1, d2] => { results := [.lit (.bool false)], args := [d1, d2] }
  | _ => none }
def DistanceBoundsWrongFalsely : Prop := distanceBoundsRow.holds Try.pinned (OpenSpec.ofChange distanceBoundsWrong)

/-- 'refmeshlaw31.DistanceConverges': WHATEVER THE INPUT: true; the input reads as it did. -/
def distanceConvergesSpec : ChangeSpec := { name := "distanceConverges", fn := fun _ => fun
  | [d1, d2, d3, d4] => { results := [.lit (.bool true)], args := [d1, d2, d3, d4] }
  | _ => none }
def distanceConvergesRow : OpenClaim := { program := "ytbkfjhbebhnijaa", sum := "19e7746d661f08f0a77cd9a44401f86bbaddd86f81cdda1b45e4200b87ca2640", func := "refmesh/refmeshlaw31.DistanceConverges", spec := "distanceConverges", unfollowed := true, recurses := true, plainKeys := false, apart := false }
def DistanceConvergesSaid : Prop := distanceConvergesRow.holds Try.pinned (OpenSpec.ofChange distanceConvergesSpec)

/-- ITS FALSE NEIGHBOUR: 'it returns false'. Refute it at one input. -/
def distanceConvergesWrong : ChangeSpec := { name := "distanceConverges", fn := fun _ => fun
  | [d1, d2, d3, d4] => { results := [.lit (.bool false)], args := [d1, d2, d3, d4] }
  | _ => none }
def DistanceConvergesWrongFalsely : Prop := distanceConvergesRow.holds Try.pinned (OpenSpec.ofChange distanceConvergesWrong)

/-- 'refmeshlaw31.DistanceGrows': WHATEVER THE INPUT: true; the input reads as it did. -/
def distanceGrowsSpec : ChangeSpec := { name := "distanceGrows", fn := fun _ => fun
  | [d1, d2, d3, d4] => { results := [.lit (.bool true)], args := [d1, d2, d3, d4] }
  | _ => none }
def distanceGrowsRow : OpenClaim := { program := "ytbkfjhbebhnijaa", sum := "19e7746d661f08f0a77cd9a44401f86bbaddd86f81cdda1b45e4200b87ca2640", func := "refmesh/refmeshlaw31.DistanceGrows", spec := "distanceGrows", unfollowed := true, recurses := true, plainKeys := false, apart := false }
def DistanceGrowsSaid : Prop := distanceGrowsRow.holds Try.pinned (OpenSpec.ofChange distanceGrowsSpec)

/-- ITS FALSE NEIGHBOUR: 'it returns false'. Refute it at one input. -/
def distanceGrowsWrong : ChangeSpec := { name := "distanceGrows", fn := fun _ => fun
  | [d1, d2, d3, d4] => { results := [.lit (.bool false)], args := [d1, d2, d3, d4] }
  | _ => none }
def DistanceGrowsWrongFalsely : Prop := distanceGrowsRow.holds Try.pinned (OpenSpec.ofChange distanceGrowsWrong)

/-- 'refmeshlaw31.DistanceMonotone': WHATEVER THE INPUT: true; the input reads as it did. -/
def distanceMonotoneSpec : ChangeSpec := { name := "distanceMonotone", fn := fun _ => fun
  | [d1, d2, d3, d4] => { results := [.lit (.bool true)], args := [d1, d2, d3, d4] }
  | _ => none }
def distanceMonotoneRow : OpenClaim := { program := "ytbkfjhbebhnijaa", sum := "19e7746d661f08f0a77cd9a44401f86bbaddd86f81cdda1b45e4200b87ca2640", func := "refmesh/refmeshlaw31.DistanceMonotone", spec := "distanceMonotone", unfollowed := true, recurses := true, plainKeys := false, apart := false }
def DistanceMonotoneSaid : Prop := distanceMonotoneRow.holds Try.pinned (OpenSpec.ofChange distanceMonotoneSpec)

/-- ITS FALSE NEIGHBOUR: 'it returns false'. Refute it at one input. -/
def distanceMonotoneWrong : ChangeSpec := { name := "distanceMonotone", fn := fun _ => fun
  | [d1, d2, d3, d4] => { results := [.lit (.bool false)], args := [d1, d2, d3, d4] }
  | _ => none }
def DistanceMonotoneWrongFalsely : Prop := distanceMonotoneRow.holds Try.pinned (OpenSpec.ofChange distanceMonotoneWrong)

/-- 'refmeshlaw31.DistanceSuspects': WHATEVER THE INPUT: true; the input reads as it did. -/
def distanceSuspectsSpec : ChangeSpec := { name := "distanceSuspects", fn := fun _ => fun
  | [d] => { results := [.lit (.bool true)], args := [d] }
  | _ => none }
def distanceSuspectsRow : OpenClaim := { program := "ytbkfjhbebhnijaa", sum := "19e7746d661f08f0a77cd9a44401f86bbaddd86f81cdda1b45e4200b87ca2640", func := "refmesh/refmeshlaw31.DistanceSuspects", spec := "distanceSuspects", unfollowed := true, recurses := true, plainKeys := false, apart := false }
def DistanceSuspectsSaid : Prop := distanceSuspectsRow.holds Try.pinned (OpenSpec.ofChange distanceSuspectsSpec)

/-- ITS FALSE NEIGHBOUR: 'it returns false'. Refute it at one input. -/
def distanceSuspectsWrong : ChangeSpec := { name := "distanceSuspects", fn := fun _ => fun
  | [d] => { results := [.lit (.bool false)], args := [d] }
  | _ => none }
def DistanceSuspectsWrongFalsely : Prop := distanceSuspectsRow.holds Try.pinned (OpenSpec.ofChange distanceSuspectsWrong)

/-- 'refmeshlaw31.DistancePropagates': WHATEVER THE INPUT: true; the input reads as it did. -/
def distancePropagatesSpec : ChangeSpec := { name := "distancePropagates", fn := fun _ => fun
  | [d1, d2] => { results := [.lit (.bool true)], args := [d1, d2] }
  | _ => none }
def distancePropagatesRow : OpenClaim := { program := "ytbkfjhbebhnijaa", sum := "19e7746d661f08f0a77cd9a44401f86bbaddd86f81cdda1b45e4200b87ca2640", func := "refmesh/refmeshlaw31.DistancePropagates", spec := "distancePropagates", unfollowed := true, recurses := true, plainKeys := false, apart := false }
def DistancePropagatesSaid : Prop := distancePropagatesRow.holds Try.pinned (OpenSpec.ofChange distancePropagatesSpec)

/-- ITS FALSE NEIGHBOUR: 'it returns false'. Refute it at one input. -/
def distancePropagatesWrong : ChangeSpec := { name := "distancePropagates", fn := fun _ => fun
  | [d1, d2] => { results := [.lit (.bool false)], args := [d1, d2] }
  | _ => none }
def DistancePropagatesWrongFalsely : Prop := distancePropagatesRow.holds Try.pinned (OpenSpec.ofChange distancePropagatesWrong)

/- THE SECOND FORM. 'bulk': how many values and letters a reading holds, each counted each time it is reached (what is shared counts as often as it is met; a slice's spare places count too). A statement '..UptoSaid' is the law's where the arguments, and the package variables that the reading takes, are together of bulk at most 1048576: NARROWER than '..Said'. Prove '..Said' where nothing that the law and all that it calls make is longer than what came in: it says more and counts as full. Else prove '..UptoSaid'. A law counts once. -/
mutual
def uptoBulk {H : Type} : DataW H → Nat
  | .lit (.string bytes) => bytes.length + 1
  | .lit _ => 1
  | .nil => 1
  | .ptr d => uptoBulk d + 1
  | .slice elems spare => uptoBulkAll elems + uptoBulkAll spare + 1
  | .agg parts => uptoBulkAll parts + 1
  | .iface _ d => uptoBulk d + 1
  | .map entries => uptoBulkEntries entries + 1
  | .held _ => 1
def uptoBulkAll {H : Type} : List (DataW H) → Nat
  | [] => 0
  | d :: r => uptoBulk d + uptoBulkAll r
def uptoBulkEntries {H : Type} : List (Lit × DataW H) → Nat
  | [] => 0
  | x :: r => uptoBulkEntry x + uptoBulkEntries r
def uptoBulkEntry {H : Type} : Lit × DataW H → Nat
  | (.string bytes, d) => bytes.length + uptoBulk d + 1
  | (_, d) => uptoBulk d + 1
 end
def uptoSmall : (H : Type) → List (DataW H) → Bool := fun _ ds => decide (uptoBulkAll ds ≤ 1048576)
def OpenSpec.upto (s : _root_.Go.ChangeSpec) : _root_.Go.OpenSpec := { _root_.Go.OpenSpec.ofChange s with cond := some uptoSmall }

/-- 'refmeshlaw31.DistanceStubs', WHERE WHAT IT READS IS OF BULK AT MOST 1048576: true; the input reads as it did. -/
def distanceStubsUptoRow : OpenClaim := { program := "ytbkfjhbebhnijaa", sum := "19e7746d661f08f0a77cd9a44401f86bbaddd86f81cdda1b45e4200b87ca2640", func := "refmesh/refmeshlaw31.DistanceStubs", spec := "distanceStubs", unfollowed := true, recurses := true, plainKeys := false, apart := false, narrowed := true }
def DistanceStubsUptoSaid : Prop := distanceStubsUptoRow.holds Try.pinned (OpenSpec.upto distanceStubsSpec)

/-- 'refmeshlaw31.DistanceRounds', WHERE WHAT IT READS IS OF BULK AT MOST 1048576: true; the input reads as it did. -/
def distanceRoundsUptoRow : OpenClaim := { program := "ytbkfjhbebhnijaa", sum := "19e7746d661f08f0a77cd9a44401f86bbaddd86f81cdda1b45e4200b87ca2640", func := "refmesh/refmeshlaw31.DistanceRounds", spec := "distanceRounds", unfollowed := true, recurses := true, plainKeys := false, apart := false, narrowed := true }
def DistanceRoundsUptoSaid : Prop := distanceRoundsUptoRow.holds Try.pinned (OpenSpec.upto distanceRoundsSpec)

/-- 'refmeshlaw31.DistanceBounds', WHERE WHAT IT READS IS OF BULK AT MOST 1048576: true; the input reads as it did. -/
def distanceBoundsUptoRow : OpenClaim := { program := "ytbkfjhbebhnijaa", sum := "19e7746d661f08f0a77cd9a44401f86bbaddd86f81cdda1b45e4200b87ca2640", func := "refmesh/refmeshlaw31.DistanceBounds", spec := "distanceBounds", unfollowed := true, recurses := true, plainKeys := false, apart := false, narrowed := true }
def DistanceBoundsUptoSaid : Prop := distanceBoundsUptoRow.holds Try.pinned (OpenSpec.upto distanceBoundsSpec)

/-- 'refmeshlaw31.DistanceConverges', WHERE WHAT IT READS IS OF BULK AT MOST 1048576: true; the input reads as it did. -/
def distanceConvergesUptoRow : OpenClaim := { program := "ytbkfjhbebhnijaa", sum := "19e7746d661f08f0a77cd9a44401f86bbaddd86f81cdda1b45e4200b87ca2640", func := "refmesh/refmeshlaw31.DistanceConverges", spec := "distanceConverges", unfollowed := true, recurses := true, plainKeys := false, apart := false, narrowed := true }
def DistanceConvergesUptoSaid : Prop := distanceConvergesUptoRow.holds Try.pinned (OpenSpec.upto distanceConvergesSpec)

/-- 'refmeshlaw31.DistanceGrows', WHERE WHAT IT READS IS OF BULK AT MOST 1048576: true; the input reads as it did. -/
def distanceGrowsUptoRow : OpenClaim := { program := "ytbkfjhbebhnijaa", sum := "19e7746d661f08f0a77cd9a44401f86bbaddd86f81cdda1b45e4200b87ca2640", func := "refmesh/refmeshlaw31.DistanceGrows", spec := "distanceGrows", unfollowed := true, recurses := true, plainKeys := false, apart := false, narrowed := true }
def DistanceGrowsUptoSaid : Prop := distanceGrowsUptoRow.holds Try.pinned (OpenSpec.upto distanceGrowsSpec)

/-- 'refmeshlaw31.DistanceMonotone', WHERE WHAT IT READS IS OF BULK AT MOST 1048576: true; the input reads as it did. -/
def distanceMonotoneUptoRow : OpenClaim := { program := "ytbkfjhbebhnijaa", sum := "19e7746d661f08f0a77cd9a44401f86bbaddd86f81cdda1b45e4200b87ca2640", func := "refmesh/refmeshlaw31.DistanceMonotone", spec := "distanceMonotone", unfollowed := true, recurses := true, plainKeys := false, apart := false, narrowed := true }
def DistanceMonotoneUptoSaid : Prop := distanceMonotoneUptoRow.holds Try.pinned (OpenSpec.upto distanceMonotoneSpec)

/-- 'refmeshlaw31.DistanceSuspects', WHERE WHAT IT READS IS OF BULK AT MOST 1048576: true; the input reads as it did. -/
def distanceSuspectsUptoRow : OpenClaim := { program := "ytbkfjhbebhnijaa", sum := "19e7746d661f08f0a77cd9a44401f86bbaddd86f81cdda1b45e4200b87ca2640", func := "refmesh/refmeshlaw31.DistanceSuspects", spec := "distanceSuspects", unfollowed := true, recurses := true, plainKeys := false, apart := false, narrowed := true }
def DistanceSuspectsUptoSaid : Prop := distanceSuspectsUptoRow.holds Try.pinned (OpenSpec.upto distanceSuspectsSpec)

/-- 'refmeshlaw31.DistancePropagates', WHERE WHAT IT READS IS OF BULK AT MOST 1048576: true; the input reads as it did. -/
def distancePropagatesUptoRow : OpenClaim := { program := "ytbkfjhbebhnijaa", sum := "19e7746d661f08f0a77cd9a44401f86bbaddd86f81cdda1b45e4200b87ca2640", func := "refmesh/refmeshlaw31.DistancePropagates", spec := "distancePropagates", unfollowed := true, recurses := true, plainKeys := false, apart := false, narrowed := true }
def DistancePropagatesUptoSaid : Prop := distancePropagatesUptoRow.holds Try.pinned (OpenSpec.upto distancePropagatesSpec)

end Rows
end Go.Proofs.Ytbkfjhbebhnijaa
