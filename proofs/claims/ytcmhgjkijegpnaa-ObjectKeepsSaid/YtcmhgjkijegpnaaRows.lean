/-
  No cell of these rows narrows 'for every input' (looked for: loops, veiled, ifaces, maps, wideKeys, modest, calm, conditions, laid).
  DERIVED. THE GIVEN ROWS OF THIS SEAT. 6 by the template 'for every input the law returns true; each argument reads behind the call as it read before'; 0 by the template 'total and deterministic' (their statements: YtcmhgjkijegpnaaTotals.lean).
  GIVEN WITH THE SEED: the statements are not yours to turn. If you find one false, say at which input.
  Laid BY PROGRAM, IN A SANDBOX (cutbox-rows.mjs): the forced cells as the released guide's own fill.sh prints them over the translation b00f8c3cfe4fc4ce… (all of the seat's roots in one cut). By AI agents, Wed Nov 11 2026. No macro, syntax, notation, axiom, sorry.
-/
import Derived.Test.YtcmhgjkijegpnaaChecked
import GoSem.Claim
import GoSem.ClaimJoined
import GoSem.ClaimMapViews
import Derived.JoinedTies
import Derived.KernelRfl
namespace Go.Proofs.Ytcmhgjkijegpnaa
/- THE CELL 'sum', in the pinned program and in every row, IS THE sha256 OF THE DUMP (.gsa) THAT YtcmhgjkijegpnaaProg.lean LOADS. Nothing in Lean hashes anything: it is a label: what it is worth is what the hold of that sum in a sandbox is worth. -/
noncomputable def Try.pinned : Pinned := { name := "ytcmhgjkijegpnaa", sum := "b00f8c3cfe4fc4cef87a9ce559dc7e5ae8e3733c50b189015d4bbbc71a365ba2", checked := Try.checked }
namespace Rows
def none {H : Type} : Left H := { results := [], args := [] }

/-- 'refmeshlaw07.ObjectLimits': WHATEVER THE INPUT: true; the input reads as it did. -/
def objectLimitsSpec : ChangeSpec := { name := "objectLimits", fn := fun _ => fun
  | [d1, d2, d3, d4] => { results := [.lit (.bool true)], args := [d1, d2, d3, d4] }
  | _ => none }
def objectLimitsRow : OpenClaim := { program := "ytcmhgjkijegpnaa", sum := "b00f8c3cfe4fc4cef87a9ce559dc7e5ae8e3733c50b189015d4bbbc71a365ba2", func := "refmesh/refmeshlaw07.ObjectLimits", spec := "objectLimits", unfollowed := true, recurses := true, apart := false }
def ObjectLimitsSaid : Prop := objectLimitsRow.holds Try.pinned (OpenSpec.ofChange objectLimitsSpec)

/-- ITS FALSE NEIGHBOUR: 'it returns false'. Refute it at one input. -/
def objectLimitsWrong : ChangeSpec := { name := "objectLimits", fn := fun _ => fun
  | [d1, d2, d3, d4] => { results := [.lit (.bool false)], args := [d1, d2, d3, d4] }
  | _ => none }
def ObjectLimitsWrongFalsely : Prop := objectLimitsRow.holds Try.pinned (OpenSpec.ofChange objectLimitsWrong)

/-- 'refmeshlaw07.ObjectCalls': WHATEVER THE INPUT: true; the input reads as it did. -/
def objectCallsSpec : ChangeSpec := { name := "objectCalls", fn := fun _ => fun
  | [d] => { results := [.lit (.bool true)], args := [d] }
  | _ => none }
def objectCallsRow : OpenClaim := { program := "ytcmhgjkijegpnaa", sum := "b00f8c3cfe4fc4cef87a9ce559dc7e5ae8e3733c50b189015d4bbbc71a365ba2", func := "refmesh/refmeshlaw07.ObjectCalls", spec := "objectCalls", unfollowed := true, recurses := true, apart := false }
def ObjectCallsSaid : Prop := objectCallsRow.holds Try.pinned (OpenSpec.ofChange objectCallsSpec)

/-- ITS FALSE NEIGHBOUR: 'it returns false'. Refute it at one input. -/
def objectCallsWrong : ChangeSpec := { name := "objectCalls", fn := fun _ => fun
  | [d] => { results := [.lit (.bool false)], args := [d] }
  | _ => none }
def ObjectCallsWrongFalsely : Prop := objectCallsRow.holds Try.pinned (OpenSpec.ofChange objectCallsWrong)

/-- 'refmeshlaw07.ObjectForwards': WHATEVER THE INPUT: true; the input reads as it did. -/
def objectForwardsSpec : ChangeSpec := { name := "objectForwards", fn := fun _ => fun
  | [d1, d2, d3] => { results := [.lit (.bool true)], args := [d1, d2, d3] }
  | _ => none }
def objectForwardsRow : OpenClaim := { program := "ytcmhgjkijegpnaa", sum := "b00f8c3cfe4fc4cef87a9ce559dc7e5ae8e3733c50b189015d4bbbc71a365ba2", func := "refmesh/refmeshlaw07.ObjectForwards", spec := "objectForwards", unfollowed := true, recurses := true, apart := false }
def ObjectForwardsSaid : Prop := objectForwardsRow.holds Try.pinned (OpenSpec.ofChange objectForwardsSpec)

/-- ITS FALSE NEIGHBOUR: 'it returns false'. Refute it at one input. -/
def objectForwardsWrong : ChangeSpec := { name := "objectForwards", fn := fun _ => fun
  | [d1, d2, d3] => { results := [.lit (.bool false)], args := [d1, d2, d3] }
  | _ => none }
def ObjectForwardsWrongFalsely : Prop := objectForwardsRow.holds Try.pinned (OpenSpec.ofChange objectForwardsWrong)

/-- 'refmeshlaw07.ObjectKeeps': WHATEVER THE INPUT: true; the input reads as it did. -/
def objectKeepsSpec : ChangeSpec := { name := "objectKeeps", fn := fun _ => fun
  | [d1, d2] => { results := [.lit (.bool true)], args := [d1, d2] }
  | _ => none }
def objectKeepsRow : OpenClaim := { program := "ytcmhgjkijegpnaa", sum := "b00f8c3cfe4fc4cef87a9ce559dc7e5ae8e3733c50b189015d4bbbc71a365ba2", func := "refmesh/refmeshlaw07.ObjectKeeps", spec := "objectKeeps", unfollowed := true, recurses := true, apart := false }
def ObjectKeepsSaid : Prop := objectKeepsRow.holds Try.pinned (OpenSpec.ofChange objectKeepsSpec)

/-- ITS FALSE NEIGHBOUR: 'it returns false'. Refute it at one input. -/
def objectKeepsWrong : ChangeSpec := { name := "objectKeeps", fn := fun _ => fun
  | [d1, d2] => { results := [.lit (.bool false)], args := [d1, d2] }
  | _ => none }
def ObjectKeepsWrongFalsely : Prop := objectKeepsRow.holds Try.pinned (OpenSpec.ofChange objectKeepsWrong)

/-- 'refmeshlaw07.ObjectFields': WHATEVER THE INPUT: true; the input reads as it did. -/
def objectFieldsSpec : ChangeSpec := { name := "objectFields", fn := fun _ => fun
  | [d1, d2, d3, d4] => { results := [.lit (.bool true)], args := [d1, d2, d3, d4] }
  | _ => none }
def objectFieldsRow : OpenClaim := { program := "ytcmhgjkijegpnaa", sum := "b00f8c3cfe4fc4cef87a9ce559dc7e5ae8e3733c50b189015d4bbbc71a365ba2", func := "refmesh/refmeshlaw07.ObjectFields", spec := "objectFields", unfollowed := true, recurses := true, apart := false }
def ObjectFieldsSaid : Prop := objectFieldsRow.holds Try.pinned (OpenSpec.ofChange objectFieldsSpec)

/-- ITS FALSE NEIGHBOUR: 'it returns false'. Refute it at one input. -/
def objectFieldsWrong : ChangeSpec := { name := "objectFields", fn := fun _ => fun
  | [d1, d2, d3, d4] => { results := [.lit (.bool false)], args := [d1, d2, d3, d4] }
  | _ => none }
def ObjectFieldsWrongFalsely : Prop := objectFieldsRow.holds Try.pinned (OpenSpec.ofChange objectFieldsWrong)

/-- 'refmeshlaw07.ObjectReads': WHATEVER THE INPUT: true; the input reads as it did. -/
def objectReadsSpec : ChangeSpec := { name := "objectReads", fn := fun _ => fun
  | [d1, d2, d3] => { results := [.lit (.bool true)], args := [d1, d2, d3] }
  | _ => none }
def objectReadsRow : OpenClaim := { program := "ytcmhgjkijegpnaa", sum := "b00f8c3cfe4fc4cef87a9ce559dc7e5ae8e3733c50b189015d4bbbc71a365ba2", func := "refmesh/refmeshlaw07.ObjectReads", spec := "objectReads", unfollowed := true, recurses := true, apart := false }
def ObjectReadsSaid : Prop := objectReadsRow.holds Try.pinned (OpenSpec.ofChange objectReadsSpec)

/-- ITS FALSE NEIGHBOUR: 'it returns false'. Refute it at one input. -/
def objectReadsWrong : ChangeSpec := { name := "objectReads", fn := fun _ => fun
  | [d1, d2, d3] => { results := [.lit (.bool false)], args := [d1, d2, d3] }
  | _ => none }
def ObjectReadsWrongFalsely : Prop := objectReadsRow.holds Try.pinned (OpenSpec.ofChange objectReadsWrong)

/- THE SECOND FORM. 'bulk': how many values and letters a reading holds, each counted each time it is reached (what is shared counts as often as it is met; a slice's spare places count too). A statement '..UptoSaid' is the law's where the arguments, and the package variables that the reading takes, are together of bulk at most 1048576: NARROWER than '..Said'. Prove '..Said' where nothing that the law and all that it calls make is longer than what came in: it says more and counts as full. Else prove '..UptoSaid'. A law counts once. -/
mutual
def uptoBulk {H : Type} : DataW H → Nat
  | .lit (.string bytes) => bytes.length + 1
  | .lit _ => 1
  | .nil => 1
  | .ptr d => uptoBulk d + 1
  | .slice elems spare => uptoBulkAll elems + uptoBulkAll spare + 1
  | .agg parts => uptoBulkAll parts + 1
  | .iface _ d => uptoBulk d + 1
  | .map entries => uptoBulkEntries entries + 1
  | .held _ => 1
def uptoBulkAll {H : Type} : List (DataW H) → Nat
  | [] => 0
  | d :: r => uptoBulk d + uptoBulkAll r
def uptoBulkEntries {H : Type} : List (Lit × DataW H) → Nat
  | [] => 0
  | x :: r => uptoBulkEntry x + uptoBulkEntries r
def uptoBulkEntry {H : Type} : Lit × DataW H → Nat
  | (.string bytes, d) => bytes.length + uptoBulk d + 1
  | (_, d) => uptoBulk d + 1
 end
def uptoSmall : (H : Type) → List (DataW H) → Bool := fun _ ds => decide (uptoBulkAll ds ≤ 1048576)
def OpenSpec.upto (s : _root_.Go.ChangeSpec) : _root_.Go.OpenSpec := { _root_.Go.OpenSpec.ofChange s with cond := some uptoSmall }

/-- 'refmeshlaw07.ObjectLimits', WHERE WHAT IT READS IS OF BULK AT MOST 1048576: true; the input reads as it did. -/
def objectLimitsUptoRow : OpenClaim := { program := "ytcmhgjkijegpnaa", sum := "b00f8c3cfe4fc4cef87a9ce559dc7e5ae8e3733c50b189015d4bbbc71a365ba2", func := "refmesh/refmeshlaw07.ObjectLimits", spec := "objectLimits", unfollowed := true, recurses := true, apart := false, narrowed := true }
def ObjectLimitsUptoSaid : Prop := objectLimitsUptoRow.holds Try.pinned (OpenSpec.upto objectLimitsSpec)

/-- 'refmeshlaw07.ObjectCalls', WHERE WHAT IT READS IS OF BULK AT MOST 1048576: true; the input reads as it did. -/
def objectCallsUptoRow : OpenClaim := { program := "ytcmhgjkijegpnaa", sum := "b00f8c3cfe4fc4cef87a9ce559dc7e5ae8e3733c50b189015d4bbbc71a365ba2", func := "refmesh/refmeshlaw07.ObjectCalls", spec := "objectCalls", unfollowed := true, recurses := true, apart := false, narrowed := true }
def ObjectCallsUptoSaid : Prop := objectCallsUptoRow.holds Try.pinned (OpenSpec.upto objectCallsSpec)

/-- 'refmeshlaw07.ObjectForwards', WHERE WHAT IT READS IS OF BULK AT MOST 1048576: true; the input reads as it did. -/
def objectForwardsUptoRow : OpenClaim := { program := "ytcmhgjkijegpnaa", sum := "b00f8c3cfe4fc4cef87a9ce559dc7e5ae8e3733c50b189015d4bbbc71a365ba2", func := "refmesh/refmeshlaw07.ObjectForwards", spec := "objectForwards", unfollowed := true, recurses := true, apart := false, narrowed := true }
def ObjectForwardsUptoSaid : Prop := objectForwardsUptoRow.holds Try.pinned (OpenSpec.upto objectForwardsSpec)

/-- 'refmeshlaw07.ObjectKeeps', WHERE WHAT IT READS IS OF BULK AT MOST 1048576: true; the input reads as it did. -/
def objectKeepsUptoRow : OpenClaim := { program := "ytcmhgjkijegpnaa", sum := "b00f8c3cfe4fc4cef87a9ce559dc7e5ae8e3733c50b189015d4bbbc71a365ba2", func := "refmesh/refmeshlaw07.ObjectKeeps", spec := "objectKeeps", unfollowed := true, recurses := true, apart := false, narrowed := true }
def ObjectKeepsUptoSaid : Prop := objectKeepsUptoRow.holds Try.pinned (OpenSpec.upto objectKeepsSpec)

/-- 'refmeshlaw07.ObjectFields', WHERE WHAT IT READS IS OF BULK AT MOST 1048576: true; the input reads as it did. -/
def objectFieldsUptoRow : OpenClaim := { program := "ytcmhgjkijegpnaa", sum := "b00f8c3cfe4fc4cef87a9ce559dc7e5ae8e3733c50b189015d4bbbc71a365ba2", func := "refmesh/refmeshlaw07.ObjectFields", spec := "objectFields", unfollowed := true, recurses := true, apart := false, narrowed := true }
def ObjectFieldsUptoSaid : Prop := objectFieldsUptoRow.holds Try.pinned (OpenSpec.upto objectFieldsSpec)

/-- 'refmeshlaw07.ObjectReads', WHERE WHAT IT READS IS OF BULK AT MOST 1048576: true; the input reads as it did. -/
def objectReadsUptoRow : OpenClaim := { program := "ytcmhgjkijegpnaa", sum := "b00f8c3cfe4fc4cef87a9ce559dc7e5ae8e3733c50b189015d4bbbc71a365ba2", func := "refmesh/refmeshlaw07.ObjectReads", spec := "objectReads", unfollowed := true, recurses := true, apart := false, narrowed := true }
def ObjectReadsUptoSaid : Prop := objectReadsUptoRow.holds Try.pinned (OpenSpec.upto objectReadsSpec)

end Rows
end Go.Proofs.Ytcmhgjkijegpnaa
