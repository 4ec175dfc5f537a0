/-
  No cell of these rows narrows 'for every input' (looked for: loops, veiled, ifaces, maps, wideKeys, modest, calm, conditions, laid).
  DERIVED. THE GIVEN ROWS OF THIS SEAT. 7 by the template 'for every input the law returns true; each argument reads behind the call as it read before'; 0 by the template 'total and deterministic' (their statements: YtogihldcphgoeaaTotals.lean).
  GIVEN WITH THE SEED: the statements are not yours to turn. If you find one false, say at which input.
  Laid BY PROGRAM, IN A SANDBOX (cutbox-rows.mjs): the forced cells as the released guide's own fill.sh prints them over the translation e8f991fc9b743e68… (all of the seat's roots in one cut). By AI agents, Wed Nov 11 2026. No macro, syntax, notation, axiom, sorry.
-/
import Derived.Test.YtogihldcphgoeaaChecked
import GoSem.Claim
import GoSem.ClaimJoined
import GoSem.ClaimMapViews
import Derived.JoinedTies
import Derived.KernelRfl
namespace Go.Proofs.Ytogihldcphgoeaa
/- THE CELL 'sum', in the pinned program and in every row, IS THE sha256 OF THE DUMP (.gsa) THAT YtogihldcphgoeaaProg.lean LOADS. Nothing in Lean hashes anything: it is a label: what it is worth is what the hold of that sum in a sandbox is worth. -/
noncomputable def Try.pinned : Pinned := { name := "ytogihldcphgoeaa", sum := "e8f991fc9b743e684ae4e60d4743ad615f7a6d43167f7d017a7484f82efc5a3c", checked := Try.checked }
namespace Rows
def none {H : Type} : Left H := { results := [], args := [] }

/-- 'refmeshlaw05.HeaderEncodes': WHATEVER THE INPUT: true; the input reads as it did. -/
def headerEncodesSpec : ChangeSpec := { name := "headerEncodes", fn := fun _ => fun
  | [d] => { results := [.lit (.bool true)], args := [d] }
  | _ => none }
def headerEncodesRow : OpenClaim := { program := "ytogihldcphgoeaa", sum := "e8f991fc9b743e684ae4e60d4743ad615f7a6d43167f7d017a7484f82efc5a3c", func := "refmesh/refmeshlaw05.HeaderEncodes", spec := "headerEncodes", unfollowed := true, recurses := true, apart := false }
def HeaderEncodesSaid : Prop := headerEncodesRow.holds Try.pinned (OpenSpec.ofChange headerEncodesSpec)

/-- ITS FALSE NEIGHBOUR: 'it returns false'. Refute it at one input. -/
def headerEncodesWrong : ChangeSpec := { name := "headerEncodes", fn := fun _ => fun
  | [d] => { results := [.lit (.bool false)], args := [d] }
  | _ => none }
def HeaderEncodesWrongFalsely : Prop := headerEncodesRow.holds Try.pinned (OpenSpec.ofChange headerEncodesWrong)

/-- 'refmeshlaw05.HeaderNames': WHATEVER THE INPUT: true; the input reads as it did. -/
def headerNamesSpec : ChangeSpec := { name := "headerNames", fn := fun _ => fun
  | [d1, d2] => { results := [.lit (.bool true)], args := [d1, d2] }
  | _ => none }
def headerNamesRow : OpenClaim := { program := "ytogihldcphgoeaa", sum := "e8f991fc9b743e684ae4e60d4743ad615f7a6d43167f7d017a7484f82efc5a3c", func := "refmesh/refmeshlaw05.HeaderNames", spec := "headerNames", unfollowed := true, recurses := true, apart := false }
def HeaderNamesSaid : Prop := headerNamesRow.holds Try.pinned (OpenSpec.ofChange headerNamesSpec)

/-- ITS FALSE NEIGHBOUR: 'it returns false'. Refute it at one input. -/
def headerNamesWrong : ChangeSpec := { name := "headerNames", fn := fun _ => fun
  | [d1, d2] => { results := [.lit (.bool false)], args := [d1, d2] }
  | _ => none }
def HeaderNamesWrongFalsely : Prop := headerNamesRow.holds Try.pinned (OpenSpec.ofChange headerNamesWrong)

/-- 'refmeshlaw05.HeaderInverse': WHATEVER THE INPUT: true; the input reads as it did. -/
def headerInverseSpec : ChangeSpec := { name := "headerInverse", fn := fun _ => fun
  | [d1, d2] => { results := [.lit (.bool true)], args := [d1, d2] }
  | _ => none }
def headerInverseRow : OpenClaim := { program := "ytogihldcphgoeaa", sum := "e8f991fc9b743e684ae4e60d4743ad615f7a6d43167f7d017a7484f82efc5a3c", func := "refmesh/refmeshlaw05.HeaderInverse", spec := "headerInverse", unfollowed := true, recurses := true, apart := false }
def HeaderInverseSaid : Prop := headerInverseRow.holds Try.pinned (OpenSpec.ofChange headerInverseSpec)

/-- ITS FALSE NEIGHBOUR: 'it returns false'. Refute it at one input. -/
def headerInverseWrong : ChangeSpec := { name := "headerInverse", fn := fun _ => fun
  | [d1, d2] => { results := [.lit (.bool false)], args := [d1, d2] }
  | _ => none }
def HeaderInverseWrongFalsely : Prop := headerInverseRow.holds Try.pinned (OpenSpec.ofChange headerInverseWrong)

/-- 'refmeshlaw05.HeaderIdentities': WHATEVER THE INPUT: true; the input reads as it did. -/
def headerIdentitiesSpec : ChangeSpec := { name := "headerIdentities", fn := fun _ => fun
  | [d1, d2] => { results := [.lit (.bool true)], args := [d1, d2] }
  | _ => none }
def headerIdentitiesRow : OpenClaim := { program := "ytogihldcphgoeaa", sum := "e8f991fc9b743e684ae4e60d4743ad615f7a6d43167f7d017a7484f82efc5a3c", func := "refmesh/refmeshlaw05.HeaderIdentities", spec := "headerIdentities", unfollowed := true, recurses := true, apart := false }
def HeaderIdentitiesSaid : Prop := headerIdentitiesRow.holds Try.pinned (OpenSpec.ofChange headerIdentitiesSpec)

/-- ITS FALSE NEIGHBOUR: 'it returns false'. Refute it at one input. -/
def headerIdentitiesWrong : ChangeSpec := { name := "headerIdentities", fn := fun _ => fun
  | [d1, d2] => { results := [.lit (.bool false)], args := [d1, d2] }
  | _ => none }
def HeaderIdentitiesWrongFalsely : Prop := headerIdentitiesRow.holds Try.pinned (OpenSpec.ofChange headerIdentitiesWrong)

/-- 'refmeshlaw05.HeaderSame': WHATEVER THE INPUT: true; the input reads as it did. -/
def headerSameSpec : ChangeSpec := { name := "headerSame", fn := fun _ => fun
  | [d1, d2] => { results := [.lit (.bool true)], args := [d1, d2] }
  | _ => none }
def headerSameRow : OpenClaim := { program := "ytogihldcphgoeaa", sum := "e8f991fc9b743e684ae4e60d4743ad615f7a6d43167f7d017a7484f82efc5a3c", func := "refmesh/refmeshlaw05.HeaderSame", spec := "headerSame", unfollowed := true, recurses := true, apart := false }
def HeaderSameSaid : Prop := headerSameRow.holds Try.pinned (OpenSpec.ofChange headerSameSpec)

/-- ITS FALSE NEIGHBOUR: 'it returns false'. Refute it at one input. -/
def headerSameWrong : ChangeSpec := { name := "headerSame", fn := fun _ => fun
  | [d1, d2] => { results := [.lit (.bool false)], args := [d1, d2] }
  | _ => none }
def HeaderSameWrongFalsely : Prop := headerSameRow.holds Try.pinned (OpenSpec.ofChange headerSameWrong)

/-- 'refmeshlaw05.HeaderDecodes': WHATEVER THE INPUT: true; the input reads as it did. -/
def headerDecodesSpec : ChangeSpec := { name := "headerDecodes", fn := fun _ => fun
  | [d1, d2] => { results := [.lit (.bool true)], args := [d1, d2] }
  | _ => none }
def headerDecodesRow : OpenClaim := { program := "ytogihldcphgoeaa", sum := "e8f991fc9b743e684ae4e60d4743ad615f7a6d43167f7d017a7484f82efc5a3c", func := "refmesh/refmeshlaw05.HeaderDecodes", spec := "headerDecodes", unfollowed := true, recurses := true, apart := false }
def HeaderDecodesSaid : Prop := headerDecodesRow.holds Try.pinned (OpenSpec.ofChange headerDecodesSpec)

/-- ITS FALSE NEIGHBOUR: 'it returns false'. Refute it at one input. -/
def headerDecodesWrong : ChangeSpec := { name := "headerDecodes", fn := fun _ => fun
  | [d1, d2] => { results := [.lit (.bool false)], args := [d1, d2] }
  | _ => none }
def HeaderDecodesWrongFalsely : Prop := headerDecodesRow.holds Try.pinned (OpenSpec.ofChange headerDecodesWrong)

/-- 'refmeshlaw05.HeaderSizes': WHATEVER THE INPUT: true; the input reads as it did. -/
def headerSizesSpec : ChangeSpec := { name := "headerSizes", fn := fun _ => fun
  | [d] => { results := [.lit (.bool true)], args := [d] }
  | _ => none }
def headerSizesRow : OpenClaim := { program := "ytogihldcphgoeaa", sum := "e8f991fc9b743e684ae4e60d4743ad615f7a6d43167f7d017a7484f82efc5a3c", func := "refmesh/refmeshlaw05.HeaderSizes", spec := "headerSizes", unfollowed := true, recurses := true, apart := false }
def HeaderSizesSaid : Prop := headerSizesRow.holds Try.pinned (OpenSpec.ofChange headerSizesSpec)

/-- ITS FALSE NEIGHBOUR: 'it returns false'. Refute it at one input. -/
def headerSizesWrong : ChangeSpec := { name := "headerSizes", fn := fun _ => fun
  | [d] => { results := [.lit (.bool false)], args := [d] }
  | _ => none }
def HeaderSizesWrongFalsely : Prop := headerSizesRow.holds Try.pinned (OpenSpec.ofChange headerSizesWrong)

/- THE SECOND FORM. 'bulk': how many values and letters a reading holds, each counted each time it is reached (what is shared counts as often as it is met; a slice's spare places count too). A statement '..UptoSaid' is the law's where the arguments, and the package variables that the reading takes, are together of bulk at most 1048576: NARROWER than '..Said'. Prove '..Said' where nothing that the law and all that it calls make is longer than what came in: it says more and counts as full. Else prove '..UptoSaid'. A law counts once. -/
mutual
def uptoBulk {H : Type} : DataW H → Nat
  | .lit (.string bytes) => bytes.length + 1
  | .lit _ => 1
  | .nil => 1
  | .ptr d => uptoBulk d + 1
  | .slice elems spare => uptoBulkAll elems + uptoBulkAll spare + 1
  | .agg parts => uptoBulkAll parts + 1
  | .iface _ d => uptoBulk d + 1
  | .map entries => uptoBulkEntries entries + 1
  | .held _ => 1
def uptoBulkAll {H : Type} : List (DataW H) → Nat
  | [] => 0
  | d :: r => uptoBulk d + uptoBulkAll r
def uptoBulkEntries {H : Type} : List (Lit × DataW H) → Nat
  | [] => 0
  | x :: r => uptoBulkEntry x + uptoBulkEntries r
def uptoBulkEntry {H : Type} : Lit × DataW H → Nat
  | (.string bytes, d) => bytes.length + uptoBulk d + 1
  | (_, d) => uptoBulk d + 1
 end
def uptoSmall : (H : Type) → List (DataW H) → Bool := fun _ ds => decide (uptoBulkAll ds ≤ 1048576)
def OpenSpec.upto (s : _root_.Go.ChangeSpec) : _root_.Go.OpenSpec := { _root_.Go.OpenSpec.ofChange s with cond := some uptoSmall }

/-- 'refmeshlaw05.HeaderEncodes', WHERE WHAT IT READS IS OF BULK AT MOST 1048576: true; the input reads as it did. -/
def headerEncodesUptoRow : OpenClaim := { program := "ytogihldcphgoeaa", sum := "e8f991fc9b743e684ae4e60d4743ad615f7a6d43167f7d017a7484f82efc5a3c", func := "refmesh/refmeshlaw05.HeaderEncodes", spec := "headerEncodes", unfollowed := true, recurses := true, apart := false, narrowed := true }
def HeaderEncodesUptoSaid : Prop := headerEncodesUptoRow.holds Try.pinned (OpenSpec.upto headerEncodesSpec)

/-- 'refmeshlaw05.HeaderNames', WHERE WHAT IT READS IS OF BULK AT MOST 1048576: true; the input reads as it did. -/
def headerNamesUptoRow : OpenClaim := { program := "ytogihldcphgoeaa", sum := "e8f991fc9b743e684ae4e60d4743ad615f7a6d43167f7d017a7484f82efc5a3c", func := "refmesh/refmeshlaw05.HeaderNames", spec := "headerNames", unfollowed := true, recurses := true, apart := false, narrowed := true }
def HeaderNamesUptoSaid : Prop := headerNamesUptoRow.holds Try.pinned (OpenSpec.upto headerNamesSpec)

/-- 'refmeshlaw05.HeaderInverse', WHERE WHAT IT READS IS OF BULK AT MOST 1048576: true; the input reads as it did. -/
def headerInverseUptoRow : OpenClaim := { program := "ytogihldcphgoeaa", sum := "e8f991fc9b743e684ae4e60d4743ad615f7a6d43167f7d017a7484f82efc5a3c", func := "refmesh/refmeshlaw05.HeaderInverse", spec := "headerInverse", unfollowed := true, recurses := true, apart := false, narrowed := true }
def HeaderInverseUptoSaid : Prop := headerInverseUptoRow.holds Try.pinned (OpenSpec.upto headerInverseSpec)

/-- 'refmeshlaw05.HeaderIdentities', WHERE WHAT IT READS IS OF BULK AT MOST 1048576: true; the input reads as it did. -/
def headerIdentitiesUptoRow : OpenClaim := { program := "ytogihldcphgoeaa", sum := "e8f991fc9b743e684ae4e60d4743ad615f7a6d43167f7d017a7484f82efc5a3c", func := "refmesh/refmeshlaw05.HeaderIdentities", spec := "headerIdentities", unfollowed := true, recurses := true, apart := false, narrowed := true }
def HeaderIdentitiesUptoSaid : Prop := headerIdentitiesUptoRow.holds Try.pinned (OpenSpec.upto headerIdentitiesSpec)

/-- 'refmeshlaw05.HeaderSame', WHERE WHAT IT READS IS OF BULK AT MOST 1048576: true; the input reads as it did. -/
def headerSameUptoRow : OpenClaim := { program := "ytogihldcphgoeaa", sum := "e8f991fc9b743e684ae4e60d4743ad615f7a6d43167f7d017a7484f82efc5a3c", func := "refmesh/refmeshlaw05.HeaderSame", spec := "headerSame", unfollowed := true, recurses := true, apart := false, narrowed := true }
def HeaderSameUptoSaid : Prop := headerSameUptoRow.holds Try.pinned (OpenSpec.upto headerSameSpec)

/-- 'refmeshlaw05.HeaderDecodes', WHERE WHAT IT READS IS OF BULK AT MOST 1048576: true; the input reads as it did. -/
def headerDecodesUptoRow : OpenClaim := { program := "ytogihldcphgoeaa", sum := "e8f991fc9b743e684ae4e60d4743ad615f7a6d43167f7d017a7484f82efc5a3c", func := "refmesh/refmeshlaw05.HeaderDecodes", spec := "headerDecodes", unfollowed := true, recurses := true, apart := false, narrowed := true }
def HeaderDecodesUptoSaid : Prop := headerDecodesUptoRow.holds Try.pinned (OpenSpec.upto headerDecodesSpec)

/-- 'refmeshlaw05.HeaderSizes', WHERE WHAT IT READS IS OF BULK AT MOST 1048576: true; the input reads as it did. -/
def headerSizesUptoRow : OpenClaim := { program := "ytogihldcphgoeaa", sum := "e8f991fc9b743e684ae4e60d4743ad615f7a6d43167f7d017a7484f82efc5a3c", func := "refmesh/refmeshlaw05.HeaderSizes", spec := "headerSizes", unfollowed := true, recurses := true, apart := false, narrowed := true }
def HeaderSizesUptoSaid : Prop := headerSizesUptoRow.holds Try.pinned (OpenSpec.upto headerSizesSpec)

end Rows
end Go.Proofs.Ytogihldcphgoeaa
