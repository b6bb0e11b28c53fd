/-
  No cell of these rows narrows 'for every input' (looked for: loops, veiled, ifaces, maps, wideKeys, modest, calm, conditions, laid).
  DERIVED. THE GIVEN ROWS OF THIS SEAT. 7 by the template 'for every input the law returns true; each argument reads behind the call as it read before'; 0 by the template 'total and deterministic' (their statements: YtfmeababiedamaaTotals.lean).
  GIVEN WITH THE SEED: the statements are not yours to turn. If you find one false, say at which input.
  Laid BY PROGRAM, IN A SANDBOX (cutbox-rows.mjs): the forced cells as the released guide's own fill.sh prints them over the translation 0e9d2d2118afd898… (all of the seat's roots in one cut). By AI agents, Wed Nov 11 2026. No macro, syntax, notation, axiom, sorry.
-/
import Derived.Test.YtfmeababiedamaaChecked
import GoSem.Claim
import GoSem.ClaimJoined
import GoSem.ClaimMapViews
import Derived.JoinedTies
import Derived.KernelRfl
namespace Go.Proofs.Ytfmeababiedamaa
/- THE CELL 'sum', in the pinned program and in every row, IS THE sha256 OF THE DUMP (.gsa) THAT YtfmeababiedamaaProg.lean LOADS. Nothing in Lean hashes anything: it is a label: what it is worth is what the hold of that sum in a sandbox is worth. -/
noncomputable def Try.pinned : Pinned := { name := "ytfmeababiedamaa", sum := "0e9d2d2118afd898f6ae9a86d51f18ad87e756d6b12b71a5ed1820272888ba68", checked := Try.checked }
namespace Rows
def none {H : Type} : Left H := { results := [], args := [] }

/-- 'burgagelaw24.PlaceFinds': WHATEVER THE INPUT: true; the input reads as it did. -/
def placeFindsSpec : ChangeSpec := { name := "placeFinds", fn := fun _ => fun
  | [d1, d2, d3] => { results := [.lit (.bool true)], args := [d1, d2, d3] }
  | _ => none }
def placeFindsRow : OpenClaim := { program := "ytfmeababiedamaa", sum := "0e9d2d2118afd898f6ae9a86d51f18ad87e756d6b12b71a5ed1820272888ba68", func := "burgage/burgagelaw24.PlaceFinds", spec := "placeFinds", inPlace := ["internal/bytealg.IndexByteString", "internal/bytealg.IndexString", "slices.overlaps[burgage/api.Part]"], unfollowed := true, recurses := true, named := ["internal/bytealg.MaxLen"], apart := false }
def PlaceFindsSaid : Prop := placeFindsRow.holds Try.pinned (OpenSpec.ofChange placeFindsSpec)

/-- ITS FALSE NEIGHBOUR: 'it returns false'. Refute it at one input. -/
def placeFindsWrong : ChangeSpec := { name := "placeFinds", fn := fun _ => fun
  | [d1, d2, d3] => { results := [.lit (.bool false)], args := [d1, d2, d3] }
  | _ => none }
def PlaceFindsWrongFalsely : Prop := placeFindsRow.holds Try.pinned (OpenSpec.ofChange placeFindsWrong)

/-- 'burgagelaw24.PlaceChanges': WHATEVER THE INPUT: true; the input reads as it did. -/
def placeChangesSpec : ChangeSpec := { name := "placeChanges", fn := fun _ => fun
  | [d1, d2, d3] => { results := [.lit (.bool true)], args := [d1, d2, d3] }
  | _ => none }
def placeChangesRow : OpenClaim := { program := "ytfmeababiedamaa", sum := "0e9d2d2118afd898f6ae9a86d51f18ad87e756d6b12b71a5ed1820272888ba68", func := "burgage/burgagelaw24.PlaceChanges", spec := "placeChanges", inPlace := ["internal/bytealg.IndexByteString", "internal/bytealg.IndexString", "slices.overlaps[burgage/api.Part]"], unfollowed := true, recurses := true, named := ["internal/bytealg.MaxLen"], apart := false }
def PlaceChangesSaid : Prop := placeChangesRow.holds Try.pinned (OpenSpec.ofChange placeChangesSpec)

/-- ITS FALSE NEIGHBOUR: 'it returns false'. Refute it at one input. -/
def placeChangesWrong : ChangeSpec := { name := "placeChanges", fn := fun _ => fun
  | [d1, d2, d3] => { results := [.lit (.bool false)], args := [d1, d2, d3] }
  | _ => none }
def PlaceChangesWrongFalsely : Prop := placeChangesRow.holds Try.pinned (OpenSpec.ofChange placeChangesWrong)

/-- 'burgagelaw24.PlaceEpochs': WHATEVER THE INPUT: true; the input reads as it did. -/
def placeEpochsSpec : ChangeSpec := { name := "placeEpochs", fn := fun _ => fun
  | [d1, d2] => { results := [.lit (.bool true)], args := [d1, d2] }
  | _ => none }
def placeEpochsRow : OpenClaim := { program := "ytfmeababiedamaa", sum := "0e9d2d2118afd898f6ae9a86d51f18ad87e756d6b12b71a5ed1820272888ba68", func := "burgage/burgagelaw24.PlaceEpochs", spec := "placeEpochs", inPlace := ["internal/bytealg.IndexByteString", "internal/bytealg.IndexString", "slices.overlaps[burgage/api.Part]"], unfollowed := true, recurses := true, named := ["internal/bytealg.MaxLen"], apart := false }
def PlaceEpochsSaid : Prop := placeEpochsRow.holds Try.pinned (OpenSpec.ofChange placeEpochsSpec)

/-- ITS FALSE NEIGHBOUR: 'it returns false'. Refute it at one input. -/
def placeEpochsWrong : ChangeSpec := { name := "placeEpochs", fn := fun _ => fun
  | [d1, d2] => { results := [.lit (.bool false)], args := [d1, d2] }
  | _ => none }
def PlaceEpochsWrongFalsely : Prop := placeEpochsRow.holds Try.pinned (OpenSpec.ofChange placeEpochsWrong)

/-- 'burgagelaw24.PlaceJoins': WHATEVER THE INPUT: true; the input reads as it did. -/
def placeJoinsSpec : ChangeSpec := { name := "placeJoins", fn := fun _ => fun
  | [d1, d2, d3] => { results := [.lit (.bool true)], args := [d1, d2, d3] }
  | _ => none }
def placeJoinsRow : OpenClaim := { program := "ytfmeababiedamaa", sum := "0e9d2d2118afd898f6ae9a86d51f18ad87e756d6b12b71a5ed1820272888ba68", func := "burgage/burgagelaw24.PlaceJoins", spec := "placeJoins", inPlace := ["internal/bytealg.IndexByteString", "internal/bytealg.IndexString", "slices.overlaps[burgage/api.Part]"], unfollowed := true, recurses := true, named := ["internal/bytealg.MaxLen"], apart := false }
def PlaceJoinsSaid : Prop := placeJoinsRow.holds Try.pinned (OpenSpec.ofChange placeJoinsSpec)

/-- ITS FALSE NEIGHBOUR: 'it returns false'. Refute it at one input. -/
def placeJoinsWrong : ChangeSpec := { name := "placeJoins", fn := fun _ => fun
  | [d1, d2, d3] => { results := [.lit (.bool false)], args := [d1, d2, d3] }
  | _ => none }
def PlaceJoinsWrongFalsely : Prop := placeJoinsRow.holds Try.pinned (OpenSpec.ofChange placeJoinsWrong)

/-- 'burgagelaw24.PlacePaths': WHATEVER THE INPUT: true; the input reads as it did. -/
def placePathsSpec : ChangeSpec := { name := "placePaths", fn := fun _ => fun
  | [d1, d2] => { results := [.lit (.bool true)], args := [d1, d2] }
  | _ => none }
def placePathsRow : OpenClaim := { program := "ytfmeababiedamaa", sum := "0e9d2d2118afd898f6ae9a86d51f18ad87e756d6b12b71a5ed1820272888ba68", func := "burgage/burgagelaw24.PlacePaths", spec := "placePaths", inPlace := ["internal/bytealg.IndexByteString", "internal/bytealg.IndexString", "slices.overlaps[burgage/api.Part]"], unfollowed := true, recurses := true, named := ["internal/bytealg.MaxLen"], apart := false }
def PlacePathsSaid : Prop := placePathsRow.holds Try.pinned (OpenSpec.ofChange placePathsSpec)

/-- ITS FALSE NEIGHBOUR: 'it returns false'. Refute it at one input. -/
def placePathsWrong : ChangeSpec := { name := "placePaths", fn := fun _ => fun
  | [d1, d2] => { results := [.lit (.bool false)], args := [d1, d2] }
  | _ => none }
def PlacePathsWrongFalsely : Prop := placePathsRow.holds Try.pinned (OpenSpec.ofChange placePathsWrong)

/-- 'burgagelaw24.PlaceValid': WHATEVER THE INPUT: true; the input reads as it did. -/
def placeValidSpec : ChangeSpec := { name := "placeValid", fn := fun _ => fun
  | [d] => { results := [.lit (.bool true)], args := [d] }
  | _ => none }
def placeValidRow : OpenClaim := { program := "ytfmeababiedamaa", sum := "0e9d2d2118afd898f6ae9a86d51f18ad87e756d6b12b71a5ed1820272888ba68", func := "burgage/burgagelaw24.PlaceValid", spec := "placeValid", inPlace := ["internal/bytealg.IndexByteString", "internal/bytealg.IndexString", "slices.overlaps[burgage/api.Part]"], unfollowed := true, recurses := true, named := ["internal/bytealg.MaxLen"], apart := false }
def PlaceValidSaid : Prop := placeValidRow.holds Try.pinned (OpenSpec.ofChange placeValidSpec)

/-- ITS FALSE NEIGHBOUR: 'it returns false'. Refute it at one input. -/
def placeValidWrong : ChangeSpec := { name := "placeValid", fn := fun _ => fun
  | [d] => { results := [.lit (.bool false)], args := [d] }
  | _ => none }
def PlaceValidWrongFalsely : Prop := placeValidRow.holds Try.pinned (OpenSpec.ofChange placeValidWrong)

/-- 'burgagelaw24.PlaceMatchesReference': WHATEVER THE INPUT: true; the input reads as it did. -/
def placeMatchesReferenceSpec : ChangeSpec := { name := "placeMatchesReference", fn := fun _ => fun
  | [d1, d2, d3] => { results := [.lit (.bool true)], args := [d1, d2, d3] }
  | _ => none }
def placeMatchesReferenceRow : OpenClaim := { program := "ytfmeababiedamaa", sum := "0e9d2d2118afd898f6ae9a86d51f18ad87e756d6b12b71a5ed1820272888ba68", func := "burgage/burgagelaw24.PlaceMatchesReference", spec := "placeMatchesReference", inPlace := ["internal/bytealg.IndexByteString", "internal/bytealg.IndexString", "slices.overlaps[burgage/api.Part]"], unfollowed := true, recurses := true, named := ["internal/bytealg.MaxLen"], apart := false }
def PlaceMatchesReferenceSaid : Prop := placeMatchesReferenceRow.holds Try.pinned (OpenSpec.ofChange placeMatchesReferenceSpec)

/-- ITS FALSE NEIGHBOUR: 'it returns false'. Refute it at one input. -/
def placeMatchesReferenceWrong : ChangeSpec := { name := "placeMatchesReference", fn := fun _ => fun
  | [d1, d2, d3] => { results := [.lit (.bool false)], args := [d1, d2, d3] }
  | _ => none }
def PlaceMatchesReferenceWrongFalsely : Prop := placeMatchesReferenceRow.holds Try.pinned (OpenSpec.ofChange placeMatchesReferenceWrong)

/- THE SECOND FORM. 'bulk': how many values and letters a reading holds, each counted each time it is reached (what is shared counts as often as it is met; a slice's spare places count too). A statement '..UptoSaid' is the law's where the arguments, and the package variables that the reading takes, are together of bulk at most 1048576: NARROWER than '..Said'. Prove '..Said' where nothing that the law and all that it calls make is longer than what came in: it says more and counts as full. Else prove '..UptoSaid'. A law counts once. -/
mutual
def uptoBulk {H : Type} : DataW H → Nat
  | .lit (.string bytes) => bytes.length + 1
  | .lit _ => 1
  | .nil => 1
  | .ptr d => uptoBulk d + 1
  | .slice elems spare => uptoBulkAll elems + uptoBulkAll spare + 1
  | .agg parts => uptoBulkAll parts + 1
  | .iface _ d => uptoBulk d + 1
  | .map entries => uptoBulkEntries entries + 1
  | .held _ => 1
def uptoBulkAll {H : Type} : List (DataW H) → Nat
  | [] => 0
  | d :: r => uptoBulk d + uptoBulkAll r
def uptoBulkEntries {H : Type} : List (Lit × DataW H) → Nat
  | [] => 0
  | x :: r => uptoBulkEntry x + uptoBulkEntries r
def uptoBulkEntry {H : Type} : Lit × DataW H → Nat
  | (.string bytes, d) => bytes.length + uptoBulk d + 1
  | (_, d) => uptoBulk d + 1
 end
def uptoSmall : (H : Type) → List (DataW H) → Bool := fun _ ds => decide (uptoBulkAll ds ≤ 1048576)
def OpenSpec.upto (s : _root_.Go.ChangeSpec) : _root_.Go.OpenSpec := { _root_.Go.OpenSpec.ofChange s with cond := some uptoSmall }

/-- 'burgagelaw24.PlaceFinds', WHERE WHAT IT READS IS OF BULK AT MOST 1048576: true; the input reads as it did. -/
def placeFindsUptoRow : OpenClaim := { program := "ytfmeababiedamaa", sum := "0e9d2d2118afd898f6ae9a86d51f18ad87e756d6b12b71a5ed1820272888ba68", func := "burgage/burgagelaw24.PlaceFinds", spec := "placeFinds", inPlace := ["internal/bytealg.IndexByteString", "internal/bytealg.IndexString", "slices.overlaps[burgage/api.Part]"], unfollowed := true, recurses := true, named := ["internal/bytealg.MaxLen"], apart := false, narrowed := true }
def PlaceFindsUptoSaid : Prop := placeFindsUptoRow.holds Try.pinned (OpenSpec.upto placeFindsSpec)

/-- 'burgagelaw24.PlaceChanges', WHERE WHAT IT READS IS OF BULK AT MOST 1048576: true; the input reads as it did. -/
def placeChangesUptoRow : OpenClaim := { program := "ytfmeababiedamaa", sum := "0e9d2d2118afd898f6ae9a86d51f18ad87e756d6b12b71a5ed1820272888ba68", func := "burgage/burgagelaw24.PlaceChanges", spec := "placeChanges", inPlace := ["internal/bytealg.IndexByteString", "internal/bytealg.IndexString", "slices.overlaps[burgage/api.Part]"], unfollowed := true, recurses := true, named := ["internal/bytealg.MaxLen"], apart := false, narrowed := true }
def PlaceChangesUptoSaid : Prop := placeChangesUptoRow.holds Try.pinned (OpenSpec.upto placeChangesSpec)

/-- 'burgagelaw24.PlaceEpochs', WHERE WHAT IT READS IS OF BULK AT MOST 1048576: true; the input reads as it did. -/
def placeEpochsUptoRow : OpenClaim := { program := "ytfmeababiedamaa", sum := "0e9d2d2118afd898f6ae9a86d51f18ad87e756d6b12b71a5ed1820272888ba68", func := "burgage/burgagelaw24.PlaceEpochs", spec := "placeEpochs", inPlace := ["internal/bytealg.IndexByteString", "internal/bytealg.IndexString", "slices.overlaps[burgage/api.Part]"], unfollowed := true, recurses := true, named := ["internal/bytealg.MaxLen"], apart := false, narrowed := true }
def PlaceEpochsUptoSaid : Prop := placeEpochsUptoRow.holds Try.pinned (OpenSpec.upto placeEpochsSpec)

/-- 'burgagelaw24.PlaceJoins', WHERE WHAT IT READS IS OF BULK AT MOST 1048576: true; the input reads as it did. -/
def placeJoinsUptoRow : OpenClaim := { program := "ytfmeababiedamaa", sum := "0e9d2d2118afd898f6ae9a86d51f18ad87e756d6b12b71a5ed1820272888ba68", func := "burgage/burgagelaw24.PlaceJoins", spec := "placeJoins", inPlace := ["internal/bytealg.IndexByteString", "internal/bytealg.IndexString", "slices.overlaps[burgage/api.Part]"], unfollowed := true, recurses := true, named := ["internal/bytealg.MaxLen"], apart := false, narrowed := true }
def PlaceJoinsUptoSaid : Prop := placeJoinsUptoRow.holds Try.pinned (OpenSpec.upto placeJoinsSpec)

/-- 'burgagelaw24.PlacePaths', WHERE WHAT IT READS IS OF BULK AT MOST 1048576: true; the input reads as it did. -/
def placePathsUptoRow : OpenClaim := { program := "ytfmeababiedamaa", sum := "0e9d2d2118afd898f6ae9a86d51f18ad87e756d6b12b71a5ed1820272888ba68", func := "burgage/burgagelaw24.PlacePaths", spec := "placePaths", inPlace := ["internal/bytealg.IndexByteString", "internal/bytealg.IndexString", "slices.overlaps[burgage/api.Part]"], unfollowed := true, recurses := true, named := ["internal/bytealg.MaxLen"], apart := false, narrowed := true }
def PlacePathsUptoSaid : Prop := placePathsUptoRow.holds Try.pinned (OpenSpec.upto placePathsSpec)

/-- 'burgagelaw24.PlaceValid', WHERE WHAT IT READS IS OF BULK AT MOST 1048576: true; the input reads as it did. -/
def placeValidUptoRow : OpenClaim := { program := "ytfmeababiedamaa", sum := "0e9d2d2118afd898f6ae9a86d51f18ad87e756d6b12b71a5ed1820272888ba68", func := "burgage/burgagelaw24.PlaceValid", spec := "placeValid", inPlace := ["internal/bytealg.IndexByteString", "internal/bytealg.IndexString", "slices.overlaps[burgage/api.Part]"], unfollowed := true, recurses := true, named := ["internal/bytealg.MaxLen"], apart := false, narrowed := true }
def PlaceValidUptoSaid : Prop := placeValidUptoRow.holds Try.pinned (OpenSpec.upto placeValidSpec)

/-- 'burgagelaw24.PlaceMatchesReference', WHERE WHAT IT READS IS OF BULK AT MOST 1048576: true; the input reads as it did. -/
def placeMatchesReferenceUptoRow : OpenClaim := { program := "ytfmeababiedamaa", sum := "0e9d2d2118afd898f6ae9a86d51f18ad87e756d6b12b71a5ed1820272888ba68", func := "burgage/burgagelaw24.PlaceMatchesReference", spec := "placeMatchesReference", inPlace := ["internal/bytealg.IndexByteString", "internal/bytealg.IndexString", "slices.overlaps[burgage/api.Part]"], unfollowed := true, recurses := true, named := ["internal/bytealg.MaxLen"], apart := false, narrowed := true }
def PlaceMatchesReferenceUptoSaid : Prop := placeMatchesReferenceUptoRow.holds Try.pinned (OpenSpec.upto placeMatchesReferenceSpec)

end Rows
end Go.Proofs.Ytfmeababiedamaa
