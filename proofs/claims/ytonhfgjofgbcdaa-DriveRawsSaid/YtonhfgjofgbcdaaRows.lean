/-
  No cell of these rows narrows 'for every input' (looked for: loops, veiled, ifaces, maps, wideKeys, modest, calm, conditions, laid).
  DERIVED. THE GIVEN ROWS OF THIS SEAT. 5 by the template 'for every input the law returns true; each argument reads behind the call as it read before'; 0 by the template 'total and deterministic' (their statements: YtonhfgjofgbcdaaTotals.lean).
  GIVEN WITH THE SEED: the statements are not yours to turn. If you find one false, say at which input.
  Laid BY PROGRAM, IN A SANDBOX (cutbox-rows.mjs): the forced cells as the released guide's own fill.sh prints them over the translation 583b1b12f30f4663… (all of the seat's roots in one cut). By AI agents, Wed Nov 11 2026. No macro, syntax, notation, axiom, sorry.
-/
import Derived.Test.YtonhfgjofgbcdaaChecked
import GoSem.Claim
import GoSem.ClaimJoined
import GoSem.ClaimMapViews
import Derived.JoinedTies
import Derived.KernelRfl
namespace Go.Proofs.Ytonhfgjofgbcdaa
/- THE CELL 'sum', in the pinned program and in every row, IS THE sha256 OF THE DUMP (.gsa) THAT YtonhfgjofgbcdaaProg.lean LOADS. Nothing in Lean hashes anything: it is a label: what it is worth is what the hold of that sum in a sandbox is worth. -/
noncomputable def Try.pinned : Pinned := { name := "ytonhfgjofgbcdaa", sum := "583b1b12f30f46630a09c5032d3558f32e31e5b844c94f76a1d38c2e4dee7444", checked := Try.checked }
namespace Rows
def none {H : Type} : Left H := { results := [], args := [] }

/-- 'shuntinglaw02.StoreApart': WHATEVER THE INPUT: true; the input reads as it did. -/
def storeApartSpec : ChangeSpec := { name := "storeApart", fn := fun _ => fun
  | [d1, d2, d3] => { results := [.lit (.bool true)], args := [d1, d2, d3] }
  | _ => none }
def storeApartRow : OpenClaim := { program := "ytonhfgjofgbcdaa", sum := "583b1b12f30f46630a09c5032d3558f32e31e5b844c94f76a1d38c2e4dee7444", func := "shunting/shuntinglaw02.StoreApart", spec := "storeApart", unfollowed := true, recurses := true, apart := false }
def StoreApartSaid : Prop := storeApartRow.holds Try.pinned (OpenSpec.ofChange storeApartSpec)

/-- ITS FALSE NEIGHBOUR: 'it returns false'. Refute it at one input. -/
def storeApartWrong : ChangeSpec := { name := "storeApart", fn := fun _ => fun
  | [d1, d2, d3] => { results := [.lit (.bool false)], args := [d1, d2, d3] }
  | _ => none }
def StoreApartWrongFalsely : Prop := storeApartRow.holds Try.pinned (OpenSpec.ofChange storeApartWrong)

/-- 'shuntinglaw02.StoreReplays': WHATEVER THE INPUT: true; the input reads as it did. -/
def storeReplaysSpec : ChangeSpec := { name := "storeReplays", fn := fun _ => fun
  | [d1, d2] => { results := [.lit (.bool true)], args := [d1, d2] }
  | _ => none }
def storeReplaysRow : OpenClaim := { program := "ytonhfgjofgbcdaa", sum := "583b1b12f30f46630a09c5032d3558f32e31e5b844c94f76a1d38c2e4dee7444", func := "shunting/shuntinglaw02.StoreReplays", spec := "storeReplays", unfollowed := true, recurses := true, apart := false }
def StoreReplaysSaid : Prop := storeReplaysRow.holds Try.pinned (OpenSpec.ofChange storeReplaysSpec)

/-- ITS FALSE NEIGHBOUR: 'it returns false'. Refute it at one input. -/
def storeReplaysWrong : ChangeSpec := { name := "storeReplays", fn := fun _ => fun
  | [d1, d2] => { results := [.lit (.bool false)], args := [d1, d2] }
  | _ => none }
def StoreReplaysWrongFalsely : Prop := storeReplaysRow.holds Try.pinned (OpenSpec.ofChange storeReplaysWrong)

/-- 'shuntinglaw03.DriveRaws': WHATEVER THE INPUT: true; the input reads as it did. -/
def driveRawsSpec : ChangeSpec := { name := "driveRaws", fn := fun _ => fun
  | [d1, d2, d3] => { results := [.lit (.bool true)], args := [d1, d2, d3] }
  | _ => none }
def driveRawsRow : OpenClaim := { program := "ytonhfgjofgbcdaa", sum := "583b1b12f30f46630a09c5032d3558f32e31e5b844c94f76a1d38c2e4dee7444", func := "shunting/shuntinglaw03.DriveRaws", spec := "driveRaws", unfollowed := true, recurses := true, apart := false }
def DriveRawsSaid : Prop := driveRawsRow.holds Try.pinned (OpenSpec.ofChange driveRawsSpec)

/-- ITS FALSE NEIGHBOUR: 'it returns false'. Refute it at one input. -/
def driveRawsWrong : ChangeSpec := { name := "driveRaws", fn := fun _ => fun
  | [d1, d2, d3] => { results := [.lit (.bool false)], args := [d1, d2, d3] }
  | _ => none }
def DriveRawsWrongFalsely : Prop := driveRawsRow.holds Try.pinned (OpenSpec.ofChange driveRawsWrong)

/-- 'shuntinglaw03.DriveReplays': WHATEVER THE INPUT: true; the input reads as it did. -/
def driveReplaysSpec : ChangeSpec := { name := "driveReplays", fn := fun _ => fun
  | [d1, d2, d3] => { results := [.lit (.bool true)], args := [d1, d2, d3] }
  | _ => none }
def driveReplaysRow : OpenClaim := { program := "ytonhfgjofgbcdaa", sum := "583b1b12f30f46630a09c5032d3558f32e31e5b844c94f76a1d38c2e4dee7444", func := "shunting/shuntinglaw03.DriveReplays", spec := "driveReplays", unfollowed := true, recurses := true, apart := false }
def DriveReplaysSaid : Prop := driveReplaysRow.holds Try.pinned (OpenSpec.ofChange driveReplaysSpec)

/-- ITS FALSE NEIGHBOUR: 'it returns false'. Refute it at one input. -/
def driveReplaysWrong : ChangeSpec := { name := "driveReplays", fn := fun _ => fun
  | [d1, d2, d3] => { results := [.lit (.bool false)], args := [d1, d2, d3] }
  | _ => none }
def DriveReplaysWrongFalsely : Prop := driveReplaysRow.holds Try.pinned (OpenSpec.ofChange driveReplaysWrong)

/-- 'shuntinglaw03.DriveParts': WHATEVER THE INPUT: true; the input reads as it did. -/
def drivePartsSpec : ChangeSpec := { name := "driveParts", fn := fun _ => fun
  | [d1, d2, d3, d4] => { results := [.lit (.bool true)], args := [d1, d2, d3, d4] }
  | _ => none }
def drivePartsRow : OpenClaim := { program := "ytonhfgjofgbcdaa", sum := "583b1b12f30f46630a09c5032d3558f32e31e5b844c94f76a1d38c2e4dee7444", func := "shunting/shuntinglaw03.DriveParts", spec := "driveParts", unfollowed := true, recurses := true, apart := false }
def DrivePartsSaid : Prop := drivePartsRow.holds Try.pinned (OpenSpec.ofChange drivePartsSpec)

/-- ITS FALSE NEIGHBOUR: 'it returns false'. Refute it at one input. -/
def drivePartsWrong : ChangeSpec := { name := "driveParts", fn := fun _ => fun
  | [d1, d2, d3, d4] => { results := [.lit (.bool false)], args := [d1, d2, d3, d4] }
  | _ => none }
def DrivePartsWrongFalsely : Prop := drivePartsRow.holds Try.pinned (OpenSpec.ofChange drivePartsWrong)

/- THE SECOND FORM. 'bulk': how many values and letters a reading holds, each counted each time it is reached (what is shared counts as often as it is met; a slice's spare places count too). A statement '..UptoSaid' is the law's where the arguments, and the package variables that the reading takes, are together of bulk at most 1048576: NARROWER than '..Said'. Prove '..Said' where nothing that the law and all that it calls make is longer than what came in: it says more and counts as full. Else prove '..UptoSaid'. A law counts once. -/
mutual
def uptoBulk {H : Type} : DataW H → Nat
  | .lit (.string bytes) => bytes.length + 1
  | .lit _ => 1
  | .nil => 1
  | .ptr d => uptoBulk d + 1
  | .slice elems spare => uptoBulkAll elems + uptoBulkAll spare + 1
  | .agg parts => uptoBulkAll parts + 1
  | .iface _ d => uptoBulk d + 1
  | .map entries => uptoBulkEntries entries + 1
  | .held _ => 1
def uptoBulkAll {H : Type} : List (DataW H) → Nat
  | [] => 0
  | d :: r => uptoBulk d + uptoBulkAll r
def uptoBulkEntries {H : Type} : List (Lit × DataW H) → Nat
  | [] => 0
  | x :: r => uptoBulkEntry x + uptoBulkEntries r
def uptoBulkEntry {H : Type} : Lit × DataW H → Nat
  | (.string bytes, d) => bytes.length + uptoBulk d + 1
  | (_, d) => uptoBulk d + 1
 end
def uptoSmall : (H : Type) → List (DataW H) → Bool := fun _ ds => decide (uptoBulkAll ds ≤ 1048576)
def OpenSpec.upto (s : _root_.Go.ChangeSpec) : _root_.Go.OpenSpec := { _root_.Go.OpenSpec.ofChange s with cond := some uptoSmall }

/-- 'shuntinglaw02.StoreApart', WHERE WHAT IT READS IS OF BULK AT MOST 1048576: true; the input reads as it did. -/
def storeApartUptoRow : OpenClaim := { program := "ytonhfgjofgbcdaa", sum := "583b1b12f30f46630a09c5032d3558f32e31e5b844c94f76a1d38c2e4dee7444", func := "shunting/shuntinglaw02.StoreApart", spec := "storeApart", unfollowed := true, recurses := true, apart := false, narrowed := true }
def StoreApartUptoSaid : Prop := storeApartUptoRow.holds Try.pinned (OpenSpec.upto storeApartSpec)

/-- 'shuntinglaw02.StoreReplays', WHERE WHAT IT READS IS OF BULK AT MOST 1048576: true; the input reads as it did. -/
def storeReplaysUptoRow : OpenClaim := { program := "ytonhfgjofgbcdaa", sum := "583b1b12f30f46630a09c5032d3558f32e31e5b844c94f76a1d38c2e4dee7444", func := "shunting/shuntinglaw02.StoreReplays", spec := "storeReplays", unfollowed := true, recurses := true, apart := false, narrowed := true }
def StoreReplaysUptoSaid : Prop := storeReplaysUptoRow.holds Try.pinned (OpenSpec.upto storeReplaysSpec)

/-- 'shuntinglaw03.DriveRaws', WHERE WHAT IT READS IS OF BULK AT MOST 1048576: true; the input reads as it did. -/
def driveRawsUptoRow : OpenClaim := { program := "ytonhfgjofgbcdaa", sum := "583b1b12f30f46630a09c5032d3558f32e31e5b844c94f76a1d38c2e4dee7444", func := "shunting/shuntinglaw03.DriveRaws", spec := "driveRaws", unfollowed := true, recurses := true, apart := false, narrowed := true }
def DriveRawsUptoSaid : Prop := driveRawsUptoRow.holds Try.pinned (OpenSpec.upto driveRawsSpec)

/-- 'shuntinglaw03.DriveReplays', WHERE WHAT IT READS IS OF BULK AT MOST 1048576: true; the input reads as it did. -/
def driveReplaysUptoRow : OpenClaim := { program := "ytonhfgjofgbcdaa", sum := "583b1b12f30f46630a09c5032d3558f32e31e5b844c94f76a1d38c2e4dee7444", func := "shunting/shuntinglaw03.DriveReplays", spec := "driveReplays", unfollowed := true, recurses := true, apart := false, narrowed := true }
def DriveReplaysUptoSaid : Prop := driveReplaysUptoRow.holds Try.pinned (OpenSpec.upto driveReplaysSpec)

/-- 'shuntinglaw03.DriveParts', WHERE WHAT IT READS IS OF BULK AT MOST 1048576: true; the input reads as it did. -/
def drivePartsUptoRow : OpenClaim := { program := "ytonhfgjofgbcdaa", sum := "583b1b12f30f46630a09c5032d3558f32e31e5b844c94f76a1d38c2e4dee7444", func := "shunting/shuntinglaw03.DriveParts", spec := "driveParts", unfollowed := true, recurses := true, apart := false, narrowed := true }
def DrivePartsUptoSaid : Prop := drivePartsUptoRow.holds Try.pinned (OpenSpec.upto drivePartsSpec)

end Rows
end Go.Proofs.Ytonhfgjofgbcdaa
