/-
  No cell of these rows narrows 'for every input' (looked for: loops, veiled, ifaces, maps, wideKeys, modest, calm, conditions, laid).
  DERIVED. THE GIVEN ROWS OF THIS SEAT. 10 by the template 'for every input the law returns true; each argument reads behind the call as it read before'; 0 by the template 'total and deterministic' (their statements: YtbhjadkgeadpiaaTotals.lean).
  GIVEN WITH THE SEED: the statements are not yours to turn. If you find one false, say at which input.
  Laid BY PROGRAM, IN A SANDBOX (cutbox-rows.mjs): the forced cells as the released guide's own fill.sh prints them over the translation a9d4e13aabb6c9d5… (all of the seat's roots in one cut). By AI agents, Wed Nov 11 2026. No macro, syntax, notation, axiom, sorry.
-/
import Derived.Test.YtbhjadkgeadpiaaChecked
import GoSem.Claim
import GoSem.ClaimJoined
import GoSem.ClaimMapViews
import Derived.JoinedTies
import Derived.KernelRfl
namespace Go.Proofs.Ytbhjadkgeadpiaa
/- THE CELL 'sum', in the pinned program and in every row, IS THE sha256 OF THE DUMP (.gsa) THAT YtbhjadkgeadpiaaProg.lean LOADS. Nothing in Lean hashes anything: it is a label: what it is worth is what the hold of that sum in a sandbox is worth. -/
noncomputable def Try.pinned : Pinned := { name := "ytbhjadkgeadpiaa", sum := "a9d4e13aabb6c9d5bcdbaa590147d9dd58be94bb1d0507c61e5f4898efb13f5c", checked := Try.checked }
namespace Rows
def none {H : Type} : Left H := { results := [], args := [] }

/-- 'halidelaw7.SpaceNames': WHATEVER THE INPUT: true; the input reads as it did. -/
def spaceNamesSpec : ChangeSpec := { name := "spaceNames", fn := fun _ => fun
  | [] => { results := [.lit (.bool true)], args := [] }
  | _ => none }
def spaceNamesRow : OpenClaim := { program := "ytbhjadkgeadpiaa", sum := "a9d4e13aabb6c9d5bcdbaa590147d9dd58be94bb1d0507c61e5f4898efb13f5c", func := "halide/halidelaw7.SpaceNames", spec := "spaceNames", inPlace := ["math.Float32frombits", "math.Float64bits", "math.Float64frombits", "math.Float32bits", "math.RoundToEven"], unfollowed := true, recurses := true, apart := false }
def SpaceNamesSaid : Prop := spaceNamesRow.holds Try.pinned (OpenSpec.ofChange spaceNamesSpec)

/-- ITS FALSE NEIGHBOUR: 'it returns false'. Refute it at one input. -/
def spaceNamesWrong : ChangeSpec := { name := "spaceNames", fn := fun _ => fun
  | [] => { results := [.lit (.bool false)], args := [] }
  | _ => none }
def SpaceNamesWrongFalsely : Prop := spaceNamesRow.holds Try.pinned (OpenSpec.ofChange spaceNamesWrong)

/-- 'halidelaw7.SpaceYCC': WHATEVER THE INPUT: true; the input reads as it did. -/
def spaceYCCSpec : ChangeSpec := { name := "spaceYCC", fn := fun _ => fun
  | [d1, d2, d3] => { results := [.lit (.bool true)], args := [d1, d2, d3] }
  | _ => none }
def spaceYCCRow : OpenClaim := { program := "ytbhjadkgeadpiaa", sum := "a9d4e13aabb6c9d5bcdbaa590147d9dd58be94bb1d0507c61e5f4898efb13f5c", func := "halide/halidelaw7.SpaceYCC", spec := "spaceYCC", inPlace := ["math.Float32frombits", "math.Float64bits", "math.Float64frombits", "math.Float32bits", "math.RoundToEven"], unfollowed := true, recurses := true, apart := false }
def SpaceYCCSaid : Prop := spaceYCCRow.holds Try.pinned (OpenSpec.ofChange spaceYCCSpec)

/-- ITS FALSE NEIGHBOUR: 'it returns false'. Refute it at one input. -/
def spaceYCCWrong : ChangeSpec := { name := "spaceYCC", fn := fun _ => fun
  | [d1, d2, d3] => { results := [.lit (.bool false)], args := [d1, d2, d3] }
  | _ => none }
def SpaceYCCWrongFalsely : Prop := spaceYCCRow.holds Try.pinned (OpenSpec.ofChange spaceYCCWrong)

/-- 'halidelaw7.SpaceLog': WHATEVER THE INPUT: true; the input reads as it did. -/
def spaceLogSpec : ChangeSpec := { name := "spaceLog", fn := fun _ => fun
  | [d] => { results := [.lit (.bool true)], args := [d] }
  | _ => none }
def spaceLogRow : OpenClaim := { program := "ytbhjadkgeadpiaa", sum := "a9d4e13aabb6c9d5bcdbaa590147d9dd58be94bb1d0507c61e5f4898efb13f5c", func := "halide/halidelaw7.SpaceLog", spec := "spaceLog", inPlace := ["math.Float32frombits", "math.Float64bits", "math.Float64frombits", "math.Float32bits", "math.RoundToEven"], unfollowed := true, recurses := true, apart := false }
def SpaceLogSaid : Prop := spaceLogRow.holds Try.pinned (OpenSpec.ofChange spaceLogSpec)

/-- ITS FALSE NEIGHBOUR: 'it returns false'. Refute it at one input. -/
def spaceLogWrong : ChangeSpec := { name := "spaceLog", fn := fun _ => fun
  | [d] => { results := [.lit (.bool false)], args := [d] }
  | _ => none }
def SpaceLogWrongFalsely : Prop := spaceLogRow.holds Try.pinned (OpenSpec.ofChange spaceLogWrong)

/-- 'halidelaw7.SpaceLift': WHATEVER THE INPUT: true; the input reads as it did. -/
def spaceLiftSpec : ChangeSpec := { name := "spaceLift", fn := fun _ => fun
  | [d1, d2, d3] => { results := [.lit (.bool true)], args := [d1, d2, d3] }
  | _ => none }
def spaceLiftRow : OpenClaim := { program := "ytbhjadkgeadpiaa", sum := "a9d4e13aabb6c9d5bcdbaa590147d9dd58be94bb1d0507c61e5f4898efb13f5c", func := "halide/halidelaw7.SpaceLift", spec := "spaceLift", inPlace := ["math.Float32frombits", "math.Float64bits", "math.Float64frombits", "math.Float32bits", "math.RoundToEven"], unfollowed := true, recurses := true, apart := false }
def SpaceLiftSaid : Prop := spaceLiftRow.holds Try.pinned (OpenSpec.ofChange spaceLiftSpec)

/-- ITS FALSE NEIGHBOUR: 'it returns false'. Refute it at one input. -/
def spaceLiftWrong : ChangeSpec := { name := "spaceLift", fn := fun _ => fun
  | [d1, d2, d3] => { results := [.lit (.bool false)], args := [d1, d2, d3] }
  | _ => none }
def SpaceLiftWrongFalsely : Prop := spaceLiftRow.holds Try.pinned (OpenSpec.ofChange spaceLiftWrong)

/-- 'halidelaw7.SpaceConvert': WHATEVER THE INPUT: true; the input reads as it did. -/
def spaceConvertSpec : ChangeSpec := { name := "spaceConvert", fn := fun _ => fun
  | [d1, d2, d3, d4, d5] => { results := [.lit (.bool true)], args := [d1, d2, d3, d4, d5] }
  | _ => none }
def spaceConvertRow : OpenClaim := { program := "ytbhjadkgeadpiaa", sum := "a9d4e13aabb6c9d5bcdbaa590147d9dd58be94bb1d0507c61e5f4898efb13f5c", func := "halide/halidelaw7.SpaceConvert", spec := "spaceConvert", inPlace := ["math.Float32frombits", "math.Float64bits", "math.Float64frombits", "math.Float32bits", "math.RoundToEven"], unfollowed := true, recurses := true, apart := false }
def SpaceConvertSaid : Prop := spaceConvertRow.holds Try.pinned (OpenSpec.ofChange spaceConvertSpec)

/-- ITS FALSE NEIGHBOUR: 'it returns false'. Refute it at one input. -/
def spaceConvertWrong : ChangeSpec := { name := "spaceConvert", fn := fun _ => fun
  | [d1, d2, d3, d4, d5] => { results := [.lit (.bool false)], args := [d1, d2, d3, d4, d5] }
  | _ => none }
def SpaceConvertWrongFalsely : Prop := spaceConvertRow.holds Try.pinned (OpenSpec.ofChange spaceConvertWrong)

/-- 'halidelaw7.SpaceBack': WHATEVER THE INPUT: true; the input reads as it did. -/
def spaceBackSpec : ChangeSpec := { name := "spaceBack", fn := fun _ => fun
  | [d1, d2, d3] => { results := [.lit (.bool true)], args := [d1, d2, d3] }
  | _ => none }
def spaceBackRow : OpenClaim := { program := "ytbhjadkgeadpiaa", sum := "a9d4e13aabb6c9d5bcdbaa590147d9dd58be94bb1d0507c61e5f4898efb13f5c", func := "halide/halidelaw7.SpaceBack", spec := "spaceBack", inPlace := ["math.Float32frombits", "math.Float64bits", "math.Float64frombits", "math.Float32bits", "math.RoundToEven"], unfollowed := true, recurses := true, apart := false }
def SpaceBackSaid : Prop := spaceBackRow.holds Try.pinned (OpenSpec.ofChange spaceBackSpec)

/-- ITS FALSE NEIGHBOUR: 'it returns false'. Refute it at one input. -/
def spaceBackWrong : ChangeSpec := { name := "spaceBack", fn := fun _ => fun
  | [d1, d2, d3] => { results := [.lit (.bool false)], args := [d1, d2, d3] }
  | _ => none }
def SpaceBackWrongFalsely : Prop := spaceBackRow.holds Try.pinned (OpenSpec.ofChange spaceBackWrong)

/-- 'halidelaw7.SpaceLogBack': WHATEVER THE INPUT: true; the input reads as it did. -/
def spaceLogBackSpec : ChangeSpec := { name := "spaceLogBack", fn := fun _ => fun
  | [d1, d2, d3] => { results := [.lit (.bool true)], args := [d1, d2, d3] }
  | _ => none }
def spaceLogBackRow : OpenClaim := { program := "ytbhjadkgeadpiaa", sum := "a9d4e13aabb6c9d5bcdbaa590147d9dd58be94bb1d0507c61e5f4898efb13f5c", func := "halide/halidelaw7.SpaceLogBack", spec := "spaceLogBack", inPlace := ["math.Float32frombits", "math.Float64bits", "math.Float64frombits", "math.Float32bits", "math.RoundToEven"], unfollowed := true, recurses := true, apart := false }
def SpaceLogBackSaid : Prop := spaceLogBackRow.holds Try.pinned (OpenSpec.ofChange spaceLogBackSpec)

/-- ITS FALSE NEIGHBOUR: 'it returns false'. Refute it at one input. -/
def spaceLogBackWrong : ChangeSpec := { name := "spaceLogBack", fn := fun _ => fun
  | [d1, d2, d3] => { results := [.lit (.bool false)], args := [d1, d2, d3] }
  | _ => none }
def SpaceLogBackWrongFalsely : Prop := spaceLogBackRow.holds Try.pinned (OpenSpec.ofChange spaceLogBackWrong)

/-- 'halidelaw7.SpaceLiftBack': WHATEVER THE INPUT: true; the input reads as it did. -/
def spaceLiftBackSpec : ChangeSpec := { name := "spaceLiftBack", fn := fun _ => fun
  | [d1, d2, d3] => { results := [.lit (.bool true)], args := [d1, d2, d3] }
  | _ => none }
def spaceLiftBackRow : OpenClaim := { program := "ytbhjadkgeadpiaa", sum := "a9d4e13aabb6c9d5bcdbaa590147d9dd58be94bb1d0507c61e5f4898efb13f5c", func := "halide/halidelaw7.SpaceLiftBack", spec := "spaceLiftBack", inPlace := ["math.Float32frombits", "math.Float64bits", "math.Float64frombits", "math.Float32bits", "math.RoundToEven"], unfollowed := true, recurses := true, apart := false }
def SpaceLiftBackSaid : Prop := spaceLiftBackRow.holds Try.pinned (OpenSpec.ofChange spaceLiftBackSpec)

/-- ITS FALSE NEIGHBOUR: 'it returns false'. Refute it at one input. -/
def spaceLiftBackWrong : ChangeSpec := { name := "spaceLiftBack", fn := fun _ => fun
  | [d1, d2, d3] => { results := [.lit (.bool false)], args := [d1, d2, d3] }
  | _ => none }
def SpaceLiftBackWrongFalsely : Prop := spaceLiftBackRow.holds Try.pinned (OpenSpec.ofChange spaceLiftBackWrong)

/-- 'halidelaw7.SpaceRises': WHATEVER THE INPUT: true; the input reads as it did. -/
def spaceRisesSpec : ChangeSpec := { name := "spaceRises", fn := fun _ => fun
  | [d1, d2] => { results := [.lit (.bool true)], args := [d1, d2] }
  | _ => none }
def spaceRisesRow : OpenClaim := { program := "ytbhjadkgeadpiaa", sum := "a9d4e13aabb6c9d5bcdbaa590147d9dd58be94bb1d0507c61e5f4898efb13f5c", func := "halide/halidelaw7.SpaceRises", spec := "spaceRises", inPlace := ["math.Float32frombits", "math.Float64bits", "math.Float64frombits", "math.Float32bits", "math.RoundToEven"], unfollowed := true, recurses := true, apart := false }
def SpaceRisesSaid : Prop := spaceRisesRow.holds Try.pinned (OpenSpec.ofChange spaceRisesSpec)

/-- ITS FALSE NEIGHBOUR: 'it returns false'. Refute it at one input. -/
def spaceRisesWrong : ChangeSpec := { name := "spaceRises", fn := fun _ => fun
  | [d1, d2] => { results := [.lit (.bool false)], args := [d1, d2] }
  | _ => none }
def SpaceRisesWrongFalsely : Prop := spaceRisesRow.holds Try.pinned (OpenSpec.ofChange spaceRisesWrong)

/-- 'halidelaw7.SpaceMean': WHATEVER THE INPUT: true; the input reads as it did. -/
def spaceMeanSpec : ChangeSpec := { name := "spaceMean", fn := fun _ => fun
  | [d1, d2, d3] => { results := [.lit (.bool true)], args := [d1, d2, d3] }
  | _ => none }
def spaceMeanRow : OpenClaim := { program := "ytbhjadkgeadpiaa", sum := "a9d4e13aabb6c9d5bcdbaa590147d9dd58be94bb1d0507c61e5f4898efb13f5c", func := "halide/halidelaw7.SpaceMean", spec := "spaceMean", inPlace := ["math.Float32frombits", "math.Float64bits", "math.Float64frombits", "math.Float32bits", "math.RoundToEven"], unfollowed := true, recurses := true, apart := false }
def SpaceMeanSaid : Prop := spaceMeanRow.holds Try.pinned (OpenSpec.ofChange spaceMeanSpec)

/-- ITS FALSE NEIGHBOUR: 'it returns false'. Refute it at one input. -/
def spaceMeanWrong : ChangeSpec := { name := "spaceMean", fn := fun _ => fun
  | [d1, d2, d3] => { results := [.lit (.bool false)], args := [d1, d2, d3] }
  | _ => none }
def SpaceMeanWrongFalsely : Prop := spaceMeanRow.holds Try.pinned (OpenSpec.ofChange spaceMeanWrong)

/- THE SECOND FORM. 'bulk': how many values and letters a reading holds, each counted each time it is reached (what is shared counts as often as it is met; a slice's spare places count too). A statement '..UptoSaid' is the law's where the arguments, and the package variables that the reading takes, are together of bulk at most 1048576: NARROWER than '..Said'. Prove '..Said' where nothing that the law and all that it calls make is longer than what came in: it says more and counts as full. Else prove '..UptoSaid'. A law counts once. -/
mutual
def uptoBulk {H : Type} : DataW H → Nat
  | .lit (.string bytes) => bytes.length + 1
  | .lit _ => 1
  | .nil => 1
  | .ptr d => uptoBulk d + 1
  | .slice elems spare => uptoBulkAll elems + uptoBulkAll spare + 1
  | .agg parts => uptoBulkAll parts + 1
  | .iface _ d => uptoBulk d + 1
  | .map entries => uptoBulkEntries entries + 1
  | .held _ => 1
def uptoBulkAll {H : Type} : List (DataW H) → Nat
  | [] => 0
  | d :: r => uptoBulk d + uptoBulkAll r
def uptoBulkEntries {H : Type} : List (Lit × DataW H) → Nat
  | [] => 0
  | x :: r => uptoBulkEntry x + uptoBulkEntries r
def uptoBulkEntry {H : Type} : Lit × DataW H → Nat
  | (.string bytes, d) => bytes.length + uptoBulk d + 1
  | (_, d) => uptoBulk d + 1
 end
def uptoSmall : (H : Type) → List (DataW H) → Bool := fun _ ds => decide (uptoBulkAll ds ≤ 1048576)
def OpenSpec.upto (s : _root_.Go.ChangeSpec) : _root_.Go.OpenSpec := { _root_.Go.OpenSpec.ofChange s with cond := some uptoSmall }

/-- 'halidelaw7.SpaceNames', WHERE WHAT IT READS IS OF BULK AT MOST 1048576: true; the input reads as it did. -/
def spaceNamesUptoRow : OpenClaim := { program := "ytbhjadkgeadpiaa", sum := "a9d4e13aabb6c9d5bcdbaa590147d9dd58be94bb1d0507c61e5f4898efb13f5c", func := "halide/halidelaw7.SpaceNames", spec := "spaceNames", inPlace := ["math.Float32frombits", "math.Float64bits", "math.Float64frombits", "math.Float32bits", "math.RoundToEven"], unfollowed := true, recurses := true, apart := false, narrowed := true }
def SpaceNamesUptoSaid : Prop := spaceNamesUptoRow.holds Try.pinned (OpenSpec.upto spaceNamesSpec)

/-- 'halidelaw7.SpaceYCC', WHERE WHAT IT READS IS OF BULK AT MOST 1048576: true; the input reads as it did. -/
def spaceYCCUptoRow : OpenClaim := { program := "ytbhjadkgeadpiaa", sum := "a9d4e13aabb6c9d5bcdbaa590147d9dd58be94bb1d0507c61e5f4898efb13f5c", func := "halide/halidelaw7.SpaceYCC", spec := "spaceYCC", inPlace := ["math.Float32frombits", "math.Float64bits", "math.Float64frombits", "math.Float32bits", "math.RoundToEven"], unfollowed := true, recurses := true, apart := false, narrowed := true }
def SpaceYCCUptoSaid : Prop := spaceYCCUptoRow.holds Try.pinned (OpenSpec.upto spaceYCCSpec)

/-- 'halidelaw7.SpaceLog', WHERE WHAT IT READS IS OF BULK AT MOST 1048576: true; the input reads as it did. -/
def spaceLogUptoRow : OpenClaim := { program := "ytbhjadkgeadpiaa", sum := "a9d4e13aabb6c9d5bcdbaa590147d9dd58be94bb1d0507c61e5f4898efb13f5c", func := "halide/halidelaw7.SpaceLog", spec := "spaceLog", inPlace := ["math.Float32frombits", "math.Float64bits", "math.Float64frombits", "math.Float32bits", "math.RoundToEven"], unfollowed := true, recurses := true, apart := false, narrowed := true }
def SpaceLogUptoSaid : Prop := spaceLogUptoRow.holds Try.pinned (OpenSpec.upto spaceLogSpec)

/-- 'halidelaw7.SpaceLift', WHERE WHAT IT READS IS OF BULK AT MOST 1048576: true; the input reads as it did. -/
def spaceLiftUptoRow : OpenClaim := { program := "ytbhjadkgeadpiaa", sum := "a9d4e13aabb6c9d5bcdbaa590147d9dd58be94bb1d0507c61e5f4898efb13f5c", func := "halide/halidelaw7.SpaceLift", spec := "spaceLift", inPlace := ["math.Float32frombits", "math.Float64bits", "math.Float64frombits", "math.Float32bits", "math.RoundToEven"], unfollowed := true, recurses := true, apart := false, narrowed := true }
def SpaceLiftUptoSaid : Prop := spaceLiftUptoRow.holds Try.pinned (OpenSpec.upto spaceLiftSpec)

/-- 'halidelaw7.SpaceConvert', WHERE WHAT IT READS IS OF BULK AT MOST 1048576: true; the input reads as it did. -/
def spaceConvertUptoRow : OpenClaim := { program := "ytbhjadkgeadpiaa", sum := "a9d4e13aabb6c9d5bcdbaa590147d9dd58be94bb1d0507c61e5f4898efb13f5c", func := "halide/halidelaw7.SpaceConvert", spec := "spaceConvert", inPlace := ["math.Float32frombits", "math.Float64bits", "math.Float64frombits", "math.Float32bits", "math.RoundToEven"], unfollowed := true, recurses := true, apart := false, narrowed := true }
def SpaceConvertUptoSaid : Prop := spaceConvertUptoRow.holds Try.pinned (OpenSpec.upto spaceConvertSpec)

/-- 'halidelaw7.SpaceBack', WHERE WHAT IT READS IS OF BULK AT MOST 1048576: true; the input reads as it did. -/
def spaceBackUptoRow : OpenClaim := { program := "ytbhjadkgeadpiaa", sum := "a9d4e13aabb6c9d5bcdbaa590147d9dd58be94bb1d0507c61e5f4898efb13f5c", func := "halide/halidelaw7.SpaceBack", spec := "spaceBack", inPlace := ["math.Float32frombits", "math.Float64bits", "math.Float64frombits", "math.Float32bits", "math.RoundToEven"], unfollowed := true, recurses := true, apart := false, narrowed := true }
def SpaceBackUptoSaid : Prop := spaceBackUptoRow.holds Try.pinned (OpenSpec.upto spaceBackSpec)

/-- 'halidelaw7.SpaceLogBack', WHERE WHAT IT READS IS OF BULK AT MOST 1048576: true; the input reads as it did. -/
def spaceLogBackUptoRow : OpenClaim := { program := "ytbhjadkgeadpiaa", sum := "a9d4e13aabb6c9d5bcdbaa590147d9dd58be94bb1d0507c61e5f4898efb13f5c", func := "halide/halidelaw7.SpaceLogBack", spec := "spaceLogBack", inPlace := ["math.Float32frombits", "math.Float64bits", "math.Float64frombits", "math.Float32bits", "math.RoundToEven"], unfollowed := true, recurses := true, apart := false, narrowed := true }
def SpaceLogBackUptoSaid : Prop := spaceLogBackUptoRow.holds Try.pinned (OpenSpec.upto spaceLogBackSpec)

/-- 'halidelaw7.SpaceLiftBack', WHERE WHAT IT READS IS OF BULK AT MOST 1048576: true; the input reads as it did. -/
def spaceLiftBackUptoRow : OpenClaim := { program := "ytbhjadkgeadpiaa", sum := "a9d4e13aabb6c9d5bcdbaa590147d9dd58be94bb1d0507c61e5f4898efb13f5c", func := "halide/halidelaw7.SpaceLiftBack", spec := "spaceLiftBack", inPlace := ["math.Float32frombits", "math.Float64bits", "math.Float64frombits", "math.Float32bits", "math.RoundToEven"], unfollowed := true, recurses := true, apart := false, narrowed := true }
def SpaceLiftBackUptoSaid : Prop := spaceLiftBackUptoRow.holds Try.pinned (OpenSpec.upto spaceLiftBackSpec)

/-- 'halidelaw7.SpaceRises', WHERE WHAT IT READS IS OF BULK AT MOST 1048576: true; the input reads as it did. -/
def spaceRisesUptoRow : OpenClaim := { program := "ytbhjadkgeadpiaa", sum := "a9d4e13aabb6c9d5bcdbaa590147d9dd58be94bb1d0507c61e5f4898efb13f5c", func := "halide/halidelaw7.SpaceRises", spec := "spaceRises", inPlace := ["math.Float32frombits", "math.Float64bits", "math.Float64frombits", "math.Float32bits", "math.RoundToEven"], unfollowed := true, recurses := true, apart := false, narrowed := true }
def SpaceRisesUptoSaid : Prop := spaceRisesUptoRow.holds Try.pinned (OpenSpec.upto spaceRisesSpec)

/-- 'halidelaw7.SpaceMean', WHERE WHAT IT READS IS OF BULK AT MOST 1048576: true; the input reads as it did. -/
def spaceMeanUptoRow : OpenClaim := { program := "ytbhjadkgeadpiaa", sum := "a9d4e13aabb6c9d5bcdbaa590147d9dd58be94bb1d0507c61e5f4898efb13f5c", func := "halide/halidelaw7.SpaceMean", spec := "spaceMean", inPlace := ["math.Float32frombits", "math.Float64bits", "math.Float64frombits", "math.Float32bits", "math.RoundToEven"], unfollowed := true, recurses := true, apart := false, narrowed := true }
def SpaceMeanUptoSaid : Prop := spaceMeanUptoRow.holds Try.pinned (OpenSpec.upto spaceMeanSpec)

end Rows
end Go.Proofs.Ytbhjadkgeadpiaa
