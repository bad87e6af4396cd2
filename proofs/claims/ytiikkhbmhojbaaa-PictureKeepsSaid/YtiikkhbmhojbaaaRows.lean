/-
  No cell of these rows narrows 'for every input' (looked for: loops, veiled, ifaces, maps, wideKeys, modest, calm, conditions, laid).
  DERIVED. THE GIVEN ROWS OF THIS SEAT. 4 by the template 'for every input the law returns true; each argument reads behind the call as it read before'; 0 by the template 'total and deterministic' (their statements: YtiikkhbmhojbaaaTotals.lean).
  GIVEN WITH THE SEED: the statements are not yours to turn. If you find one false, say at which input.
  Laid BY PROGRAM, IN A SANDBOX (cutbox-rows.mjs): the forced cells as the released guide's own fill.sh prints them over the translation 74afd1b8bda77d76… (all of the seat's roots in one cut). By AI agents, Wed Nov 11 2026. No macro, syntax, notation, axiom, sorry.
-/
import Derived.Test.YtiikkhbmhojbaaaChecked
import GoSem.Claim
import GoSem.ClaimJoined
import GoSem.ClaimMapViews
import Derived.JoinedTies
import Derived.KernelRfl
namespace Go.Proofs.Ytiikkhbmhojbaaa
/- THE CELL 'sum', in the pinned program and in every row, IS THE sha256 OF THE DUMP (.gsa) THAT YtiikkhbmhojbaaaProg.lean LOADS. Nothing in Lean hashes anything: it is a label: what it is worth is what the hold of that sum in a sandbox is worth. -/
noncomputable def Try.pinned : Pinned := { name := "ytiikkhbmhojbaaa", sum := "74afd1b8bda77d76726aebb9aee4640e32068c322bbf45a5813b342eb7efae41", checked := Try.checked }
namespace Rows
def none {H : Type} : Left H := { results := [], args := [] }

/-- 'halidelaw8.PictureNames': WHATEVER THE INPUT: true; the input reads as it did. -/
def pictureNamesSpec : ChangeSpec := { name := "pictureNames", fn := fun _ => fun
  | [] => { results := [.lit (.bool true)], args := [] }
  | _ => none }
def pictureNamesRow : OpenClaim := { program := "ytiikkhbmhojbaaa", sum := "74afd1b8bda77d76726aebb9aee4640e32068c322bbf45a5813b342eb7efae41", func := "halide/halidelaw8.PictureNames", spec := "pictureNames", apart := false }
def PictureNamesSaid : Prop := pictureNamesRow.holds Try.pinned (OpenSpec.ofChange pictureNamesSpec)

/-- ITS FALSE NEIGHBOUR: 'it returns false'. Refute it at one input. -/
def pictureNamesWrong : ChangeSpec := { name := "pictureNames", fn := fun _ => fun
  | [] => { results := [.lit (.bool false)], args := [] }
  | _ => none }
def PictureNamesWrongFalsely : Prop := pictureNamesRow.holds Try.pinned (OpenSpec.ofChange pictureNamesWrong)

/-- 'halidelaw8.PicturePlaces': WHATEVER THE INPUT: true; the input reads as it did. -/
def picturePlacesSpec : ChangeSpec := { name := "picturePlaces", fn := fun _ => fun
  | [d1, d2, d3, d4, d5, d6, d7, d8] => { results := [.lit (.bool true)], args := [d1, d2, d3, d4, d5, d6, d7, d8] }
  | _ => none }
def picturePlacesRow : OpenClaim := { program := "ytiikkhbmhojbaaa", sum := "74afd1b8bda77d76726aebb9aee4640e32068c322bbf45a5813b342eb7efae41", func := "halide/halidelaw8.PicturePlaces", spec := "picturePlaces", inPlace := ["math.Float32frombits", "math.Float64bits", "math.Float64frombits", "math.Float32bits", "math.RoundToEven"], unfollowed := true, recurses := true, apart := false }
def PicturePlacesSaid : Prop := picturePlacesRow.holds Try.pinned (OpenSpec.ofChange picturePlacesSpec)

/-- ITS FALSE NEIGHBOUR: 'it returns false'. Refute it at one input. -/
def picturePlacesWrong : ChangeSpec := { name := "picturePlaces", fn := fun _ => fun
  | [d1, d2, d3, d4, d5, d6, d7, d8] => { results := [.lit (.bool false)], args := [d1, d2, d3, d4, d5, d6, d7, d8] }
  | _ => none }
def PicturePlacesWrongFalsely : Prop := picturePlacesRow.holds Try.pinned (OpenSpec.ofChange picturePlacesWrong)

/-- 'halidelaw8.PictureKeeps': WHATEVER THE INPUT: true; the input reads as it did. -/
def pictureKeepsSpec : ChangeSpec := { name := "pictureKeeps", fn := fun _ => fun
  | [d1, d2, d3, d4] => { results := [.lit (.bool true)], args := [d1, d2, d3, d4] }
  | _ => none }
def pictureKeepsRow : OpenClaim := { program := "ytiikkhbmhojbaaa", sum := "74afd1b8bda77d76726aebb9aee4640e32068c322bbf45a5813b342eb7efae41", func := "halide/halidelaw8.PictureKeeps", spec := "pictureKeeps", inPlace := ["math.Float32frombits", "math.Float64bits", "math.Float64frombits", "math.Float32bits"], unfollowed := true, recurses := true, apart := false }
def PictureKeepsSaid : Prop := pictureKeepsRow.holds Try.pinned (OpenSpec.ofChange pictureKeepsSpec)

/-- ITS FALSE NEIGHBOUR: 'it returns false'. Refute it at one input. -/
def pictureKeepsWrong : ChangeSpec := { name := "pictureKeeps", fn := fun _ => fun
  | [d1, d2, d3, d4] => { results := [.lit (.bool false)], args := [d1, d2, d3, d4] }
  | _ => none }
def PictureKeepsWrongFalsely : Prop := pictureKeepsRow.holds Try.pinned (OpenSpec.ofChange pictureKeepsWrong)

/-- 'halidelaw8.PictureMakes': WHATEVER THE INPUT: true; the input reads as it did. -/
def pictureMakesSpec : ChangeSpec := { name := "pictureMakes", fn := fun _ => fun
  | [d1, d2, d3, d4, d5, d6, d7, d8] => { results := [.lit (.bool true)], args := [d1, d2, d3, d4, d5, d6, d7, d8] }
  | _ => none }
def pictureMakesRow : OpenClaim := { program := "ytiikkhbmhojbaaa", sum := "74afd1b8bda77d76726aebb9aee4640e32068c322bbf45a5813b342eb7efae41", func := "halide/halidelaw8.PictureMakes", spec := "pictureMakes", inPlace := ["math.Float32frombits", "math.Float64bits", "math.Float64frombits", "math.Float32bits"], unfollowed := true, recurses := true, apart := false }
def PictureMakesSaid : Prop := pictureMakesRow.holds Try.pinned (OpenSpec.ofChange pictureMakesSpec)

/-- ITS FALSE NEIGHBOUR: 'it returns false'. Refute it at one input. -/
def pictureMakesWrong : ChangeSpec := { name := "pictureMakes", fn := fun _ => fun
  | [d1, d2, d3, d4, d5, d6, d7, d8] => { results := [.lit (.bool false)], args := [d1, d2, d3, d4, d5, d6, d7, d8] }
  | _ => none }
def PictureMakesWrongFalsely : Prop := pictureMakesRow.holds Try.pinned (OpenSpec.ofChange pictureMakesWrong)

/- THE SECOND FORM. 'bulk': how many values and letters a reading holds, each counted each time it is reached (what is shared counts as often as it is met; a slice's spare places count too). A statement '..UptoSaid' is the law's where the arguments, and the package variables that the reading takes, are together of bulk at most 1048576: NARROWER than '..Said'. Prove '..Said' where nothing that the law and all that it calls make is longer than what came in: it says more and counts as full. Else prove '..UptoSaid'. A law counts once. -/
mutual
def uptoBulk {H : Type} : DataW H → Nat
  | .lit (.string bytes) => bytes.length + 1
  | .lit _ => 1
  | .nil => 1
  | .ptr d => uptoBulk d + 1
  | .slice elems spare => uptoBulkAll elems + uptoBulkAll spare + 1
  | .agg parts => uptoBulkAll parts + 1
  | .iface _ d => uptoBulk d + 1
  | .map entries => uptoBulkEntries entries + 1
  | .held _ => 1
def uptoBulkAll {H : Type} : List (DataW H) → Nat
  | [] => 0
  | d :: r => uptoBulk d + uptoBulkAll r
def uptoBulkEntries {H : Type} : List (Lit × DataW H) → Nat
  | [] => 0
  | x :: r => uptoBulkEntry x + uptoBulkEntries r
def uptoBulkEntry {H : Type} : Lit × DataW H → Nat
  | (.string bytes, d) => bytes.length + uptoBulk d + 1
  | (_, d) => uptoBulk d + 1
 end
def uptoSmall : (H : Type) → List (DataW H) → Bool := fun _ ds => decide (uptoBulkAll ds ≤ 1048576)
def OpenSpec.upto (s : _root_.Go.ChangeSpec) : _root_.Go.OpenSpec := { _root_.Go.OpenSpec.ofChange s with cond := some uptoSmall }

/-- 'halidelaw8.PictureNames', WHERE WHAT IT READS IS OF BULK AT MOST 1048576: true; the input reads as it did. -/
def pictureNamesUptoRow : OpenClaim := { program := "ytiikkhbmhojbaaa", sum := "74afd1b8bda77d76726aebb9aee4640e32068c322bbf45a5813b342eb7efae41", func := "halide/halidelaw8.PictureNames", spec := "pictureNames", apart := false, narrowed := true }
def PictureNamesUptoSaid : Prop := pictureNamesUptoRow.holds Try.pinned (OpenSpec.upto pictureNamesSpec)

/-- 'halidelaw8.PicturePlaces', WHERE WHAT IT READS IS OF BULK AT MOST 1048576: true; the input reads as it did. -/
def picturePlacesUptoRow : OpenClaim := { program := "ytiikkhbmhojbaaa", sum := "74afd1b8bda77d76726aebb9aee4640e32068c322bbf45a5813b342eb7efae41", func := "halide/halidelaw8.PicturePlaces", spec := "picturePlaces", inPlace := ["math.Float32frombits", "math.Float64bits", "math.Float64frombits", "math.Float32bits", "math.RoundToEven"], unfollowed := true, recurses := true, apart := false, narrowed := true }
def PicturePlacesUptoSaid : Prop := picturePlacesUptoRow.holds Try.pinned (OpenSpec.upto picturePlacesSpec)

/-- 'halidelaw8.PictureKeeps', WHERE WHAT IT READS IS OF BULK AT MOST 1048576: true; the input reads as it did. -/
def pictureKeepsUptoRow : OpenClaim := { program := "ytiikkhbmhojbaaa", sum := "74afd1b8bda77d76726aebb9aee4640e32068c322bbf45a5813b342eb7efae41", func := "halide/halidelaw8.PictureKeeps", spec := "pictureKeeps", inPlace := ["math.Float32frombits", "math.Float64bits", "math.Float64frombits", "math.Float32bits"], unfollowed := true, recurses := true, apart := false, narrowed := true }
def PictureKeepsUptoSaid : Prop := pictureKeepsUptoRow.holds Try.pinned (OpenSpec.upto pictureKeepsSpec)

/-- 'halidelaw8.PictureMakes', WHERE WHAT IT READS IS OF BULK AT MOST 1048576: true; the input reads as it did. -/
def pictureMakesUptoRow : OpenClaim := { program := "ytiikkhbmhojbaaa", sum := "74afd1b8bda77d76726aebb9aee4640e32068c322bbf45a5813b342eb7efae41", func := "halide/halidelaw8.PictureMakes", spec := "pictureMakes", inPlace := ["math.Float32frombits", "math.Float64bits", "math.Float64frombits", "math.Float32bits"], unfollowed := true, recurses := true, apart := false, narrowed := true }
def PictureMakesUptoSaid : Prop := pictureMakesUptoRow.holds Try.pinned (OpenSpec.upto pictureMakesSpec)

end Rows
end Go.Proofs.Ytiikkhbmhojbaaa
