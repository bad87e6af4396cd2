/-
  No cell of these rows narrows 'for every input' (looked for: loops, veiled, ifaces, maps, wideKeys, modest, calm, conditions, laid).
  DERIVED. THE GIVEN ROWS OF THIS SEAT. 3 by the template 'for every input the law returns true; each argument reads behind the call as it read before'; 0 by the template 'total and deterministic' (their statements: YtiikkhbmhojbaaaGreatTotals.lean).
  GIVEN WITH THE SEED: the statements are not yours to turn. If you find one false, say at which input.
  Laid BY PROGRAM, IN A SANDBOX (cutbox-rows.mjs): the forced cells as the released guide's own fill.sh prints them over the translation e620ffb43a3b575b… (all of the seat's roots in one cut). By AI agents, Wed Nov 11 2026. No macro, syntax, notation, axiom, sorry.
-/
import Derived.Test.YtiikkhbmhojbaaaGreatChecked
import GoSem.Claim
import GoSem.ClaimJoined
import GoSem.ClaimMapViews
import Derived.JoinedTies
import Derived.KernelRfl
namespace Go.Proofs.YtiikkhbmhojbaaaGreat
/- THE CELL 'sum', in the pinned program and in every row, IS THE sha256 OF THE DUMP (.gsa) THAT YtiikkhbmhojbaaaGreatProg.lean LOADS. Nothing in Lean hashes anything: it is a label: what it is worth is what the hold of that sum in a sandbox is worth. -/
noncomputable def Tryz.pinned : Pinned := { name := "ytiikkhbmhojbaaagreat", sum := "e620ffb43a3b575b034c2fe9831830135a42573352885f60042c6726529e0616", checked := Tryz.checked }
namespace Rows
def none {H : Type} : Left H := { results := [], args := [] }

/-- 'halidelaw8.PictureMoves': WHATEVER THE INPUT: true; the input reads as it did. -/
def pictureMovesSpec : ChangeSpec := { name := "pictureMoves", fn := fun _ => fun
  | [d1, d2, d3, d4, d5, d6] => { results := [.lit (.bool true)], args := [d1, d2, d3, d4, d5, d6] }
  | _ => none }
def pictureMovesRow : OpenClaim := { program := "ytiikkhbmhojbaaagreat", sum := "e620ffb43a3b575b034c2fe9831830135a42573352885f60042c6726529e0616", func := "halide/halidelaw8.PictureMoves", spec := "pictureMoves", inPlace := ["math.Float32frombits", "math.Float64bits", "math.Float64frombits", "math.Float32bits", "math.RoundToEven"], unfollowed := true, recurses := true, apart := false }
def PictureMovesSaid : Prop := pictureMovesRow.holds Tryz.pinned (OpenSpec.ofChange pictureMovesSpec)

/-- ITS FALSE NEIGHBOUR: 'it returns false'. Refute it at one input. -/
def pictureMovesWrong : ChangeSpec := { name := "pictureMoves", fn := fun _ => fun
  | [d1, d2, d3, d4, d5, d6] => { results := [.lit (.bool false)], args := [d1, d2, d3, d4, d5, d6] }
  | _ => none }
def PictureMovesWrongFalsely : Prop := pictureMovesRow.holds Tryz.pinned (OpenSpec.ofChange pictureMovesWrong)

/-- 'halidelaw8.PictureMaps': WHATEVER THE INPUT: true; the input reads as it did. -/
def pictureMapsSpec : ChangeSpec := { name := "pictureMaps", fn := fun _ => fun
  | [d1, d2, d3] => { results := [.lit (.bool true)], args := [d1, d2, d3] }
  | _ => none }
def pictureMapsRow : OpenClaim := { program := "ytiikkhbmhojbaaagreat", sum := "e620ffb43a3b575b034c2fe9831830135a42573352885f60042c6726529e0616", func := "halide/halidelaw8.PictureMaps", spec := "pictureMaps", inPlace := ["math.Float32frombits", "math.Float64bits", "math.Float64frombits", "math.Float32bits"], unfollowed := true, recurses := true, apart := false }
def PictureMapsSaid : Prop := pictureMapsRow.holds Tryz.pinned (OpenSpec.ofChange pictureMapsSpec)

/-- ITS FALSE NEIGHBOUR: 'it returns false'. Refute it at one input. -/
def pictureMapsWrong : ChangeSpec := { name := "pictureMaps", fn := fun _ => fun
  | [d1, d2, d3] => { results := [.lit (.bool false)], args := [d1, d2, d3] }
  | _ => none }
def PictureMapsWrongFalsely : Prop := pictureMapsRow.holds Tryz.pinned (OpenSpec.ofChange pictureMapsWrong)

/-- 'halidelaw8.PictureReckons': WHATEVER THE INPUT: true; the input reads as it did. -/
def pictureReckonsSpec : ChangeSpec := { name := "pictureReckons", fn := fun _ => fun
  | [d1, d2, d3, d4, d5, d6, d7] => { results := [.lit (.bool true)], args := [d1, d2, d3, d4, d5, d6, d7] }
  | _ => none }
def pictureReckonsRow : OpenClaim := { program := "ytiikkhbmhojbaaagreat", sum := "e620ffb43a3b575b034c2fe9831830135a42573352885f60042c6726529e0616", func := "halide/halidelaw8.PictureReckons", spec := "pictureReckons", inPlace := ["math.Float32frombits", "math.Float64bits", "math.Float64frombits", "math.Float32bits"], unfollowed := true, recurses := true, apart := false }
def PictureReckonsSaid : Prop := pictureReckonsRow.holds Tryz.pinned (OpenSpec.ofChange pictureReckonsSpec)

/-- ITS FALSE NEIGHBOUR: 'it returns false'. Refute it at one input. -/
def pictureReckonsWrong : ChangeSpec := { name := "pictureReckons", fn := fun _ => fun
  | [d1, d2, d3, d4, d5, d6, d7] => { results := [.lit (.bool false)], args := [d1, d2, d3, d4, d5, d6, d7] }
  | _ => none }
def PictureReckonsWrongFalsely : Prop := pictureReckonsRow.holds Tryz.pinned (OpenSpec.ofChange pictureReckonsWrong)

/- THE SECOND FORM. 'bulk': how many values and letters a reading holds, each counted each time it is reached (what is shared counts as often as it is met; a slice's spare places count too). A statement '..UptoSaid' is the law's where the arguments, and the package variables that the reading takes, are together of bulk at most 1048576: NARROWER than '..Said'. Prove '..Said' where nothing that the law and all that it calls make is longer than what came in: it says more and counts as full. Else prove '..UptoSaid'. A law counts once. -/
mutual
def uptoBulk {H : Type} : DataW H → Nat
  | .lit (.string bytes) => bytes.length + 1
  | .lit _ => 1
  | .nil => 1
  | .ptr d => uptoBulk d + 1
  | .slice elems spare => uptoBulkAll elems + uptoBulkAll spare + 1
  | .agg parts => uptoBulkAll parts + 1
  | .iface _ d => uptoBulk d + 1
  | .map entries => uptoBulkEntries entries + 1
  | .held _ => 1
def uptoBulkAll {H : Type} : List (DataW H) → Nat
  | [] => 0
  | d :: r => uptoBulk d + uptoBulkAll r
def uptoBulkEntries {H : Type} : List (Lit × DataW H) → Nat
  | [] => 0
  | x :: r => uptoBulkEntry x + uptoBulkEntries r
def uptoBulkEntry {H : Type} : Lit × DataW H → Nat
  | (.string bytes, d) => bytes.length + uptoBulk d + 1
  | (_, d) => uptoBulk d + 1
 end
def uptoSmall : (H : Type) → List (DataW H) → Bool := fun _ ds => decide (uptoBulkAll ds ≤ 1048576)
def OpenSpec.upto (s : _root_.Go.ChangeSpec) : _root_.Go.OpenSpec := { _root_.Go.OpenSpec.ofChange s with cond := some uptoSmall }

/-- 'halidelaw8.PictureMoves', WHERE WHAT IT READS IS OF BULK AT MOST 1048576: true; the input reads as it did. -/
def pictureMovesUptoRow : OpenClaim := { program := "ytiikkhbmhojbaaagreat", sum := "e620ffb43a3b575b034c2fe9831830135a42573352885f60042c6726529e0616", func := "halide/halidelaw8.PictureMoves", spec := "pictureMoves", inPlace := ["math.Float32frombits", "math.Float64bits", "math.Float64frombits", "math.Float32bits", "math.RoundToEven"], unfollowed := true, recurses := true, apart := false, narrowed := true }
def PictureMovesUptoSaid : Prop := pictureMovesUptoRow.holds Tryz.pinned (OpenSpec.upto pictureMovesSpec)

/-- 'halidelaw8.PictureMaps', WHERE WHAT IT READS IS OF BULK AT MOST 1048576: true; the input reads as it did. -/
def pictureMapsUptoRow : OpenClaim := { program := "ytiikkhbmhojbaaagreat", sum := "e620ffb43a3b575b034c2fe9831830135a42573352885f60042c6726529e0616", func := "halide/halidelaw8.PictureMaps", spec := "pictureMaps", inPlace := ["math.Float32frombits", "math.Float64bits", "math.Float64frombits", "math.Float32bits"], unfollowed := true, recurses := true, apart := false, narrowed := true }
def PictureMapsUptoSaid : Prop := pictureMapsUptoRow.holds Tryz.pinned (OpenSpec.upto pictureMapsSpec)

/-- 'halidelaw8.PictureReckons', WHERE WHAT IT READS IS OF BULK AT MOST 1048576: true; the input reads as it did. -/
def pictureReckonsUptoRow : OpenClaim := { program := "ytiikkhbmhojbaaagreat", sum := "e620ffb43a3b575b034c2fe9831830135a42573352885f60042c6726529e0616", func := "halide/halidelaw8.PictureReckons", spec := "pictureReckons", inPlace := ["math.Float32frombits", "math.Float64bits", "math.Float64frombits", "math.Float32bits"], unfollowed := true, recurses := true, apart := false, narrowed := true }
def PictureReckonsUptoSaid : Prop := pictureReckonsUptoRow.holds Tryz.pinned (OpenSpec.upto pictureReckonsSpec)

end Rows
end Go.Proofs.YtiikkhbmhojbaaaGreat
