/-
  No cell of these rows narrows 'for every input' (looked for: loops, veiled, ifaces, maps, wideKeys, modest, calm, conditions, laid).
  DERIVED. THE GIVEN ROWS OF THIS SEAT. 10 by the template 'for every input the law returns true; each argument reads behind the call as it read before'; 0 by the template 'total and deterministic' (their statements: YtileciohbhoehaaTotals.lean).
  GIVEN WITH THE SEED: the statements are not yours to turn. If you find one false, say at which input.
  Laid BY PROGRAM, IN A SANDBOX (cutbox-rows.mjs): the forced cells as the released guide's own fill.sh prints them over the translation eb5b3589e6050912… (all of the seat's roots in one cut). By AI agents, Wed Nov 11 2026. No macro, syntax, notation, axiom, sorry.
-/
import Derived.Test.YtileciohbhoehaaChecked
import GoSem.Claim
import GoSem.ClaimJoined
import GoSem.ClaimMapViews
import Derived.JoinedTies
import Derived.KernelRfl
namespace Go.Proofs.Ytileciohbhoehaa
/- THE CELL 'sum', in the pinned program and in every row, IS THE sha256 OF THE DUMP (.gsa) THAT YtileciohbhoehaaProg.lean LOADS. Nothing in Lean hashes anything: it is a label: what it is worth is what the hold of that sum in a sandbox is worth. -/
noncomputable def Try.pinned : Pinned := { name := "ytileciohbhoehaa", sum := "eb5b3589e60509121e981cdef196a018e692ac78214b946335485ab6c229ec11", checked := Try.checked }
namespace Rows
def none {H : Type} : Left H := { results := [], args := [] }

/-- 'halidelaw5.PlaneNames': WHATEVER THE INPUT: true; the input reads as it did. -/
def planeNamesSpec : ChangeSpec := { name := "planeNames", fn := fun _ => fun
  | [] => { results := [.lit (.bool true)], args := [] }
  | _ => none }
def planeNamesRow : OpenClaim := { program := "ytileciohbhoehaa", sum := "eb5b3589e60509121e981cdef196a018e692ac78214b946335485ab6c229ec11", func := "halide/halidelaw5.PlaneNames", spec := "planeNames", apart := false }
def PlaneNamesSaid : Prop := planeNamesRow.holds Try.pinned (OpenSpec.ofChange planeNamesSpec)

/-- ITS FALSE NEIGHBOUR: 'it returns false'. Refute it at one input. -/
def planeNamesWrong : ChangeSpec := { name := "planeNames", fn := fun _ => fun
  | [] => { results := [.lit (.bool false)], args := [] }
  | _ => none }
def PlaneNamesWrongFalsely : Prop := planeNamesRow.holds Try.pinned (OpenSpec.ofChange planeNamesWrong)

/-- 'halidelaw5.PlaneBorders': WHATEVER THE INPUT: true; the input reads as it did. -/
def planeBordersSpec : ChangeSpec := { name := "planeBorders", fn := fun _ => fun
  | [d1, d2, d3] => { results := [.lit (.bool true)], args := [d1, d2, d3] }
  | _ => none }
def planeBordersRow : OpenClaim := { program := "ytileciohbhoehaa", sum := "eb5b3589e60509121e981cdef196a018e692ac78214b946335485ab6c229ec11", func := "halide/halidelaw5.PlaneBorders", spec := "planeBorders", unfollowed := true, recurses := true, apart := false }
def PlaneBordersSaid : Prop := planeBordersRow.holds Try.pinned (OpenSpec.ofChange planeBordersSpec)

/-- ITS FALSE NEIGHBOUR: 'it returns false'. Refute it at one input. -/
def planeBordersWrong : ChangeSpec := { name := "planeBorders", fn := fun _ => fun
  | [d1, d2, d3] => { results := [.lit (.bool false)], args := [d1, d2, d3] }
  | _ => none }
def PlaneBordersWrongFalsely : Prop := planeBordersRow.holds Try.pinned (OpenSpec.ofChange planeBordersWrong)

/-- 'halidelaw5.PlaneExtends': WHATEVER THE INPUT: true; the input reads as it did. -/
def planeExtendsSpec : ChangeSpec := { name := "planeExtends", fn := fun _ => fun
  | [d1, d2, d3, d4, d5, d6] => { results := [.lit (.bool true)], args := [d1, d2, d3, d4, d5, d6] }
  | _ => none }
def planeExtendsRow : OpenClaim := { program := "ytileciohbhoehaa", sum := "eb5b3589e60509121e981cdef196a018e692ac78214b946335485ab6c229ec11", func := "halide/halidelaw5.PlaneExtends", spec := "planeExtends", unfollowed := true, recurses := true, apart := false }
def PlaneExtendsSaid : Prop := planeExtendsRow.holds Try.pinned (OpenSpec.ofChange planeExtendsSpec)

/-- ITS FALSE NEIGHBOUR: 'it returns false'. Refute it at one input. -/
def planeExtendsWrong : ChangeSpec := { name := "planeExtends", fn := fun _ => fun
  | [d1, d2, d3, d4, d5, d6] => { results := [.lit (.bool false)], args := [d1, d2, d3, d4, d5, d6] }
  | _ => none }
def PlaneExtendsWrongFalsely : Prop := planeExtendsRow.holds Try.pinned (OpenSpec.ofChange planeExtendsWrong)

/-- 'halidelaw5.PlanePieces': WHATEVER THE INPUT: true; the input reads as it did. -/
def planePiecesSpec : ChangeSpec := { name := "planePieces", fn := fun _ => fun
  | [d1, d2, d3, d4, d5, d6] => { results := [.lit (.bool true)], args := [d1, d2, d3, d4, d5, d6] }
  | _ => none }
def planePiecesRow : OpenClaim := { program := "ytileciohbhoehaa", sum := "eb5b3589e60509121e981cdef196a018e692ac78214b946335485ab6c229ec11", func := "halide/halidelaw5.PlanePieces", spec := "planePieces", unfollowed := true, recurses := true, apart := false }
def PlanePiecesSaid : Prop := planePiecesRow.holds Try.pinned (OpenSpec.ofChange planePiecesSpec)

/-- ITS FALSE NEIGHBOUR: 'it returns false'. Refute it at one input. -/
def planePiecesWrong : ChangeSpec := { name := "planePieces", fn := fun _ => fun
  | [d1, d2, d3, d4, d5, d6] => { results := [.lit (.bool false)], args := [d1, d2, d3, d4, d5, d6] }
  | _ => none }
def PlanePiecesWrongFalsely : Prop := planePiecesRow.holds Try.pinned (OpenSpec.ofChange planePiecesWrong)

/-- 'halidelaw5.PlaneEdges': WHATEVER THE INPUT: true; the input reads as it did. -/
def planeEdgesSpec : ChangeSpec := { name := "planeEdges", fn := fun _ => fun
  | [d1, d2] => { results := [.lit (.bool true)], args := [d1, d2] }
  | _ => none }
def planeEdgesRow : OpenClaim := { program := "ytileciohbhoehaa", sum := "eb5b3589e60509121e981cdef196a018e692ac78214b946335485ab6c229ec11", func := "halide/halidelaw5.PlaneEdges", spec := "planeEdges", unfollowed := true, recurses := true, apart := false }
def PlaneEdgesSaid : Prop := planeEdgesRow.holds Try.pinned (OpenSpec.ofChange planeEdgesSpec)

/-- ITS FALSE NEIGHBOUR: 'it returns false'. Refute it at one input. -/
def planeEdgesWrong : ChangeSpec := { name := "planeEdges", fn := fun _ => fun
  | [d1, d2] => { results := [.lit (.bool false)], args := [d1, d2] }
  | _ => none }
def PlaneEdgesWrongFalsely : Prop := planeEdgesRow.holds Try.pinned (OpenSpec.ofChange planeEdgesWrong)

/-- 'halidelaw5.PlaneMoves': WHATEVER THE INPUT: true; the input reads as it did. -/
def planeMovesSpec : ChangeSpec := { name := "planeMoves", fn := fun _ => fun
  | [d1, d2, d3, d4, d5, d6] => { results := [.lit (.bool true)], args := [d1, d2, d3, d4, d5, d6] }
  | _ => none }
def planeMovesRow : OpenClaim := { program := "ytileciohbhoehaa", sum := "eb5b3589e60509121e981cdef196a018e692ac78214b946335485ab6c229ec11", func := "halide/halidelaw5.PlaneMoves", spec := "planeMoves", unfollowed := true, recurses := true, apart := false }
def PlaneMovesSaid : Prop := planeMovesRow.holds Try.pinned (OpenSpec.ofChange planeMovesSpec)

/-- ITS FALSE NEIGHBOUR: 'it returns false'. Refute it at one input. -/
def planeMovesWrong : ChangeSpec := { name := "planeMoves", fn := fun _ => fun
  | [d1, d2, d3, d4, d5, d6] => { results := [.lit (.bool false)], args := [d1, d2, d3, d4, d5, d6] }
  | _ => none }
def PlaneMovesWrongFalsely : Prop := planeMovesRow.holds Try.pinned (OpenSpec.ofChange planeMovesWrong)

/-- 'halidelaw5.PlaneTurns': WHATEVER THE INPUT: true; the input reads as it did. -/
def planeTurnsSpec : ChangeSpec := { name := "planeTurns", fn := fun _ => fun
  | [d1, d2, d3] => { results := [.lit (.bool true)], args := [d1, d2, d3] }
  | _ => none }
def planeTurnsRow : OpenClaim := { program := "ytileciohbhoehaa", sum := "eb5b3589e60509121e981cdef196a018e692ac78214b946335485ab6c229ec11", func := "halide/halidelaw5.PlaneTurns", spec := "planeTurns", unfollowed := true, recurses := true, apart := false }
def PlaneTurnsSaid : Prop := planeTurnsRow.holds Try.pinned (OpenSpec.ofChange planeTurnsSpec)

/-- ITS FALSE NEIGHBOUR: 'it returns false'. Refute it at one input. -/
def planeTurnsWrong : ChangeSpec := { name := "planeTurns", fn := fun _ => fun
  | [d1, d2, d3] => { results := [.lit (.bool false)], args := [d1, d2, d3] }
  | _ => none }
def PlaneTurnsWrongFalsely : Prop := planeTurnsRow.holds Try.pinned (OpenSpec.ofChange planeTurnsWrong)

/-- 'halidelaw5.PlaneMakes': WHATEVER THE INPUT: true; the input reads as it did. -/
def planeMakesSpec : ChangeSpec := { name := "planeMakes", fn := fun _ => fun
  | [d1, d2, d3, d4, d5, d6] => { results := [.lit (.bool true)], args := [d1, d2, d3, d4, d5, d6] }
  | _ => none }
def planeMakesRow : OpenClaim := { program := "ytileciohbhoehaa", sum := "eb5b3589e60509121e981cdef196a018e692ac78214b946335485ab6c229ec11", func := "halide/halidelaw5.PlaneMakes", spec := "planeMakes", unfollowed := true, recurses := true, apart := false }
def PlaneMakesSaid : Prop := planeMakesRow.holds Try.pinned (OpenSpec.ofChange planeMakesSpec)

/-- ITS FALSE NEIGHBOUR: 'it returns false'. Refute it at one input. -/
def planeMakesWrong : ChangeSpec := { name := "planeMakes", fn := fun _ => fun
  | [d1, d2, d3, d4, d5, d6] => { results := [.lit (.bool false)], args := [d1, d2, d3, d4, d5, d6] }
  | _ => none }
def PlaneMakesWrongFalsely : Prop := planeMakesRow.holds Try.pinned (OpenSpec.ofChange planeMakesWrong)

/-- 'halidelaw5.PlaneCompares': WHATEVER THE INPUT: true; the input reads as it did. -/
def planeComparesSpec : ChangeSpec := { name := "planeCompares", fn := fun _ => fun
  | [d1, d2] => { results := [.lit (.bool true)], args := [d1, d2] }
  | _ => none }
def planeComparesRow : OpenClaim := { program := "ytileciohbhoehaa", sum := "eb5b3589e60509121e981cdef196a018e692ac78214b946335485ab6c229ec11", func := "halide/halidelaw5.PlaneCompares", spec := "planeCompares", unfollowed := true, recurses := true, apart := false }
def PlaneComparesSaid : Prop := planeComparesRow.holds Try.pinned (OpenSpec.ofChange planeComparesSpec)

/-- ITS FALSE NEIGHBOUR: 'it returns false'. Refute it at one input. -/
def planeComparesWrong : ChangeSpec := { name := "planeCompares", fn := fun _ => fun
  | [d1, d2] => { results := [.lit (.bool false)], args := [d1, d2] }
  | _ => none }
def PlaneComparesWrongFalsely : Prop := planeComparesRow.holds Try.pinned (OpenSpec.ofChange planeComparesWrong)

/-- 'halidelaw5.PlaneWhere': WHATEVER THE INPUT: true; the input reads as it did. -/
def planeWhereSpec : ChangeSpec := { name := "planeWhere", fn := fun _ => fun
  | [d1, d2] => { results := [.lit (.bool true)], args := [d1, d2] }
  | _ => none }
def planeWhereRow : OpenClaim := { program := "ytileciohbhoehaa", sum := "eb5b3589e60509121e981cdef196a018e692ac78214b946335485ab6c229ec11", func := "halide/halidelaw5.PlaneWhere", spec := "planeWhere", unfollowed := true, recurses := true, apart := false }
def PlaneWhereSaid : Prop := planeWhereRow.holds Try.pinned (OpenSpec.ofChange planeWhereSpec)

/-- ITS FALSE NEIGHBOUR: 'it returns false'. Refute it at one input. -/
def planeWhereWrong : ChangeSpec := { name := "planeWhere", fn := fun _ => fun
  | [d1, d2] => { results := [.lit (.bool false)], args := [d1, d2] }
  | _ => none }
def PlaneWhereWrongFalsely : Prop := planeWhereRow.holds Try.pinned (OpenSpec.ofChange planeWhereWrong)

/- THE SECOND FORM. 'bulk': how many values and letters a reading holds, each counted each time it is reached (what is shared counts as often as it is met; a slice's spare places count too). A statement '..UptoSaid' is the law's where the arguments, and the package variables that the reading takes, are together of bulk at most 1048576: NARROWER than '..Said'. Prove '..Said' where nothing that the law and all that it calls make is longer than what came in: it says more and counts as full. Else prove '..UptoSaid'. A law counts once. -/
mutual
def uptoBulk {H : Type} : DataW H → Nat
  | .lit (.string bytes) => bytes.length + 1
  | .lit _ => 1
  | .nil => 1
  | .ptr d => uptoBulk d + 1
  | .slice elems spare => uptoBulkAll elems + uptoBulkAll spare + 1
  | .agg parts => uptoBulkAll parts + 1
  | .iface _ d => uptoBulk d + 1
  | .map entries => uptoBulkEntries entries + 1
  | .held _ => 1
def uptoBulkAll {H : Type} : List (DataW H) → Nat
  | [] => 0
  | d :: r => uptoBulk d + uptoBulkAll r
def uptoBulkEntries {H : Type} : List (Lit × DataW H) → Nat
  | [] => 0
  | x :: r => uptoBulkEntry x + uptoBulkEntries r
def uptoBulkEntry {H : Type} : Lit × DataW H → Nat
  | (.string bytes, d) => bytes.length + uptoBulk d + 1
  | (_, d) => uptoBulk d + 1
 end
def uptoSmall : (H : Type) → List (DataW H) → Bool := fun _ ds => decide (uptoBulkAll ds ≤ 1048576)
def OpenSpec.upto (s : _root_.Go.ChangeSpec) : _root_.Go.OpenSpec := { _root_.Go.OpenSpec.ofChange s with cond := some uptoSmall }

/-- 'halidelaw5.PlaneNames', WHERE WHAT IT READS IS OF BULK AT MOST 1048576: true; the input reads as it did. -/
def planeNamesUptoRow : OpenClaim := { program := "ytileciohbhoehaa", sum := "eb5b3589e60509121e981cdef196a018e692ac78214b946335485ab6c229ec11", func := "halide/halidelaw5.PlaneNames", spec := "planeNames", apart := false, narrowed := true }
def PlaneNamesUptoSaid : Prop := planeNamesUptoRow.holds Try.pinned (OpenSpec.upto planeNamesSpec)

/-- 'halidelaw5.PlaneBorders', WHERE WHAT IT READS IS OF BULK AT MOST 1048576: true; the input reads as it did. -/
def planeBordersUptoRow : OpenClaim := { program := "ytileciohbhoehaa", sum := "eb5b3589e60509121e981cdef196a018e692ac78214b946335485ab6c229ec11", func := "halide/halidelaw5.PlaneBorders", spec := "planeBorders", unfollowed := true, recurses := true, apart := false, narrowed := true }
def PlaneBordersUptoSaid : Prop := planeBordersUptoRow.holds Try.pinned (OpenSpec.upto planeBordersSpec)

/-- 'halidelaw5.PlaneExtends', WHERE WHAT IT READS IS OF BULK AT MOST 1048576: true; the input reads as it did. -/
def planeExtendsUptoRow : OpenClaim := { program := "ytileciohbhoehaa", sum := "eb5b3589e60509121e981cdef196a018e692ac78214b946335485ab6c229ec11", func := "halide/halidelaw5.PlaneExtends", spec := "planeExtends", unfollowed := true, recurses := true, apart := false, narrowed := true }
def PlaneExtendsUptoSaid : Prop := planeExtendsUptoRow.holds Try.pinned (OpenSpec.upto planeExtendsSpec)

/-- 'halidelaw5.PlanePieces', WHERE WHAT IT READS IS OF BULK AT MOST 1048576: true; the input reads as it did. -/
def planePiecesUptoRow : OpenClaim := { program := "ytileciohbhoehaa", sum := "eb5b3589e60509121e981cdef196a018e692ac78214b946335485ab6c229ec11", func := "halide/halidelaw5.PlanePieces", spec := "planePieces", unfollowed := true, recurses := true, apart := false, narrowed := true }
def PlanePiecesUptoSaid : Prop := planePiecesUptoRow.holds Try.pinned (OpenSpec.upto planePiecesSpec)

/-- 'halidelaw5.PlaneEdges', WHERE WHAT IT READS IS OF BULK AT MOST 1048576: true; the input reads as it did. -/
def planeEdgesUptoRow : OpenClaim := { program := "ytileciohbhoehaa", sum := "eb5b3589e60509121e981cdef196a018e692ac78214b946335485ab6c229ec11", func := "halide/halidelaw5.PlaneEdges", spec := "planeEdges", unfollowed := true, recurses := true, apart := false, narrowed := true }
def PlaneEdgesUptoSaid : Prop := planeEdgesUptoRow.holds Try.pinned (OpenSpec.upto planeEdgesSpec)

/-- 'halidelaw5.PlaneMoves', WHERE WHAT IT READS IS OF BULK AT MOST 1048576: true; the input reads as it did. -/
def planeMovesUptoRow : OpenClaim := { program := "ytileciohbhoehaa", sum := "eb5b3589e60509121e981cdef196a018e692ac78214b946335485ab6c229ec11", func := "halide/halidelaw5.PlaneMoves", spec := "planeMoves", unfollowed := true, recurses := true, apart := false, narrowed := true }
def PlaneMovesUptoSaid : Prop := planeMovesUptoRow.holds Try.pinned (OpenSpec.upto planeMovesSpec)

/-- 'halidelaw5.PlaneTurns', WHERE WHAT IT READS IS OF BULK AT MOST 1048576: true; the input reads as it did. -/
def planeTurnsUptoRow : OpenClaim := { program := "ytileciohbhoehaa", sum := "eb5b3589e60509121e981cdef196a018e692ac78214b946335485ab6c229ec11", func := "halide/halidelaw5.PlaneTurns", spec := "planeTurns", unfollowed := true, recurses := true, apart := false, narrowed := true }
def PlaneTurnsUptoSaid : Prop := planeTurnsUptoRow.holds Try.pinned (OpenSpec.upto planeTurnsSpec)

/-- 'halidelaw5.PlaneMakes', WHERE WHAT IT READS IS OF BULK AT MOST 1048576: true; the input reads as it did. -/
def planeMakesUptoRow : OpenClaim := { program := "ytileciohbhoehaa", sum := "eb5b3589e60509121e981cdef196a018e692ac78214b946335485ab6c229ec11", func := "halide/halidelaw5.PlaneMakes", spec := "planeMakes", unfollowed := true, recurses := true, apart := false, narrowed := true }
def PlaneMakesUptoSaid : Prop := planeMakesUptoRow.holds Try.pinned (OpenSpec.upto planeMakesSpec)

/-- 'halidelaw5.PlaneCompares', WHERE WHAT IT READS IS OF BULK AT MOST 1048576: true; the input reads as it did. -/
def planeComparesUptoRow : OpenClaim := { program := "ytileciohbhoehaa", sum := "eb5b3589e60509121e981cdef196a018e692ac78214b946335485ab6c229ec11", func := "halide/halidelaw5.PlaneCompares", spec := "planeCompares", unfollowed := true, recurses := true, apart := false, narrowed := true }
def PlaneComparesUptoSaid : Prop := planeComparesUptoRow.holds Try.pinned (OpenSpec.upto planeComparesSpec)

/-- 'halidelaw5.PlaneWhere', WHERE WHAT IT READS IS OF BULK AT MOST 1048576: true; the input reads as it did. -/
def planeWhereUptoRow : OpenClaim := { program := "ytileciohbhoehaa", sum := "eb5b3589e60509121e981cdef196a018e692ac78214b946335485ab6c229ec11", func := "halide/halidelaw5.PlaneWhere", spec := "planeWhere", unfollowed := true, recurses := true, apart := false, narrowed := true }
def PlaneWhereUptoSaid : Prop := planeWhereUptoRow.holds Try.pinned (OpenSpec.upto planeWhereSpec)

end Rows
end Go.Proofs.Ytileciohbhoehaa
