/-
  No cell of these rows narrows 'for every input' (looked for: loops, veiled, ifaces, maps, wideKeys, modest, calm, conditions, laid).
  DERIVED. THE GIVEN ROWS OF THIS SEAT. 7 by the template 'for every input the law returns true; each argument reads behind the call as it read before'; 0 by the template 'total and deterministic' (their statements: YtnpmfinjommjkaaTotals.lean).
  GIVEN WITH THE SEED: the statements are not yours to turn. If you find one false, say at which input.
  Laid BY PROGRAM, IN A SANDBOX (cutbox-rows.mjs): the forced cells as the released guide's own fill.sh prints them over the translation 490b5aa4c99a3198… (all of the seat's roots in one cut). By AI agents, Wed Nov 11 2026. No macro, syntax, notation, axiom, sorry.
-/
import Derived.Test.YtnpmfinjommjkaaChecked
import GoSem.Claim
import GoSem.ClaimJoined
import GoSem.ClaimMapViews
import Derived.JoinedTies
import Derived.KernelRfl
namespace Go.Proofs.Ytnpmfinjommjkaa
/- THE CELL 'sum', in the pinned program and in every row, IS THE sha256 OF THE DUMP (.gsa) THAT YtnpmfinjommjkaaProg.lean LOADS. Nothing in Lean hashes anything: it is a label: what it is worth is what the hold of that sum in a sandbox is worth. -/
noncomputable def Try.pinned : Pinned := { name := "ytnpmfinjommjkaa", sum := "490b5aa4c99a31983c0e2fb6a387bea2d0c069a8fbc08178069726e7a25df051", checked := Try.checked }
namespace Rows
def none {H : Type} : Left H := { results := [], args := [] }

/-- 'halidelaw1.BitsNames': WHATEVER THE INPUT: true; the input reads as it did. -/
def bitsNamesSpec : ChangeSpec := { name := "bitsNames", fn := fun _ => fun
  | [] => { results := [.lit (.bool true)], args := [] }
  | _ => none }
def bitsNamesRow : OpenClaim := { program := "ytnpmfinjommjkaa", sum := "490b5aa4c99a31983c0e2fb6a387bea2d0c069a8fbc08178069726e7a25df051", func := "halide/halidelaw1.BitsNames", spec := "bitsNames", apart := false }
def BitsNamesSaid : Prop := bitsNamesRow.holds Try.pinned (OpenSpec.ofChange bitsNamesSpec)

/-- ITS FALSE NEIGHBOUR: 'it returns false'. Refute it at one input. -/
def bitsNamesWrong : ChangeSpec := { name := "bitsNames", fn := fun _ => fun
  | [] => { results := [.lit (.bool false)], args := [] }
  | _ => none }
def BitsNamesWrongFalsely : Prop := bitsNamesRow.holds Try.pinned (OpenSpec.ofChange bitsNamesWrong)

/-- 'halidelaw1.BitsClasses': WHATEVER THE INPUT: true; the input reads as it did. -/
def bitsClassesSpec : ChangeSpec := { name := "bitsClasses", fn := fun _ => fun
  | [d1, d2, d3] => { results := [.lit (.bool true)], args := [d1, d2, d3] }
  | _ => none }
def bitsClassesRow : OpenClaim := { program := "ytnpmfinjommjkaa", sum := "490b5aa4c99a31983c0e2fb6a387bea2d0c069a8fbc08178069726e7a25df051", func := "halide/halidelaw1.BitsClasses", spec := "bitsClasses", apart := false }
def BitsClassesSaid : Prop := bitsClassesRow.holds Try.pinned (OpenSpec.ofChange bitsClassesSpec)

/-- ITS FALSE NEIGHBOUR: 'it returns false'. Refute it at one input. -/
def bitsClassesWrong : ChangeSpec := { name := "bitsClasses", fn := fun _ => fun
  | [d1, d2, d3] => { results := [.lit (.bool false)], args := [d1, d2, d3] }
  | _ => none }
def BitsClassesWrongFalsely : Prop := bitsClassesRow.holds Try.pinned (OpenSpec.ofChange bitsClassesWrong)

/-- 'halidelaw1.BitsKeys': WHATEVER THE INPUT: true; the input reads as it did. -/
def bitsKeysSpec : ChangeSpec := { name := "bitsKeys", fn := fun _ => fun
  | [d1, d2] => { results := [.lit (.bool true)], args := [d1, d2] }
  | _ => none }
def bitsKeysRow : OpenClaim := { program := "ytnpmfinjommjkaa", sum := "490b5aa4c99a31983c0e2fb6a387bea2d0c069a8fbc08178069726e7a25df051", func := "halide/halidelaw1.BitsKeys", spec := "bitsKeys", apart := false }
def BitsKeysSaid : Prop := bitsKeysRow.holds Try.pinned (OpenSpec.ofChange bitsKeysSpec)

/-- ITS FALSE NEIGHBOUR: 'it returns false'. Refute it at one input. -/
def bitsKeysWrong : ChangeSpec := { name := "bitsKeys", fn := fun _ => fun
  | [d1, d2] => { results := [.lit (.bool false)], args := [d1, d2] }
  | _ => none }
def BitsKeysWrongFalsely : Prop := bitsKeysRow.holds Try.pinned (OpenSpec.ofChange bitsKeysWrong)

/-- 'halidelaw1.BitsOrder': WHATEVER THE INPUT: true; the input reads as it did. -/
def bitsOrderSpec : ChangeSpec := { name := "bitsOrder", fn := fun _ => fun
  | [d1, d2] => { results := [.lit (.bool true)], args := [d1, d2] }
  | _ => none }
def bitsOrderRow : OpenClaim := { program := "ytnpmfinjommjkaa", sum := "490b5aa4c99a31983c0e2fb6a387bea2d0c069a8fbc08178069726e7a25df051", func := "halide/halidelaw1.BitsOrder", spec := "bitsOrder", inPlace := ["math.Float32frombits"], apart := false }
def BitsOrderSaid : Prop := bitsOrderRow.holds Try.pinned (OpenSpec.ofChange bitsOrderSpec)

/-- ITS FALSE NEIGHBOUR: 'it returns false'. Refute it at one input. -/
def bitsOrderWrong : ChangeSpec := { name := "bitsOrder", fn := fun _ => fun
  | [d1, d2] => { results := [.lit (.bool false)], args := [d1, d2] }
  | _ => none }
def BitsOrderWrongFalsely : Prop := bitsOrderRow.holds Try.pinned (OpenSpec.ofChange bitsOrderWrong)

/-- 'halidelaw1.BitsChosen': WHATEVER THE INPUT: true; the input reads as it did. -/
def bitsChosenSpec : ChangeSpec := { name := "bitsChosen", fn := fun _ => fun
  | [d1, d2, d3] => { results := [.lit (.bool true)], args := [d1, d2, d3] }
  | _ => none }
def bitsChosenRow : OpenClaim := { program := "ytnpmfinjommjkaa", sum := "490b5aa4c99a31983c0e2fb6a387bea2d0c069a8fbc08178069726e7a25df051", func := "halide/halidelaw1.BitsChosen", spec := "bitsChosen", apart := false }
def BitsChosenSaid : Prop := bitsChosenRow.holds Try.pinned (OpenSpec.ofChange bitsChosenSpec)

/-- ITS FALSE NEIGHBOUR: 'it returns false'. Refute it at one input. -/
def bitsChosenWrong : ChangeSpec := { name := "bitsChosen", fn := fun _ => fun
  | [d1, d2, d3] => { results := [.lit (.bool false)], args := [d1, d2, d3] }
  | _ => none }
def BitsChosenWrongFalsely : Prop := bitsChosenRow.holds Try.pinned (OpenSpec.ofChange bitsChosenWrong)

/-- 'halidelaw1.BitsMiddle': WHATEVER THE INPUT: true; the input reads as it did. -/
def bitsMiddleSpec : ChangeSpec := { name := "bitsMiddle", fn := fun _ => fun
  | [d1, d2, d3] => { results := [.lit (.bool true)], args := [d1, d2, d3] }
  | _ => none }
def bitsMiddleRow : OpenClaim := { program := "ytnpmfinjommjkaa", sum := "490b5aa4c99a31983c0e2fb6a387bea2d0c069a8fbc08178069726e7a25df051", func := "halide/halidelaw1.BitsMiddle", spec := "bitsMiddle", apart := false }
def BitsMiddleSaid : Prop := bitsMiddleRow.holds Try.pinned (OpenSpec.ofChange bitsMiddleSpec)

/-- ITS FALSE NEIGHBOUR: 'it returns false'. Refute it at one input. -/
def bitsMiddleWrong : ChangeSpec := { name := "bitsMiddle", fn := fun _ => fun
  | [d1, d2, d3] => { results := [.lit (.bool false)], args := [d1, d2, d3] }
  | _ => none }
def BitsMiddleWrongFalsely : Prop := bitsMiddleRow.holds Try.pinned (OpenSpec.ofChange bitsMiddleWrong)

/-- 'halidelaw1.BitsValues': WHATEVER THE INPUT: true; the input reads as it did. -/
def bitsValuesSpec : ChangeSpec := { name := "bitsValues", fn := fun _ => fun
  | [d1, d2, d3] => { results := [.lit (.bool true)], args := [d1, d2, d3] }
  | _ => none }
def bitsValuesRow : OpenClaim := { program := "ytnpmfinjommjkaa", sum := "490b5aa4c99a31983c0e2fb6a387bea2d0c069a8fbc08178069726e7a25df051", func := "halide/halidelaw1.BitsValues", spec := "bitsValues", inPlace := ["math.Float32frombits", "math.Float64bits", "math.Float64frombits"], apart := false }
def BitsValuesSaid : Prop := bitsValuesRow.holds Try.pinned (OpenSpec.ofChange bitsValuesSpec)

/-- ITS FALSE NEIGHBOUR: 'it returns false'. Refute it at one input. -/
def bitsValuesWrong : ChangeSpec := { name := "bitsValues", fn := fun _ => fun
  | [d1, d2, d3] => { results := [.lit (.bool false)], args := [d1, d2, d3] }
  | _ => none }
def BitsValuesWrongFalsely : Prop := bitsValuesRow.holds Try.pinned (OpenSpec.ofChange bitsValuesWrong)

/- THE SECOND FORM. 'bulk': how many values and letters a reading holds, each counted each time it is reached (what is shared counts as often as it is met; a slice's spare places count too). A statement '..UptoSaid' is the law's where the arguments, and the package variables that the reading takes, are together of bulk at most 1048576: NARROWER than '..Said'. Prove '..Said' where nothing that the law and all that it calls make is longer than what came in: it says more and counts as full. Else prove '..UptoSaid'. A law counts once. -/
mutual
def uptoBulk {H : Type} : DataW H → Nat
  | .lit (.string bytes) => bytes.length + 1
  | .lit _ => 1
  | .nil => 1
  | .ptr d => uptoBulk d + 1
  | .slice elems spare => uptoBulkAll elems + uptoBulkAll spare + 1
  | .agg parts => uptoBulkAll parts + 1
  | .iface _ d => uptoBulk d + 1
  | .map entries => uptoBulkEntries entries + 1
  | .held _ => 1
def uptoBulkAll {H : Type} : List (DataW H) → Nat
  | [] => 0
  | d :: r => uptoBulk d + uptoBulkAll r
def uptoBulkEntries {H : Type} : List (Lit × DataW H) → Nat
  | [] => 0
  | x :: r => uptoBulkEntry x + uptoBulkEntries r
def uptoBulkEntry {H : Type} : Lit × DataW H → Nat
  | (.string bytes, d) => bytes.length + uptoBulk d + 1
  | (_, d) => uptoBulk d + 1
 end
def uptoSmall : (H : Type) → List (DataW H) → Bool := fun _ ds => decide (uptoBulkAll ds ≤ 1048576)
def OpenSpec.upto (s : _root_.Go.ChangeSpec) : _root_.Go.OpenSpec := { _root_.Go.OpenSpec.ofChange s with cond := some uptoSmall }

/-- 'halidelaw1.BitsNames', WHERE WHAT IT READS IS OF BULK AT MOST 1048576: true; the input reads as it did. -/
def bitsNamesUptoRow : OpenClaim := { program := "ytnpmfinjommjkaa", sum := "490b5aa4c99a31983c0e2fb6a387bea2d0c069a8fbc08178069726e7a25df051", func := "halide/halidelaw1.BitsNames", spec := "bitsNames", apart := false, narrowed := true }
def BitsNamesUptoSaid : Prop := bitsNamesUptoRow.holds Try.pinned (OpenSpec.upto bitsNamesSpec)

/-- 'halidelaw1.BitsClasses', WHERE WHAT IT READS IS OF BULK AT MOST 1048576: true; the input reads as it did. -/
def bitsClassesUptoRow : OpenClaim := { program := "ytnpmfinjommjkaa", sum := "490b5aa4c99a31983c0e2fb6a387bea2d0c069a8fbc08178069726e7a25df051", func := "halide/halidelaw1.BitsClasses", spec := "bitsClasses", apart := false, narrowed := true }
def BitsClassesUptoSaid : Prop := bitsClassesUptoRow.holds Try.pinned (OpenSpec.upto bitsClassesSpec)

/-- 'halidelaw1.BitsKeys', WHERE WHAT IT READS IS OF BULK AT MOST 1048576: true; the input reads as it did. -/
def bitsKeysUptoRow : OpenClaim := { program := "ytnpmfinjommjkaa", sum := "490b5aa4c99a31983c0e2fb6a387bea2d0c069a8fbc08178069726e7a25df051", func := "halide/halidelaw1.BitsKeys", spec := "bitsKeys", apart := false, narrowed := true }
def BitsKeysUptoSaid : Prop := bitsKeysUptoRow.holds Try.pinned (OpenSpec.upto bitsKeysSpec)

/-- 'halidelaw1.BitsOrder', WHERE WHAT IT READS IS OF BULK AT MOST 1048576: true; the input reads as it did. -/
def bitsOrderUptoRow : OpenClaim := { program := "ytnpmfinjommjkaa", sum := "490b5aa4c99a31983c0e2fb6a387bea2d0c069a8fbc08178069726e7a25df051", func := "halide/halidelaw1.BitsOrder", spec := "bitsOrder", inPlace := ["math.Float32frombits"], apart := false, narrowed := true }
def BitsOrderUptoSaid : Prop := bitsOrderUptoRow.holds Try.pinned (OpenSpec.upto bitsOrderSpec)

/-- 'halidelaw1.BitsChosen', WHERE WHAT IT READS IS OF BULK AT MOST 1048576: true; the input reads as it did. -/
def bitsChosenUptoRow : OpenClaim := { program := "ytnpmfinjommjkaa", sum := "490b5aa4c99a31983c0e2fb6a387bea2d0c069a8fbc08178069726e7a25df051", func := "halide/halidelaw1.BitsChosen", spec := "bitsChosen", apart := false, narrowed := true }
def BitsChosenUptoSaid : Prop := bitsChosenUptoRow.holds Try.pinned (OpenSpec.upto bitsChosenSpec)

/-- 'halidelaw1.BitsMiddle', WHERE WHAT IT READS IS OF BULK AT MOST 1048576: true; the input reads as it did. -/
def bitsMiddleUptoRow : OpenClaim := { program := "ytnpmfinjommjkaa", sum := "490b5aa4c99a31983c0e2fb6a387bea2d0c069a8fbc08178069726e7a25df051", func := "halide/halidelaw1.BitsMiddle", spec := "bitsMiddle", apart := false, narrowed := true }
def BitsMiddleUptoSaid : Prop := bitsMiddleUptoRow.holds Try.pinned (OpenSpec.upto bitsMiddleSpec)

/-- 'halidelaw1.BitsValues', WHERE WHAT IT READS IS OF BULK AT MOST 1048576: true; the input reads as it did. -/
def bitsValuesUptoRow : OpenClaim := { program := "ytnpmfinjommjkaa", sum := "490b5aa4c99a31983c0e2fb6a387bea2d0c069a8fbc08178069726e7a25df051", func := "halide/halidelaw1.BitsValues", spec := "bitsValues", inPlace := ["math.Float32frombits", "math.Float64bits", "math.Float64frombits"], apart := false, narrowed := true }
def BitsValuesUptoSaid : Prop := bitsValuesUptoRow.holds Try.pinned (OpenSpec.upto bitsValuesSpec)

end Rows
end Go.Proofs.Ytnpmfinjommjkaa
