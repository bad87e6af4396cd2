/-
  No cell of these rows narrows 'for every input' (looked for: loops, veiled, ifaces, maps, wideKeys, modest, calm, conditions, laid).
  DERIVED. THE GIVEN ROWS OF THIS SEAT. 9 by the template 'for every input the law returns true; each argument reads behind the call as it read before'; 0 by the template 'total and deterministic' (their statements: YtjbpdhofhhinhaaTotals.lean).
  GIVEN WITH THE SEED: the statements are not yours to turn. If you find one false, say at which input.
  Laid BY PROGRAM, IN A SANDBOX (cutbox-rows.mjs): the forced cells as the released guide's own fill.sh prints them over the translation 54842d77629517de… (all of the seat's roots in one cut). By AI agents, Wed Nov 11 2026. No macro, syntax, notation, axiom, sorry.
-/
import Derived.Test.YtjbpdhofhhinhaaChecked
import GoSem.Claim
import GoSem.ClaimJoined
import GoSem.ClaimMapViews
import Derived.JoinedTies
import Derived.KernelRfl
namespace Go.Proofs.Ytjbpdhofhhinhaa
/- THE CELL 'sum', in the pinned program and in every row, IS THE sha256 OF THE DUMP (.gsa) THAT YtjbpdhofhhinhaaProg.lean LOADS. Nothing in Lean hashes anything: it is a label: what it is worth is what the hold of that sum in a sandbox is worth. -/
noncomputable def Try.pinned : Pinned := { name := "ytjbpdhofhhinhaa", sum := "54842d77629517de7f2e70001f370869c536073c2504294d0185e1c40fcb7e40", checked := Try.checked }
namespace Rows
def none {H : Type} : Left H := { results := [], args := [] }

/-- 'halidelaw11.BlurNames': WHATEVER THE INPUT: true; the input reads as it did. -/
def blurNamesSpec : ChangeSpec := { name := "blurNames", fn := fun _ => fun
  | [] => { results := [.lit (.bool true)], args := [] }
  | _ => none }
def blurNamesRow : OpenClaim := { program := "ytjbpdhofhhinhaa", sum := "54842d77629517de7f2e70001f370869c536073c2504294d0185e1c40fcb7e40", func := "halide/halidelaw11.BlurNames", spec := "blurNames", apart := false }
def BlurNamesSaid : Prop := blurNamesRow.holds Try.pinned (OpenSpec.ofChange blurNamesSpec)

/-- ITS FALSE NEIGHBOUR: 'it returns false'. Refute it at one input. -/
def blurNamesWrong : ChangeSpec := { name := "blurNames", fn := fun _ => fun
  | [] => { results := [.lit (.bool false)], args := [] }
  | _ => none }
def BlurNamesWrongFalsely : Prop := blurNamesRow.holds Try.pinned (OpenSpec.ofChange blurNamesWrong)

/-- 'halidelaw11.BlurWeighs': WHATEVER THE INPUT: true; the input reads as it did. -/
def blurWeighsSpec : ChangeSpec := { name := "blurWeighs", fn := fun _ => fun
  | [d1, d2] => { results := [.lit (.bool true)], args := [d1, d2] }
  | _ => none }
def blurWeighsRow : OpenClaim := { program := "ytjbpdhofhhinhaa", sum := "54842d77629517de7f2e70001f370869c536073c2504294d0185e1c40fcb7e40", func := "halide/halidelaw11.BlurWeighs", spec := "blurWeighs", inPlace := ["math.Float32frombits", "math.Float32bits"], unfollowed := true, recurses := true, apart := false }
def BlurWeighsSaid : Prop := blurWeighsRow.holds Try.pinned (OpenSpec.ofChange blurWeighsSpec)

/-- ITS FALSE NEIGHBOUR: 'it returns false'. Refute it at one input. -/
def blurWeighsWrong : ChangeSpec := { name := "blurWeighs", fn := fun _ => fun
  | [d1, d2] => { results := [.lit (.bool false)], args := [d1, d2] }
  | _ => none }
def BlurWeighsWrongFalsely : Prop := blurWeighsRow.holds Try.pinned (OpenSpec.ofChange blurWeighsWrong)

/-- 'halidelaw11.BlurBlurs': WHATEVER THE INPUT: true; the input reads as it did. -/
def blurBlursSpec : ChangeSpec := { name := "blurBlurs", fn := fun _ => fun
  | [d1, d2, d3, d4] => { results := [.lit (.bool true)], args := [d1, d2, d3, d4] }
  | _ => none }
def blurBlursRow : OpenClaim := { program := "ytjbpdhofhhinhaa", sum := "54842d77629517de7f2e70001f370869c536073c2504294d0185e1c40fcb7e40", func := "halide/halidelaw11.BlurBlurs", spec := "blurBlurs", inPlace := ["math.Float32frombits", "math.Float32bits"], unfollowed := true, recurses := true, apart := false }
def BlurBlursSaid : Prop := blurBlursRow.holds Try.pinned (OpenSpec.ofChange blurBlursSpec)

/-- ITS FALSE NEIGHBOUR: 'it returns false'. Refute it at one input. -/
def blurBlursWrong : ChangeSpec := { name := "blurBlurs", fn := fun _ => fun
  | [d1, d2, d3, d4] => { results := [.lit (.bool false)], args := [d1, d2, d3, d4] }
  | _ => none }
def BlurBlursWrongFalsely : Prop := blurBlursRow.holds Try.pinned (OpenSpec.ofChange blurBlursWrong)

/-- 'halidelaw11.BlurSlopes': WHATEVER THE INPUT: true; the input reads as it did. -/
def blurSlopesSpec : ChangeSpec := { name := "blurSlopes", fn := fun _ => fun
  | [d1, d2] => { results := [.lit (.bool true)], args := [d1, d2] }
  | _ => none }
def blurSlopesRow : OpenClaim := { program := "ytjbpdhofhhinhaa", sum := "54842d77629517de7f2e70001f370869c536073c2504294d0185e1c40fcb7e40", func := "halide/halidelaw11.BlurSlopes", spec := "blurSlopes", inPlace := ["math.Float32frombits", "math.Float32bits"], unfollowed := true, recurses := true, apart := false }
def BlurSlopesSaid : Prop := blurSlopesRow.holds Try.pinned (OpenSpec.ofChange blurSlopesSpec)

/-- ITS FALSE NEIGHBOUR: 'it returns false'. Refute it at one input. -/
def blurSlopesWrong : ChangeSpec := { name := "blurSlopes", fn := fun _ => fun
  | [d1, d2] => { results := [.lit (.bool false)], args := [d1, d2] }
  | _ => none }
def BlurSlopesWrongFalsely : Prop := blurSlopesRow.holds Try.pinned (OpenSpec.ofChange blurSlopesWrong)

/-- 'halidelaw11.BlurRises': WHATEVER THE INPUT: true; the input reads as it did. -/
def blurRisesSpec : ChangeSpec := { name := "blurRises", fn := fun _ => fun
  | [d1, d2, d3, d4, d5] => { results := [.lit (.bool true)], args := [d1, d2, d3, d4, d5] }
  | _ => none }
def blurRisesRow : OpenClaim := { program := "ytjbpdhofhhinhaa", sum := "54842d77629517de7f2e70001f370869c536073c2504294d0185e1c40fcb7e40", func := "halide/halidelaw11.BlurRises", spec := "blurRises", inPlace := ["math.Float32frombits", "math.Float32bits"], unfollowed := true, recurses := true, apart := false }
def BlurRisesSaid : Prop := blurRisesRow.holds Try.pinned (OpenSpec.ofChange blurRisesSpec)

/-- ITS FALSE NEIGHBOUR: 'it returns false'. Refute it at one input. -/
def blurRisesWrong : ChangeSpec := { name := "blurRises", fn := fun _ => fun
  | [d1, d2, d3, d4, d5] => { results := [.lit (.bool false)], args := [d1, d2, d3, d4, d5] }
  | _ => none }
def BlurRisesWrongFalsely : Prop := blurRisesRow.holds Try.pinned (OpenSpec.ofChange blurRisesWrong)

/-- 'halidelaw11.BlurNothing': WHATEVER THE INPUT: true; the input reads as it did. -/
def blurNothingSpec : ChangeSpec := { name := "blurNothing", fn := fun _ => fun
  | [d1, d2, d3, d4, d5] => { results := [.lit (.bool true)], args := [d1, d2, d3, d4, d5] }
  | _ => none }
def blurNothingRow : OpenClaim := { program := "ytjbpdhofhhinhaa", sum := "54842d77629517de7f2e70001f370869c536073c2504294d0185e1c40fcb7e40", func := "halide/halidelaw11.BlurNothing", spec := "blurNothing", inPlace := ["math.Float32frombits", "math.Float32bits"], unfollowed := true, recurses := true, apart := false }
def BlurNothingSaid : Prop := blurNothingRow.holds Try.pinned (OpenSpec.ofChange blurNothingSpec)

/-- ITS FALSE NEIGHBOUR: 'it returns false'. Refute it at one input. -/
def blurNothingWrong : ChangeSpec := { name := "blurNothing", fn := fun _ => fun
  | [d1, d2, d3, d4, d5] => { results := [.lit (.bool false)], args := [d1, d2, d3, d4, d5] }
  | _ => none }
def BlurNothingWrongFalsely : Prop := blurNothingRow.holds Try.pinned (OpenSpec.ofChange blurNothingWrong)

/-- 'halidelaw11.BlurSharpens': WHATEVER THE INPUT: true; the input reads as it did. -/
def blurSharpensSpec : ChangeSpec := { name := "blurSharpens", fn := fun _ => fun
  | [d1, d2, d3, d4, d5] => { results := [.lit (.bool true)], args := [d1, d2, d3, d4, d5] }
  | _ => none }
def blurSharpensRow : OpenClaim := { program := "ytjbpdhofhhinhaa", sum := "54842d77629517de7f2e70001f370869c536073c2504294d0185e1c40fcb7e40", func := "halide/halidelaw11.BlurSharpens", spec := "blurSharpens", inPlace := ["math.Float32frombits", "math.Float32bits"], unfollowed := true, recurses := true, apart := false }
def BlurSharpensSaid : Prop := blurSharpensRow.holds Try.pinned (OpenSpec.ofChange blurSharpensSpec)

/-- ITS FALSE NEIGHBOUR: 'it returns false'. Refute it at one input. -/
def blurSharpensWrong : ChangeSpec := { name := "blurSharpens", fn := fun _ => fun
  | [d1, d2, d3, d4, d5] => { results := [.lit (.bool false)], args := [d1, d2, d3, d4, d5] }
  | _ => none }
def BlurSharpensWrongFalsely : Prop := blurSharpensRow.holds Try.pinned (OpenSpec.ofChange blurSharpensWrong)

/-- 'halidelaw11.BlurConstant': WHATEVER THE INPUT: true; the input reads as it did. -/
def blurConstantSpec : ChangeSpec := { name := "blurConstant", fn := fun _ => fun
  | [d1, d2, d3, d4, d5, d6] => { results := [.lit (.bool true)], args := [d1, d2, d3, d4, d5, d6] }
  | _ => none }
def blurConstantRow : OpenClaim := { program := "ytjbpdhofhhinhaa", sum := "54842d77629517de7f2e70001f370869c536073c2504294d0185e1c40fcb7e40", func := "halide/halidelaw11.BlurConstant", spec := "blurConstant", inPlace := ["math.Float32frombits", "math.Float32bits"], unfollowed := true, recurses := true, apart := false }
def BlurConstantSaid : Prop := blurConstantRow.holds Try.pinned (OpenSpec.ofChange blurConstantSpec)

/-- ITS FALSE NEIGHBOUR: 'it returns false'. Refute it at one input. -/
def blurConstantWrong : ChangeSpec := { name := "blurConstant", fn := fun _ => fun
  | [d1, d2, d3, d4, d5, d6] => { results := [.lit (.bool false)], args := [d1, d2, d3, d4, d5, d6] }
  | _ => none }
def BlurConstantWrongFalsely : Prop := blurConstantRow.holds Try.pinned (OpenSpec.ofChange blurConstantWrong)

/-- 'halidelaw11.BlurNeeds': WHATEVER THE INPUT: true; the input reads as it did. -/
def blurNeedsSpec : ChangeSpec := { name := "blurNeeds", fn := fun _ => fun
  | [d1, d2, d3, d4, d5, d6, d7] => { results := [.lit (.bool true)], args := [d1, d2, d3, d4, d5, d6, d7] }
  | _ => none }
def blurNeedsRow : OpenClaim := { program := "ytjbpdhofhhinhaa", sum := "54842d77629517de7f2e70001f370869c536073c2504294d0185e1c40fcb7e40", func := "halide/halidelaw11.BlurNeeds", spec := "blurNeeds", inPlace := ["math.Float32frombits", "math.Float32bits"], unfollowed := true, recurses := true, apart := false }
def BlurNeedsSaid : Prop := blurNeedsRow.holds Try.pinned (OpenSpec.ofChange blurNeedsSpec)

/-- ITS FALSE NEIGHBOUR: 'it returns false'. Refute it at one input. -/
def blurNeedsWrong : ChangeSpec := { name := "blurNeeds", fn := fun _ => fun
  | [d1, d2, d3, d4, d5, d6, d7] => { results := [.lit (.bool false)], args := [d1, d2, d3, d4, d5, d6, d7] }
  | _ => none }
def BlurNeedsWrongFalsely : Prop := blurNeedsRow.holds Try.pinned (OpenSpec.ofChange blurNeedsWrong)

/- THE SECOND FORM. 'bulk': how many values and letters a reading holds, each counted each time it is reached (what is shared counts as often as it is met; a slice's spare places count too). A statement '..UptoSaid' is the law's where the arguments, and the package variables that the reading takes, are together of bulk at most 1048576: NARROWER than '..Said'. Prove '..Said' where nothing that the law and all that it calls make is longer than what came in: it says more and counts as full. Else prove '..UptoSaid'. A law counts once. -/
mutual
def uptoBulk {H : Type} : DataW H → Nat
  | .lit (.string bytes) => bytes.length + 1
  | .lit _ => 1
  | .nil => 1
  | .ptr d => uptoBulk d + 1
  | .slice elems spare => uptoBulkAll elems + uptoBulkAll spare + 1
  | .agg parts => uptoBulkAll parts + 1
  | .iface _ d => uptoBulk d + 1
  | .map entries => uptoBulkEntries entries + 1
  | .held _ => 1
def uptoBulkAll {H : Type} : List (DataW H) → Nat
  | [] => 0
  | d :: r => uptoBulk d + uptoBulkAll r
def uptoBulkEntries {H : Type} : List (Lit × DataW H) → Nat
  | [] => 0
  | x :: r => uptoBulkEntry x + uptoBulkEntries r
def uptoBulkEntry {H : Type} : Lit × DataW H → Nat
  | (.string bytes, d) => bytes.length + uptoBulk d + 1
  | (_, d) => uptoBulk d + 1
 end
def uptoSmall : (H : Type) → List (DataW H) → Bool := fun _ ds => decide (uptoBulkAll ds ≤ 1048576)
def OpenSpec.upto (s : _root_.Go.ChangeSpec) : _root_.Go.OpenSpec := { _root_.Go.OpenSpec.ofChange s with cond := some uptoSmall }

/-- 'halidelaw11.BlurNames', WHERE WHAT IT READS IS OF BULK AT MOST 1048576: true; the input reads as it did. -/
def blurNamesUptoRow : OpenClaim := { program := "ytjbpdhofhhinhaa", sum := "54842d77629517de7f2e70001f370869c536073c2504294d0185e1c40fcb7e40", func := "halide/halidelaw11.BlurNames", spec := "blurNames", apart := false, narrowed := true }
def BlurNamesUptoSaid : Prop := blurNamesUptoRow.holds Try.pinned (OpenSpec.upto blurNamesSpec)

/-- 'halidelaw11.BlurWeighs', WHERE WHAT IT READS IS OF BULK AT MOST 1048576: true; the input reads as it did. -/
def blurWeighsUptoRow : OpenClaim := { program := "ytjbpdhofhhinhaa", sum := "54842d77629517de7f2e70001f370869c536073c2504294d0185e1c40fcb7e40", func := "halide/halidelaw11.BlurWeighs", spec := "blurWeighs", inPlace := ["math.Float32frombits", "math.Float32bits"], unfollowed := true, recurses := true, apart := false, narrowed := true }
def BlurWeighsUptoSaid : Prop := blurWeighsUptoRow.holds Try.pinned (OpenSpec.upto blurWeighsSpec)

/-- 'halidelaw11.BlurBlurs', WHERE WHAT IT READS IS OF BULK AT MOST 1048576: true; the input reads as it did. -/
def blurBlursUptoRow : OpenClaim := { program := "ytjbpdhofhhinhaa", sum := "54842d77629517de7f2e70001f370869c536073c2504294d0185e1c40fcb7e40", func := "halide/halidelaw11.BlurBlurs", spec := "blurBlurs", inPlace := ["math.Float32frombits", "math.Float32bits"], unfollowed := true, recurses := true, apart := false, narrowed := true }
def BlurBlursUptoSaid : Prop := blurBlursUptoRow.holds Try.pinned (OpenSpec.upto blurBlursSpec)

/-- 'halidelaw11.BlurSlopes', WHERE WHAT IT READS IS OF BULK AT MOST 1048576: true; the input reads as it did. -/
def blurSlopesUptoRow : OpenClaim := { program := "ytjbpdhofhhinhaa", sum := "54842d77629517de7f2e70001f370869c536073c2504294d0185e1c40fcb7e40", func := "halide/halidelaw11.BlurSlopes", spec := "blurSlopes", inPlace := ["math.Float32frombits", "math.Float32bits"], unfollowed := true, recurses := true, apart := false, narrowed := true }
def BlurSlopesUptoSaid : Prop := blurSlopesUptoRow.holds Try.pinned (OpenSpec.upto blurSlopesSpec)

/-- 'halidelaw11.BlurRises', WHERE WHAT IT READS IS OF BULK AT MOST 1048576: true; the input reads as it did. -/
def blurRisesUptoRow : OpenClaim := { program := "ytjbpdhofhhinhaa", sum := "54842d77629517de7f2e70001f370869c536073c2504294d0185e1c40fcb7e40", func := "halide/halidelaw11.BlurRises", spec := "blurRises", inPlace := ["math.Float32frombits", "math.Float32bits"], unfollowed := true, recurses := true, apart := false, narrowed := true }
def BlurRisesUptoSaid : Prop := blurRisesUptoRow.holds Try.pinned (OpenSpec.upto blurRisesSpec)

/-- 'halidelaw11.BlurNothing', WHERE WHAT IT READS IS OF BULK AT MOST 1048576: true; the input reads as it did. -/
def blurNothingUptoRow : OpenClaim := { program := "ytjbpdhofhhinhaa", sum := "54842d77629517de7f2e70001f370869c536073c2504294d0185e1c40fcb7e40", func := "halide/halidelaw11.BlurNothing", spec := "blurNothing", inPlace := ["math.Float32frombits", "math.Float32bits"], unfollowed := true, recurses := true, apart := false, narrowed := true }
def BlurNothingUptoSaid : Prop := blurNothingUptoRow.holds Try.pinned (OpenSpec.upto blurNothingSpec)

/-- 'halidelaw11.BlurSharpens', WHERE WHAT IT READS IS OF BULK AT MOST 1048576: true; the input reads as it did. -/
def blurSharpensUptoRow : OpenClaim := { program := "ytjbpdhofhhinhaa", sum := "54842d77629517de7f2e70001f370869c536073c2504294d0185e1c40fcb7e40", func := "halide/halidelaw11.BlurSharpens", spec := "blurSharpens", inPlace := ["math.Float32frombits", "math.Float32bits"], unfollowed := true, recurses := true, apart := false, narrowed := true }
def BlurSharpensUptoSaid : Prop := blurSharpensUptoRow.holds Try.pinned (OpenSpec.upto blurSharpensSpec)

/-- 'halidelaw11.BlurConstant', WHERE WHAT IT READS IS OF BULK AT MOST 1048576: true; the input reads as it did. -/
def blurConstantUptoRow : OpenClaim := { program := "ytjbpdhofhhinhaa", sum := "54842d77629517de7f2e70001f370869c536073c2504294d0185e1c40fcb7e40", func := "halide/halidelaw11.BlurConstant", spec := "blurConstant", inPlace := ["math.Float32frombits", "math.Float32bits"], unfollowed := true, recurses := true, apart := false, narrowed := true }
def BlurConstantUptoSaid : Prop := blurConstantUptoRow.holds Try.pinned (OpenSpec.upto blurConstantSpec)

/-- 'halidelaw11.BlurNeeds', WHERE WHAT IT READS IS OF BULK AT MOST 1048576: true; the input reads as it did. -/
def blurNeedsUptoRow : OpenClaim := { program := "ytjbpdhofhhinhaa", sum := "54842d77629517de7f2e70001f370869c536073c2504294d0185e1c40fcb7e40", func := "halide/halidelaw11.BlurNeeds", spec := "blurNeeds", inPlace := ["math.Float32frombits", "math.Float32bits"], unfollowed := true, recurses := true, apart := false, narrowed := true }
def BlurNeedsUptoSaid : Prop := blurNeedsUptoRow.holds Try.pinned (OpenSpec.upto blurNeedsSpec)

end Rows
end Go.Proofs.Ytjbpdhofhhinhaa
