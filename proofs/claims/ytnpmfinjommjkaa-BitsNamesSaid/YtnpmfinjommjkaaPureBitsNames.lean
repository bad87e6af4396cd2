/- halide's statement BitsNames, printed as a function of numbers, answers true; it takes no input and is reckoned out (no condition). -/
import Derived.Test.YtnpmfinjommjkaaPBitsNamesx1
namespace Go.Proofs.Ytnpmfinjommjkaa.Pure
open Go.RowKit Go.Proofs.Ytnpmfinjommjkaa.PBitsNames Go.Proofs.YtnpmfinjommjkaaW.PrintWords Go.Proofs.YtnpmfinjommjkaaW.PrintLast

/-- YOURS: halidelaw1_BitsNames.f  = some true
What it reaches (each with k first where it has rounds; `.mono`: more rounds tell the same; `.l0`, ..: its loops, with `.mono_l`): halidelaw1_BitsNames.f -/
theorem BitsNames : halidelaw1_BitsNames.Pure := by
  rfl

end Go.Proofs.Ytnpmfinjommjkaa.Pure
