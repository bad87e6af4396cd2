/- halide's statement PlaneNames, printed as a function of numbers, answers true; it takes no input and is reckoned out (no condition). -/
import Derived.Test.YtileciohbhoehaaPPlaneNamesx1
namespace Go.Proofs.Ytileciohbhoehaa.Pure
open Go.RowKit Go.Proofs.Ytileciohbhoehaa.PPlaneNames Go.Proofs.YtileciohbhoehaaW.PrintWords Go.Proofs.YtileciohbhoehaaW.PrintLast

/-- YOURS: halidelaw5_PlaneNames.f  = some true
What it reaches (each with k first where it has rounds; `.mono`: more rounds tell the same; `.l0`, ..: its loops, with `.mono_l`): halidelaw5_PlaneNames.f -/
theorem PlaneNames : halidelaw5_PlaneNames.Pure := by
  rfl

end Go.Proofs.Ytileciohbhoehaa.Pure
