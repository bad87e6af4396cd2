-- PRINTED BY print.sh 35421559b90ae4d0a3588c463048766b98c2df88dd9212a6774a882060cdf62d: not written by this session
import Derived.Test.YtileciohbhoehaaPPlaneNamesx0
namespace Go.Proofs.Ytileciohbhoehaa.PPlaneNames
open Go.RowKit Go.Proofs.YtileciohbhoehaaW.PrintWords Go.Proofs.YtileciohbhoehaaW.PrintLast Go.Proofs.YtileciohbhoehaaW.PrintMore
attribute [local go_sem] max2_int min2_int max_two min_two max_three min_three max_four min_four   -- for this text's walks alone
set_option linter.unusedVariables false
set_option linter.unusedSimpArgs false

/-! ### halidelaw5_PlaneNames: function 3 -/
def halidelaw5_PlaneNames.f  : Option (Bool) := some true
set_option maxHeartbeats 8000000 in
set_option maxRecDepth 100000 in
theorem halidelaw5_PlaneNames.calls  (r : Bool) (w : World) (h : halidelaw5_PlaneNames.f  = some r) :
    Calls Try.prog 3 #[] w fun e w' => e = .returned (.bool r) ∧ Drawn0 w w' := by
  have H : (some true) = some r := h
  clear h
  obtain rfl := Option.some.inj H
  go_enter Try.func3, Try.ntmps3
  go_wp2
  go_ret
  exact ⟨by first | rfl | (simp; done) | (simp [*]; done), by repeat (first | exact Drawn0.refl _ | apply Drawn0.step)⟩

/-- THE ONE PURE STATEMENT of halidelaw5_PlaneNames: yours. -/
def halidelaw5_PlaneNames.Pure : Prop := halidelaw5_PlaneNames.f  = some true
theorem halidelaw5_PlaneNames.walk (P : halidelaw5_PlaneNames.Pure)  (w : World)  :
    Calls Try.prog 3 #[] w fun e w' => e = .returned (.bool true) ∧ Below w.heap.size w w' := by
  have h := P  
  refine (halidelaw5_PlaneNames.calls  true w h).mono ?_
  rintro e w' ⟨rfl, hd⟩
  exact ⟨rfl, hd.below⟩

end Go.Proofs.Ytileciohbhoehaa.PPlaneNames
