/- BlurNames: the closed law's walk. -/
import Derived.Test.YtjbpdhofhhinhaaSx
import Derived.Test.YtjbpdhofhhinhaaProg
namespace Go.Proofs.Ytjbpdhofhhinhaa.Nm
open Go Go.RowKit Sx
set_option maxRecDepth 100000 in
set_option maxHeartbeats 1000000 in
theorem walk (w : World) :
    Calls Try.prog 3 #[] w (Ret w (fun _ : Unit => True) (fun _ => .bool true) (fun _ => [])) := by
  refine enter (M := None) (L := []) (n := 1) (l := []) Try.func3 rfl rfl (Args.nil _) (Hp.start _ _) ?_
  refine GC.seq ?_
  refine GC.region ?_
  refine GL.val (v := (.bool false)) (Ex.assign rfl) (by decide) ?_
  refine GL.nil ?_
  refine GE.thenN ?_
  refine GC.seq ?_
  refine GC.region ?_
  refine GL.val (v := (.bool true)) (Ex.assign rfl) (by decide) ?_
  refine GL.nil ?_
  refine GE.thenN ?_
  refine GC.ret ?_
  refine GC.ret1 rfl (Rv.tmp rfl) (fun wN HN => ?_)
  exact HN.ret () trivial rfl (List.nil_sublist _) rfl
end Go.Proofs.Ytjbpdhofhhinhaa.Nm
