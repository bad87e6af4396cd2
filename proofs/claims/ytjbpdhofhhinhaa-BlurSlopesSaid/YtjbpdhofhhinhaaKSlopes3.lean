/- BlurSlopes: what its code does, walked. -/
import Derived.Test.YtjbpdhofhhinhaaKSlopes2
namespace Go.Proofs.Ytjbpdhofhhinhaa.C
open Go Go.RowKit Sx
set_option linter.unusedVariables false
set_option maxRecDepth 100000 in
set_option maxHeartbeats 1000000 in
theorem k16_74 (c0 : Nat) (c1 : Nat) (w : World) (hh : Has w [⟨c0, [(.int .i64 1), (.int .i64 4), (.int .i64 6), (.int .i64 4), (.int .i64 1)], 3, false⟩, ⟨c1, [(.int .i64 1), (.int .i64 4), (.int .i64 6), (.int .i64 4), (.int .i64 1)], 3, false⟩]) :
    Calls Try.prog 16 #[(.slice (some ⟨c0, 0, none⟩) 5 5), (.slice (some ⟨c1, 0, none⟩) 5 5)] w (Ret w (fun _ : Unit => True) (fun rz => (.bool true)) (fun rz => [])) := by
  refine enter (M := None) (L := [⟨c0, [(.int .i64 1), (.int .i64 4), (.int .i64 6), (.int .i64 4), (.int .i64 1)], 3, false⟩, ⟨c1, [(.int .i64 1), (.int .i64 4), (.int .i64 6), (.int .i64 4), (.int .i64 1)], 3, false⟩]) (n := 26) (l := [(0, (.slice (some ⟨c0, 0, none⟩) 5 5)), (1, (.slice (some ⟨c1, 0, none⟩) 5 5))]) Try.func16 rfl rfl (Args.cons rfl (Args.cons rfl (Args.nil _))) (Hp.reads hh rfl) ?_
  refine GC.seq ?_
  refine GC.region ?_
  refine GL.val (Ex.assign rfl) (by decide) ?_
  refine GL.nil ?_
  refine GE.thenN ?_
  refine GC.seq ?_
  refine GC.seq ?_
  refine GC.region ?_
  refine GL.val (Ex.move rfl) (by decide) ?_
  refine GL.val (v := (.int .i64 5)) (Ex.len rfl Try.underlying28) (by decide) ?_
  refine GL.val (Ex.move rfl) (by decide) ?_
  refine GL.val (v := (.int .i64 5)) (Ex.len rfl Try.underlying28) (by decide) ?_
  refine GL.val (v := (.bool false)) (Ex.cast (Ex.neq rfl rfl) rfl) (by decide) ?_
  refine GL.nil ?_
  refine GE.thenN ?_
  refine GC.cond rfl (fun hq1 => by cases hq1) (fun _ => ?_)
  refine GC.skip ?_
  refine GE.thenN ?_
  refine GC.seq ?_
  refine GC.seq ?_
  refine GC.region ?_
  refine GL.val (Ex.assign rfl) (by decide) ?_
  refine GL.nil ?_
  refine GE.thenN ?_
  refine GC.block ?_
  refine GC.unroll 60 ?_
  refine GE.round ?_
  refine GC.seq ?_
  refine GC.seq ?_
  refine GC.region ?_
  refine GL.val (Ex.move rfl) (by decide) ?_
  refine GL.val (Ex.move rfl) (by decide) ?_
  refine GL.val (v := (.int .i64 5)) (Ex.len rfl Try.underlying28) (by decide) ?_
  refine GL.val (v := (.bool true)) (Ex.cast (Ex.lss rfl rfl) rfl) (by decide) ?_
  refine GL.nil ?_
  refine GE.thenN ?_
  refine GC.cond rfl (fun _ => ?_) (fun hq2 => by cases hq2)
  refine GC.skip ?_
  refine GE.thenN ?_
  refine GC.seq ?_
  refine GC.block ?_
  refine GC.seq ?_
  refine GC.draw [⟨c0, [(.int .i64 1), (.int .i64 4), (.int .i64 6), (.int .i64 4), (.int .i64 1)], 3, false⟩, ⟨c1, [(.int .i64 1), (.int .i64 4), (.int .i64 6), (.int .i64 4), (.int .i64 1)], 3, false⟩] T.mixed (fuel := 9) rfl rfl ?_
  refine GH.take 0 (v := (.slice (some ⟨c0, 0, none⟩) 5 5)) rfl (by kernel_rfl) (by kernel_rfl) (by kernel_rfl) (fun _ _ _ h => h) (Ex.move rfl) (ulC (ulC ulN)) (by decide) ?_
  refine GH.take 1 (v := (.int .i64 0)) rfl (by kernel_rfl) (by kernel_rfl) (by kernel_rfl) (fun _ _ _ h => h) (Ex.move rfl) (ulC (ulC ulN)) (by decide) ?_
  refine GH.take 2 (v := (.pointer (some ⟨c0, 0, none⟩))) rfl (by kernel_rfl) (by kernel_rfl) (by kernel_rfl) (fun _ _ _ h => h) (Ex.cast (Ex.indexAddr rfl rfl Try.underlying28 T.sz3 (by omega) (by omega)) rfl) (ulC (ulC ulN)) (by decide) ?_
  refine GH.take 3 (v := (.int .i64 1)) rfl (by kernel_rfl) (by kernel_rfl) (by kernel_rfl) (fun _ _ _ h => h) (Ex.load rfl T.ag3 (i := 0) rfl rfl) (ulC (ulC ulN)) (by decide) ?_
  refine GH.take 4 (v := (.slice (some ⟨c1, 0, none⟩) 5 5)) rfl (by kernel_rfl) (by kernel_rfl) (by kernel_rfl) (fun _ _ _ h => h) (Ex.move rfl) (ulC (ulC ulN)) (by decide) ?_
  refine GH.take 5 (v := (.int .i64 0)) rfl (by kernel_rfl) (by kernel_rfl) (by kernel_rfl) (fun _ _ _ h => h) (Ex.move rfl) (ulC (ulC ulN)) (by decide) ?_
  refine GH.take 6 (v := (.pointer (some ⟨c1, 0, none⟩))) rfl (by kernel_rfl) (by kernel_rfl) (by kernel_rfl) (fun _ _ _ h => h) (Ex.cast (Ex.indexAddr rfl rfl Try.underlying28 T.sz3 (by omega) (by omega)) rfl) (ulC (ulC ulN)) (by decide) ?_
  refine GH.take 7 (v := (.int .i64 1)) rfl (by kernel_rfl) (by kernel_rfl) (by kernel_rfl) (fun _ _ _ h => h) (Ex.load rfl T.ag3 (i := 1) rfl rfl) (ulC (ulC ulN)) (by decide) ?_
  refine GH.take 8 (v := (.bool false)) rfl (by kernel_rfl) (by kernel_rfl) (by kernel_rfl) (fun _ _ _ h => h) (Ex.cast (Ex.neq rfl rfl) rfl) (ulC (ulC ulN)) (by decide) ?_
  refine GH.done (by kernel_rfl) ?_
  refine GE.thenN ?_
  refine GC.cond rfl (fun hq3 => by cases hq3) (fun _ => ?_)
  refine GC.skip ?_
  refine GE.blockN ?_
  refine GE.thenN ?_
  refine GC.region ?_
  refine GL.val (Ex.move rfl) (by decide) ?_
  refine GL.val (v := (.int .i64 1)) (Ex.add rfl rfl (Z := 1) (by decide)) (by decide) ?_
  refine GL.val (Ex.assign rfl) (by decide) ?_
  refine GL.nil ?_
  refine GE.thenN ?_
  refine GE.round ?_
  refine GC.seq ?_
  refine GC.seq ?_
  refine GC.region ?_
  refine GL.val (Ex.move rfl) (by decide) ?_
  refine GL.val (Ex.move rfl) (by decide) ?_
  refine GL.val (v := (.int .i64 5)) (Ex.len rfl Try.underlying28) (by decide) ?_
  refine GL.val (v := (.bool true)) (Ex.cast (Ex.lss rfl rfl) rfl) (by decide) ?_
  refine GL.nil ?_
  refine GE.thenN ?_
  refine GC.cond rfl (fun _ => ?_) (fun hq4 => by cases hq4)
  refine GC.skip ?_
  refine GE.thenN ?_
  refine GC.seq ?_
  refine GC.block ?_
  refine GC.seq ?_
  refine GC.draw [⟨c0, [(.int .i64 1), (.int .i64 4), (.int .i64 6), (.int .i64 4), (.int .i64 1)], 3, false⟩, ⟨c1, [(.int .i64 1), (.int .i64 4), (.int .i64 6), (.int .i64 4), (.int .i64 1)], 3, false⟩] T.mixed (fuel := 9) rfl rfl ?_
  refine GH.take 0 (v := (.slice (some ⟨c0, 0, none⟩) 5 5)) rfl (by kernel_rfl) (by kernel_rfl) (by kernel_rfl) (fun _ _ _ h => h) (Ex.move rfl) (ulC (ulC ulN)) (by decide) ?_
  refine GH.take 1 (v := (.int .i64 1)) rfl (by kernel_rfl) (by kernel_rfl) (by kernel_rfl) (fun _ _ _ h => h) (Ex.move rfl) (ulC (ulC ulN)) (by decide) ?_
  refine GH.take 2 (v := (.pointer (some ⟨c0, 1, none⟩))) rfl (by kernel_rfl) (by kernel_rfl) (by kernel_rfl) (fun _ _ _ h => h) (Ex.cast (Ex.indexAddr rfl rfl Try.underlying28 T.sz3 (by omega) (by omega)) rfl) (ulC (ulC ulN)) (by decide) ?_
  refine GH.take 3 (v := (.int .i64 4)) rfl (by kernel_rfl) (by kernel_rfl) (by kernel_rfl) (fun _ _ _ h => h) (Ex.load rfl T.ag3 (i := 0) rfl rfl) (ulC (ulC ulN)) (by decide) ?_
  refine GH.take 4 (v := (.slice (some ⟨c1, 0, none⟩) 5 5)) rfl (by kernel_rfl) (by kernel_rfl) (by kernel_rfl) (fun _ _ _ h => h) (Ex.move rfl) (ulC (ulC ulN)) (by decide) ?_
  refine GH.take 5 (v := (.int .i64 1)) rfl (by kernel_rfl) (by kernel_rfl) (by kernel_rfl) (fun _ _ _ h => h) (Ex.move rfl) (ulC (ulC ulN)) (by decide) ?_
  refine GH.take 6 (v := (.pointer (some ⟨c1, 1, none⟩))) rfl (by kernel_rfl) (by kernel_rfl) (by kernel_rfl) (fun _ _ _ h => h) (Ex.cast (Ex.indexAddr rfl rfl Try.underlying28 T.sz3 (by omega) (by omega)) rfl) (ulC (ulC ulN)) (by decide) ?_
  refine GH.take 7 (v := (.int .i64 4)) rfl (by kernel_rfl) (by kernel_rfl) (by kernel_rfl) (fun _ _ _ h => h) (Ex.load rfl T.ag3 (i := 1) rfl rfl) (ulC (ulC ulN)) (by decide) ?_
  refine GH.take 8 (v := (.bool false)) rfl (by kernel_rfl) (by kernel_rfl) (by kernel_rfl) (fun _ _ _ h => h) (Ex.cast (Ex.neq rfl rfl) rfl) (ulC (ulC ulN)) (by decide) ?_
  refine GH.done (by kernel_rfl) ?_
  refine GE.thenN ?_
  refine GC.cond rfl (fun hq5 => by cases hq5) (fun _ => ?_)
  refine GC.skip ?_
  refine GE.blockN ?_
  refine GE.thenN ?_
  refine GC.region ?_
  refine GL.val (Ex.move rfl) (by decide) ?_
  refine GL.val (v := (.int .i64 2)) (Ex.add rfl rfl (Z := 2) (by decide)) (by decide) ?_
  refine GL.val (Ex.assign rfl) (by decide) ?_
  refine GL.nil ?_
  refine GE.thenN ?_
  refine GE.round ?_
  refine GC.seq ?_
  refine GC.seq ?_
  refine GC.region ?_
  refine GL.val (Ex.move rfl) (by decide) ?_
  refine GL.val (Ex.move rfl) (by decide) ?_
  refine GL.val (v := (.int .i64 5)) (Ex.len rfl Try.underlying28) (by decide) ?_
  refine GL.val (v := (.bool true)) (Ex.cast (Ex.lss rfl rfl) rfl) (by decide) ?_
  refine GL.nil ?_
  refine GE.thenN ?_
  refine GC.cond rfl (fun _ => ?_) (fun hq6 => by cases hq6)
  refine GC.skip ?_
  refine GE.thenN ?_
  refine GC.seq ?_
  refine GC.block ?_
  refine GC.seq ?_
  refine GC.draw [⟨c0, [(.int .i64 1), (.int .i64 4), (.int .i64 6), (.int .i64 4), (.int .i64 1)], 3, false⟩, ⟨c1, [(.int .i64 1), (.int .i64 4), (.int .i64 6), (.int .i64 4), (.int .i64 1)], 3, false⟩] T.mixed (fuel := 9) rfl rfl ?_
  refine GH.take 0 (v := (.slice (some ⟨c0, 0, none⟩) 5 5)) rfl (by kernel_rfl) (by kernel_rfl) (by kernel_rfl) (fun _ _ _ h => h) (Ex.move rfl) (ulC (ulC ulN)) (by decide) ?_
  refine GH.take 1 (v := (.int .i64 2)) rfl (by kernel_rfl) (by kernel_rfl) (by kernel_rfl) (fun _ _ _ h => h) (Ex.move rfl) (ulC (ulC ulN)) (by decide) ?_
  refine GH.take 2 (v := (.pointer (some ⟨c0, 2, none⟩))) rfl (by kernel_rfl) (by kernel_rfl) (by kernel_rfl) (fun _ _ _ h => h) (Ex.cast (Ex.indexAddr rfl rfl Try.underlying28 T.sz3 (by omega) (by omega)) rfl) (ulC (ulC ulN)) (by decide) ?_
  refine GH.take 3 (v := (.int .i64 6)) rfl (by kernel_rfl) (by kernel_rfl) (by kernel_rfl) (fun _ _ _ h => h) (Ex.load rfl T.ag3 (i := 0) rfl rfl) (ulC (ulC ulN)) (by decide) ?_
  refine GH.take 4 (v := (.slice (some ⟨c1, 0, none⟩) 5 5)) rfl (by kernel_rfl) (by kernel_rfl) (by kernel_rfl) (fun _ _ _ h => h) (Ex.move rfl) (ulC (ulC ulN)) (by decide) ?_
  refine GH.take 5 (v := (.int .i64 2)) rfl (by kernel_rfl) (by kernel_rfl) (by kernel_rfl) (fun _ _ _ h => h) (Ex.move rfl) (ulC (ulC ulN)) (by decide) ?_
  refine GH.take 6 (v := (.pointer (some ⟨c1, 2, none⟩))) rfl (by kernel_rfl) (by kernel_rfl) (by kernel_rfl) (fun _ _ _ h => h) (Ex.cast (Ex.indexAddr rfl rfl Try.underlying28 T.sz3 (by omega) (by omega)) rfl) (ulC (ulC ulN)) (by decide) ?_
  refine GH.take 7 (v := (.int .i64 6)) rfl (by kernel_rfl) (by kernel_rfl) (by kernel_rfl) (fun _ _ _ h => h) (Ex.load rfl T.ag3 (i := 1) rfl rfl) (ulC (ulC ulN)) (by decide) ?_
  refine GH.take 8 (v := (.bool false)) rfl (by kernel_rfl) (by kernel_rfl) (by kernel_rfl) (fun _ _ _ h => h) (Ex.cast (Ex.neq rfl rfl) rfl) (ulC (ulC ulN)) (by decide) ?_
  refine GH.done (by kernel_rfl) ?_
  refine GE.thenN ?_
  refine GC.cond rfl (fun hq7 => by cases hq7) (fun _ => ?_)
  refine GC.skip ?_
  refine GE.blockN ?_
  refine GE.thenN ?_
  refine GC.region ?_
  refine GL.val (Ex.move rfl) (by decide) ?_
  refine GL.val (v := (.int .i64 3)) (Ex.add rfl rfl (Z := 3) (by decide)) (by decide) ?_
  refine GL.val (Ex.assign rfl) (by decide) ?_
  refine GL.nil ?_
  refine GE.thenN ?_
  refine GE.round ?_
  refine GC.seq ?_
  refine GC.seq ?_
  refine GC.region ?_
  refine GL.val (Ex.move rfl) (by decide) ?_
  refine GL.val (Ex.move rfl) (by decide) ?_
  refine GL.val (v := (.int .i64 5)) (Ex.len rfl Try.underlying28) (by decide) ?_
  refine GL.val (v := (.bool true)) (Ex.cast (Ex.lss rfl rfl) rfl) (by decide) ?_
  refine GL.nil ?_
  refine GE.thenN ?_
  refine GC.cond rfl (fun _ => ?_) (fun hq8 => by cases hq8)
  refine GC.skip ?_
  refine GE.thenN ?_
  refine GC.seq ?_
  refine GC.block ?_
  refine GC.seq ?_
  refine GC.draw [⟨c0, [(.int .i64 1), (.int .i64 4), (.int .i64 6), (.int .i64 4), (.int .i64 1)], 3, false⟩, ⟨c1, [(.int .i64 1), (.int .i64 4), (.int .i64 6), (.int .i64 4), (.int .i64 1)], 3, false⟩] T.mixed (fuel := 9) rfl rfl ?_
  refine GH.take 0 (v := (.slice (some ⟨c0, 0, none⟩) 5 5)) rfl (by kernel_rfl) (by kernel_rfl) (by kernel_rfl) (fun _ _ _ h => h) (Ex.move rfl) (ulC (ulC ulN)) (by decide) ?_
  refine GH.take 1 (v := (.int .i64 3)) rfl (by kernel_rfl) (by kernel_rfl) (by kernel_rfl) (fun _ _ _ h => h) (Ex.move rfl) (ulC (ulC ulN)) (by decide) ?_
  refine GH.take 2 (v := (.pointer (some ⟨c0, 3, none⟩))) rfl (by kernel_rfl) (by kernel_rfl) (by kernel_rfl) (fun _ _ _ h => h) (Ex.cast (Ex.indexAddr rfl rfl Try.underlying28 T.sz3 (by omega) (by omega)) rfl) (ulC (ulC ulN)) (by decide) ?_
  refine GH.take 3 (v := (.int .i64 4)) rfl (by kernel_rfl) (by kernel_rfl) (by kernel_rfl) (fun _ _ _ h => h) (Ex.load rfl T.ag3 (i := 0) rfl rfl) (ulC (ulC ulN)) (by decide) ?_
  refine GH.take 4 (v := (.slice (some ⟨c1, 0, none⟩) 5 5)) rfl (by kernel_rfl) (by kernel_rfl) (by kernel_rfl) (fun _ _ _ h => h) (Ex.move rfl) (ulC (ulC ulN)) (by decide) ?_
  refine GH.take 5 (v := (.int .i64 3)) rfl (by kernel_rfl) (by kernel_rfl) (by kernel_rfl) (fun _ _ _ h => h) (Ex.move rfl) (ulC (ulC ulN)) (by decide) ?_
  refine GH.take 6 (v := (.pointer (some ⟨c1, 3, none⟩))) rfl (by kernel_rfl) (by kernel_rfl) (by kernel_rfl) (fun _ _ _ h => h) (Ex.cast (Ex.indexAddr rfl rfl Try.underlying28 T.sz3 (by omega) (by omega)) rfl) (ulC (ulC ulN)) (by decide) ?_
  refine GH.take 7 (v := (.int .i64 4)) rfl (by kernel_rfl) (by kernel_rfl) (by kernel_rfl) (fun _ _ _ h => h) (Ex.load rfl T.ag3 (i := 1) rfl rfl) (ulC (ulC ulN)) (by decide) ?_
  refine GH.take 8 (v := (.bool false)) rfl (by kernel_rfl) (by kernel_rfl) (by kernel_rfl) (fun _ _ _ h => h) (Ex.cast (Ex.neq rfl rfl) rfl) (ulC (ulC ulN)) (by decide) ?_
  refine GH.done (by kernel_rfl) ?_
  refine GE.thenN ?_
  refine GC.cond rfl (fun hq9 => by cases hq9) (fun _ => ?_)
  refine GC.skip ?_
  refine GE.blockN ?_
  refine GE.thenN ?_
  refine GC.region ?_
  refine GL.val (Ex.move rfl) (by decide) ?_
  refine GL.val (v := (.int .i64 4)) (Ex.add rfl rfl (Z := 4) (by decide)) (by decide) ?_
  refine GL.val (Ex.assign rfl) (by decide) ?_
  refine GL.nil ?_
  refine GE.thenN ?_
  refine GE.round ?_
  refine GC.seq ?_
  refine GC.seq ?_
  refine GC.region ?_
  refine GL.val (Ex.move rfl) (by decide) ?_
  refine GL.val (Ex.move rfl) (by decide) ?_
  refine GL.val (v := (.int .i64 5)) (Ex.len rfl Try.underlying28) (by decide) ?_
  refine GL.val (v := (.bool true)) (Ex.cast (Ex.lss rfl rfl) rfl) (by decide) ?_
  refine GL.nil ?_
  refine GE.thenN ?_
  refine GC.cond rfl (fun _ => ?_) (fun hq10 => by cases hq10)
  refine GC.skip ?_
  refine GE.thenN ?_
  refine GC.seq ?_
  refine GC.block ?_
  refine GC.seq ?_
  refine GC.draw [⟨c0, [(.int .i64 1), (.int .i64 4), (.int .i64 6), (.int .i64 4), (.int .i64 1)], 3, false⟩, ⟨c1, [(.int .i64 1), (.int .i64 4), (.int .i64 6), (.int .i64 4), (.int .i64 1)], 3, false⟩] T.mixed (fuel := 9) rfl rfl ?_
  refine GH.take 0 (v := (.slice (some ⟨c0, 0, none⟩) 5 5)) rfl (by kernel_rfl) (by kernel_rfl) (by kernel_rfl) (fun _ _ _ h => h) (Ex.move rfl) (ulC (ulC ulN)) (by decide) ?_
  refine GH.take 1 (v := (.int .i64 4)) rfl (by kernel_rfl) (by kernel_rfl) (by kernel_rfl) (fun _ _ _ h => h) (Ex.move rfl) (ulC (ulC ulN)) (by decide) ?_
  refine GH.take 2 (v := (.pointer (some ⟨c0, 4, none⟩))) rfl (by kernel_rfl) (by kernel_rfl) (by kernel_rfl) (fun _ _ _ h => h) (Ex.cast (Ex.indexAddr rfl rfl Try.underlying28 T.sz3 (by omega) (by omega)) rfl) (ulC (ulC ulN)) (by decide) ?_
  refine GH.take 3 (v := (.int .i64 1)) rfl (by kernel_rfl) (by kernel_rfl) (by kernel_rfl) (fun _ _ _ h => h) (Ex.load rfl T.ag3 (i := 0) rfl rfl) (ulC (ulC ulN)) (by decide) ?_
  refine GH.take 4 (v := (.slice (some ⟨c1, 0, none⟩) 5 5)) rfl (by kernel_rfl) (by kernel_rfl) (by kernel_rfl) (fun _ _ _ h => h) (Ex.move rfl) (ulC (ulC ulN)) (by decide) ?_
  refine GH.take 5 (v := (.int .i64 4)) rfl (by kernel_rfl) (by kernel_rfl) (by kernel_rfl) (fun _ _ _ h => h) (Ex.move rfl) (ulC (ulC ulN)) (by decide) ?_
  refine GH.take 6 (v := (.pointer (some ⟨c1, 4, none⟩))) rfl (by kernel_rfl) (by kernel_rfl) (by kernel_rfl) (fun _ _ _ h => h) (Ex.cast (Ex.indexAddr rfl rfl Try.underlying28 T.sz3 (by omega) (by omega)) rfl) (ulC (ulC ulN)) (by decide) ?_
  refine GH.take 7 (v := (.int .i64 1)) rfl (by kernel_rfl) (by kernel_rfl) (by kernel_rfl) (fun _ _ _ h => h) (Ex.load rfl T.ag3 (i := 1) rfl rfl) (ulC (ulC ulN)) (by decide) ?_
  refine GH.take 8 (v := (.bool false)) rfl (by kernel_rfl) (by kernel_rfl) (by kernel_rfl) (fun _ _ _ h => h) (Ex.cast (Ex.neq rfl rfl) rfl) (ulC (ulC ulN)) (by decide) ?_
  refine GH.done (by kernel_rfl) ?_
  refine GE.thenN ?_
  refine GC.cond rfl (fun hq11 => by cases hq11) (fun _ => ?_)
  refine GC.skip ?_
  refine GE.blockN ?_
  refine GE.thenN ?_
  refine GC.region ?_
  refine GL.val (Ex.move rfl) (by decide) ?_
  refine GL.val (v := (.int .i64 5)) (Ex.add rfl rfl (Z := 5) (by decide)) (by decide) ?_
  refine GL.val (Ex.assign rfl) (by decide) ?_
  refine GL.nil ?_
  refine GE.thenN ?_
  refine GE.round ?_
  refine GC.seq ?_
  refine GC.seq ?_
  refine GC.region ?_
  refine GL.val (Ex.move rfl) (by decide) ?_
  refine GL.val (Ex.move rfl) (by decide) ?_
  refine GL.val (v := (.int .i64 5)) (Ex.len rfl Try.underlying28) (by decide) ?_
  refine GL.val (v := (.bool false)) (Ex.cast (Ex.lss rfl rfl) rfl) (by decide) ?_
  refine GL.nil ?_
  refine GE.thenN ?_
  refine GC.cond rfl (fun hq12 => by cases hq12) (fun _ => ?_)
  refine GC.exit ?_
  refine GE.thenE ?_
  refine GE.thenE ?_
  refine GE.blockE ?_
  refine GE.thenN ?_
  refine GC.seq ?_
  refine GC.region ?_
  refine GL.val (Ex.assign rfl) (by decide) ?_
  refine GL.nil ?_
  refine GE.thenN ?_
  refine GC.ret ?_
  refine GC.ret1 rfl (Rv.tmp rfl) (fun wN HN => ?_)
  exact HN.ret () trivial rfl (ulS (ulS ulN)) rfl

set_option maxRecDepth 100000 in
set_option maxHeartbeats 1000000 in
theorem k16_75 (c0 : Nat) (c1 : Nat) (w : World) (hh : Has w [⟨c0, [(.int .i64 1), (.int .i64 1), (.int .i64 1)], 3, false⟩, ⟨c1, [(.int .i64 1), (.int .i64 1), (.int .i64 1)], 3, false⟩]) :
    Calls Try.prog 16 #[(.slice (some ⟨c0, 0, none⟩) 3 3), (.slice (some ⟨c1, 0, none⟩) 3 3)] w (Ret w (fun _ : Unit => True) (fun rz => (.bool true)) (fun rz => [])) := by
  refine enter (M := None) (L := [⟨c0, [(.int .i64 1), (.int .i64 1), (.int .i64 1)], 3, false⟩, ⟨c1, [(.int .i64 1), (.int .i64 1), (.int .i64 1)], 3, false⟩]) (n := 26) (l := [(0, (.slice (some ⟨c0, 0, none⟩) 3 3)), (1, (.slice (some ⟨c1, 0, none⟩) 3 3))]) Try.func16 rfl rfl (Args.cons rfl (Args.cons rfl (Args.nil _))) (Hp.reads hh rfl) ?_
  refine GC.seq ?_
  refine GC.region ?_
  refine GL.val (Ex.assign rfl) (by decide) ?_
  refine GL.nil ?_
  refine GE.thenN ?_
  refine GC.seq ?_
  refine GC.seq ?_
  refine GC.region ?_
  refine GL.val (Ex.move rfl) (by decide) ?_
  refine GL.val (v := (.int .i64 3)) (Ex.len rfl Try.underlying28) (by decide) ?_
  refine GL.val (Ex.move rfl) (by decide) ?_
  refine GL.val (v := (.int .i64 3)) (Ex.len rfl Try.underlying28) (by decide) ?_
  refine GL.val (v := (.bool false)) (Ex.cast (Ex.neq rfl rfl) rfl) (by decide) ?_
  refine GL.nil ?_
  refine GE.thenN ?_
  refine GC.cond rfl (fun hq1 => by cases hq1) (fun _ => ?_)
  refine GC.skip ?_
  refine GE.thenN ?_
  refine GC.seq ?_
  refine GC.seq ?_
  refine GC.region ?_
  refine GL.val (Ex.assign rfl) (by decide) ?_
  refine GL.nil ?_
  refine GE.thenN ?_
  refine GC.block ?_
  refine GC.unroll 60 ?_
  refine GE.round ?_
  refine GC.seq ?_
  refine GC.seq ?_
  refine GC.region ?_
  refine GL.val (Ex.move rfl) (by decide) ?_
  refine GL.val (Ex.move rfl) (by decide) ?_
  refine GL.val (v := (.int .i64 3)) (Ex.len rfl Try.underlying28) (by decide) ?_
  refine GL.val (v := (.bool true)) (Ex.cast (Ex.lss rfl rfl) rfl) (by decide) ?_
  refine GL.nil ?_
  refine GE.thenN ?_
  refine GC.cond rfl (fun _ => ?_) (fun hq2 => by cases hq2)
  refine GC.skip ?_
  refine GE.thenN ?_
  refine GC.seq ?_
  refine GC.block ?_
  refine GC.seq ?_
  refine GC.draw [⟨c0, [(.int .i64 1), (.int .i64 1), (.int .i64 1)], 3, false⟩, ⟨c1, [(.int .i64 1), (.int .i64 1), (.int .i64 1)], 3, false⟩] T.mixed (fuel := 9) rfl rfl ?_
  refine GH.take 0 (v := (.slice (some ⟨c0, 0, none⟩) 3 3)) rfl (by kernel_rfl) (by kernel_rfl) (by kernel_rfl) (fun _ _ _ h => h) (Ex.move rfl) (ulC (ulC ulN)) (by decide) ?_
  refine GH.take 1 (v := (.int .i64 0)) rfl (by kernel_rfl) (by kernel_rfl) (by kernel_rfl) (fun _ _ _ h => h) (Ex.move rfl) (ulC (ulC ulN)) (by decide) ?_
  refine GH.take 2 (v := (.pointer (some ⟨c0, 0, none⟩))) rfl (by kernel_rfl) (by kernel_rfl) (by kernel_rfl) (fun _ _ _ h => h) (Ex.cast (Ex.indexAddr rfl rfl Try.underlying28 T.sz3 (by omega) (by omega)) rfl) (ulC (ulC ulN)) (by decide) ?_
  refine GH.take 3 (v := (.int .i64 1)) rfl (by kernel_rfl) (by kernel_rfl) (by kernel_rfl) (fun _ _ _ h => h) (Ex.load rfl T.ag3 (i := 0) rfl rfl) (ulC (ulC ulN)) (by decide) ?_
  refine GH.take 4 (v := (.slice (some ⟨c1, 0, none⟩) 3 3)) rfl (by kernel_rfl) (by kernel_rfl) (by kernel_rfl) (fun _ _ _ h => h) (Ex.move rfl) (ulC (ulC ulN)) (by decide) ?_
  refine GH.take 5 (v := (.int .i64 0)) rfl (by kernel_rfl) (by kernel_rfl) (by kernel_rfl) (fun _ _ _ h => h) (Ex.move rfl) (ulC (ulC ulN)) (by decide) ?_
  refine GH.take 6 (v := (.pointer (some ⟨c1, 0, none⟩))) rfl (by kernel_rfl) (by kernel_rfl) (by kernel_rfl) (fun _ _ _ h => h) (Ex.cast (Ex.indexAddr rfl rfl Try.underlying28 T.sz3 (by omega) (by omega)) rfl) (ulC (ulC ulN)) (by decide) ?_
  refine GH.take 7 (v := (.int .i64 1)) rfl (by kernel_rfl) (by kernel_rfl) (by kernel_rfl) (fun _ _ _ h => h) (Ex.load rfl T.ag3 (i := 1) rfl rfl) (ulC (ulC ulN)) (by decide) ?_
  refine GH.take 8 (v := (.bool false)) rfl (by kernel_rfl) (by kernel_rfl) (by kernel_rfl) (fun _ _ _ h => h) (Ex.cast (Ex.neq rfl rfl) rfl) (ulC (ulC ulN)) (by decide) ?_
  refine GH.done (by kernel_rfl) ?_
  refine GE.thenN ?_
  refine GC.cond rfl (fun hq3 => by cases hq3) (fun _ => ?_)
  refine GC.skip ?_
  refine GE.blockN ?_
  refine GE.thenN ?_
  refine GC.region ?_
  refine GL.val (Ex.move rfl) (by decide) ?_
  refine GL.val (v := (.int .i64 1)) (Ex.add rfl rfl (Z := 1) (by decide)) (by decide) ?_
  refine GL.val (Ex.assign rfl) (by decide) ?_
  refine GL.nil ?_
  refine GE.thenN ?_
  refine GE.round ?_
  refine GC.seq ?_
  refine GC.seq ?_
  refine GC.region ?_
  refine GL.val (Ex.move rfl) (by decide) ?_
  refine GL.val (Ex.move rfl) (by decide) ?_
  refine GL.val (v := (.int .i64 3)) (Ex.len rfl Try.underlying28) (by decide) ?_
  refine GL.val (v := (.bool true)) (Ex.cast (Ex.lss rfl rfl) rfl) (by decide) ?_
  refine GL.nil ?_
  refine GE.thenN ?_
  refine GC.cond rfl (fun _ => ?_) (fun hq4 => by cases hq4)
  refine GC.skip ?_
  refine GE.thenN ?_
  refine GC.seq ?_
  refine GC.block ?_
  refine GC.seq ?_
  refine GC.draw [⟨c0, [(.int .i64 1), (.int .i64 1), (.int .i64 1)], 3, false⟩, ⟨c1, [(.int .i64 1), (.int .i64 1), (.int .i64 1)], 3, false⟩] T.mixed (fuel := 9) rfl rfl ?_
  refine GH.take 0 (v := (.slice (some ⟨c0, 0, none⟩) 3 3)) rfl (by kernel_rfl) (by kernel_rfl) (by kernel_rfl) (fun _ _ _ h => h) (Ex.move rfl) (ulC (ulC ulN)) (by decide) ?_
  refine GH.take 1 (v := (.int .i64 1)) rfl (by kernel_rfl) (by kernel_rfl) (by kernel_rfl) (fun _ _ _ h => h) (Ex.move rfl) (ulC (ulC ulN)) (by decide) ?_
  refine GH.take 2 (v := (.pointer (some ⟨c0, 1, none⟩))) rfl (by kernel_rfl) (by kernel_rfl) (by kernel_rfl) (fun _ _ _ h => h) (Ex.cast (Ex.indexAddr rfl rfl Try.underlying28 T.sz3 (by omega) (by omega)) rfl) (ulC (ulC ulN)) (by decide) ?_
  refine GH.take 3 (v := (.int .i64 1)) rfl (by kernel_rfl) (by kernel_rfl) (by kernel_rfl) (fun _ _ _ h => h) (Ex.load rfl T.ag3 (i := 0) rfl rfl) (ulC (ulC ulN)) (by decide) ?_
  refine GH.take 4 (v := (.slice (some ⟨c1, 0, none⟩) 3 3)) rfl (by kernel_rfl) (by kernel_rfl) (by kernel_rfl) (fun _ _ _ h => h) (Ex.move rfl) (ulC (ulC ulN)) (by decide) ?_
  refine GH.take 5 (v := (.int .i64 1)) rfl (by kernel_rfl) (by kernel_rfl) (by kernel_rfl) (fun _ _ _ h => h) (Ex.move rfl) (ulC (ulC ulN)) (by decide) ?_
  refine GH.take 6 (v := (.pointer (some ⟨c1, 1, none⟩))) rfl (by kernel_rfl) (by kernel_rfl) (by kernel_rfl) (fun _ _ _ h => h) (Ex.cast (Ex.indexAddr rfl rfl Try.underlying28 T.sz3 (by omega) (by omega)) rfl) (ulC (ulC ulN)) (by decide) ?_
  refine GH.take 7 (v := (.int .i64 1)) rfl (by kernel_rfl) (by kernel_rfl) (by kernel_rfl) (fun _ _ _ h => h) (Ex.load rfl T.ag3 (i := 1) rfl rfl) (ulC (ulC ulN)) (by decide) ?_
  refine GH.take 8 (v := (.bool false)) rfl (by kernel_rfl) (by kernel_rfl) (by kernel_rfl) (fun _ _ _ h => h) (Ex.cast (Ex.neq rfl rfl) rfl) (ulC (ulC ulN)) (by decide) ?_
  refine GH.done (by kernel_rfl) ?_
  refine GE.thenN ?_
  refine GC.cond rfl (fun hq5 => by cases hq5) (fun _ => ?_)
  refine GC.skip ?_
  refine GE.blockN ?_
  refine GE.thenN ?_
  refine GC.region ?_
  refine GL.val (Ex.move rfl) (by decide) ?_
  refine GL.val (v := (.int .i64 2)) (Ex.add rfl rfl (Z := 2) (by decide)) (by decide) ?_
  refine GL.val (Ex.assign rfl) (by decide) ?_
  refine GL.nil ?_
  refine GE.thenN ?_
  refine GE.round ?_
  refine GC.seq ?_
  refine GC.seq ?_
  refine GC.region ?_
  refine GL.val (Ex.move rfl) (by decide) ?_
  refine GL.val (Ex.move rfl) (by decide) ?_
  refine GL.val (v := (.int .i64 3)) (Ex.len rfl Try.underlying28) (by decide) ?_
  refine GL.val (v := (.bool true)) (Ex.cast (Ex.lss rfl rfl) rfl) (by decide) ?_
  refine GL.nil ?_
  refine GE.thenN ?_
  refine GC.cond rfl (fun _ => ?_) (fun hq6 => by cases hq6)
  refine GC.skip ?_
  refine GE.thenN ?_
  refine GC.seq ?_
  refine GC.block ?_
  refine GC.seq ?_
  refine GC.draw [⟨c0, [(.int .i64 1), (.int .i64 1), (.int .i64 1)], 3, false⟩, ⟨c1, [(.int .i64 1), (.int .i64 1), (.int .i64 1)], 3, false⟩] T.mixed (fuel := 9) rfl rfl ?_
  refine GH.take 0 (v := (.slice (some ⟨c0, 0, none⟩) 3 3)) rfl (by kernel_rfl) (by kernel_rfl) (by kernel_rfl) (fun _ _ _ h => h) (Ex.move rfl) (ulC (ulC ulN)) (by decide) ?_
  refine GH.take 1 (v := (.int .i64 2)) rfl (by kernel_rfl) (by kernel_rfl) (by kernel_rfl) (fun _ _ _ h => h) (Ex.move rfl) (ulC (ulC ulN)) (by decide) ?_
  refine GH.take 2 (v := (.pointer (some ⟨c0, 2, none⟩))) rfl (by kernel_rfl) (by kernel_rfl) (by kernel_rfl) (fun _ _ _ h => h) (Ex.cast (Ex.indexAddr rfl rfl Try.underlying28 T.sz3 (by omega) (by omega)) rfl) (ulC (ulC ulN)) (by decide) ?_
  refine GH.take 3 (v := (.int .i64 1)) rfl (by kernel_rfl) (by kernel_rfl) (by kernel_rfl) (fun _ _ _ h => h) (Ex.load rfl T.ag3 (i := 0) rfl rfl) (ulC (ulC ulN)) (by decide) ?_
  refine GH.take 4 (v := (.slice (some ⟨c1, 0, none⟩) 3 3)) rfl (by kernel_rfl) (by kernel_rfl) (by kernel_rfl) (fun _ _ _ h => h) (Ex.move rfl) (ulC (ulC ulN)) (by decide) ?_
  refine GH.take 5 (v := (.int .i64 2)) rfl (by kernel_rfl) (by kernel_rfl) (by kernel_rfl) (fun _ _ _ h => h) (Ex.move rfl) (ulC (ulC ulN)) (by decide) ?_
  refine GH.take 6 (v := (.pointer (some ⟨c1, 2, none⟩))) rfl (by kernel_rfl) (by kernel_rfl) (by kernel_rfl) (fun _ _ _ h => h) (Ex.cast (Ex.indexAddr rfl rfl Try.underlying28 T.sz3 (by omega) (by omega)) rfl) (ulC (ulC ulN)) (by decide) ?_
  refine GH.take 7 (v := (.int .i64 1)) rfl (by kernel_rfl) (by kernel_rfl) (by kernel_rfl) (fun _ _ _ h => h) (Ex.load rfl T.ag3 (i := 1) rfl rfl) (ulC (ulC ulN)) (by decide) ?_
  refine GH.take 8 (v := (.bool false)) rfl (by kernel_rfl) (by kernel_rfl) (by kernel_rfl) (fun _ _ _ h => h) (Ex.cast (Ex.neq rfl rfl) rfl) (ulC (ulC ulN)) (by decide) ?_
  refine GH.done (by kernel_rfl) ?_
  refine GE.thenN ?_
  refine GC.cond rfl (fun hq7 => by cases hq7) (fun _ => ?_)
  refine GC.skip ?_
  refine GE.blockN ?_
  refine GE.thenN ?_
  refine GC.region ?_
  refine GL.val (Ex.move rfl) (by decide) ?_
  refine GL.val (v := (.int .i64 3)) (Ex.add rfl rfl (Z := 3) (by decide)) (by decide) ?_
  refine GL.val (Ex.assign rfl) (by decide) ?_
  refine GL.nil ?_
  refine GE.thenN ?_
  refine GE.round ?_
  refine GC.seq ?_
  refine GC.seq ?_
  refine GC.region ?_
  refine GL.val (Ex.move rfl) (by decide) ?_
  refine GL.val (Ex.move rfl) (by decide) ?_
  refine GL.val (v := (.int .i64 3)) (Ex.len rfl Try.underlying28) (by decide) ?_
  refine GL.val (v := (.bool false)) (Ex.cast (Ex.lss rfl rfl) rfl) (by decide) ?_
  refine GL.nil ?_
  refine GE.thenN ?_
  refine GC.cond rfl (fun hq8 => by cases hq8) (fun _ => ?_)
  refine GC.exit ?_
  refine GE.thenE ?_
  refine GE.thenE ?_
  refine GE.blockE ?_
  refine GE.thenN ?_
  refine GC.seq ?_
  refine GC.region ?_
  refine GL.val (Ex.assign rfl) (by decide) ?_
  refine GL.nil ?_
  refine GE.thenN ?_
  refine GC.ret ?_
  refine GC.ret1 rfl (Rv.tmp rfl) (fun wN HN => ?_)
  exact HN.ret () trivial rfl (ulS (ulS ulN)) rfl

set_option maxRecDepth 100000 in
set_option maxHeartbeats 1000000 in
theorem k38_76 (c0 : Nat) (w : World) (hh : Has w [⟨c0, [(.int .u32 0), (.int .u32 1048576000), (.int .u32 1056964608), (.int .u32 1048576000), (.int .u32 0)], 63, false⟩]) :
    Calls Try.prog 38 #[(.slice (some ⟨c0, 0, none⟩) 5 5)] w (Ret w (fun _ : Unit => True) (fun rz => (.agg #[(.int .i64 5), (.int .i64 1), (.slice (some ⟨c0, 0, none⟩) 5 5)])) (fun rz => [])) := by
  refine enter (M := None) (L := [⟨c0, [(.int .u32 0), (.int .u32 1048576000), (.int .u32 1056964608), (.int .u32 1048576000), (.int .u32 0)], 63, false⟩]) (n := 7) (l := [(0, (.slice (some ⟨c0, 0, none⟩) 5 5))]) Try.func38 rfl rfl (Args.cons rfl (Args.nil _)) (Hp.reads hh rfl) ?_
  refine GC.seq ?_
  refine GC.region ?_
  refine GL.step (Stp.alloc T.zr43 (by decide)) (fun bq1 _ => ?_)
  refine GL.nil ?_
  refine GE.thenN ?_
  refine GC.seq ?_
  refine GC.region ?_
  refine GL.val (Ex.move rfl) (by decide) ?_
  refine GL.val (v := (.int .i64 5)) (Ex.len rfl Try.underlying41) (by decide) ?_
  refine GL.val (Ex.move rfl) (by decide) ?_
  refine GL.val (v := (.agg #[(.int .i64 5), (.int .i64 1), (.slice (some ⟨c0, 0, none⟩) 5 5)])) (Ex.build (vs := [(0, (.int .i64 5)), (1, (.int .i64 1)), (2, (.slice (some ⟨c0, 0, none⟩) 5 5))]) rfl (by first | rfl | kernel_rfl)) (by decide) ?_
  refine GL.step (Stp.st0 (cs' := [(.int .i64 5), (.int .i64 1), (.slice (some ⟨c0, 0, none⟩) 5 5)]) rfl rfl rfl T.sz43 rfl rfl rfl) (fun _ _ => ?_)
  refine GL.nil ?_
  refine GE.thenN ?_
  refine GC.ret ?_
  refine GC.ret1 rfl (Rv.cellA rfl T.ag43 T.sz43 (L := _) (i := 0) rfl (vs := [(.int .i64 5), (.int .i64 1), (.slice (some ⟨c0, 0, none⟩) 5 5)]) rfl rfl) (fun wN HN => ?_)
  exact HN.ret () trivial rfl (ulS (ulS ulN)) rfl

set_option maxRecDepth 100000 in
set_option maxHeartbeats 1000000 in
theorem k50_78 (c0 : Nat) (c1 : Nat) (w : World) (hh : Has w [⟨c0, [(.int .u32 0), (.int .u32 1048576000), (.int .u32 1056964608), (.int .u32 1048576000), (.int .u32 0)], 63, false⟩, ⟨c1, [(.int .u32 0), (.int .u32 1048576000), (.int .u32 1056964608), (.int .u32 1048576000), (.int .u32 0)], 63, false⟩]) :
    Calls Try.prog 50 #[(.slice (some ⟨c0, 0, none⟩) 5 5), (.slice (some ⟨c1, 0, none⟩) 5 5)] w (Ret w (fun _ : Unit => True) (fun rz => (.bool true)) (fun rz => [])) := by
  refine enter (M := None) (L := [⟨c0, [(.int .u32 0), (.int .u32 1048576000), (.int .u32 1056964608), (.int .u32 1048576000), (.int .u32 0)], 63, false⟩, ⟨c1, [(.int .u32 0), (.int .u32 1048576000), (.int .u32 1056964608), (.int .u32 1048576000), (.int .u32 0)], 63, false⟩]) (n := 26) (l := [(0, (.slice (some ⟨c0, 0, none⟩) 5 5)), (1, (.slice (some ⟨c1, 0, none⟩) 5 5))]) Try.func50 rfl rfl (Args.cons rfl (Args.cons rfl (Args.nil _))) (Hp.reads hh rfl) ?_
  refine GC.seq ?_
  refine GC.region ?_
  refine GL.val (Ex.assign rfl) (by decide) ?_
  refine GL.nil ?_
  refine GE.thenN ?_
  refine GC.seq ?_
  refine GC.seq ?_
  refine GC.region ?_
  refine GL.val (Ex.move rfl) (by decide) ?_
  refine GL.val (v := (.int .i64 5)) (Ex.len rfl Try.underlying41) (by decide) ?_
  refine GL.val (Ex.move rfl) (by decide) ?_
  refine GL.val (v := (.int .i64 5)) (Ex.len rfl Try.underlying41) (by decide) ?_
  refine GL.val (v := (.bool false)) (Ex.cast (Ex.neq rfl rfl) rfl) (by decide) ?_
  refine GL.nil ?_
  refine GE.thenN ?_
  refine GC.cond rfl (fun hq1 => by cases hq1) (fun _ => ?_)
  refine GC.skip ?_
  refine GE.thenN ?_
  refine GC.seq ?_
  refine GC.seq ?_
  refine GC.region ?_
  refine GL.val (Ex.assign rfl) (by decide) ?_
  refine GL.nil ?_
  refine GE.thenN ?_
  refine GC.block ?_
  refine GC.unroll 60 ?_
  refine GE.round ?_
  refine GC.seq ?_
  refine GC.seq ?_
  refine GC.region ?_
  refine GL.val (Ex.move rfl) (by decide) ?_
  refine GL.val (Ex.move rfl) (by decide) ?_
  refine GL.val (v := (.int .i64 5)) (Ex.len rfl Try.underlying41) (by decide) ?_
  refine GL.val (v := (.bool true)) (Ex.cast (Ex.lss rfl rfl) rfl) (by decide) ?_
  refine GL.nil ?_
  refine GE.thenN ?_
  refine GC.cond rfl (fun _ => ?_) (fun hq2 => by cases hq2)
  refine GC.skip ?_
  refine GE.thenN ?_
  refine GC.seq ?_
  refine GC.block ?_
  refine GC.seq ?_
  refine GC.draw [⟨c0, [(.int .u32 0), (.int .u32 1048576000), (.int .u32 1056964608), (.int .u32 1048576000), (.int .u32 0)], 63, false⟩, ⟨c1, [(.int .u32 0), (.int .u32 1048576000), (.int .u32 1056964608), (.int .u32 1048576000), (.int .u32 0)], 63, false⟩] T.mixed (fuel := 9) rfl rfl ?_
  refine GH.take 0 (v := (.slice (some ⟨c0, 0, none⟩) 5 5)) rfl (by kernel_rfl) (by kernel_rfl) (by kernel_rfl) (fun _ _ _ h => h) (Ex.move rfl) (ulC (ulC ulN)) (by decide) ?_
  refine GH.take 1 (v := (.int .i64 0)) rfl (by kernel_rfl) (by kernel_rfl) (by kernel_rfl) (fun _ _ _ h => h) (Ex.move rfl) (ulC (ulC ulN)) (by decide) ?_
  refine GH.take 2 (v := (.pointer (some ⟨c0, 0, none⟩))) rfl (by kernel_rfl) (by kernel_rfl) (by kernel_rfl) (fun _ _ _ h => h) (Ex.cast (Ex.indexAddr rfl rfl Try.underlying41 T.sz63 (by omega) (by omega)) rfl) (ulC (ulC ulN)) (by decide) ?_
  refine GH.take 3 (v := (.int .u32 0)) rfl (by kernel_rfl) (by kernel_rfl) (by kernel_rfl) (fun _ _ _ h => h) (Ex.load rfl T.ag63 (i := 0) rfl rfl) (ulC (ulC ulN)) (by decide) ?_
  refine GH.take 4 (v := (.slice (some ⟨c1, 0, none⟩) 5 5)) rfl (by kernel_rfl) (by kernel_rfl) (by kernel_rfl) (fun _ _ _ h => h) (Ex.move rfl) (ulC (ulC ulN)) (by decide) ?_
  refine GH.take 5 (v := (.int .i64 0)) rfl (by kernel_rfl) (by kernel_rfl) (by kernel_rfl) (fun _ _ _ h => h) (Ex.move rfl) (ulC (ulC ulN)) (by decide) ?_
  refine GH.take 6 (v := (.pointer (some ⟨c1, 0, none⟩))) rfl (by kernel_rfl) (by kernel_rfl) (by kernel_rfl) (fun _ _ _ h => h) (Ex.cast (Ex.indexAddr rfl rfl Try.underlying41 T.sz63 (by omega) (by omega)) rfl) (ulC (ulC ulN)) (by decide) ?_
  refine GH.take 7 (v := (.int .u32 0)) rfl (by kernel_rfl) (by kernel_rfl) (by kernel_rfl) (fun _ _ _ h => h) (Ex.load rfl T.ag63 (i := 1) rfl rfl) (ulC (ulC ulN)) (by decide) ?_
  refine GH.take 8 (v := (.bool false)) rfl (by kernel_rfl) (by kernel_rfl) (by kernel_rfl) (fun _ _ _ h => h) (Ex.cast (Ex.neq rfl rfl) rfl) (ulC (ulC ulN)) (by decide) ?_
  refine GH.done (by kernel_rfl) ?_
  refine GE.thenN ?_
  refine GC.cond rfl (fun hq3 => by cases hq3) (fun _ => ?_)
  refine GC.skip ?_
  refine GE.blockN ?_
  refine GE.thenN ?_
  refine GC.region ?_
  refine GL.val (Ex.move rfl) (by decide) ?_
  refine GL.val (v := (.int .i64 1)) (Ex.add rfl rfl (Z := 1) (by decide)) (by decide) ?_
  refine GL.val (Ex.assign rfl) (by decide) ?_
  refine GL.nil ?_
  refine GE.thenN ?_
  refine GE.round ?_
  refine GC.seq ?_
  refine GC.seq ?_
  refine GC.region ?_
  refine GL.val (Ex.move rfl) (by decide) ?_
  refine GL.val (Ex.move rfl) (by decide) ?_
  refine GL.val (v := (.int .i64 5)) (Ex.len rfl Try.underlying41) (by decide) ?_
  refine GL.val (v := (.bool true)) (Ex.cast (Ex.lss rfl rfl) rfl) (by decide) ?_
  refine GL.nil ?_
  refine GE.thenN ?_
  refine GC.cond rfl (fun _ => ?_) (fun hq4 => by cases hq4)
  refine GC.skip ?_
  refine GE.thenN ?_
  refine GC.seq ?_
  refine GC.block ?_
  refine GC.seq ?_
  refine GC.draw [⟨c0, [(.int .u32 0), (.int .u32 1048576000), (.int .u32 1056964608), (.int .u32 1048576000), (.int .u32 0)], 63, false⟩, ⟨c1, [(.int .u32 0), (.int .u32 1048576000), (.int .u32 1056964608), (.int .u32 1048576000), (.int .u32 0)], 63, false⟩] T.mixed (fuel := 9) rfl rfl ?_
  refine GH.take 0 (v := (.slice (some ⟨c0, 0, none⟩) 5 5)) rfl (by kernel_rfl) (by kernel_rfl) (by kernel_rfl) (fun _ _ _ h => h) (Ex.move rfl) (ulC (ulC ulN)) (by decide) ?_
  refine GH.take 1 (v := (.int .i64 1)) rfl (by kernel_rfl) (by kernel_rfl) (by kernel_rfl) (fun _ _ _ h => h) (Ex.move rfl) (ulC (ulC ulN)) (by decide) ?_
  refine GH.take 2 (v := (.pointer (some ⟨c0, 1, none⟩))) rfl (by kernel_rfl) (by kernel_rfl) (by kernel_rfl) (fun _ _ _ h => h) (Ex.cast (Ex.indexAddr rfl rfl Try.underlying41 T.sz63 (by omega) (by omega)) rfl) (ulC (ulC ulN)) (by decide) ?_
  refine GH.take 3 (v := (.int .u32 1048576000)) rfl (by kernel_rfl) (by kernel_rfl) (by kernel_rfl) (fun _ _ _ h => h) (Ex.load rfl T.ag63 (i := 0) rfl rfl) (ulC (ulC ulN)) (by decide) ?_
  refine GH.take 4 (v := (.slice (some ⟨c1, 0, none⟩) 5 5)) rfl (by kernel_rfl) (by kernel_rfl) (by kernel_rfl) (fun _ _ _ h => h) (Ex.move rfl) (ulC (ulC ulN)) (by decide) ?_
  refine GH.take 5 (v := (.int .i64 1)) rfl (by kernel_rfl) (by kernel_rfl) (by kernel_rfl) (fun _ _ _ h => h) (Ex.move rfl) (ulC (ulC ulN)) (by decide) ?_
  refine GH.take 6 (v := (.pointer (some ⟨c1, 1, none⟩))) rfl (by kernel_rfl) (by kernel_rfl) (by kernel_rfl) (fun _ _ _ h => h) (Ex.cast (Ex.indexAddr rfl rfl Try.underlying41 T.sz63 (by omega) (by omega)) rfl) (ulC (ulC ulN)) (by decide) ?_
  refine GH.take 7 (v := (.int .u32 1048576000)) rfl (by kernel_rfl) (by kernel_rfl) (by kernel_rfl) (fun _ _ _ h => h) (Ex.load rfl T.ag63 (i := 1) rfl rfl) (ulC (ulC ulN)) (by decide) ?_
  refine GH.take 8 (v := (.bool false)) rfl (by kernel_rfl) (by kernel_rfl) (by kernel_rfl) (fun _ _ _ h => h) (Ex.cast (Ex.neq rfl rfl) rfl) (ulC (ulC ulN)) (by decide) ?_
  refine GH.done (by kernel_rfl) ?_
  refine GE.thenN ?_
  refine GC.cond rfl (fun hq5 => by cases hq5) (fun _ => ?_)
  refine GC.skip ?_
  refine GE.blockN ?_
  refine GE.thenN ?_
  refine GC.region ?_
  refine GL.val (Ex.move rfl) (by decide) ?_
  refine GL.val (v := (.int .i64 2)) (Ex.add rfl rfl (Z := 2) (by decide)) (by decide) ?_
  refine GL.val (Ex.assign rfl) (by decide) ?_
  refine GL.nil ?_
  refine GE.thenN ?_
  refine GE.round ?_
  refine GC.seq ?_
  refine GC.seq ?_
  refine GC.region ?_
  refine GL.val (Ex.move rfl) (by decide) ?_
  refine GL.val (Ex.move rfl) (by decide) ?_
  refine GL.val (v := (.int .i64 5)) (Ex.len rfl Try.underlying41) (by decide) ?_
  refine GL.val (v := (.bool true)) (Ex.cast (Ex.lss rfl rfl) rfl) (by decide) ?_
  refine GL.nil ?_
  refine GE.thenN ?_
  refine GC.cond rfl (fun _ => ?_) (fun hq6 => by cases hq6)
  refine GC.skip ?_
  refine GE.thenN ?_
  refine GC.seq ?_
  refine GC.block ?_
  refine GC.seq ?_
  refine GC.draw [⟨c0, [(.int .u32 0), (.int .u32 1048576000), (.int .u32 1056964608), (.int .u32 1048576000), (.int .u32 0)], 63, false⟩, ⟨c1, [(.int .u32 0), (.int .u32 1048576000), (.int .u32 1056964608), (.int .u32 1048576000), (.int .u32 0)], 63, false⟩] T.mixed (fuel := 9) rfl rfl ?_
  refine GH.take 0 (v := (.slice (some ⟨c0, 0, none⟩) 5 5)) rfl (by kernel_rfl) (by kernel_rfl) (by kernel_rfl) (fun _ _ _ h => h) (Ex.move rfl) (ulC (ulC ulN)) (by decide) ?_
  refine GH.take 1 (v := (.int .i64 2)) rfl (by kernel_rfl) (by kernel_rfl) (by kernel_rfl) (fun _ _ _ h => h) (Ex.move rfl) (ulC (ulC ulN)) (by decide) ?_
  refine GH.take 2 (v := (.pointer (some ⟨c0, 2, none⟩))) rfl (by kernel_rfl) (by kernel_rfl) (by kernel_rfl) (fun _ _ _ h => h) (Ex.cast (Ex.indexAddr rfl rfl Try.underlying41 T.sz63 (by omega) (by omega)) rfl) (ulC (ulC ulN)) (by decide) ?_
  refine GH.take 3 (v := (.int .u32 1056964608)) rfl (by kernel_rfl) (by kernel_rfl) (by kernel_rfl) (fun _ _ _ h => h) (Ex.load rfl T.ag63 (i := 0) rfl rfl) (ulC (ulC ulN)) (by decide) ?_
  refine GH.take 4 (v := (.slice (some ⟨c1, 0, none⟩) 5 5)) rfl (by kernel_rfl) (by kernel_rfl) (by kernel_rfl) (fun _ _ _ h => h) (Ex.move rfl) (ulC (ulC ulN)) (by decide) ?_
  refine GH.take 5 (v := (.int .i64 2)) rfl (by kernel_rfl) (by kernel_rfl) (by kernel_rfl) (fun _ _ _ h => h) (Ex.move rfl) (ulC (ulC ulN)) (by decide) ?_
  refine GH.take 6 (v := (.pointer (some ⟨c1, 2, none⟩))) rfl (by kernel_rfl) (by kernel_rfl) (by kernel_rfl) (fun _ _ _ h => h) (Ex.cast (Ex.indexAddr rfl rfl Try.underlying41 T.sz63 (by omega) (by omega)) rfl) (ulC (ulC ulN)) (by decide) ?_
  refine GH.take 7 (v := (.int .u32 1056964608)) rfl (by kernel_rfl) (by kernel_rfl) (by kernel_rfl) (fun _ _ _ h => h) (Ex.load rfl T.ag63 (i := 1) rfl rfl) (ulC (ulC ulN)) (by decide) ?_
  refine GH.take 8 (v := (.bool false)) rfl (by kernel_rfl) (by kernel_rfl) (by kernel_rfl) (fun _ _ _ h => h) (Ex.cast (Ex.neq rfl rfl) rfl) (ulC (ulC ulN)) (by decide) ?_
  refine GH.done (by kernel_rfl) ?_
  refine GE.thenN ?_
  refine GC.cond rfl (fun hq7 => by cases hq7) (fun _ => ?_)
  refine GC.skip ?_
  refine GE.blockN ?_
  refine GE.thenN ?_
  refine GC.region ?_
  refine GL.val (Ex.move rfl) (by decide) ?_
  refine GL.val (v := (.int .i64 3)) (Ex.add rfl rfl (Z := 3) (by decide)) (by decide) ?_
  refine GL.val (Ex.assign rfl) (by decide) ?_
  refine GL.nil ?_
  refine GE.thenN ?_
  refine GE.round ?_
  refine GC.seq ?_
  refine GC.seq ?_
  refine GC.region ?_
  refine GL.val (Ex.move rfl) (by decide) ?_
  refine GL.val (Ex.move rfl) (by decide) ?_
  refine GL.val (v := (.int .i64 5)) (Ex.len rfl Try.underlying41) (by decide) ?_
  refine GL.val (v := (.bool true)) (Ex.cast (Ex.lss rfl rfl) rfl) (by decide) ?_
  refine GL.nil ?_
  refine GE.thenN ?_
  refine GC.cond rfl (fun _ => ?_) (fun hq8 => by cases hq8)
  refine GC.skip ?_
  refine GE.thenN ?_
  refine GC.seq ?_
  refine GC.block ?_
  refine GC.seq ?_
  refine GC.draw [⟨c0, [(.int .u32 0), (.int .u32 1048576000), (.int .u32 1056964608), (.int .u32 1048576000), (.int .u32 0)], 63, false⟩, ⟨c1, [(.int .u32 0), (.int .u32 1048576000), (.int .u32 1056964608), (.int .u32 1048576000), (.int .u32 0)], 63, false⟩] T.mixed (fuel := 9) rfl rfl ?_
  refine GH.take 0 (v := (.slice (some ⟨c0, 0, none⟩) 5 5)) rfl (by kernel_rfl) (by kernel_rfl) (by kernel_rfl) (fun _ _ _ h => h) (Ex.move rfl) (ulC (ulC ulN)) (by decide) ?_
  refine GH.take 1 (v := (.int .i64 3)) rfl (by kernel_rfl) (by kernel_rfl) (by kernel_rfl) (fun _ _ _ h => h) (Ex.move rfl) (ulC (ulC ulN)) (by decide) ?_
  refine GH.take 2 (v := (.pointer (some ⟨c0, 3, none⟩))) rfl (by kernel_rfl) (by kernel_rfl) (by kernel_rfl) (fun _ _ _ h => h) (Ex.cast (Ex.indexAddr rfl rfl Try.underlying41 T.sz63 (by omega) (by omega)) rfl) (ulC (ulC ulN)) (by decide) ?_
  refine GH.take 3 (v := (.int .u32 1048576000)) rfl (by kernel_rfl) (by kernel_rfl) (by kernel_rfl) (fun _ _ _ h => h) (Ex.load rfl T.ag63 (i := 0) rfl rfl) (ulC (ulC ulN)) (by decide) ?_
  refine GH.take 4 (v := (.slice (some ⟨c1, 0, none⟩) 5 5)) rfl (by kernel_rfl) (by kernel_rfl) (by kernel_rfl) (fun _ _ _ h => h) (Ex.move rfl) (ulC (ulC ulN)) (by decide) ?_
  refine GH.take 5 (v := (.int .i64 3)) rfl (by kernel_rfl) (by kernel_rfl) (by kernel_rfl) (fun _ _ _ h => h) (Ex.move rfl) (ulC (ulC ulN)) (by decide) ?_
  refine GH.take 6 (v := (.pointer (some ⟨c1, 3, none⟩))) rfl (by kernel_rfl) (by kernel_rfl) (by kernel_rfl) (fun _ _ _ h => h) (Ex.cast (Ex.indexAddr rfl rfl Try.underlying41 T.sz63 (by omega) (by omega)) rfl) (ulC (ulC ulN)) (by decide) ?_
  refine GH.take 7 (v := (.int .u32 1048576000)) rfl (by kernel_rfl) (by kernel_rfl) (by kernel_rfl) (fun _ _ _ h => h) (Ex.load rfl T.ag63 (i := 1) rfl rfl) (ulC (ulC ulN)) (by decide) ?_
  refine GH.take 8 (v := (.bool false)) rfl (by kernel_rfl) (by kernel_rfl) (by kernel_rfl) (fun _ _ _ h => h) (Ex.cast (Ex.neq rfl rfl) rfl) (ulC (ulC ulN)) (by decide) ?_
  refine GH.done (by kernel_rfl) ?_
  refine GE.thenN ?_
  refine GC.cond rfl (fun hq9 => by cases hq9) (fun _ => ?_)
  refine GC.skip ?_
  refine GE.blockN ?_
  refine GE.thenN ?_
  refine GC.region ?_
  refine GL.val (Ex.move rfl) (by decide) ?_
  refine GL.val (v := (.int .i64 4)) (Ex.add rfl rfl (Z := 4) (by decide)) (by decide) ?_
  refine GL.val (Ex.assign rfl) (by decide) ?_
  refine GL.nil ?_
  refine GE.thenN ?_
  refine GE.round ?_
  refine GC.seq ?_
  refine GC.seq ?_
  refine GC.region ?_
  refine GL.val (Ex.move rfl) (by decide) ?_
  refine GL.val (Ex.move rfl) (by decide) ?_
  refine GL.val (v := (.int .i64 5)) (Ex.len rfl Try.underlying41) (by decide) ?_
  refine GL.val (v := (.bool true)) (Ex.cast (Ex.lss rfl rfl) rfl) (by decide) ?_
  refine GL.nil ?_
  refine GE.thenN ?_
  refine GC.cond rfl (fun _ => ?_) (fun hq10 => by cases hq10)
  refine GC.skip ?_
  refine GE.thenN ?_
  refine GC.seq ?_
  refine GC.block ?_
  refine GC.seq ?_
  refine GC.draw [⟨c0, [(.int .u32 0), (.int .u32 1048576000), (.int .u32 1056964608), (.int .u32 1048576000), (.int .u32 0)], 63, false⟩, ⟨c1, [(.int .u32 0), (.int .u32 1048576000), (.int .u32 1056964608), (.int .u32 1048576000), (.int .u32 0)], 63, false⟩] T.mixed (fuel := 9) rfl rfl ?_
  refine GH.take 0 (v := (.slice (some ⟨c0, 0, none⟩) 5 5)) rfl (by kernel_rfl) (by kernel_rfl) (by kernel_rfl) (fun _ _ _ h => h) (Ex.move rfl) (ulC (ulC ulN)) (by decide) ?_
  refine GH.take 1 (v := (.int .i64 4)) rfl (by kernel_rfl) (by kernel_rfl) (by kernel_rfl) (fun _ _ _ h => h) (Ex.move rfl) (ulC (ulC ulN)) (by decide) ?_
  refine GH.take 2 (v := (.pointer (some ⟨c0, 4, none⟩))) rfl (by kernel_rfl) (by kernel_rfl) (by kernel_rfl) (fun _ _ _ h => h) (Ex.cast (Ex.indexAddr rfl rfl Try.underlying41 T.sz63 (by omega) (by omega)) rfl) (ulC (ulC ulN)) (by decide) ?_
  refine GH.take 3 (v := (.int .u32 0)) rfl (by kernel_rfl) (by kernel_rfl) (by kernel_rfl) (fun _ _ _ h => h) (Ex.load rfl T.ag63 (i := 0) rfl rfl) (ulC (ulC ulN)) (by decide) ?_
  refine GH.take 4 (v := (.slice (some ⟨c1, 0, none⟩) 5 5)) rfl (by kernel_rfl) (by kernel_rfl) (by kernel_rfl) (fun _ _ _ h => h) (Ex.move rfl) (ulC (ulC ulN)) (by decide) ?_
  refine GH.take 5 (v := (.int .i64 4)) rfl (by kernel_rfl) (by kernel_rfl) (by kernel_rfl) (fun _ _ _ h => h) (Ex.move rfl) (ulC (ulC ulN)) (by decide) ?_
  refine GH.take 6 (v := (.pointer (some ⟨c1, 4, none⟩))) rfl (by kernel_rfl) (by kernel_rfl) (by kernel_rfl) (fun _ _ _ h => h) (Ex.cast (Ex.indexAddr rfl rfl Try.underlying41 T.sz63 (by omega) (by omega)) rfl) (ulC (ulC ulN)) (by decide) ?_
  refine GH.take 7 (v := (.int .u32 0)) rfl (by kernel_rfl) (by kernel_rfl) (by kernel_rfl) (fun _ _ _ h => h) (Ex.load rfl T.ag63 (i := 1) rfl rfl) (ulC (ulC ulN)) (by decide) ?_
  refine GH.take 8 (v := (.bool false)) rfl (by kernel_rfl) (by kernel_rfl) (by kernel_rfl) (fun _ _ _ h => h) (Ex.cast (Ex.neq rfl rfl) rfl) (ulC (ulC ulN)) (by decide) ?_
  refine GH.done (by kernel_rfl) ?_
  refine GE.thenN ?_
  refine GC.cond rfl (fun hq11 => by cases hq11) (fun _ => ?_)
  refine GC.skip ?_
  refine GE.blockN ?_
  refine GE.thenN ?_
  refine GC.region ?_
  refine GL.val (Ex.move rfl) (by decide) ?_
  refine GL.val (v := (.int .i64 5)) (Ex.add rfl rfl (Z := 5) (by decide)) (by decide) ?_
  refine GL.val (Ex.assign rfl) (by decide) ?_
  refine GL.nil ?_
  refine GE.thenN ?_
  refine GE.round ?_
  refine GC.seq ?_
  refine GC.seq ?_
  refine GC.region ?_
  refine GL.val (Ex.move rfl) (by decide) ?_
  refine GL.val (Ex.move rfl) (by decide) ?_
  refine GL.val (v := (.int .i64 5)) (Ex.len rfl Try.underlying41) (by decide) ?_
  refine GL.val (v := (.bool false)) (Ex.cast (Ex.lss rfl rfl) rfl) (by decide) ?_
  refine GL.nil ?_
  refine GE.thenN ?_
  refine GC.cond rfl (fun hq12 => by cases hq12) (fun _ => ?_)
  refine GC.exit ?_
  refine GE.thenE ?_
  refine GE.thenE ?_
  refine GE.blockE ?_
  refine GE.thenN ?_
  refine GC.seq ?_
  refine GC.region ?_
  refine GL.val (Ex.assign rfl) (by decide) ?_
  refine GL.nil ?_
  refine GE.thenN ?_
  refine GC.ret ?_
  refine GC.ret1 rfl (Rv.tmp rfl) (fun wN HN => ?_)
  exact HN.ret () trivial rfl (ulS (ulS ulN)) rfl

set_option maxRecDepth 100000 in
set_option maxHeartbeats 1000000 in
theorem k22_77 (c0 : Nat) (c1 : Nat) (w : World) (hh : Has w [⟨c0, [(.int .u32 0), (.int .u32 1048576000), (.int .u32 1056964608), (.int .u32 1048576000), (.int .u32 0)], 63, false⟩, ⟨c1, [(.int .u32 0), (.int .u32 1048576000), (.int .u32 1056964608), (.int .u32 1048576000), (.int .u32 0)], 63, false⟩]) :
    Calls Try.prog 22 #[(.agg #[(.int .i64 5), (.int .i64 1), (.slice (some ⟨c0, 0, none⟩) 5 5)]), (.agg #[(.int .i64 5), (.int .i64 1), (.slice (some ⟨c1, 0, none⟩) 5 5)])] w (Ret w (fun _ : Unit => True) (fun rz => (.bool true)) (fun rz => [])) := by
  refine enter (M := None) (L := [⟨c0, [(.int .u32 0), (.int .u32 1048576000), (.int .u32 1056964608), (.int .u32 1048576000), (.int .u32 0)], 63, false⟩, ⟨c1, [(.int .u32 0), (.int .u32 1048576000), (.int .u32 1056964608), (.int .u32 1048576000), (.int .u32 0)], 63, false⟩]) (n := 24) (l := [(0, (.agg #[(.int .i64 5), (.int .i64 1), (.slice (some ⟨c0, 0, none⟩) 5 5)])), (1, (.agg #[(.int .i64 5), (.int .i64 1), (.slice (some ⟨c1, 0, none⟩) 5 5)]))]) Try.func22 rfl rfl (Args.cons rfl (Args.cons rfl (Args.nil _))) (Hp.reads hh rfl) ?_
  refine GC.seq ?_
  refine GC.region ?_
  refine GL.step (Stp.box (cs := [(.int .i64 5), (.int .i64 1), (.slice (some ⟨c0, 0, none⟩) 5 5)]) rfl rfl (by decide)) (fun bq1 _ => ?_)
  refine GL.step (Stp.box (cs := [(.int .i64 5), (.int .i64 1), (.slice (some ⟨c1, 0, none⟩) 5 5)]) rfl rfl (by decide)) (fun bq2 _ => ?_)
  refine GL.val (Ex.assign rfl) (by decide) ?_
  refine GL.nil ?_
  refine GE.thenN ?_
  refine GC.seq ?_
  refine GC.region ?_
  refine GL.val (v := (.pointer (some ⟨bq1, 0, none⟩))) (Ex.cast (Ex.fieldAddr rfl Try.underlying43 rfl T.sz3 (by decide)) rfl) (by decide) ?_
  refine GL.val (Ex.load rfl T.ag3 (i := 1) rfl rfl) (by decide) ?_
  refine GL.val (v := (.pointer (some ⟨bq2, 0, none⟩))) (Ex.cast (Ex.fieldAddr rfl Try.underlying43 rfl T.sz3 (by decide)) rfl) (by decide) ?_
  refine GL.val (Ex.load rfl T.ag3 (i := 0) rfl rfl) (by decide) ?_
  refine GL.val (v := (.bool true)) (Ex.cast (Ex.eql rfl rfl) rfl) (by decide) ?_
  refine GL.val (Ex.move rfl) (by decide) ?_
  refine GL.stepG (tj := 10) rfl rfl (Ex.wp (v := (.pointer (some ⟨bq1, 1, none⟩))) (Ex.cast (Ex.fieldAddr rfl Try.underlying43 rfl T.sz3 (by decide)) rfl) (by decide)) (fun _ _ => ?_)
  refine GL.stepG (tj := 10) rfl rfl (Ex.wp (v := (.int .i64 1)) (Ex.load rfl T.ag3 (i := 1) rfl rfl) (by decide)) (fun _ _ => ?_)
  refine GL.stepG (tj := 10) rfl rfl (Ex.wp (v := (.pointer (some ⟨bq2, 1, none⟩))) (Ex.cast (Ex.fieldAddr rfl Try.underlying43 rfl T.sz3 (by decide)) rfl) (by decide)) (fun _ _ => ?_)
  refine GL.stepG (tj := 10) rfl rfl (Ex.wp (v := (.int .i64 1)) (Ex.load rfl T.ag3 (i := 0) rfl rfl) (by decide)) (fun _ _ => ?_)
  refine GL.stepG (tj := 10) rfl rfl (Ex.wp (v := (.bool true)) (Ex.cast (Ex.eql rfl rfl) rfl) (by decide)) (fun _ _ => ?_)
  refine GL.val (v := (.bool true)) (Ex.pickT rfl rfl) (by decide) ?_
  refine GL.val (Ex.move rfl) (by decide) ?_
  refine GL.stepG (tj := 17) rfl rfl (Ex.wp (v := (.pointer (some ⟨bq1, 2, none⟩))) (Ex.cast (Ex.fieldAddr rfl Try.underlying43 rfl T.sz41 (by decide)) rfl) (by decide)) (fun _ _ => ?_)
  refine GL.stepG (tj := 17) rfl rfl (Ex.wp (v := (.slice (some ⟨c0, 0, none⟩) 5 5)) (Ex.load rfl T.ag41 (i := 1) rfl rfl) (by decide)) (fun _ _ => ?_)
  refine GL.stepG (tj := 17) rfl rfl (Ex.wp (v := (.pointer (some ⟨bq2, 2, none⟩))) (Ex.cast (Ex.fieldAddr rfl Try.underlying43 rfl T.sz41 (by decide)) rfl) (by decide)) (fun _ _ => ?_)
  refine GL.stepG (tj := 17) rfl rfl (Ex.wp (v := (.slice (some ⟨c1, 0, none⟩) 5 5)) (Ex.load rfl T.ag41 (i := 0) rfl rfl) (by decide)) (fun _ _ => ?_)
  refine GL.stepG (tj := 17) rfl rfl (Stp.callR (vs := [(.slice (some ⟨c0, 0, none⟩) 5 5), (.slice (some ⟨c1, 0, none⟩) 5 5)]) rfl rfl T.own50 (by decide) (fun wc hw => k50_78 c0 c1 wc (Has.cons (hw.hasOf (i := 2) rfl) (Has.cons (hw.hasOf (i := 3) rfl) (Has.nil _))))) (fun xq3 hq4 => ?_)
  refine GL.val (v := (.bool true)) (Ex.pickT rfl rfl) (by decide) ?_
  refine GL.val (Ex.assign rfl) (by decide) ?_
  refine GL.nil ?_
  refine GE.thenN ?_
  refine GC.ret ?_
  refine GC.ret1 rfl (Rv.tmp rfl) (fun wN HN => ?_)
  exact HN.ret () trivial rfl (ulS (ulS (ulS (ulS ulN)))) rfl

set_option maxRecDepth 100000 in
set_option maxHeartbeats 1000000 in
theorem k38_79 (c0 : Nat) (w : World) (hh : Has w [⟨c0, [(.int .u32 1065353216), (.int .u32 1065353216), (.int .u32 1065353216)], 63, false⟩]) :
    Calls Try.prog 38 #[(.slice (some ⟨c0, 0, none⟩) 3 3)] w (Ret w (fun _ : Unit => True) (fun rz => (.agg #[(.int .i64 3), (.int .i64 1), (.slice (some ⟨c0, 0, none⟩) 3 3)])) (fun rz => [])) := by
  refine enter (M := None) (L := [⟨c0, [(.int .u32 1065353216), (.int .u32 1065353216), (.int .u32 1065353216)], 63, false⟩]) (n := 7) (l := [(0, (.slice (some ⟨c0, 0, none⟩) 3 3))]) Try.func38 rfl rfl (Args.cons rfl (Args.nil _)) (Hp.reads hh rfl) ?_
  refine GC.seq ?_
  refine GC.region ?_
  refine GL.step (Stp.alloc T.zr43 (by decide)) (fun bq1 _ => ?_)
  refine GL.nil ?_
  refine GE.thenN ?_
  refine GC.seq ?_
  refine GC.region ?_
  refine GL.val (Ex.move rfl) (by decide) ?_
  refine GL.val (v := (.int .i64 3)) (Ex.len rfl Try.underlying41) (by decide) ?_
  refine GL.val (Ex.move rfl) (by decide) ?_
  refine GL.val (v := (.agg #[(.int .i64 3), (.int .i64 1), (.slice (some ⟨c0, 0, none⟩) 3 3)])) (Ex.build (vs := [(0, (.int .i64 3)), (1, (.int .i64 1)), (2, (.slice (some ⟨c0, 0, none⟩) 3 3))]) rfl (by first | rfl | kernel_rfl)) (by decide) ?_
  refine GL.step (Stp.st0 (cs' := [(.int .i64 3), (.int .i64 1), (.slice (some ⟨c0, 0, none⟩) 3 3)]) rfl rfl rfl T.sz43 rfl rfl rfl) (fun _ _ => ?_)
  refine GL.nil ?_
  refine GE.thenN ?_
  refine GC.ret ?_
  refine GC.ret1 rfl (Rv.cellA rfl T.ag43 T.sz43 (L := _) (i := 0) rfl (vs := [(.int .i64 3), (.int .i64 1), (.slice (some ⟨c0, 0, none⟩) 3 3)]) rfl rfl) (fun wN HN => ?_)
  exact HN.ret () trivial rfl (ulS (ulS ulN)) rfl

set_option maxRecDepth 100000 in
set_option maxHeartbeats 1000000 in
theorem k50_81 (c0 : Nat) (c1 : Nat) (w : World) (hh : Has w [⟨c0, [(.int .u32 1065353216), (.int .u32 1065353216), (.int .u32 1065353216)], 63, false⟩, ⟨c1, [(.int .u32 1065353216), (.int .u32 1065353216), (.int .u32 1065353216)], 63, false⟩]) :
    Calls Try.prog 50 #[(.slice (some ⟨c0, 0, none⟩) 3 3), (.slice (some ⟨c1, 0, none⟩) 3 3)] w (Ret w (fun _ : Unit => True) (fun rz => (.bool true)) (fun rz => [])) := by
  refine enter (M := None) (L := [⟨c0, [(.int .u32 1065353216), (.int .u32 1065353216), (.int .u32 1065353216)], 63, false⟩, ⟨c1, [(.int .u32 1065353216), (.int .u32 1065353216), (.int .u32 1065353216)], 63, false⟩]) (n := 26) (l := [(0, (.slice (some ⟨c0, 0, none⟩) 3 3)), (1, (.slice (some ⟨c1, 0, none⟩) 3 3))]) Try.func50 rfl rfl (Args.cons rfl (Args.cons rfl (Args.nil _))) (Hp.reads hh rfl) ?_
  refine GC.seq ?_
  refine GC.region ?_
  refine GL.val (Ex.assign rfl) (by decide) ?_
  refine GL.nil ?_
  refine GE.thenN ?_
  refine GC.seq ?_
  refine GC.seq ?_
  refine GC.region ?_
  refine GL.val (Ex.move rfl) (by decide) ?_
  refine GL.val (v := (.int .i64 3)) (Ex.len rfl Try.underlying41) (by decide) ?_
  refine GL.val (Ex.move rfl) (by decide) ?_
  refine GL.val (v := (.int .i64 3)) (Ex.len rfl Try.underlying41) (by decide) ?_
  refine GL.val (v := (.bool false)) (Ex.cast (Ex.neq rfl rfl) rfl) (by decide) ?_
  refine GL.nil ?_
  refine GE.thenN ?_
  refine GC.cond rfl (fun hq1 => by cases hq1) (fun _ => ?_)
  refine GC.skip ?_
  refine GE.thenN ?_
  refine GC.seq ?_
  refine GC.seq ?_
  refine GC.region ?_
  refine GL.val (Ex.assign rfl) (by decide) ?_
  refine GL.nil ?_
  refine GE.thenN ?_
  refine GC.block ?_
  refine GC.unroll 60 ?_
  refine GE.round ?_
  refine GC.seq ?_
  refine GC.seq ?_
  refine GC.region ?_
  refine GL.val (Ex.move rfl) (by decide) ?_
  refine GL.val (Ex.move rfl) (by decide) ?_
  refine GL.val (v := (.int .i64 3)) (Ex.len rfl Try.underlying41) (by decide) ?_
  refine GL.val (v := (.bool true)) (Ex.cast (Ex.lss rfl rfl) rfl) (by decide) ?_
  refine GL.nil ?_
  refine GE.thenN ?_
  refine GC.cond rfl (fun _ => ?_) (fun hq2 => by cases hq2)
  refine GC.skip ?_
  refine GE.thenN ?_
  refine GC.seq ?_
  refine GC.block ?_
  refine GC.seq ?_
  refine GC.draw [⟨c0, [(.int .u32 1065353216), (.int .u32 1065353216), (.int .u32 1065353216)], 63, false⟩, ⟨c1, [(.int .u32 1065353216), (.int .u32 1065353216), (.int .u32 1065353216)], 63, false⟩] T.mixed (fuel := 9) rfl rfl ?_
  refine GH.take 0 (v := (.slice (some ⟨c0, 0, none⟩) 3 3)) rfl (by kernel_rfl) (by kernel_rfl) (by kernel_rfl) (fun _ _ _ h => h) (Ex.move rfl) (ulC (ulC ulN)) (by decide) ?_
  refine GH.take 1 (v := (.int .i64 0)) rfl (by kernel_rfl) (by kernel_rfl) (by kernel_rfl) (fun _ _ _ h => h) (Ex.move rfl) (ulC (ulC ulN)) (by decide) ?_
  refine GH.take 2 (v := (.pointer (some ⟨c0, 0, none⟩))) rfl (by kernel_rfl) (by kernel_rfl) (by kernel_rfl) (fun _ _ _ h => h) (Ex.cast (Ex.indexAddr rfl rfl Try.underlying41 T.sz63 (by omega) (by omega)) rfl) (ulC (ulC ulN)) (by decide) ?_
  refine GH.take 3 (v := (.int .u32 1065353216)) rfl (by kernel_rfl) (by kernel_rfl) (by kernel_rfl) (fun _ _ _ h => h) (Ex.load rfl T.ag63 (i := 0) rfl rfl) (ulC (ulC ulN)) (by decide) ?_
  refine GH.take 4 (v := (.slice (some ⟨c1, 0, none⟩) 3 3)) rfl (by kernel_rfl) (by kernel_rfl) (by kernel_rfl) (fun _ _ _ h => h) (Ex.move rfl) (ulC (ulC ulN)) (by decide) ?_
  refine GH.take 5 (v := (.int .i64 0)) rfl (by kernel_rfl) (by kernel_rfl) (by kernel_rfl) (fun _ _ _ h => h) (Ex.move rfl) (ulC (ulC ulN)) (by decide) ?_
  refine GH.take 6 (v := (.pointer (some ⟨c1, 0, none⟩))) rfl (by kernel_rfl) (by kernel_rfl) (by kernel_rfl) (fun _ _ _ h => h) (Ex.cast (Ex.indexAddr rfl rfl Try.underlying41 T.sz63 (by omega) (by omega)) rfl) (ulC (ulC ulN)) (by decide) ?_
  refine GH.take 7 (v := (.int .u32 1065353216)) rfl (by kernel_rfl) (by kernel_rfl) (by kernel_rfl) (fun _ _ _ h => h) (Ex.load rfl T.ag63 (i := 1) rfl rfl) (ulC (ulC ulN)) (by decide) ?_
  refine GH.take 8 (v := (.bool false)) rfl (by kernel_rfl) (by kernel_rfl) (by kernel_rfl) (fun _ _ _ h => h) (Ex.cast (Ex.neq rfl rfl) rfl) (ulC (ulC ulN)) (by decide) ?_
  refine GH.done (by kernel_rfl) ?_
  refine GE.thenN ?_
  refine GC.cond rfl (fun hq3 => by cases hq3) (fun _ => ?_)
  refine GC.skip ?_
  refine GE.blockN ?_
  refine GE.thenN ?_
  refine GC.region ?_
  refine GL.val (Ex.move rfl) (by decide) ?_
  refine GL.val (v := (.int .i64 1)) (Ex.add rfl rfl (Z := 1) (by decide)) (by decide) ?_
  refine GL.val (Ex.assign rfl) (by decide) ?_
  refine GL.nil ?_
  refine GE.thenN ?_
  refine GE.round ?_
  refine GC.seq ?_
  refine GC.seq ?_
  refine GC.region ?_
  refine GL.val (Ex.move rfl) (by decide) ?_
  refine GL.val (Ex.move rfl) (by decide) ?_
  refine GL.val (v := (.int .i64 3)) (Ex.len rfl Try.underlying41) (by decide) ?_
  refine GL.val (v := (.bool true)) (Ex.cast (Ex.lss rfl rfl) rfl) (by decide) ?_
  refine GL.nil ?_
  refine GE.thenN ?_
  refine GC.cond rfl (fun _ => ?_) (fun hq4 => by cases hq4)
  refine GC.skip ?_
  refine GE.thenN ?_
  refine GC.seq ?_
  refine GC.block ?_
  refine GC.seq ?_
  refine GC.draw [⟨c0, [(.int .u32 1065353216), (.int .u32 1065353216), (.int .u32 1065353216)], 63, false⟩, ⟨c1, [(.int .u32 1065353216), (.int .u32 1065353216), (.int .u32 1065353216)], 63, false⟩] T.mixed (fuel := 9) rfl rfl ?_
  refine GH.take 0 (v := (.slice (some ⟨c0, 0, none⟩) 3 3)) rfl (by kernel_rfl) (by kernel_rfl) (by kernel_rfl) (fun _ _ _ h => h) (Ex.move rfl) (ulC (ulC ulN)) (by decide) ?_
  refine GH.take 1 (v := (.int .i64 1)) rfl (by kernel_rfl) (by kernel_rfl) (by kernel_rfl) (fun _ _ _ h => h) (Ex.move rfl) (ulC (ulC ulN)) (by decide) ?_
  refine GH.take 2 (v := (.pointer (some ⟨c0, 1, none⟩))) rfl (by kernel_rfl) (by kernel_rfl) (by kernel_rfl) (fun _ _ _ h => h) (Ex.cast (Ex.indexAddr rfl rfl Try.underlying41 T.sz63 (by omega) (by omega)) rfl) (ulC (ulC ulN)) (by decide) ?_
  refine GH.take 3 (v := (.int .u32 1065353216)) rfl (by kernel_rfl) (by kernel_rfl) (by kernel_rfl) (fun _ _ _ h => h) (Ex.load rfl T.ag63 (i := 0) rfl rfl) (ulC (ulC ulN)) (by decide) ?_
  refine GH.take 4 (v := (.slice (some ⟨c1, 0, none⟩) 3 3)) rfl (by kernel_rfl) (by kernel_rfl) (by kernel_rfl) (fun _ _ _ h => h) (Ex.move rfl) (ulC (ulC ulN)) (by decide) ?_
  refine GH.take 5 (v := (.int .i64 1)) rfl (by kernel_rfl) (by kernel_rfl) (by kernel_rfl) (fun _ _ _ h => h) (Ex.move rfl) (ulC (ulC ulN)) (by decide) ?_
  refine GH.take 6 (v := (.pointer (some ⟨c1, 1, none⟩))) rfl (by kernel_rfl) (by kernel_rfl) (by kernel_rfl) (fun _ _ _ h => h) (Ex.cast (Ex.indexAddr rfl rfl Try.underlying41 T.sz63 (by omega) (by omega)) rfl) (ulC (ulC ulN)) (by decide) ?_
  refine GH.take 7 (v := (.int .u32 1065353216)) rfl (by kernel_rfl) (by kernel_rfl) (by kernel_rfl) (fun _ _ _ h => h) (Ex.load rfl T.ag63 (i := 1) rfl rfl) (ulC (ulC ulN)) (by decide) ?_
  refine GH.take 8 (v := (.bool false)) rfl (by kernel_rfl) (by kernel_rfl) (by kernel_rfl) (fun _ _ _ h => h) (Ex.cast (Ex.neq rfl rfl) rfl) (ulC (ulC ulN)) (by decide) ?_
  refine GH.done (by kernel_rfl) ?_
  refine GE.thenN ?_
  refine GC.cond rfl (fun hq5 => by cases hq5) (fun _ => ?_)
  refine GC.skip ?_
  refine GE.blockN ?_
  refine GE.thenN ?_
  refine GC.region ?_
  refine GL.val (Ex.move rfl) (by decide) ?_
  refine GL.val (v := (.int .i64 2)) (Ex.add rfl rfl (Z := 2) (by decide)) (by decide) ?_
  refine GL.val (Ex.assign rfl) (by decide) ?_
  refine GL.nil ?_
  refine GE.thenN ?_
  refine GE.round ?_
  refine GC.seq ?_
  refine GC.seq ?_
  refine GC.region ?_
  refine GL.val (Ex.move rfl) (by decide) ?_
  refine GL.val (Ex.move rfl) (by decide) ?_
  refine GL.val (v := (.int .i64 3)) (Ex.len rfl Try.underlying41) (by decide) ?_
  refine GL.val (v := (.bool true)) (Ex.cast (Ex.lss rfl rfl) rfl) (by decide) ?_
  refine GL.nil ?_
  refine GE.thenN ?_
  refine GC.cond rfl (fun _ => ?_) (fun hq6 => by cases hq6)
  refine GC.skip ?_
  refine GE.thenN ?_
  refine GC.seq ?_
  refine GC.block ?_
  refine GC.seq ?_
  refine GC.draw [⟨c0, [(.int .u32 1065353216), (.int .u32 1065353216), (.int .u32 1065353216)], 63, false⟩, ⟨c1, [(.int .u32 1065353216), (.int .u32 1065353216), (.int .u32 1065353216)], 63, false⟩] T.mixed (fuel := 9) rfl rfl ?_
  refine GH.take 0 (v := (.slice (some ⟨c0, 0, none⟩) 3 3)) rfl (by kernel_rfl) (by kernel_rfl) (by kernel_rfl) (fun _ _ _ h => h) (Ex.move rfl) (ulC (ulC ulN)) (by decide) ?_
  refine GH.take 1 (v := (.int .i64 2)) rfl (by kernel_rfl) (by kernel_rfl) (by kernel_rfl) (fun _ _ _ h => h) (Ex.move rfl) (ulC (ulC ulN)) (by decide) ?_
  refine GH.take 2 (v := (.pointer (some ⟨c0, 2, none⟩))) rfl (by kernel_rfl) (by kernel_rfl) (by kernel_rfl) (fun _ _ _ h => h) (Ex.cast (Ex.indexAddr rfl rfl Try.underlying41 T.sz63 (by omega) (by omega)) rfl) (ulC (ulC ulN)) (by decide) ?_
  refine GH.take 3 (v := (.int .u32 1065353216)) rfl (by kernel_rfl) (by kernel_rfl) (by kernel_rfl) (fun _ _ _ h => h) (Ex.load rfl T.ag63 (i := 0) rfl rfl) (ulC (ulC ulN)) (by decide) ?_
  refine GH.take 4 (v := (.slice (some ⟨c1, 0, none⟩) 3 3)) rfl (by kernel_rfl) (by kernel_rfl) (by kernel_rfl) (fun _ _ _ h => h) (Ex.move rfl) (ulC (ulC ulN)) (by decide) ?_
  refine GH.take 5 (v := (.int .i64 2)) rfl (by kernel_rfl) (by kernel_rfl) (by kernel_rfl) (fun _ _ _ h => h) (Ex.move rfl) (ulC (ulC ulN)) (by decide) ?_
  refine GH.take 6 (v := (.pointer (some ⟨c1, 2, none⟩))) rfl (by kernel_rfl) (by kernel_rfl) (by kernel_rfl) (fun _ _ _ h => h) (Ex.cast (Ex.indexAddr rfl rfl Try.underlying41 T.sz63 (by omega) (by omega)) rfl) (ulC (ulC ulN)) (by decide) ?_
  refine GH.take 7 (v := (.int .u32 1065353216)) rfl (by kernel_rfl) (by kernel_rfl) (by kernel_rfl) (fun _ _ _ h => h) (Ex.load rfl T.ag63 (i := 1) rfl rfl) (ulC (ulC ulN)) (by decide) ?_
  refine GH.take 8 (v := (.bool false)) rfl (by kernel_rfl) (by kernel_rfl) (by kernel_rfl) (fun _ _ _ h => h) (Ex.cast (Ex.neq rfl rfl) rfl) (ulC (ulC ulN)) (by decide) ?_
  refine GH.done (by kernel_rfl) ?_
  refine GE.thenN ?_
  refine GC.cond rfl (fun hq7 => by cases hq7) (fun _ => ?_)
  refine GC.skip ?_
  refine GE.blockN ?_
  refine GE.thenN ?_
  refine GC.region ?_
  refine GL.val (Ex.move rfl) (by decide) ?_
  refine GL.val (v := (.int .i64 3)) (Ex.add rfl rfl (Z := 3) (by decide)) (by decide) ?_
  refine GL.val (Ex.assign rfl) (by decide) ?_
  refine GL.nil ?_
  refine GE.thenN ?_
  refine GE.round ?_
  refine GC.seq ?_
  refine GC.seq ?_
  refine GC.region ?_
  refine GL.val (Ex.move rfl) (by decide) ?_
  refine GL.val (Ex.move rfl) (by decide) ?_
  refine GL.val (v := (.int .i64 3)) (Ex.len rfl Try.underlying41) (by decide) ?_
  refine GL.val (v := (.bool false)) (Ex.cast (Ex.lss rfl rfl) rfl) (by decide) ?_
  refine GL.nil ?_
  refine GE.thenN ?_
  refine GC.cond rfl (fun hq8 => by cases hq8) (fun _ => ?_)
  refine GC.exit ?_
  refine GE.thenE ?_
  refine GE.thenE ?_
  refine GE.blockE ?_
  refine GE.thenN ?_
  refine GC.seq ?_
  refine GC.region ?_
  refine GL.val (Ex.assign rfl) (by decide) ?_
  refine GL.nil ?_
  refine GE.thenN ?_
  refine GC.ret ?_
  refine GC.ret1 rfl (Rv.tmp rfl) (fun wN HN => ?_)
  exact HN.ret () trivial rfl (ulS (ulS ulN)) rfl

set_option maxRecDepth 100000 in
set_option maxHeartbeats 1000000 in
theorem k22_80 (c0 : Nat) (c1 : Nat) (w : World) (hh : Has w [⟨c0, [(.int .u32 1065353216), (.int .u32 1065353216), (.int .u32 1065353216)], 63, false⟩, ⟨c1, [(.int .u32 1065353216), (.int .u32 1065353216), (.int .u32 1065353216)], 63, false⟩]) :
    Calls Try.prog 22 #[(.agg #[(.int .i64 3), (.int .i64 1), (.slice (some ⟨c0, 0, none⟩) 3 3)]), (.agg #[(.int .i64 3), (.int .i64 1), (.slice (some ⟨c1, 0, none⟩) 3 3)])] w (Ret w (fun _ : Unit => True) (fun rz => (.bool true)) (fun rz => [])) := by
  refine enter (M := None) (L := [⟨c0, [(.int .u32 1065353216), (.int .u32 1065353216), (.int .u32 1065353216)], 63, false⟩, ⟨c1, [(.int .u32 1065353216), (.int .u32 1065353216), (.int .u32 1065353216)], 63, false⟩]) (n := 24) (l := [(0, (.agg #[(.int .i64 3), (.int .i64 1), (.slice (some ⟨c0, 0, none⟩) 3 3)])), (1, (.agg #[(.int .i64 3), (.int .i64 1), (.slice (some ⟨c1, 0, none⟩) 3 3)]))]) Try.func22 rfl rfl (Args.cons rfl (Args.cons rfl (Args.nil _))) (Hp.reads hh rfl) ?_
  refine GC.seq ?_
  refine GC.region ?_
  refine GL.step (Stp.box (cs := [(.int .i64 3), (.int .i64 1), (.slice (some ⟨c0, 0, none⟩) 3 3)]) rfl rfl (by decide)) (fun bq1 _ => ?_)
  refine GL.step (Stp.box (cs := [(.int .i64 3), (.int .i64 1), (.slice (some ⟨c1, 0, none⟩) 3 3)]) rfl rfl (by decide)) (fun bq2 _ => ?_)
  refine GL.val (Ex.assign rfl) (by decide) ?_
  refine GL.nil ?_
  refine GE.thenN ?_
  refine GC.seq ?_
  refine GC.region ?_
  refine GL.val (v := (.pointer (some ⟨bq1, 0, none⟩))) (Ex.cast (Ex.fieldAddr rfl Try.underlying43 rfl T.sz3 (by decide)) rfl) (by decide) ?_
  refine GL.val (Ex.load rfl T.ag3 (i := 1) rfl rfl) (by decide) ?_
  refine GL.val (v := (.pointer (some ⟨bq2, 0, none⟩))) (Ex.cast (Ex.fieldAddr rfl Try.underlying43 rfl T.sz3 (by decide)) rfl) (by decide) ?_
  refine GL.val (Ex.load rfl T.ag3 (i := 0) rfl rfl) (by decide) ?_
  refine GL.val (v := (.bool true)) (Ex.cast (Ex.eql rfl rfl) rfl) (by decide) ?_
  refine GL.val (Ex.move rfl) (by decide) ?_
  refine GL.stepG (tj := 10) rfl rfl (Ex.wp (v := (.pointer (some ⟨bq1, 1, none⟩))) (Ex.cast (Ex.fieldAddr rfl Try.underlying43 rfl T.sz3 (by decide)) rfl) (by decide)) (fun _ _ => ?_)
  refine GL.stepG (tj := 10) rfl rfl (Ex.wp (v := (.int .i64 1)) (Ex.load rfl T.ag3 (i := 1) rfl rfl) (by decide)) (fun _ _ => ?_)
  refine GL.stepG (tj := 10) rfl rfl (Ex.wp (v := (.pointer (some ⟨bq2, 1, none⟩))) (Ex.cast (Ex.fieldAddr rfl Try.underlying43 rfl T.sz3 (by decide)) rfl) (by decide)) (fun _ _ => ?_)
  refine GL.stepG (tj := 10) rfl rfl (Ex.wp (v := (.int .i64 1)) (Ex.load rfl T.ag3 (i := 0) rfl rfl) (by decide)) (fun _ _ => ?_)
  refine GL.stepG (tj := 10) rfl rfl (Ex.wp (v := (.bool true)) (Ex.cast (Ex.eql rfl rfl) rfl) (by decide)) (fun _ _ => ?_)
  refine GL.val (v := (.bool true)) (Ex.pickT rfl rfl) (by decide) ?_
  refine GL.val (Ex.move rfl) (by decide) ?_
  refine GL.stepG (tj := 17) rfl rfl (Ex.wp (v := (.pointer (some ⟨bq1, 2, none⟩))) (Ex.cast (Ex.fieldAddr rfl Try.underlying43 rfl T.sz41 (by decide)) rfl) (by decide)) (fun _ _ => ?_)
  refine GL.stepG (tj := 17) rfl rfl (Ex.wp (v := (.slice (some ⟨c0, 0, none⟩) 3 3)) (Ex.load rfl T.ag41 (i := 1) rfl rfl) (by decide)) (fun _ _ => ?_)
  refine GL.stepG (tj := 17) rfl rfl (Ex.wp (v := (.pointer (some ⟨bq2, 2, none⟩))) (Ex.cast (Ex.fieldAddr rfl Try.underlying43 rfl T.sz41 (by decide)) rfl) (by decide)) (fun _ _ => ?_)
  refine GL.stepG (tj := 17) rfl rfl (Ex.wp (v := (.slice (some ⟨c1, 0, none⟩) 3 3)) (Ex.load rfl T.ag41 (i := 0) rfl rfl) (by decide)) (fun _ _ => ?_)
  refine GL.stepG (tj := 17) rfl rfl (Stp.callR (vs := [(.slice (some ⟨c0, 0, none⟩) 3 3), (.slice (some ⟨c1, 0, none⟩) 3 3)]) rfl rfl T.own50 (by decide) (fun wc hw => k50_81 c0 c1 wc (Has.cons (hw.hasOf (i := 2) rfl) (Has.cons (hw.hasOf (i := 3) rfl) (Has.nil _))))) (fun xq3 hq4 => ?_)
  refine GL.val (v := (.bool true)) (Ex.pickT rfl rfl) (by decide) ?_
  refine GL.val (Ex.assign rfl) (by decide) ?_
  refine GL.nil ?_
  refine GE.thenN ?_
  refine GC.ret ?_
  refine GC.ret1 rfl (Rv.tmp rfl) (fun wN HN => ?_)
  exact HN.ret () trivial rfl (ulS (ulS (ulS (ulS ulN)))) rfl

set_option maxRecDepth 100000 in
set_option maxHeartbeats 1000000 in
theorem k38_82 (c0 : Nat) (w : World) (hh : Has w [⟨c0, [(.int .u32 1056964608), (.int .u32 1069547520), (.int .u32 1065353216)], 63, false⟩]) :
    Calls Try.prog 38 #[(.slice (some ⟨c0, 0, none⟩) 3 3)] w (Ret w (fun _ : Unit => True) (fun rz => (.agg #[(.int .i64 3), (.int .i64 1), (.slice (some ⟨c0, 0, none⟩) 3 3)])) (fun rz => [])) := by
  refine enter (M := None) (L := [⟨c0, [(.int .u32 1056964608), (.int .u32 1069547520), (.int .u32 1065353216)], 63, false⟩]) (n := 7) (l := [(0, (.slice (some ⟨c0, 0, none⟩) 3 3))]) Try.func38 rfl rfl (Args.cons rfl (Args.nil _)) (Hp.reads hh rfl) ?_
  refine GC.seq ?_
  refine GC.region ?_
  refine GL.step (Stp.alloc T.zr43 (by decide)) (fun bq1 _ => ?_)
  refine GL.nil ?_
  refine GE.thenN ?_
  refine GC.seq ?_
  refine GC.region ?_
  refine GL.val (Ex.move rfl) (by decide) ?_
  refine GL.val (v := (.int .i64 3)) (Ex.len rfl Try.underlying41) (by decide) ?_
  refine GL.val (Ex.move rfl) (by decide) ?_
  refine GL.val (v := (.agg #[(.int .i64 3), (.int .i64 1), (.slice (some ⟨c0, 0, none⟩) 3 3)])) (Ex.build (vs := [(0, (.int .i64 3)), (1, (.int .i64 1)), (2, (.slice (some ⟨c0, 0, none⟩) 3 3))]) rfl (by first | rfl | kernel_rfl)) (by decide) ?_
  refine GL.step (Stp.st0 (cs' := [(.int .i64 3), (.int .i64 1), (.slice (some ⟨c0, 0, none⟩) 3 3)]) rfl rfl rfl T.sz43 rfl rfl rfl) (fun _ _ => ?_)
  refine GL.nil ?_
  refine GE.thenN ?_
  refine GC.ret ?_
  refine GC.ret1 rfl (Rv.cellA rfl T.ag43 T.sz43 (L := _) (i := 0) rfl (vs := [(.int .i64 3), (.int .i64 1), (.slice (some ⟨c0, 0, none⟩) 3 3)]) rfl rfl) (fun wN HN => ?_)
  exact HN.ret () trivial rfl (ulS (ulS ulN)) rfl

set_option maxRecDepth 100000 in
set_option maxHeartbeats 1000000 in
theorem k50_84 (c0 : Nat) (c1 : Nat) (w : World) (hh : Has w [⟨c0, [(.int .u32 1056964608), (.int .u32 1069547520), (.int .u32 1065353216)], 63, false⟩, ⟨c1, [(.int .u32 1056964608), (.int .u32 1069547520), (.int .u32 1065353216)], 63, false⟩]) :
    Calls Try.prog 50 #[(.slice (some ⟨c0, 0, none⟩) 3 3), (.slice (some ⟨c1, 0, none⟩) 3 3)] w (Ret w (fun _ : Unit => True) (fun rz => (.bool true)) (fun rz => [])) := by
  refine enter (M := None) (L := [⟨c0, [(.int .u32 1056964608), (.int .u32 1069547520), (.int .u32 1065353216)], 63, false⟩, ⟨c1, [(.int .u32 1056964608), (.int .u32 1069547520), (.int .u32 1065353216)], 63, false⟩]) (n := 26) (l := [(0, (.slice (some ⟨c0, 0, none⟩) 3 3)), (1, (.slice (some ⟨c1, 0, none⟩) 3 3))]) Try.func50 rfl rfl (Args.cons rfl (Args.cons rfl (Args.nil _))) (Hp.reads hh rfl) ?_
  refine GC.seq ?_
  refine GC.region ?_
  refine GL.val (Ex.assign rfl) (by decide) ?_
  refine GL.nil ?_
  refine GE.thenN ?_
  refine GC.seq ?_
  refine GC.seq ?_
  refine GC.region ?_
  refine GL.val (Ex.move rfl) (by decide) ?_
  refine GL.val (v := (.int .i64 3)) (Ex.len rfl Try.underlying41) (by decide) ?_
  refine GL.val (Ex.move rfl) (by decide) ?_
  refine GL.val (v := (.int .i64 3)) (Ex.len rfl Try.underlying41) (by decide) ?_
  refine GL.val (v := (.bool false)) (Ex.cast (Ex.neq rfl rfl) rfl) (by decide) ?_
  refine GL.nil ?_
  refine GE.thenN ?_
  refine GC.cond rfl (fun hq1 => by cases hq1) (fun _ => ?_)
  refine GC.skip ?_
  refine GE.thenN ?_
  refine GC.seq ?_
  refine GC.seq ?_
  refine GC.region ?_
  refine GL.val (Ex.assign rfl) (by decide) ?_
  refine GL.nil ?_
  refine GE.thenN ?_
  refine GC.block ?_
  refine GC.unroll 60 ?_
  refine GE.round ?_
  refine GC.seq ?_
  refine GC.seq ?_
  refine GC.region ?_
  refine GL.val (Ex.move rfl) (by decide) ?_
  refine GL.val (Ex.move rfl) (by decide) ?_
  refine GL.val (v := (.int .i64 3)) (Ex.len rfl Try.underlying41) (by decide) ?_
  refine GL.val (v := (.bool true)) (Ex.cast (Ex.lss rfl rfl) rfl) (by decide) ?_
  refine GL.nil ?_
  refine GE.thenN ?_
  refine GC.cond rfl (fun _ => ?_) (fun hq2 => by cases hq2)
  refine GC.skip ?_
  refine GE.thenN ?_
  refine GC.seq ?_
  refine GC.block ?_
  refine GC.seq ?_
  refine GC.draw [⟨c0, [(.int .u32 1056964608), (.int .u32 1069547520), (.int .u32 1065353216)], 63, false⟩, ⟨c1, [(.int .u32 1056964608), (.int .u32 1069547520), (.int .u32 1065353216)], 63, false⟩] T.mixed (fuel := 9) rfl rfl ?_
  refine GH.take 0 (v := (.slice (some ⟨c0, 0, none⟩) 3 3)) rfl (by kernel_rfl) (by kernel_rfl) (by kernel_rfl) (fun _ _ _ h => h) (Ex.move rfl) (ulC (ulC ulN)) (by decide) ?_
  refine GH.take 1 (v := (.int .i64 0)) rfl (by kernel_rfl) (by kernel_rfl) (by kernel_rfl) (fun _ _ _ h => h) (Ex.move rfl) (ulC (ulC ulN)) (by decide) ?_
  refine GH.take 2 (v := (.pointer (some ⟨c0, 0, none⟩))) rfl (by kernel_rfl) (by kernel_rfl) (by kernel_rfl) (fun _ _ _ h => h) (Ex.cast (Ex.indexAddr rfl rfl Try.underlying41 T.sz63 (by omega) (by omega)) rfl) (ulC (ulC ulN)) (by decide) ?_
  refine GH.take 3 (v := (.int .u32 1056964608)) rfl (by kernel_rfl) (by kernel_rfl) (by kernel_rfl) (fun _ _ _ h => h) (Ex.load rfl T.ag63 (i := 0) rfl rfl) (ulC (ulC ulN)) (by decide) ?_
  refine GH.take 4 (v := (.slice (some ⟨c1, 0, none⟩) 3 3)) rfl (by kernel_rfl) (by kernel_rfl) (by kernel_rfl) (fun _ _ _ h => h) (Ex.move rfl) (ulC (ulC ulN)) (by decide) ?_
  refine GH.take 5 (v := (.int .i64 0)) rfl (by kernel_rfl) (by kernel_rfl) (by kernel_rfl) (fun _ _ _ h => h) (Ex.move rfl) (ulC (ulC ulN)) (by decide) ?_
  refine GH.take 6 (v := (.pointer (some ⟨c1, 0, none⟩))) rfl (by kernel_rfl) (by kernel_rfl) (by kernel_rfl) (fun _ _ _ h => h) (Ex.cast (Ex.indexAddr rfl rfl Try.underlying41 T.sz63 (by omega) (by omega)) rfl) (ulC (ulC ulN)) (by decide) ?_
  refine GH.take 7 (v := (.int .u32 1056964608)) rfl (by kernel_rfl) (by kernel_rfl) (by kernel_rfl) (fun _ _ _ h => h) (Ex.load rfl T.ag63 (i := 1) rfl rfl) (ulC (ulC ulN)) (by decide) ?_
  refine GH.take 8 (v := (.bool false)) rfl (by kernel_rfl) (by kernel_rfl) (by kernel_rfl) (fun _ _ _ h => h) (Ex.cast (Ex.neq rfl rfl) rfl) (ulC (ulC ulN)) (by decide) ?_
  refine GH.done (by kernel_rfl) ?_
  refine GE.thenN ?_
  refine GC.cond rfl (fun hq3 => by cases hq3) (fun _ => ?_)
  refine GC.skip ?_
  refine GE.blockN ?_
  refine GE.thenN ?_
  refine GC.region ?_
  refine GL.val (Ex.move rfl) (by decide) ?_
  refine GL.val (v := (.int .i64 1)) (Ex.add rfl rfl (Z := 1) (by decide)) (by decide) ?_
  refine GL.val (Ex.assign rfl) (by decide) ?_
  refine GL.nil ?_
  refine GE.thenN ?_
  refine GE.round ?_
  refine GC.seq ?_
  refine GC.seq ?_
  refine GC.region ?_
  refine GL.val (Ex.move rfl) (by decide) ?_
  refine GL.val (Ex.move rfl) (by decide) ?_
  refine GL.val (v := (.int .i64 3)) (Ex.len rfl Try.underlying41) (by decide) ?_
  refine GL.val (v := (.bool true)) (Ex.cast (Ex.lss rfl rfl) rfl) (by decide) ?_
  refine GL.nil ?_
  refine GE.thenN ?_
  refine GC.cond rfl (fun _ => ?_) (fun hq4 => by cases hq4)
  refine GC.skip ?_
  refine GE.thenN ?_
  refine GC.seq ?_
  refine GC.block ?_
  refine GC.seq ?_
  refine GC.draw [⟨c0, [(.int .u32 1056964608), (.int .u32 1069547520), (.int .u32 1065353216)], 63, false⟩, ⟨c1, [(.int .u32 1056964608), (.int .u32 1069547520), (.int .u32 1065353216)], 63, false⟩] T.mixed (fuel := 9) rfl rfl ?_
  refine GH.take 0 (v := (.slice (some ⟨c0, 0, none⟩) 3 3)) rfl (by kernel_rfl) (by kernel_rfl) (by kernel_rfl) (fun _ _ _ h => h) (Ex.move rfl) (ulC (ulC ulN)) (by decide) ?_
  refine GH.take 1 (v := (.int .i64 1)) rfl (by kernel_rfl) (by kernel_rfl) (by kernel_rfl) (fun _ _ _ h => h) (Ex.move rfl) (ulC (ulC ulN)) (by decide) ?_
  refine GH.take 2 (v := (.pointer (some ⟨c0, 1, none⟩))) rfl (by kernel_rfl) (by kernel_rfl) (by kernel_rfl) (fun _ _ _ h => h) (Ex.cast (Ex.indexAddr rfl rfl Try.underlying41 T.sz63 (by omega) (by omega)) rfl) (ulC (ulC ulN)) (by decide) ?_
  refine GH.take 3 (v := (.int .u32 1069547520)) rfl (by kernel_rfl) (by kernel_rfl) (by kernel_rfl) (fun _ _ _ h => h) (Ex.load rfl T.ag63 (i := 0) rfl rfl) (ulC (ulC ulN)) (by decide) ?_
  refine GH.take 4 (v := (.slice (some ⟨c1, 0, none⟩) 3 3)) rfl (by kernel_rfl) (by kernel_rfl) (by kernel_rfl) (fun _ _ _ h => h) (Ex.move rfl) (ulC (ulC ulN)) (by decide) ?_
  refine GH.take 5 (v := (.int .i64 1)) rfl (by kernel_rfl) (by kernel_rfl) (by kernel_rfl) (fun _ _ _ h => h) (Ex.move rfl) (ulC (ulC ulN)) (by decide) ?_
  refine GH.take 6 (v := (.pointer (some ⟨c1, 1, none⟩))) rfl (by kernel_rfl) (by kernel_rfl) (by kernel_rfl) (fun _ _ _ h => h) (Ex.cast (Ex.indexAddr rfl rfl Try.underlying41 T.sz63 (by omega) (by omega)) rfl) (ulC (ulC ulN)) (by decide) ?_
  refine GH.take 7 (v := (.int .u32 1069547520)) rfl (by kernel_rfl) (by kernel_rfl) (by kernel_rfl) (fun _ _ _ h => h) (Ex.load rfl T.ag63 (i := 1) rfl rfl) (ulC (ulC ulN)) (by decide) ?_
  refine GH.take 8 (v := (.bool false)) rfl (by kernel_rfl) (by kernel_rfl) (by kernel_rfl) (fun _ _ _ h => h) (Ex.cast (Ex.neq rfl rfl) rfl) (ulC (ulC ulN)) (by decide) ?_
  refine GH.done (by kernel_rfl) ?_
  refine GE.thenN ?_
  refine GC.cond rfl (fun hq5 => by cases hq5) (fun _ => ?_)
  refine GC.skip ?_
  refine GE.blockN ?_
  refine GE.thenN ?_
  refine GC.region ?_
  refine GL.val (Ex.move rfl) (by decide) ?_
  refine GL.val (v := (.int .i64 2)) (Ex.add rfl rfl (Z := 2) (by decide)) (by decide) ?_
  refine GL.val (Ex.assign rfl) (by decide) ?_
  refine GL.nil ?_
  refine GE.thenN ?_
  refine GE.round ?_
  refine GC.seq ?_
  refine GC.seq ?_
  refine GC.region ?_
  refine GL.val (Ex.move rfl) (by decide) ?_
  refine GL.val (Ex.move rfl) (by decide) ?_
  refine GL.val (v := (.int .i64 3)) (Ex.len rfl Try.underlying41) (by decide) ?_
  refine GL.val (v := (.bool true)) (Ex.cast (Ex.lss rfl rfl) rfl) (by decide) ?_
  refine GL.nil ?_
  refine GE.thenN ?_
  refine GC.cond rfl (fun _ => ?_) (fun hq6 => by cases hq6)
  refine GC.skip ?_
  refine GE.thenN ?_
  refine GC.seq ?_
  refine GC.block ?_
  refine GC.seq ?_
  refine GC.draw [⟨c0, [(.int .u32 1056964608), (.int .u32 1069547520), (.int .u32 1065353216)], 63, false⟩, ⟨c1, [(.int .u32 1056964608), (.int .u32 1069547520), (.int .u32 1065353216)], 63, false⟩] T.mixed (fuel := 9) rfl rfl ?_
  refine GH.take 0 (v := (.slice (some ⟨c0, 0, none⟩) 3 3)) rfl (by kernel_rfl) (by kernel_rfl) (by kernel_rfl) (fun _ _ _ h => h) (Ex.move rfl) (ulC (ulC ulN)) (by decide) ?_
  refine GH.take 1 (v := (.int .i64 2)) rfl (by kernel_rfl) (by kernel_rfl) (by kernel_rfl) (fun _ _ _ h => h) (Ex.move rfl) (ulC (ulC ulN)) (by decide) ?_
  refine GH.take 2 (v := (.pointer (some ⟨c0, 2, none⟩))) rfl (by kernel_rfl) (by kernel_rfl) (by kernel_rfl) (fun _ _ _ h => h) (Ex.cast (Ex.indexAddr rfl rfl Try.underlying41 T.sz63 (by omega) (by omega)) rfl) (ulC (ulC ulN)) (by decide) ?_
  refine GH.take 3 (v := (.int .u32 1065353216)) rfl (by kernel_rfl) (by kernel_rfl) (by kernel_rfl) (fun _ _ _ h => h) (Ex.load rfl T.ag63 (i := 0) rfl rfl) (ulC (ulC ulN)) (by decide) ?_
  refine GH.take 4 (v := (.slice (some ⟨c1, 0, none⟩) 3 3)) rfl (by kernel_rfl) (by kernel_rfl) (by kernel_rfl) (fun _ _ _ h => h) (Ex.move rfl) (ulC (ulC ulN)) (by decide) ?_
  refine GH.take 5 (v := (.int .i64 2)) rfl (by kernel_rfl) (by kernel_rfl) (by kernel_rfl) (fun _ _ _ h => h) (Ex.move rfl) (ulC (ulC ulN)) (by decide) ?_
  refine GH.take 6 (v := (.pointer (some ⟨c1, 2, none⟩))) rfl (by kernel_rfl) (by kernel_rfl) (by kernel_rfl) (fun _ _ _ h => h) (Ex.cast (Ex.indexAddr rfl rfl Try.underlying41 T.sz63 (by omega) (by omega)) rfl) (ulC (ulC ulN)) (by decide) ?_
  refine GH.take 7 (v := (.int .u32 1065353216)) rfl (by kernel_rfl) (by kernel_rfl) (by kernel_rfl) (fun _ _ _ h => h) (Ex.load rfl T.ag63 (i := 1) rfl rfl) (ulC (ulC ulN)) (by decide) ?_
  refine GH.take 8 (v := (.bool false)) rfl (by kernel_rfl) (by kernel_rfl) (by kernel_rfl) (fun _ _ _ h => h) (Ex.cast (Ex.neq rfl rfl) rfl) (ulC (ulC ulN)) (by decide) ?_
  refine GH.done (by kernel_rfl) ?_
  refine GE.thenN ?_
  refine GC.cond rfl (fun hq7 => by cases hq7) (fun _ => ?_)
  refine GC.skip ?_
  refine GE.blockN ?_
  refine GE.thenN ?_
  refine GC.region ?_
  refine GL.val (Ex.move rfl) (by decide) ?_
  refine GL.val (v := (.int .i64 3)) (Ex.add rfl rfl (Z := 3) (by decide)) (by decide) ?_
  refine GL.val (Ex.assign rfl) (by decide) ?_
  refine GL.nil ?_
  refine GE.thenN ?_
  refine GE.round ?_
  refine GC.seq ?_
  refine GC.seq ?_
  refine GC.region ?_
  refine GL.val (Ex.move rfl) (by decide) ?_
  refine GL.val (Ex.move rfl) (by decide) ?_
  refine GL.val (v := (.int .i64 3)) (Ex.len rfl Try.underlying41) (by decide) ?_
  refine GL.val (v := (.bool false)) (Ex.cast (Ex.lss rfl rfl) rfl) (by decide) ?_
  refine GL.nil ?_
  refine GE.thenN ?_
  refine GC.cond rfl (fun hq8 => by cases hq8) (fun _ => ?_)
  refine GC.exit ?_
  refine GE.thenE ?_
  refine GE.thenE ?_
  refine GE.blockE ?_
  refine GE.thenN ?_
  refine GC.seq ?_
  refine GC.region ?_
  refine GL.val (Ex.assign rfl) (by decide) ?_
  refine GL.nil ?_
  refine GE.thenN ?_
  refine GC.ret ?_
  refine GC.ret1 rfl (Rv.tmp rfl) (fun wN HN => ?_)
  exact HN.ret () trivial rfl (ulS (ulS ulN)) rfl

set_option maxRecDepth 100000 in
set_option maxHeartbeats 1000000 in
theorem k22_83 (c0 : Nat) (c1 : Nat) (w : World) (hh : Has w [⟨c0, [(.int .u32 1056964608), (.int .u32 1069547520), (.int .u32 1065353216)], 63, false⟩, ⟨c1, [(.int .u32 1056964608), (.int .u32 1069547520), (.int .u32 1065353216)], 63, false⟩]) :
    Calls Try.prog 22 #[(.agg #[(.int .i64 3), (.int .i64 1), (.slice (some ⟨c0, 0, none⟩) 3 3)]), (.agg #[(.int .i64 3), (.int .i64 1), (.slice (some ⟨c1, 0, none⟩) 3 3)])] w (Ret w (fun _ : Unit => True) (fun rz => (.bool true)) (fun rz => [])) := by
  refine enter (M := None) (L := [⟨c0, [(.int .u32 1056964608), (.int .u32 1069547520), (.int .u32 1065353216)], 63, false⟩, ⟨c1, [(.int .u32 1056964608), (.int .u32 1069547520), (.int .u32 1065353216)], 63, false⟩]) (n := 24) (l := [(0, (.agg #[(.int .i64 3), (.int .i64 1), (.slice (some ⟨c0, 0, none⟩) 3 3)])), (1, (.agg #[(.int .i64 3), (.int .i64 1), (.slice (some ⟨c1, 0, none⟩) 3 3)]))]) Try.func22 rfl rfl (Args.cons rfl (Args.cons rfl (Args.nil _))) (Hp.reads hh rfl) ?_
  refine GC.seq ?_
  refine GC.region ?_
  refine GL.step (Stp.box (cs := [(.int .i64 3), (.int .i64 1), (.slice (some ⟨c0, 0, none⟩) 3 3)]) rfl rfl (by decide)) (fun bq1 _ => ?_)
  refine GL.step (Stp.box (cs := [(.int .i64 3), (.int .i64 1), (.slice (some ⟨c1, 0, none⟩) 3 3)]) rfl rfl (by decide)) (fun bq2 _ => ?_)
  refine GL.val (Ex.assign rfl) (by decide) ?_
  refine GL.nil ?_
  refine GE.thenN ?_
  refine GC.seq ?_
  refine GC.region ?_
  refine GL.val (v := (.pointer (some ⟨bq1, 0, none⟩))) (Ex.cast (Ex.fieldAddr rfl Try.underlying43 rfl T.sz3 (by decide)) rfl) (by decide) ?_
  refine GL.val (Ex.load rfl T.ag3 (i := 1) rfl rfl) (by decide) ?_
  refine GL.val (v := (.pointer (some ⟨bq2, 0, none⟩))) (Ex.cast (Ex.fieldAddr rfl Try.underlying43 rfl T.sz3 (by decide)) rfl) (by decide) ?_
  refine GL.val (Ex.load rfl T.ag3 (i := 0) rfl rfl) (by decide) ?_
  refine GL.val (v := (.bool true)) (Ex.cast (Ex.eql rfl rfl) rfl) (by decide) ?_
  refine GL.val (Ex.move rfl) (by decide) ?_
  refine GL.stepG (tj := 10) rfl rfl (Ex.wp (v := (.pointer (some ⟨bq1, 1, none⟩))) (Ex.cast (Ex.fieldAddr rfl Try.underlying43 rfl T.sz3 (by decide)) rfl) (by decide)) (fun _ _ => ?_)
  refine GL.stepG (tj := 10) rfl rfl (Ex.wp (v := (.int .i64 1)) (Ex.load rfl T.ag3 (i := 1) rfl rfl) (by decide)) (fun _ _ => ?_)
  refine GL.stepG (tj := 10) rfl rfl (Ex.wp (v := (.pointer (some ⟨bq2, 1, none⟩))) (Ex.cast (Ex.fieldAddr rfl Try.underlying43 rfl T.sz3 (by decide)) rfl) (by decide)) (fun _ _ => ?_)
  refine GL.stepG (tj := 10) rfl rfl (Ex.wp (v := (.int .i64 1)) (Ex.load rfl T.ag3 (i := 0) rfl rfl) (by decide)) (fun _ _ => ?_)
  refine GL.stepG (tj := 10) rfl rfl (Ex.wp (v := (.bool true)) (Ex.cast (Ex.eql rfl rfl) rfl) (by decide)) (fun _ _ => ?_)
  refine GL.val (v := (.bool true)) (Ex.pickT rfl rfl) (by decide) ?_
  refine GL.val (Ex.move rfl) (by decide) ?_
  refine GL.stepG (tj := 17) rfl rfl (Ex.wp (v := (.pointer (some ⟨bq1, 2, none⟩))) (Ex.cast (Ex.fieldAddr rfl Try.underlying43 rfl T.sz41 (by decide)) rfl) (by decide)) (fun _ _ => ?_)
  refine GL.stepG (tj := 17) rfl rfl (Ex.wp (v := (.slice (some ⟨c0, 0, none⟩) 3 3)) (Ex.load rfl T.ag41 (i := 1) rfl rfl) (by decide)) (fun _ _ => ?_)
  refine GL.stepG (tj := 17) rfl rfl (Ex.wp (v := (.pointer (some ⟨bq2, 2, none⟩))) (Ex.cast (Ex.fieldAddr rfl Try.underlying43 rfl T.sz41 (by decide)) rfl) (by decide)) (fun _ _ => ?_)
  refine GL.stepG (tj := 17) rfl rfl (Ex.wp (v := (.slice (some ⟨c1, 0, none⟩) 3 3)) (Ex.load rfl T.ag41 (i := 0) rfl rfl) (by decide)) (fun _ _ => ?_)
  refine GL.stepG (tj := 17) rfl rfl (Stp.callR (vs := [(.slice (some ⟨c0, 0, none⟩) 3 3), (.slice (some ⟨c1, 0, none⟩) 3 3)]) rfl rfl T.own50 (by decide) (fun wc hw => k50_84 c0 c1 wc (Has.cons (hw.hasOf (i := 2) rfl) (Has.cons (hw.hasOf (i := 3) rfl) (Has.nil _))))) (fun xq3 hq4 => ?_)
  refine GL.val (v := (.bool true)) (Ex.pickT rfl rfl) (by decide) ?_
  refine GL.val (Ex.assign rfl) (by decide) ?_
  refine GL.nil ?_
  refine GE.thenN ?_
  refine GC.ret ?_
  refine GC.ret1 rfl (Rv.tmp rfl) (fun wN HN => ?_)
  exact HN.ret () trivial rfl (ulS (ulS (ulS (ulS ulN)))) rfl

set_option maxRecDepth 100000 in
set_option maxHeartbeats 1000000 in
theorem k38_85 (c0 : Nat) (w : World) (hh : Has w [⟨c0, [(.int .u32 0), (.int .u32 0), (.int .u32 0)], 63, false⟩]) :
    Calls Try.prog 38 #[(.slice (some ⟨c0, 0, none⟩) 3 3)] w (Ret w (fun _ : Unit => True) (fun rz => (.agg #[(.int .i64 3), (.int .i64 1), (.slice (some ⟨c0, 0, none⟩) 3 3)])) (fun rz => [])) := by
  refine enter (M := None) (L := [⟨c0, [(.int .u32 0), (.int .u32 0), (.int .u32 0)], 63, false⟩]) (n := 7) (l := [(0, (.slice (some ⟨c0, 0, none⟩) 3 3))]) Try.func38 rfl rfl (Args.cons rfl (Args.nil _)) (Hp.reads hh rfl) ?_
  refine GC.seq ?_
  refine GC.region ?_
  refine GL.step (Stp.alloc T.zr43 (by decide)) (fun bq1 _ => ?_)
  refine GL.nil ?_
  refine GE.thenN ?_
  refine GC.seq ?_
  refine GC.region ?_
  refine GL.val (Ex.move rfl) (by decide) ?_
  refine GL.val (v := (.int .i64 3)) (Ex.len rfl Try.underlying41) (by decide) ?_
  refine GL.val (Ex.move rfl) (by decide) ?_
  refine GL.val (v := (.agg #[(.int .i64 3), (.int .i64 1), (.slice (some ⟨c0, 0, none⟩) 3 3)])) (Ex.build (vs := [(0, (.int .i64 3)), (1, (.int .i64 1)), (2, (.slice (some ⟨c0, 0, none⟩) 3 3))]) rfl (by first | rfl | kernel_rfl)) (by decide) ?_
  refine GL.step (Stp.st0 (cs' := [(.int .i64 3), (.int .i64 1), (.slice (some ⟨c0, 0, none⟩) 3 3)]) rfl rfl rfl T.sz43 rfl rfl rfl) (fun _ _ => ?_)
  refine GL.nil ?_
  refine GE.thenN ?_
  refine GC.ret ?_
  refine GC.ret1 rfl (Rv.cellA rfl T.ag43 T.sz43 (L := _) (i := 0) rfl (vs := [(.int .i64 3), (.int .i64 1), (.slice (some ⟨c0, 0, none⟩) 3 3)]) rfl rfl) (fun wN HN => ?_)
  exact HN.ret () trivial rfl (ulS (ulS ulN)) rfl

set_option maxRecDepth 100000 in
set_option maxHeartbeats 1000000 in
theorem k50_87 (c0 : Nat) (c1 : Nat) (w : World) (hh : Has w [⟨c0, [(.int .u32 0), (.int .u32 0), (.int .u32 0)], 63, false⟩, ⟨c1, [(.int .u32 0), (.int .u32 0), (.int .u32 0)], 63, false⟩]) :
    Calls Try.prog 50 #[(.slice (some ⟨c0, 0, none⟩) 3 3), (.slice (some ⟨c1, 0, none⟩) 3 3)] w (Ret w (fun _ : Unit => True) (fun rz => (.bool true)) (fun rz => [])) := by
  refine enter (M := None) (L := [⟨c0, [(.int .u32 0), (.int .u32 0), (.int .u32 0)], 63, false⟩, ⟨c1, [(.int .u32 0), (.int .u32 0), (.int .u32 0)], 63, false⟩]) (n := 26) (l := [(0, (.slice (some ⟨c0, 0, none⟩) 3 3)), (1, (.slice (some ⟨c1, 0, none⟩) 3 3))]) Try.func50 rfl rfl (Args.cons rfl (Args.cons rfl (Args.nil _))) (Hp.reads hh rfl) ?_
  refine GC.seq ?_
  refine GC.region ?_
  refine GL.val (Ex.assign rfl) (by decide) ?_
  refine GL.nil ?_
  refine GE.thenN ?_
  refine GC.seq ?_
  refine GC.seq ?_
  refine GC.region ?_
  refine GL.val (Ex.move rfl) (by decide) ?_
  refine GL.val (v := (.int .i64 3)) (Ex.len rfl Try.underlying41) (by decide) ?_
  refine GL.val (Ex.move rfl) (by decide) ?_
  refine GL.val (v := (.int .i64 3)) (Ex.len rfl Try.underlying41) (by decide) ?_
  refine GL.val (v := (.bool false)) (Ex.cast (Ex.neq rfl rfl) rfl) (by decide) ?_
  refine GL.nil ?_
  refine GE.thenN ?_
  refine GC.cond rfl (fun hq1 => by cases hq1) (fun _ => ?_)
  refine GC.skip ?_
  refine GE.thenN ?_
  refine GC.seq ?_
  refine GC.seq ?_
  refine GC.region ?_
  refine GL.val (Ex.assign rfl) (by decide) ?_
  refine GL.nil ?_
  refine GE.thenN ?_
  refine GC.block ?_
  refine GC.unroll 60 ?_
  refine GE.round ?_
  refine GC.seq ?_
  refine GC.seq ?_
  refine GC.region ?_
  refine GL.val (Ex.move rfl) (by decide) ?_
  refine GL.val (Ex.move rfl) (by decide) ?_
  refine GL.val (v := (.int .i64 3)) (Ex.len rfl Try.underlying41) (by decide) ?_
  refine GL.val (v := (.bool true)) (Ex.cast (Ex.lss rfl rfl) rfl) (by decide) ?_
  refine GL.nil ?_
  refine GE.thenN ?_
  refine GC.cond rfl (fun _ => ?_) (fun hq2 => by cases hq2)
  refine GC.skip ?_
  refine GE.thenN ?_
  refine GC.seq ?_
  refine GC.block ?_
  refine GC.seq ?_
  refine GC.draw [⟨c0, [(.int .u32 0), (.int .u32 0), (.int .u32 0)], 63, false⟩, ⟨c1, [(.int .u32 0), (.int .u32 0), (.int .u32 0)], 63, false⟩] T.mixed (fuel := 9) rfl rfl ?_
  refine GH.take 0 (v := (.slice (some ⟨c0, 0, none⟩) 3 3)) rfl (by kernel_rfl) (by kernel_rfl) (by kernel_rfl) (fun _ _ _ h => h) (Ex.move rfl) (ulC (ulC ulN)) (by decide) ?_
  refine GH.take 1 (v := (.int .i64 0)) rfl (by kernel_rfl) (by kernel_rfl) (by kernel_rfl) (fun _ _ _ h => h) (Ex.move rfl) (ulC (ulC ulN)) (by decide) ?_
  refine GH.take 2 (v := (.pointer (some ⟨c0, 0, none⟩))) rfl (by kernel_rfl) (by kernel_rfl) (by kernel_rfl) (fun _ _ _ h => h) (Ex.cast (Ex.indexAddr rfl rfl Try.underlying41 T.sz63 (by omega) (by omega)) rfl) (ulC (ulC ulN)) (by decide) ?_
  refine GH.take 3 (v := (.int .u32 0)) rfl (by kernel_rfl) (by kernel_rfl) (by kernel_rfl) (fun _ _ _ h => h) (Ex.load rfl T.ag63 (i := 0) rfl rfl) (ulC (ulC ulN)) (by decide) ?_
  refine GH.take 4 (v := (.slice (some ⟨c1, 0, none⟩) 3 3)) rfl (by kernel_rfl) (by kernel_rfl) (by kernel_rfl) (fun _ _ _ h => h) (Ex.move rfl) (ulC (ulC ulN)) (by decide) ?_
  refine GH.take 5 (v := (.int .i64 0)) rfl (by kernel_rfl) (by kernel_rfl) (by kernel_rfl) (fun _ _ _ h => h) (Ex.move rfl) (ulC (ulC ulN)) (by decide) ?_
  refine GH.take 6 (v := (.pointer (some ⟨c1, 0, none⟩))) rfl (by kernel_rfl) (by kernel_rfl) (by kernel_rfl) (fun _ _ _ h => h) (Ex.cast (Ex.indexAddr rfl rfl Try.underlying41 T.sz63 (by omega) (by omega)) rfl) (ulC (ulC ulN)) (by decide) ?_
  refine GH.take 7 (v := (.int .u32 0)) rfl (by kernel_rfl) (by kernel_rfl) (by kernel_rfl) (fun _ _ _ h => h) (Ex.load rfl T.ag63 (i := 1) rfl rfl) (ulC (ulC ulN)) (by decide) ?_
  refine GH.take 8 (v := (.bool false)) rfl (by kernel_rfl) (by kernel_rfl) (by kernel_rfl) (fun _ _ _ h => h) (Ex.cast (Ex.neq rfl rfl) rfl) (ulC (ulC ulN)) (by decide) ?_
  refine GH.done (by kernel_rfl) ?_
  refine GE.thenN ?_
  refine GC.cond rfl (fun hq3 => by cases hq3) (fun _ => ?_)
  refine GC.skip ?_
  refine GE.blockN ?_
  refine GE.thenN ?_
  refine GC.region ?_
  refine GL.val (Ex.move rfl) (by decide) ?_
  refine GL.val (v := (.int .i64 1)) (Ex.add rfl rfl (Z := 1) (by decide)) (by decide) ?_
  refine GL.val (Ex.assign rfl) (by decide) ?_
  refine GL.nil ?_
  refine GE.thenN ?_
  refine GE.round ?_
  refine GC.seq ?_
  refine GC.seq ?_
  refine GC.region ?_
  refine GL.val (Ex.move rfl) (by decide) ?_
  refine GL.val (Ex.move rfl) (by decide) ?_
  refine GL.val (v := (.int .i64 3)) (Ex.len rfl Try.underlying41) (by decide) ?_
  refine GL.val (v := (.bool true)) (Ex.cast (Ex.lss rfl rfl) rfl) (by decide) ?_
  refine GL.nil ?_
  refine GE.thenN ?_
  refine GC.cond rfl (fun _ => ?_) (fun hq4 => by cases hq4)
  refine GC.skip ?_
  refine GE.thenN ?_
  refine GC.seq ?_
  refine GC.block ?_
  refine GC.seq ?_
  refine GC.draw [⟨c0, [(.int .u32 0), (.int .u32 0), (.int .u32 0)], 63, false⟩, ⟨c1, [(.int .u32 0), (.int .u32 0), (.int .u32 0)], 63, false⟩] T.mixed (fuel := 9) rfl rfl ?_
  refine GH.take 0 (v := (.slice (some ⟨c0, 0, none⟩) 3 3)) rfl (by kernel_rfl) (by kernel_rfl) (by kernel_rfl) (fun _ _ _ h => h) (Ex.move rfl) (ulC (ulC ulN)) (by decide) ?_
  refine GH.take 1 (v := (.int .i64 1)) rfl (by kernel_rfl) (by kernel_rfl) (by kernel_rfl) (fun _ _ _ h => h) (Ex.move rfl) (ulC (ulC ulN)) (by decide) ?_
  refine GH.take 2 (v := (.pointer (some ⟨c0, 1, none⟩))) rfl (by kernel_rfl) (by kernel_rfl) (by kernel_rfl) (fun _ _ _ h => h) (Ex.cast (Ex.indexAddr rfl rfl Try.underlying41 T.sz63 (by omega) (by omega)) rfl) (ulC (ulC ulN)) (by decide) ?_
  refine GH.take 3 (v := (.int .u32 0)) rfl (by kernel_rfl) (by kernel_rfl) (by kernel_rfl) (fun _ _ _ h => h) (Ex.load rfl T.ag63 (i := 0) rfl rfl) (ulC (ulC ulN)) (by decide) ?_
  refine GH.take 4 (v := (.slice (some ⟨c1, 0, none⟩) 3 3)) rfl (by kernel_rfl) (by kernel_rfl) (by kernel_rfl) (fun _ _ _ h => h) (Ex.move rfl) (ulC (ulC ulN)) (by decide) ?_
  refine GH.take 5 (v := (.int .i64 1)) rfl (by kernel_rfl) (by kernel_rfl) (by kernel_rfl) (fun _ _ _ h => h) (Ex.move rfl) (ulC (ulC ulN)) (by decide) ?_
  refine GH.take 6 (v := (.pointer (some ⟨c1, 1, none⟩))) rfl (by kernel_rfl) (by kernel_rfl) (by kernel_rfl) (fun _ _ _ h => h) (Ex.cast (Ex.indexAddr rfl rfl Try.underlying41 T.sz63 (by omega) (by omega)) rfl) (ulC (ulC ulN)) (by decide) ?_
  refine GH.take 7 (v := (.int .u32 0)) rfl (by kernel_rfl) (by kernel_rfl) (by kernel_rfl) (fun _ _ _ h => h) (Ex.load rfl T.ag63 (i := 1) rfl rfl) (ulC (ulC ulN)) (by decide) ?_
  refine GH.take 8 (v := (.bool false)) rfl (by kernel_rfl) (by kernel_rfl) (by kernel_rfl) (fun _ _ _ h => h) (Ex.cast (Ex.neq rfl rfl) rfl) (ulC (ulC ulN)) (by decide) ?_
  refine GH.done (by kernel_rfl) ?_
  refine GE.thenN ?_
  refine GC.cond rfl (fun hq5 => by cases hq5) (fun _ => ?_)
  refine GC.skip ?_
  refine GE.blockN ?_
  refine GE.thenN ?_
  refine GC.region ?_
  refine GL.val (Ex.move rfl) (by decide) ?_
  refine GL.val (v := (.int .i64 2)) (Ex.add rfl rfl (Z := 2) (by decide)) (by decide) ?_
  refine GL.val (Ex.assign rfl) (by decide) ?_
  refine GL.nil ?_
  refine GE.thenN ?_
  refine GE.round ?_
  refine GC.seq ?_
  refine GC.seq ?_
  refine GC.region ?_
  refine GL.val (Ex.move rfl) (by decide) ?_
  refine GL.val (Ex.move rfl) (by decide) ?_
  refine GL.val (v := (.int .i64 3)) (Ex.len rfl Try.underlying41) (by decide) ?_
  refine GL.val (v := (.bool true)) (Ex.cast (Ex.lss rfl rfl) rfl) (by decide) ?_
  refine GL.nil ?_
  refine GE.thenN ?_
  refine GC.cond rfl (fun _ => ?_) (fun hq6 => by cases hq6)
  refine GC.skip ?_
  refine GE.thenN ?_
  refine GC.seq ?_
  refine GC.block ?_
  refine GC.seq ?_
  refine GC.draw [⟨c0, [(.int .u32 0), (.int .u32 0), (.int .u32 0)], 63, false⟩, ⟨c1, [(.int .u32 0), (.int .u32 0), (.int .u32 0)], 63, false⟩] T.mixed (fuel := 9) rfl rfl ?_
  refine GH.take 0 (v := (.slice (some ⟨c0, 0, none⟩) 3 3)) rfl (by kernel_rfl) (by kernel_rfl) (by kernel_rfl) (fun _ _ _ h => h) (Ex.move rfl) (ulC (ulC ulN)) (by decide) ?_
  refine GH.take 1 (v := (.int .i64 2)) rfl (by kernel_rfl) (by kernel_rfl) (by kernel_rfl) (fun _ _ _ h => h) (Ex.move rfl) (ulC (ulC ulN)) (by decide) ?_
  refine GH.take 2 (v := (.pointer (some ⟨c0, 2, none⟩))) rfl (by kernel_rfl) (by kernel_rfl) (by kernel_rfl) (fun _ _ _ h => h) (Ex.cast (Ex.indexAddr rfl rfl Try.underlying41 T.sz63 (by omega) (by omega)) rfl) (ulC (ulC ulN)) (by decide) ?_
  refine GH.take 3 (v := (.int .u32 0)) rfl (by kernel_rfl) (by kernel_rfl) (by kernel_rfl) (fun _ _ _ h => h) (Ex.load rfl T.ag63 (i := 0) rfl rfl) (ulC (ulC ulN)) (by decide) ?_
  refine GH.take 4 (v := (.slice (some ⟨c1, 0, none⟩) 3 3)) rfl (by kernel_rfl) (by kernel_rfl) (by kernel_rfl) (fun _ _ _ h => h) (Ex.move rfl) (ulC (ulC ulN)) (by decide) ?_
  refine GH.take 5 (v := (.int .i64 2)) rfl (by kernel_rfl) (by kernel_rfl) (by kernel_rfl) (fun _ _ _ h => h) (Ex.move rfl) (ulC (ulC ulN)) (by decide) ?_
  refine GH.take 6 (v := (.pointer (some ⟨c1, 2, none⟩))) rfl (by kernel_rfl) (by kernel_rfl) (by kernel_rfl) (fun _ _ _ h => h) (Ex.cast (Ex.indexAddr rfl rfl Try.underlying41 T.sz63 (by omega) (by omega)) rfl) (ulC (ulC ulN)) (by decide) ?_
  refine GH.take 7 (v := (.int .u32 0)) rfl (by kernel_rfl) (by kernel_rfl) (by kernel_rfl) (fun _ _ _ h => h) (Ex.load rfl T.ag63 (i := 1) rfl rfl) (ulC (ulC ulN)) (by decide) ?_
  refine GH.take 8 (v := (.bool false)) rfl (by kernel_rfl) (by kernel_rfl) (by kernel_rfl) (fun _ _ _ h => h) (Ex.cast (Ex.neq rfl rfl) rfl) (ulC (ulC ulN)) (by decide) ?_
  refine GH.done (by kernel_rfl) ?_
  refine GE.thenN ?_
  refine GC.cond rfl (fun hq7 => by cases hq7) (fun _ => ?_)
  refine GC.skip ?_
  refine GE.blockN ?_
  refine GE.thenN ?_
  refine GC.region ?_
  refine GL.val (Ex.move rfl) (by decide) ?_
  refine GL.val (v := (.int .i64 3)) (Ex.add rfl rfl (Z := 3) (by decide)) (by decide) ?_
  refine GL.val (Ex.assign rfl) (by decide) ?_
  refine GL.nil ?_
  refine GE.thenN ?_
  refine GE.round ?_
  refine GC.seq ?_
  refine GC.seq ?_
  refine GC.region ?_
  refine GL.val (Ex.move rfl) (by decide) ?_
  refine GL.val (Ex.move rfl) (by decide) ?_
  refine GL.val (v := (.int .i64 3)) (Ex.len rfl Try.underlying41) (by decide) ?_
  refine GL.val (v := (.bool false)) (Ex.cast (Ex.lss rfl rfl) rfl) (by decide) ?_
  refine GL.nil ?_
  refine GE.thenN ?_
  refine GC.cond rfl (fun hq8 => by cases hq8) (fun _ => ?_)
  refine GC.exit ?_
  refine GE.thenE ?_
  refine GE.thenE ?_
  refine GE.blockE ?_
  refine GE.thenN ?_
  refine GC.seq ?_
  refine GC.region ?_
  refine GL.val (Ex.assign rfl) (by decide) ?_
  refine GL.nil ?_
  refine GE.thenN ?_
  refine GC.ret ?_
  refine GC.ret1 rfl (Rv.tmp rfl) (fun wN HN => ?_)
  exact HN.ret () trivial rfl (ulS (ulS ulN)) rfl

set_option maxRecDepth 100000 in
set_option maxHeartbeats 1000000 in
theorem k22_86 (c0 : Nat) (c1 : Nat) (w : World) (hh : Has w [⟨c0, [(.int .u32 0), (.int .u32 0), (.int .u32 0)], 63, false⟩, ⟨c1, [(.int .u32 0), (.int .u32 0), (.int .u32 0)], 63, false⟩]) :
    Calls Try.prog 22 #[(.agg #[(.int .i64 3), (.int .i64 1), (.slice (some ⟨c0, 0, none⟩) 3 3)]), (.agg #[(.int .i64 3), (.int .i64 1), (.slice (some ⟨c1, 0, none⟩) 3 3)])] w (Ret w (fun _ : Unit => True) (fun rz => (.bool true)) (fun rz => [])) := by
  refine enter (M := None) (L := [⟨c0, [(.int .u32 0), (.int .u32 0), (.int .u32 0)], 63, false⟩, ⟨c1, [(.int .u32 0), (.int .u32 0), (.int .u32 0)], 63, false⟩]) (n := 24) (l := [(0, (.agg #[(.int .i64 3), (.int .i64 1), (.slice (some ⟨c0, 0, none⟩) 3 3)])), (1, (.agg #[(.int .i64 3), (.int .i64 1), (.slice (some ⟨c1, 0, none⟩) 3 3)]))]) Try.func22 rfl rfl (Args.cons rfl (Args.cons rfl (Args.nil _))) (Hp.reads hh rfl) ?_
  refine GC.seq ?_
  refine GC.region ?_
  refine GL.step (Stp.box (cs := [(.int .i64 3), (.int .i64 1), (.slice (some ⟨c0, 0, none⟩) 3 3)]) rfl rfl (by decide)) (fun bq1 _ => ?_)
  refine GL.step (Stp.box (cs := [(.int .i64 3), (.int .i64 1), (.slice (some ⟨c1, 0, none⟩) 3 3)]) rfl rfl (by decide)) (fun bq2 _ => ?_)
  refine GL.val (Ex.assign rfl) (by decide) ?_
  refine GL.nil ?_
  refine GE.thenN ?_
  refine GC.seq ?_
  refine GC.region ?_
  refine GL.val (v := (.pointer (some ⟨bq1, 0, none⟩))) (Ex.cast (Ex.fieldAddr rfl Try.underlying43 rfl T.sz3 (by decide)) rfl) (by decide) ?_
  refine GL.val (Ex.load rfl T.ag3 (i := 1) rfl rfl) (by decide) ?_
  refine GL.val (v := (.pointer (some ⟨bq2, 0, none⟩))) (Ex.cast (Ex.fieldAddr rfl Try.underlying43 rfl T.sz3 (by decide)) rfl) (by decide) ?_
  refine GL.val (Ex.load rfl T.ag3 (i := 0) rfl rfl) (by decide) ?_
  refine GL.val (v := (.bool true)) (Ex.cast (Ex.eql rfl rfl) rfl) (by decide) ?_
  refine GL.val (Ex.move rfl) (by decide) ?_
  refine GL.stepG (tj := 10) rfl rfl (Ex.wp (v := (.pointer (some ⟨bq1, 1, none⟩))) (Ex.cast (Ex.fieldAddr rfl Try.underlying43 rfl T.sz3 (by decide)) rfl) (by decide)) (fun _ _ => ?_)
  refine GL.stepG (tj := 10) rfl rfl (Ex.wp (v := (.int .i64 1)) (Ex.load rfl T.ag3 (i := 1) rfl rfl) (by decide)) (fun _ _ => ?_)
  refine GL.stepG (tj := 10) rfl rfl (Ex.wp (v := (.pointer (some ⟨bq2, 1, none⟩))) (Ex.cast (Ex.fieldAddr rfl Try.underlying43 rfl T.sz3 (by decide)) rfl) (by decide)) (fun _ _ => ?_)
  refine GL.stepG (tj := 10) rfl rfl (Ex.wp (v := (.int .i64 1)) (Ex.load rfl T.ag3 (i := 0) rfl rfl) (by decide)) (fun _ _ => ?_)
  refine GL.stepG (tj := 10) rfl rfl (Ex.wp (v := (.bool true)) (Ex.cast (Ex.eql rfl rfl) rfl) (by decide)) (fun _ _ => ?_)
  refine GL.val (v := (.bool true)) (Ex.pickT rfl rfl) (by decide) ?_
  refine GL.val (Ex.move rfl) (by decide) ?_
  refine GL.stepG (tj := 17) rfl rfl (Ex.wp (v := (.pointer (some ⟨bq1, 2, none⟩))) (Ex.cast (Ex.fieldAddr rfl Try.underlying43 rfl T.sz41 (by decide)) rfl) (by decide)) (fun _ _ => ?_)
  refine GL.stepG (tj := 17) rfl rfl (Ex.wp (v := (.slice (some ⟨c0, 0, none⟩) 3 3)) (Ex.load rfl T.ag41 (i := 1) rfl rfl) (by decide)) (fun _ _ => ?_)
  refine GL.stepG (tj := 17) rfl rfl (Ex.wp (v := (.pointer (some ⟨bq2, 2, none⟩))) (Ex.cast (Ex.fieldAddr rfl Try.underlying43 rfl T.sz41 (by decide)) rfl) (by decide)) (fun _ _ => ?_)
  refine GL.stepG (tj := 17) rfl rfl (Ex.wp (v := (.slice (some ⟨c1, 0, none⟩) 3 3)) (Ex.load rfl T.ag41 (i := 0) rfl rfl) (by decide)) (fun _ _ => ?_)
  refine GL.stepG (tj := 17) rfl rfl (Stp.callR (vs := [(.slice (some ⟨c0, 0, none⟩) 3 3), (.slice (some ⟨c1, 0, none⟩) 3 3)]) rfl rfl T.own50 (by decide) (fun wc hw => k50_87 c0 c1 wc (Has.cons (hw.hasOf (i := 2) rfl) (Has.cons (hw.hasOf (i := 3) rfl) (Has.nil _))))) (fun xq3 hq4 => ?_)
  refine GL.val (v := (.bool true)) (Ex.pickT rfl rfl) (by decide) ?_
  refine GL.val (Ex.assign rfl) (by decide) ?_
  refine GL.nil ?_
  refine GE.thenN ?_
  refine GC.ret ?_
  refine GC.ret1 rfl (Rv.tmp rfl) (fun wN HN => ?_)
  exact HN.ret () trivial rfl (ulS (ulS (ulS (ulS ulN)))) rfl

set_option maxRecDepth 100000 in
set_option maxHeartbeats 1000000 in
theorem known (w : World) :
    Calls Try.prog 12 #[] w (Ret w (fun _ : Unit => True) (fun _ => .bool true) (fun _ => [])) := by
  refine enter (M := None) (L := []) (n := 82) (l := []) Try.func12 rfl rfl (Args.nil _) (Hp.start _ _) ?_
  refine GC.seq ?_
  refine GC.region ?_
  refine GL.val (Ex.assign rfl) (by decide) ?_
  refine GL.nil ?_
  refine GE.thenN ?_
  refine GC.seq ?_
  refine GC.region ?_
  refine GL.step (Stp.callR (vs := [(.int .i64 1), (.int .i64 2)]) rfl rfl T.own14 (by decide) (fun wc hw => k14_1  wc )) (fun xq1 hq2 => ?_)
  refine GL.val (Ex.move rfl) (by decide) ?_
  refine GL.val (Ex.extract rfl rfl) (by decide) ?_
  refine GL.val (Ex.extract rfl rfl) (by decide) ?_
  refine GL.val (Ex.assign rfl) (by decide) ?_
  refine GL.val (Ex.assign rfl) (by decide) ?_
  refine GL.nil ?_
  refine GE.thenN ?_
  refine GC.seq ?_
  refine GC.region ?_
  refine GL.step (Stp.callR (vs := [(.int .i64 2), (.int .i64 1)]) rfl rfl T.own14 (by decide) (fun wc hw => k14_2  wc )) (fun xq3 hq4 => ?_)
  refine GL.val (Ex.move rfl) (by decide) ?_
  refine GL.val (Ex.extract rfl rfl) (by decide) ?_
  refine GL.val (Ex.extract rfl rfl) (by decide) ?_
  refine GL.val (Ex.assign rfl) (by decide) ?_
  refine GL.val (Ex.assign rfl) (by decide) ?_
  refine GL.nil ?_
  refine GE.thenN ?_
  refine GC.seq ?_
  refine GC.region ?_
  refine GL.step (Stp.buildSlice (cs := [(.int .u32 0), (.int .u32 0), (.int .u32 1065353216), (.int .u32 0), (.int .u32 0)]) (vs := [(0, (.int .u32 0)), (1, (.int .u32 0)), (2, (.int .u32 1065353216)), (3, (.int .u32 0)), (4, (.int .u32 0))]) Try.underlying41 T.zr63 T.sz63 rfl (by decide) (by decide) (by first | rfl | kernel_rfl) (by decide)) (fun bq5 _ => ?_)
  refine GL.step (Stp.callR (vs := [(.slice (some ⟨bq5, 0, none⟩) 5 5)]) rfl rfl T.own38 (by decide) (fun wc hw => k38_3 bq5 wc (Has.cons (hw.hasOf (i := 0) rfl) (Has.nil _)))) (fun xq6 hq7 => ?_)
  refine GL.step (Stp.callR (vs := [(.agg #[(.int .i64 5), (.int .i64 1), (.slice (some ⟨bq5, 0, none⟩) 5 5)]), (.int .i64 1), (.int .i64 1), (.int .i64 1)]) rfl rfl T.own21 (by decide) (fun wc hw => k21_4 bq5 wc (Has.cons (hw.hasOf (i := 0) rfl) (Has.nil _)))) (fun xq8 hq9 => ?_)
  refine GL.val (Ex.move rfl) (by decide) ?_
  refine GL.val (Ex.extract rfl rfl) (by decide) ?_
  refine GL.val (Ex.extract rfl rfl) (by decide) ?_
  refine GL.step (Stp.alloc T.zr43 (by decide)) (fun bq10 _ => ?_)
  refine GL.step (Stp.st0 (cs' := [(.int .i64 5), (.int .i64 1), (.slice (some ⟨xq8, 0, none⟩) 5 5)]) rfl rfl rfl T.sz43 rfl rfl rfl) (fun _ _ => ?_)
  refine GL.val (Ex.assign rfl) (by decide) ?_
  refine GL.nil ?_
  refine GE.thenN ?_
  refine GC.seq ?_
  refine GC.region ?_
  refine GL.step (Stp.buildSlice (cs := [(.int .u32 1077936128), (.int .u32 0), (.int .u32 0)]) (vs := [(0, (.int .u32 1077936128)), (1, (.int .u32 0)), (2, (.int .u32 0))]) Try.underlying41 T.zr63 T.sz63 rfl (by decide) (by decide) (by first | rfl | kernel_rfl) (by decide)) (fun bq11 _ => ?_)
  refine GL.step (Stp.callR (vs := [(.slice (some ⟨bq11, 0, none⟩) 3 3)]) rfl rfl T.own38 (by decide) (fun wc hw => k38_39 bq11 wc (Has.cons (hw.hasOf (i := 0) rfl) (Has.nil _)))) (fun xq12 hq13 => ?_)
  refine GL.step (Stp.callR (vs := [(.agg #[(.int .i64 3), (.int .i64 1), (.slice (some ⟨bq11, 0, none⟩) 3 3)]), (.int .i64 2), (.int .i64 1), (.int .i64 3)]) rfl rfl T.own21 (by decide) (fun wc hw => k21_40 bq11 wc (Has.cons (hw.hasOf (i := 0) rfl) (Has.nil _)))) (fun xq14 hq15 => ?_)
  refine GL.val (Ex.move rfl) (by decide) ?_
  refine GL.val (Ex.extract rfl rfl) (by decide) ?_
  refine GL.val (Ex.extract rfl rfl) (by decide) ?_
  refine GL.step (Stp.alloc T.zr43 (by decide)) (fun bq16 _ => ?_)
  refine GL.step (Stp.st0 (cs' := [(.int .i64 3), (.int .i64 1), (.slice (some ⟨xq14, 0, none⟩) 3 3)]) rfl rfl rfl T.sz43 rfl rfl rfl) (fun _ _ => ?_)
  refine GL.val (Ex.assign rfl) (by decide) ?_
  refine GL.nil ?_
  refine GE.thenN ?_
  refine GC.seq ?_
  refine GC.region ?_
  refine GL.step (Stp.buildSlice (cs := [(.int .u32 1065353216), (.int .u32 1073741824), (.int .u32 1082130432)]) (vs := [(0, (.int .u32 1065353216)), (1, (.int .u32 1073741824)), (2, (.int .u32 1082130432))]) Try.underlying41 T.zr63 T.sz63 rfl (by decide) (by decide) (by first | rfl | kernel_rfl) (by decide)) (fun bq17 _ => ?_)
  refine GL.step (Stp.callR (vs := [(.slice (some ⟨bq17, 0, none⟩) 3 3)]) rfl rfl T.own38 (by decide) (fun wc hw => k38_57 bq17 wc (Has.cons (hw.hasOf (i := 0) rfl) (Has.nil _)))) (fun xq18 hq19 => ?_)
  refine GL.step (Stp.callR (vs := [(.agg #[(.int .i64 3), (.int .i64 1), (.slice (some ⟨bq17, 0, none⟩) 3 3)]), (.int .i64 1)]) rfl rfl T.own26 (by decide) (fun wc hw => k26_58 bq17 wc (Has.cons (hw.hasOf (i := 0) rfl) (Has.nil _)))) (fun xq20 hq21 => ?_)
  refine GL.val (Ex.move rfl) (by decide) ?_
  refine GL.val (Ex.extract rfl rfl) (by decide) ?_
  refine GL.val (Ex.extract rfl rfl) (by decide) ?_
  refine GL.val (Ex.extract rfl rfl) (by decide) ?_
  refine GL.step (Stp.alloc T.zr43 (by decide)) (fun bq22 _ => ?_)
  refine GL.step (Stp.alloc T.zr43 (by decide)) (fun bq23 _ => ?_)
  refine GL.step (Stp.st1 (cs' := [(.int .i64 3), (.int .i64 1), (.slice (some ⟨xq20.2, 0, none⟩) 3 3)]) rfl rfl rfl T.sz43 rfl rfl rfl) (fun _ _ => ?_)
  refine GL.step (Stp.st0 (cs' := [(.int .i64 3), (.int .i64 1), (.slice (some ⟨xq20.1, 0, none⟩) 3 3)]) rfl rfl rfl T.sz43 rfl rfl rfl) (fun _ _ => ?_)
  refine GL.val (Ex.assign rfl) (by decide) ?_
  refine GL.nil ?_
  refine GE.thenN ?_
  refine GC.seq ?_
  refine GC.seq ?_
  refine GC.region ?_
  refine GL.val (Ex.move rfl) (by decide) ?_
  refine GL.step (Stp.callR (vs := [(.int .i64 0)]) rfl rfl T.own15 (by decide) (fun wc hw => k15_73  wc )) (fun xq24 hq25 => ?_)
  refine GL.val (Ex.move rfl) (by decide) ?_
  refine GL.step (Stp.callR (vs := [(.int .i64 0)]) rfl rfl T.own15 (by decide) (fun wc hw => k15_73  wc )) (fun xq26 hq27 => ?_)
  refine GL.val (v := (.int .i64 0)) (Ex.add rfl rfl (Z := 0) (by decide)) (by decide) ?_
  refine GL.val (Ex.move rfl) (by decide) ?_
  refine GL.step (Stp.callR (vs := [(.int .i64 0)]) rfl rfl T.own15 (by decide) (fun wc hw => k15_73  wc )) (fun xq28 hq29 => ?_)
  refine GL.val (v := (.int .i64 0)) (Ex.add rfl rfl (Z := 0) (by decide)) (by decide) ?_
  refine GL.val (v := (.bool false)) (Ex.cast (Ex.neq rfl rfl) rfl) (by decide) ?_
  refine GL.val (Ex.move rfl) (by decide) ?_
  refine GL.stepG (tj := 48) rfl rfl (Ex.wp (v := (.slice (some ⟨xq1, 0, none⟩) 5 5)) (Ex.move rfl) (by decide)) (fun _ _ => ?_)
  refine GL.stepG (tj := 48) rfl rfl (Stp.buildSlice (cs := [(.int .i64 1), (.int .i64 4), (.int .i64 6), (.int .i64 4), (.int .i64 1)]) (vs := [(0, (.int .i64 1)), (1, (.int .i64 4)), (2, (.int .i64 6)), (3, (.int .i64 4)), (4, (.int .i64 1))]) Try.underlying28 T.zr3 T.sz3 rfl (by decide) (by decide) (by first | rfl | kernel_rfl) (by decide)) (fun bq30 _ => ?_)
  refine GL.stepG (tj := 48) rfl rfl (Stp.callR (vs := [(.slice (some ⟨xq1, 0, none⟩) 5 5), (.slice (some ⟨bq30, 0, none⟩) 5 5)]) rfl rfl T.own16 (by decide) (fun wc hw => k16_74 xq1 bq30 wc (Has.cons (hw.hasOf (i := 13) rfl) (Has.cons (hw.hasOf (i := 0) rfl) (Has.nil _))))) (fun xq31 hq32 => ?_)
  refine GL.stepG (tj := 48) rfl rfl (Ex.wp (v := (.bool false)) (Ex.cast (Ex.not rfl) rfl) (by decide)) (fun _ _ => ?_)
  refine GL.val (v := (.bool false)) (Ex.pickF rfl rfl) (by decide) ?_
  refine GL.val (Ex.move rfl) (by decide) ?_
  refine GL.stepG (tj := 54) rfl rfl (Ex.wp (v := (.slice (some ⟨xq3, 0, none⟩) 3 3)) (Ex.move rfl) (by decide)) (fun _ _ => ?_)
  refine GL.stepG (tj := 54) rfl rfl (Stp.buildSlice (cs := [(.int .i64 1), (.int .i64 1), (.int .i64 1)]) (vs := [(0, (.int .i64 1)), (1, (.int .i64 1)), (2, (.int .i64 1))]) Try.underlying28 T.zr3 T.sz3 rfl (by decide) (by decide) (by first | rfl | kernel_rfl) (by decide)) (fun bq33 _ => ?_)
  refine GL.stepG (tj := 54) rfl rfl (Stp.callR (vs := [(.slice (some ⟨xq3, 0, none⟩) 3 3), (.slice (some ⟨bq33, 0, none⟩) 3 3)]) rfl rfl T.own16 (by decide) (fun wc hw => k16_75 xq3 bq33 wc (Has.cons (hw.hasOf (i := 13) rfl) (Has.cons (hw.hasOf (i := 0) rfl) (Has.nil _))))) (fun xq34 hq35 => ?_)
  refine GL.stepG (tj := 54) rfl rfl (Ex.wp (v := (.bool false)) (Ex.cast (Ex.not rfl) rfl) (by decide)) (fun _ _ => ?_)
  refine GL.val (v := (.bool false)) (Ex.pickF rfl rfl) (by decide) ?_
  refine GL.nil ?_
  refine GE.thenN ?_
  refine GC.cond rfl (fun hq36 => by cases hq36) (fun _ => ?_)
  refine GC.skip ?_
  refine GE.thenN ?_
  refine GC.seq ?_
  refine GC.drawP [⟨bq33, [(.int .i64 1), (.int .i64 1), (.int .i64 1)], 3, true⟩, ⟨bq30, [(.int .i64 1), (.int .i64 4), (.int .i64 6), (.int .i64 4), (.int .i64 1)], 3, true⟩, ⟨bq23, [(.int .i64 3), (.int .i64 1), (.slice (some ⟨xq20.1, 0, none⟩) 3 3)], 43, true⟩, ⟨bq22, [(.int .i64 3), (.int .i64 1), (.slice (some ⟨xq20.2, 0, none⟩) 3 3)], 43, true⟩, ⟨xq20.1, [(.int .u32 0), (.int .u32 0), (.int .u32 0)], 63, true⟩, ⟨xq20.2, [(.int .u32 1056964608), (.int .u32 1069547520), (.int .u32 1065353216)], 63, true⟩, ⟨bq17, [(.int .u32 1065353216), (.int .u32 1073741824), (.int .u32 1082130432)], 63, true⟩, ⟨bq16, [(.int .i64 3), (.int .i64 1), (.slice (some ⟨xq14, 0, none⟩) 3 3)], 43, true⟩, ⟨xq14, [(.int .u32 1065353216), (.int .u32 1065353216), (.int .u32 1065353216)], 63, true⟩, ⟨bq11, [(.int .u32 1077936128), (.int .u32 0), (.int .u32 0)], 63, true⟩, ⟨bq10, [(.int .i64 5), (.int .i64 1), (.slice (some ⟨xq8, 0, none⟩) 5 5)], 43, true⟩, ⟨xq8, [(.int .u32 0), (.int .u32 1048576000), (.int .u32 1056964608), (.int .u32 1048576000), (.int .u32 0)], 63, true⟩, ⟨bq5, [(.int .u32 0), (.int .u32 0), (.int .u32 1065353216), (.int .u32 0), (.int .u32 0)], 63, true⟩, ⟨xq3, [(.int .i64 1), (.int .i64 1), (.int .i64 1)], 3, true⟩, ⟨xq1, [(.int .i64 1), (.int .i64 4), (.int .i64 6), (.int .i64 4), (.int .i64 1)], 3, true⟩] T.mixed (by kernel_rfl) (by kernel_rfl) (fuel := 22) rfl rfl ?_
  refine GH.take 0 (v := (.agg #[(.int .i64 5), (.int .i64 1), (.slice (some ⟨xq8, 0, none⟩) 5 5)])) rfl (by kernel_rfl) (by kernel_rfl) (by kernel_rfl) (fun _ _ _ h => h) (Ex.loadA rfl T.ag43 T.sz43 (i := 10) rfl (vs := [(.int .i64 5), (.int .i64 1), (.slice (some ⟨xq8, 0, none⟩) 5 5)]) rfl rfl) (ulC (ulC (ulC (ulC (ulC (ulC (ulC (ulC (ulC (ulC (ulC (ulC (ulC (ulC (ulC ulN))))))))))))))) (by decide) ?_
  refine GH.one 1 rfl (by kernel_rfl) (Stp.buildSlice (cs := [(.int .u32 0), (.int .u32 1048576000), (.int .u32 1056964608), (.int .u32 1048576000), (.int .u32 0)]) (vs := [(0, (.int .u32 0)), (1, (.int .u32 1048576000)), (2, (.int .u32 1056964608)), (3, (.int .u32 1048576000)), (4, (.int .u32 0))]) Try.underlying41 T.zr63 T.sz63 rfl (by decide) (by decide) (by first | rfl | kernel_rfl) (by decide)) (fun _ => (ulS (ulC (ulC (ulC (ulC (ulC (ulC (ulC (ulC (ulC (ulC (ulC (ulC (ulC (ulC (ulC ulN))))))))))))))))) (fun bq37 _ => ?_)
  refine GH.one 2 rfl (by kernel_rfl) (Stp.callR (vs := [(.slice (some ⟨bq37, 0, none⟩) 5 5)]) rfl rfl T.own38 (by decide) (fun wc hw => k38_76 bq37 wc (Has.cons (hw.hasOf (i := 0) rfl) (Has.nil _)))) (fun _ => (ulS (ulC (ulC (ulC (ulC (ulC (ulC (ulC (ulC (ulC (ulC (ulC (ulC (ulC (ulC (ulC ulN))))))))))))))))) (fun xq38 hq39 => ?_)
  refine GH.one 3 rfl (by kernel_rfl) (Stp.callR (vs := [(.agg #[(.int .i64 5), (.int .i64 1), (.slice (some ⟨xq8, 0, none⟩) 5 5)]), (.agg #[(.int .i64 5), (.int .i64 1), (.slice (some ⟨bq37, 0, none⟩) 5 5)])]) rfl rfl T.own22 (by decide) (fun wc hw => k22_77 xq8 bq37 wc (Has.cons (hw.hasOf (i := 12) rfl) (Has.cons (hw.hasOf (i := 0) rfl) (Has.nil _))))) (fun _ => (ulS (ulC (ulC (ulC (ulC (ulC (ulC (ulC (ulC (ulC (ulC (ulC (ulC (ulC (ulC (ulC ulN))))))))))))))))) (fun xq40 hq41 => ?_)
  refine GH.take 4 (v := (.bool true)) rfl (by kernel_rfl) (by kernel_rfl) (by kernel_rfl) (fun _ _ _ h => h) (Ex.move rfl) (ulS (ulC (ulC (ulC (ulC (ulC (ulC (ulC (ulC (ulC (ulC (ulC (ulC (ulC (ulC (ulC ulN)))))))))))))))) (by decide) ?_
  refine GH.takeG 5 (tj := 64) (v := (.agg #[(.int .i64 3), (.int .i64 1), (.slice (some ⟨xq14, 0, none⟩) 3 3)])) rfl rfl rfl (by kernel_rfl) (by kernel_rfl) (by kernel_rfl) (fun _ _ _ h => h) (Ex.loadA rfl T.ag43 T.sz43 (i := 7) rfl (vs := [(.int .i64 3), (.int .i64 1), (.slice (some ⟨xq14, 0, none⟩) 3 3)]) rfl rfl) (ulS (ulC (ulC (ulC (ulC (ulC (ulC (ulC (ulC (ulC (ulC (ulC (ulC (ulC (ulC (ulC ulN)))))))))))))))) (by decide) ?_
  refine GH.oneG 6 (tj := 64) rfl rfl rfl (by kernel_rfl) (Stp.buildSlice (cs := [(.int .u32 1065353216), (.int .u32 1065353216), (.int .u32 1065353216)]) (vs := [(0, (.int .u32 1065353216)), (1, (.int .u32 1065353216)), (2, (.int .u32 1065353216))]) Try.underlying41 T.zr63 T.sz63 rfl (by decide) (by decide) (by first | rfl | kernel_rfl) (by decide)) (fun _ => (ulS (ulS (ulC (ulC (ulC (ulC (ulC (ulC (ulC (ulC (ulC (ulC (ulC (ulC (ulC (ulC (ulC ulN)))))))))))))))))) (fun bq42 _ => ?_)
  refine GH.oneG 7 (tj := 64) rfl rfl rfl (by kernel_rfl) (Stp.callR (vs := [(.slice (some ⟨bq42, 0, none⟩) 3 3)]) rfl rfl T.own38 (by decide) (fun wc hw => k38_79 bq42 wc (Has.cons (hw.hasOf (i := 0) rfl) (Has.nil _)))) (fun _ => (ulS (ulS (ulC (ulC (ulC (ulC (ulC (ulC (ulC (ulC (ulC (ulC (ulC (ulC (ulC (ulC (ulC ulN)))))))))))))))))) (fun xq43 hq44 => ?_)
  refine GH.oneG 8 (tj := 64) rfl rfl rfl (by kernel_rfl) (Stp.callR (vs := [(.agg #[(.int .i64 3), (.int .i64 1), (.slice (some ⟨xq14, 0, none⟩) 3 3)]), (.agg #[(.int .i64 3), (.int .i64 1), (.slice (some ⟨bq42, 0, none⟩) 3 3)])]) rfl rfl T.own22 (by decide) (fun wc hw => k22_80 xq14 bq42 wc (Has.cons (hw.hasOf (i := 10) rfl) (Has.cons (hw.hasOf (i := 0) rfl) (Has.nil _))))) (fun _ => (ulS (ulS (ulC (ulC (ulC (ulC (ulC (ulC (ulC (ulC (ulC (ulC (ulC (ulC (ulC (ulC (ulC ulN)))))))))))))))))) (fun xq45 hq46 => ?_)
  refine GH.take 9 (v := (.bool true)) rfl (by kernel_rfl) (by kernel_rfl) (by kernel_rfl) (fun _ _ _ h => h) (Ex.pickT rfl rfl) (ulS (ulS (ulC (ulC (ulC (ulC (ulC (ulC (ulC (ulC (ulC (ulC (ulC (ulC (ulC (ulC (ulC ulN))))))))))))))))) (by decide) ?_
  refine GH.take 10 (v := (.bool true)) rfl (by kernel_rfl) (by kernel_rfl) (by kernel_rfl) (fun _ _ _ h => h) (Ex.move rfl) (ulS (ulS (ulC (ulC (ulC (ulC (ulC (ulC (ulC (ulC (ulC (ulC (ulC (ulC (ulC (ulC (ulC ulN))))))))))))))))) (by decide) ?_
  refine GH.takeG 11 (tj := 70) (v := (.agg #[(.int .i64 3), (.int .i64 1), (.slice (some ⟨xq20.2, 0, none⟩) 3 3)])) rfl rfl rfl (by kernel_rfl) (by kernel_rfl) (by kernel_rfl) (fun _ _ _ h => h) (Ex.loadA rfl T.ag43 T.sz43 (i := 3) rfl (vs := [(.int .i64 3), (.int .i64 1), (.slice (some ⟨xq20.2, 0, none⟩) 3 3)]) rfl rfl) (ulS (ulS (ulC (ulC (ulC (ulC (ulC (ulC (ulC (ulC (ulC (ulC (ulC (ulC (ulC (ulC (ulC ulN))))))))))))))))) (by decide) ?_
  refine GH.oneG 12 (tj := 70) rfl rfl rfl (by kernel_rfl) (Stp.buildSlice (cs := [(.int .u32 1056964608), (.int .u32 1069547520), (.int .u32 1065353216)]) (vs := [(0, (.int .u32 1056964608)), (1, (.int .u32 1069547520)), (2, (.int .u32 1065353216))]) Try.underlying41 T.zr63 T.sz63 rfl (by decide) (by decide) (by first | rfl | kernel_rfl) (by decide)) (fun _ => (ulS (ulS (ulS (ulC (ulC (ulC (ulC (ulC (ulC (ulC (ulC (ulC (ulC (ulC (ulC (ulC (ulC (ulC ulN))))))))))))))))))) (fun bq47 _ => ?_)
  refine GH.oneG 13 (tj := 70) rfl rfl rfl (by kernel_rfl) (Stp.callR (vs := [(.slice (some ⟨bq47, 0, none⟩) 3 3)]) rfl rfl T.own38 (by decide) (fun wc hw => k38_82 bq47 wc (Has.cons (hw.hasOf (i := 0) rfl) (Has.nil _)))) (fun _ => (ulS (ulS (ulS (ulC (ulC (ulC (ulC (ulC (ulC (ulC (ulC (ulC (ulC (ulC (ulC (ulC (ulC (ulC ulN))))))))))))))))))) (fun xq48 hq49 => ?_)
  refine GH.oneG 14 (tj := 70) rfl rfl rfl (by kernel_rfl) (Stp.callR (vs := [(.agg #[(.int .i64 3), (.int .i64 1), (.slice (some ⟨xq20.2, 0, none⟩) 3 3)]), (.agg #[(.int .i64 3), (.int .i64 1), (.slice (some ⟨bq47, 0, none⟩) 3 3)])]) rfl rfl T.own22 (by decide) (fun wc hw => k22_83 xq20.2 bq47 wc (Has.cons (hw.hasOf (i := 8) rfl) (Has.cons (hw.hasOf (i := 0) rfl) (Has.nil _))))) (fun _ => (ulS (ulS (ulS (ulC (ulC (ulC (ulC (ulC (ulC (ulC (ulC (ulC (ulC (ulC (ulC (ulC (ulC (ulC ulN))))))))))))))))))) (fun xq50 hq51 => ?_)
  refine GH.take 15 (v := (.bool true)) rfl (by kernel_rfl) (by kernel_rfl) (by kernel_rfl) (fun _ _ _ h => h) (Ex.pickT rfl rfl) (ulS (ulS (ulS (ulC (ulC (ulC (ulC (ulC (ulC (ulC (ulC (ulC (ulC (ulC (ulC (ulC (ulC (ulC ulN)))))))))))))))))) (by decide) ?_
  refine GH.take 16 (v := (.bool true)) rfl (by kernel_rfl) (by kernel_rfl) (by kernel_rfl) (fun _ _ _ h => h) (Ex.move rfl) (ulS (ulS (ulS (ulC (ulC (ulC (ulC (ulC (ulC (ulC (ulC (ulC (ulC (ulC (ulC (ulC (ulC (ulC ulN)))))))))))))))))) (by decide) ?_
  refine GH.takeG 17 (tj := 76) (v := (.agg #[(.int .i64 3), (.int .i64 1), (.slice (some ⟨xq20.1, 0, none⟩) 3 3)])) rfl rfl rfl (by kernel_rfl) (by kernel_rfl) (by kernel_rfl) (fun _ _ _ h => h) (Ex.loadA rfl T.ag43 T.sz43 (i := 2) rfl (vs := [(.int .i64 3), (.int .i64 1), (.slice (some ⟨xq20.1, 0, none⟩) 3 3)]) rfl rfl) (ulS (ulS (ulS (ulC (ulC (ulC (ulC (ulC (ulC (ulC (ulC (ulC (ulC (ulC (ulC (ulC (ulC (ulC ulN)))))))))))))))))) (by decide) ?_
  refine GH.oneG 18 (tj := 76) rfl rfl rfl (by kernel_rfl) (Stp.buildSlice (cs := [(.int .u32 0), (.int .u32 0), (.int .u32 0)]) (vs := [(0, (.int .u32 0)), (1, (.int .u32 0)), (2, (.int .u32 0))]) Try.underlying41 T.zr63 T.sz63 rfl (by decide) (by decide) (by first | rfl | kernel_rfl) (by decide)) (fun _ => (ulS (ulS (ulS (ulS (ulC (ulC (ulC (ulC (ulC (ulC (ulC (ulC (ulC (ulC (ulC (ulC (ulC (ulC (ulC ulN)))))))))))))))))))) (fun bq52 _ => ?_)
  refine GH.oneG 19 (tj := 76) rfl rfl rfl (by kernel_rfl) (Stp.callR (vs := [(.slice (some ⟨bq52, 0, none⟩) 3 3)]) rfl rfl T.own38 (by decide) (fun wc hw => k38_85 bq52 wc (Has.cons (hw.hasOf (i := 0) rfl) (Has.nil _)))) (fun _ => (ulS (ulS (ulS (ulS (ulC (ulC (ulC (ulC (ulC (ulC (ulC (ulC (ulC (ulC (ulC (ulC (ulC (ulC (ulC ulN)))))))))))))))))))) (fun xq53 hq54 => ?_)
  refine GH.oneG 20 (tj := 76) rfl rfl rfl (by kernel_rfl) (Stp.callR (vs := [(.agg #[(.int .i64 3), (.int .i64 1), (.slice (some ⟨xq20.1, 0, none⟩) 3 3)]), (.agg #[(.int .i64 3), (.int .i64 1), (.slice (some ⟨bq52, 0, none⟩) 3 3)])]) rfl rfl T.own22 (by decide) (fun wc hw => k22_86 xq20.1 bq52 wc (Has.cons (hw.hasOf (i := 8) rfl) (Has.cons (hw.hasOf (i := 0) rfl) (Has.nil _))))) (fun _ => (ulS (ulS (ulS (ulS (ulC (ulC (ulC (ulC (ulC (ulC (ulC (ulC (ulC (ulC (ulC (ulC (ulC (ulC (ulC ulN)))))))))))))))))))) (fun xq55 hq56 => ?_)
  refine GH.take 21 (v := (.bool true)) rfl (by kernel_rfl) (by kernel_rfl) (by kernel_rfl) (fun _ _ _ h => h) (Ex.pickT rfl rfl) (ulS (ulS (ulS (ulS (ulC (ulC (ulC (ulC (ulC (ulC (ulC (ulC (ulC (ulC (ulC (ulC (ulC (ulC (ulC ulN))))))))))))))))))) (by decide) ?_
  refine GH.done (by kernel_rfl) ?_
  refine GE.thenN ?_
  refine GE.tail rfl (Ex.wp (v := (.bool true)) (Ex.assign rfl) (by decide)) (fun _ _ => ?_)
  refine GE.thenN ?_
  refine GC.ret ?_
  refine GC.ret1 rfl (Rv.tmp rfl) (fun wN HN => ?_)
  exact HN.ret () trivial (by first | rfl | simp) (List.nil_sublist _) rfl

set_option maxRecDepth 100000 in
set_option maxHeartbeats 1000000 in
theorem num (e : Int) (w : World) :
    Calls Try.prog 15 #[(.int .i64 e)] w (Ret w (fun _ : Unit => True) (fun _ => .int .i64 e) (fun _ => [])) := by
  refine enter (M := None) (L := []) (n := 4) (l := [(0, (.int .i64 e))]) Try.func15 rfl rfl (Args.cons rfl (Args.nil _)) (Hp.start _ _) ?_
  refine GC.seq ?_
  refine GC.region ?_
  refine GL.val (Ex.assign rfl) (by decide) ?_
  refine GL.nil ?_
  refine GE.thenN ?_
  refine GC.seq ?_
  refine GC.region ?_
  refine GL.val (Ex.move rfl) (by decide) ?_
  refine GL.val (Ex.assign rfl) (by decide) ?_
  refine GL.nil ?_
  refine GE.thenN ?_
  refine GC.ret ?_
  refine GC.ret1 rfl (Rv.tmp rfl) (fun wN HN => ?_)
  exact HN.ret () trivial rfl (List.nil_sublist _) rfl

set_option maxRecDepth 100000 in
set_option maxHeartbeats 1000000 in
theorem split (a : Int) (w : World) (ha : 0 ≤ a ∧ a < 4294967296) :
    Calls Try.prog 71 #[(.int .u32 a)] w (Ret w (fun _ : Unit => True) (fun _ => (.agg #[(.bool (decide (2147483648 ≤ a))), (.int .i64 (a / 8388608 % 256)), (.int .i64 (a % 8388608))])) (fun _ => [])) := by
  refine enter (M := None) (L := []) (n := 13) (l := [(0, (.int .u32 a))]) Try.func71 rfl rfl (Args.cons rfl (Args.nil _)) (Hp.start _ _) ?_
  refine GC.seq ?_
  refine GC.region ?_
  refine GL.step (Stp.alloc T.zr116 (by decide)) (fun bq1 _ => ?_)
  refine GL.nil ?_
  refine GE.thenN ?_
  refine GC.seq ?_
  refine GC.region ?_
  refine GL.val (Ex.move rfl) (by decide) ?_
  refine GL.val (v := (.bool (decide (2147483648 ≤ a)))) (Ex.geq rfl rfl) (by decide) ?_
  refine GL.val (Ex.move rfl) (by decide) ?_
  refine GL.val (v := (.int .u32 (a / 8388608))) (Ex.shr rfl (m := 23) rfl (by decide) (Z := a / 8388608) rfl) (by decide) ?_
  refine GL.val (v := (.int .u32 ((a / 8388608) % 256))) (Ex.bits rfl rfl (by simp) (Z := (a / 8388608) % 256) (andm 8 (by omega) (by omega) (by decide) rfl rfl)) (by decide) ?_
  refine GL.val (v := (.int .i64 ((a / 8388608) % 256))) (Ex.conv rfl Try.underlying63 Try.underlying3 (Z := (a / 8388608) % 256) (w64 (by omega))) (by decide) ?_
  refine GL.val (Ex.move rfl) (by decide) ?_
  refine GL.val (v := (.int .u32 (a % 8388608))) (Ex.bits rfl rfl (by simp) (Z := a % 8388608) (andm 23 (by omega) (by omega) (by decide) rfl rfl)) (by decide) ?_
  refine GL.val (v := (.int .i64 (a % 8388608))) (Ex.conv rfl Try.underlying63 Try.underlying3 (Z := a % 8388608) (w64 (by omega))) (by decide) ?_
  refine GL.val (v := (.agg #[(.bool (decide (2147483648 ≤ a))), (.int .i64 ((a / 8388608) % 256)), (.int .i64 (a % 8388608))])) (Ex.build (vs := [(0, (.bool (decide (2147483648 ≤ a)))), (1, (.int .i64 ((a / 8388608) % 256))), (2, (.int .i64 (a % 8388608)))]) rfl (by first | rfl | kernel_rfl)) (by decide) ?_
  refine GL.step (Stp.st0 (cs' := [(.bool (decide (2147483648 ≤ a))), (.int .i64 ((a / 8388608) % 256)), (.int .i64 (a % 8388608))]) rfl rfl rfl T.sz116 rfl rfl rfl) (fun _ _ => ?_)
  refine GL.nil ?_
  refine GE.thenN ?_
  refine GC.ret ?_
  refine GC.ret1 rfl (Rv.cellA rfl T.ag116 T.sz116 (L := _) (i := 0) rfl (vs := [(.bool (decide (2147483648 ≤ a))), (.int .i64 ((a / 8388608) % 256)), (.int .i64 (a % 8388608))]) rfl rfl) (fun wN HN => ?_)
  exact HN.ret () trivial rfl (List.nil_sublist _) rfl

set_option maxRecDepth 100000 in
set_option maxHeartbeats 1000000 in
theorem cls_p (a : Int) (w : World) (ha : 0 ≤ a ∧ a < 4294967296) :
    Calls Try.prog 70 #[(.int .u32 a)] w (Ret w (fun _ : Unit => True) (fun _ => (.int .i64 (Bt.cls a))) (fun _ => [])) := by
  refine enter (M := None) (L := []) (n := 23) (l := [(0, (.int .u32 a))]) Try.func70 rfl rfl (Args.cons rfl (Args.nil _)) (Hp.start _ _) ?_
  refine GC.seq ?_
  refine GC.region ?_
  refine GL.val (Ex.assign rfl) (by decide) ?_
  refine GL.nil ?_
  refine GE.thenN ?_
  refine GC.seq ?_
  refine GC.region ?_
  refine GL.val (Ex.move rfl) (by decide) ?_
  refine GL.step (Stp.callR (vs := [(.int .u32 a)]) rfl rfl T.own71 (by decide) (fun wc hw => split a wc (by first | assumption | omega | exact Bt.lst_bd (by assumption) (by assumption) | exact Bt.gst_bd (by assumption) (by assumption) | exact Bt.key_bd (by assumption) | exact Bt.unkey_bd (by assumption) | exact Bt.nxt_bd (by assumption) | exact Bt.lst_bd (Bt.gst_bd (by assumption) (by assumption)) (by assumption) | exact Bt.btw_bd (by assumption) (Bt.lst_bd (by assumption) (by assumption)) (Bt.gst_bd (by assumption) (by assumption))))) (fun xq1 hq2 => ?_)
  refine GL.step (Stp.alloc T.zr116 (by decide)) (fun bq3 _ => ?_)
  refine GL.step (Stp.st0 (cs' := [(.bool (decide (2147483648 ≤ a))), (.int .i64 (a / 8388608 % 256)), (.int .i64 (a % 8388608))]) rfl rfl rfl T.sz116 rfl rfl rfl) (fun _ _ => ?_)
  refine GL.nil ?_
  refine GE.thenN ?_
  refine GC.seq ?_
  refine GC.region ?_
  refine GL.val (v := (.pointer (some ⟨bq3, 0, none⟩))) (Ex.cast (Ex.fieldAddr rfl Try.underlying116 rfl T.sz4 (by decide)) rfl) (by decide) ?_
  refine GL.step (Stp.st0 (cs' := [(.bool false), (.int .i64 (a / 8388608 % 256)), (.int .i64 (a % 8388608))]) rfl rfl rfl T.sz4 rfl rfl rfl) (fun _ _ => ?_)
  refine GL.nil ?_
  refine GE.thenN ?_
  refine GC.seq ?_
  refine GC.block ?_
  refine GC.seq ?_
  refine GC.region ?_
  refine GL.val (v := (.agg #[(.bool false), (.int .i64 (a / 8388608 % 256)), (.int .i64 (a % 8388608))])) (Ex.loadA rfl T.ag116 T.sz116 (i := 0) rfl (vs := [(.bool false), (.int .i64 (a / 8388608 % 256)), (.int .i64 (a % 8388608))]) rfl rfl) (by decide) ?_
  refine GL.val (v := (.agg #[(.bool false), (.int .i64 0), (.int .i64 0)])) (Ex.build (vs := []) rfl (by first | rfl | kernel_rfl)) (by decide) ?_
  refine GL.val (v := (.bool (decide ((a / 8388608 % 256) = 0 ∧ (a % 8388608) = 0)))) (Ex.eqS rfl rfl T.sfs116 (EqFs.cons rfl rfl (EqC.bool Try.underlying4) (EqFs.cons rfl rfl (EqC.int Try.underlying3) (EqFs.cons rfl rfl (EqC.int Try.underlying3) EqFs.nil))) (by simp [Bool.decide_and])) (by decide) ?_
  refine GL.val (Ex.assign rfl) (by decide) ?_
  refine GL.nil ?_
  refine GE.thenN ?_
  refine GC.cond rfl (fun hq4 => ?_) (fun hq4 => ?_)
  · replace hq4 := of_decide_eq_true hq4
    refine GC.seq ?_
    refine GC.region ?_
    refine GL.val (Ex.assign rfl) (by decide) ?_
    refine GL.nil ?_
    refine GE.thenN ?_
    refine GC.ret ?_
    refine GE.blockR ?_
    refine GE.thenR ?_
    refine GC.ret1 rfl (Rv.tmp rfl) (fun wN HN => ?_)
    exact HN.ret () trivial (by rw [show Bt.cls a = 5 from by first | (exfalso; omega) | (unfold Bt.cls; (repeat (first | rw [if_pos (by omega)] | rw [if_neg (by omega)])); try omega)]) (List.nil_sublist _) rfl
  · replace hq4 := of_decide_eq_false hq4
    refine GC.seq ?_
    refine GC.region ?_
    refine GL.val (v := (.agg #[(.bool false), (.int .i64 (a / 8388608 % 256)), (.int .i64 (a % 8388608))])) (Ex.loadA rfl T.ag116 T.sz116 (i := 0) rfl (vs := [(.bool false), (.int .i64 (a / 8388608 % 256)), (.int .i64 (a % 8388608))]) rfl rfl) (by decide) ?_
    refine GL.val (v := (.agg #[(.bool false), (.int .i64 255), (.int .i64 0)])) (Ex.build (vs := [(1, (.int .i64 255))]) rfl (by first | rfl | kernel_rfl)) (by decide) ?_
    refine GL.val (v := (.bool (decide ((a / 8388608 % 256) = 255 ∧ (a % 8388608) = 0)))) (Ex.eqS rfl rfl T.sfs116 (EqFs.cons rfl rfl (EqC.bool Try.underlying4) (EqFs.cons rfl rfl (EqC.int Try.underlying3) (EqFs.cons rfl rfl (EqC.int Try.underlying3) EqFs.nil))) (by simp [Bool.decide_and])) (by decide) ?_
    refine GL.val (Ex.assign rfl) (by decide) ?_
    refine GL.nil ?_
    refine GE.thenN ?_
    refine GC.cond rfl (fun hq5 => ?_) (fun hq5 => ?_)
    · replace hq5 := of_decide_eq_true hq5
      refine GC.seq ?_
      refine GC.region ?_
      refine GL.val (Ex.assign rfl) (by decide) ?_
      refine GL.nil ?_
      refine GE.thenN ?_
      refine GC.ret ?_
      refine GE.blockR ?_
      refine GE.thenR ?_
      refine GC.ret1 rfl (Rv.tmp rfl) (fun wN HN => ?_)
      exact HN.ret () trivial (by rw [show Bt.cls a = 2 from by first | (exfalso; omega) | (unfold Bt.cls; (repeat (first | rw [if_pos (by omega)] | rw [if_neg (by omega)])); try omega)]) (List.nil_sublist _) rfl
    · replace hq5 := of_decide_eq_false hq5
      refine GC.seq ?_
      refine GC.region ?_
      refine GL.val (v := (.pointer (some ⟨bq3, 1, none⟩))) (Ex.cast (Ex.fieldAddr rfl Try.underlying116 rfl T.sz3 (by decide)) rfl) (by decide) ?_
      refine GL.val (Ex.load rfl T.ag3 (i := 0) rfl rfl) (by decide) ?_
      refine GL.val (v := (.bool (decide ((a / 8388608 % 256) = 255)))) (Ex.eql rfl rfl) (by decide) ?_
      refine GL.val (Ex.assign rfl) (by decide) ?_
      refine GL.nil ?_
      refine GE.thenN ?_
      refine GC.cond rfl (fun hq6 => ?_) (fun hq6 => ?_)
      · replace hq6 := of_decide_eq_true hq6
        refine GC.seq ?_
        refine GC.region ?_
        refine GL.val (Ex.assign rfl) (by decide) ?_
        refine GL.nil ?_
        refine GE.thenN ?_
        refine GC.ret ?_
        refine GE.blockR ?_
        refine GE.thenR ?_
        refine GC.ret1 rfl (Rv.tmp rfl) (fun wN HN => ?_)
        exact HN.ret () trivial (by rw [show Bt.cls a = 1 from by first | (exfalso; omega) | (unfold Bt.cls; (repeat (first | rw [if_pos (by omega)] | rw [if_neg (by omega)])); try omega)]) (List.nil_sublist _) rfl
      · replace hq6 := of_decide_eq_false hq6
        refine GC.seq ?_
        refine GC.region ?_
        refine GL.val (v := (.pointer (some ⟨bq3, 1, none⟩))) (Ex.cast (Ex.fieldAddr rfl Try.underlying116 rfl T.sz3 (by decide)) rfl) (by decide) ?_
        refine GL.val (Ex.load rfl T.ag3 (i := 0) rfl rfl) (by decide) ?_
        refine GL.val (v := (.bool (decide ((a / 8388608 % 256) = 0)))) (Ex.eql rfl rfl) (by decide) ?_
        refine GL.val (Ex.assign rfl) (by decide) ?_
        refine GL.nil ?_
        refine GE.thenN ?_
        refine GC.cond rfl (fun hq7 => ?_) (fun hq7 => ?_)
        · replace hq7 := of_decide_eq_true hq7
          refine GC.seq ?_
          refine GC.region ?_
          refine GL.val (Ex.assign rfl) (by decide) ?_
          refine GL.nil ?_
          refine GE.thenN ?_
          refine GC.ret ?_
          refine GE.blockR ?_
          refine GE.thenR ?_
          refine GC.ret1 rfl (Rv.tmp rfl) (fun wN HN => ?_)
          exact HN.ret () trivial (by rw [show Bt.cls a = 4 from by first | (exfalso; omega) | (unfold Bt.cls; (repeat (first | rw [if_pos (by omega)] | rw [if_neg (by omega)])); try omega)]) (List.nil_sublist _) rfl
        · replace hq7 := of_decide_eq_false hq7
          refine GC.skip ?_
          refine GE.blockN ?_
          refine GE.thenN ?_
          refine GC.seq ?_
          refine GC.region ?_
          refine GL.val (Ex.assign rfl) (by decide) ?_
          refine GL.nil ?_
          refine GE.thenN ?_
          refine GC.ret ?_
          refine GC.ret1 rfl (Rv.tmp rfl) (fun wN HN => ?_)
          exact HN.ret () trivial (by rw [show Bt.cls a = 3 from by first | (exfalso; omega) | (unfold Bt.cls; (repeat (first | rw [if_pos (by omega)] | rw [if_neg (by omega)])); try omega)]) (List.nil_sublist _) rfl

set_option maxRecDepth 100000 in
set_option maxHeartbeats 1000000 in
theorem nan_p (a : Int) (w : World) (ha : 0 ≤ a ∧ a < 4294967296) :
    Calls Try.prog 69 #[(.int .u32 a)] w (Ret w (fun _ : Unit => True) (fun _ => (.bool (decide (Bt.cls a = 1)))) (fun _ => [])) := by
  refine enter (M := None) (L := []) (n := 6) (l := [(0, (.int .u32 a))]) Try.func69 rfl rfl (Args.cons rfl (Args.nil _)) (Hp.start _ _) ?_
  refine GC.seq ?_
  refine GC.region ?_
  refine GL.val (Ex.assign rfl) (by decide) ?_
  refine GL.nil ?_
  refine GE.thenN ?_
  refine GC.seq ?_
  refine GC.region ?_
  refine GL.val (Ex.move rfl) (by decide) ?_
  refine GL.step (Stp.callR (vs := [(.int .u32 a)]) rfl rfl T.own70 (by decide) (fun wc hw => cls_p a wc (by first | assumption | omega | exact Bt.lst_bd (by assumption) (by assumption) | exact Bt.gst_bd (by assumption) (by assumption) | exact Bt.key_bd (by assumption) | exact Bt.unkey_bd (by assumption) | exact Bt.nxt_bd (by assumption) | exact Bt.lst_bd (Bt.gst_bd (by assumption) (by assumption)) (by assumption) | exact Bt.btw_bd (by assumption) (Bt.lst_bd (by assumption) (by assumption)) (Bt.gst_bd (by assumption) (by assumption))))) (fun xq1 hq2 => ?_)
  refine GL.val (v := (.bool (decide ((Bt.cls a) = 1)))) (Ex.eql rfl rfl) (by decide) ?_
  refine GL.val (Ex.assign rfl) (by decide) ?_
  refine GL.nil ?_
  refine GE.thenN ?_
  refine GC.ret ?_
  refine GC.ret1 rfl (Rv.tmp rfl) (fun wN HN => ?_)
  exact HN.ret () trivial rfl (List.nil_sublist _) rfl

set_option maxRecDepth 100000 in
set_option maxHeartbeats 1000000 in
theorem made_p (a : Int) (w : World) (ha : 0 ≤ a ∧ a < 4294967296) :
    Calls Try.prog 67 #[(.int .u32 a)] w (Ret w (fun _ : Unit => True) (fun _ => (.int .u32 (Bt.mde a))) (fun _ => [])) := by
  refine enter (M := None) (L := []) (n := 6) (l := [(0, (.int .u32 a))]) Try.func67 rfl rfl (Args.cons rfl (Args.nil _)) (Hp.start _ _) ?_
  refine GC.seq ?_
  refine GC.region ?_
  refine GL.val (Ex.assign rfl) (by decide) ?_
  refine GL.nil ?_
  refine GE.thenN ?_
  refine GC.seq ?_
  refine GC.seq ?_
  refine GC.region ?_
  refine GL.val (Ex.move rfl) (by decide) ?_
  refine GL.step (Stp.callR (vs := [(.int .u32 a)]) rfl rfl T.own69 (by decide) (fun wc hw => nan_p a wc (by first | assumption | omega | exact Bt.lst_bd (by assumption) (by assumption) | exact Bt.gst_bd (by assumption) (by assumption) | exact Bt.key_bd (by assumption) | exact Bt.unkey_bd (by assumption) | exact Bt.nxt_bd (by assumption) | exact Bt.lst_bd (Bt.gst_bd (by assumption) (by assumption)) (by assumption) | exact Bt.btw_bd (by assumption) (Bt.lst_bd (by assumption) (by assumption)) (Bt.gst_bd (by assumption) (by assumption))))) (fun xq1 hq2 => ?_)
  refine GL.nil ?_
  refine GE.thenN ?_
  refine GC.cond rfl (fun hq3 => ?_) (fun hq3 => ?_)
  · replace hq3 := of_decide_eq_true hq3
    refine GC.seq ?_
    refine GC.region ?_
    refine GL.val (Ex.assign rfl) (by decide) ?_
    refine GL.nil ?_
    refine GE.thenN ?_
    refine GC.ret ?_
    refine GE.thenR ?_
    refine GC.ret1 rfl (Rv.tmp rfl) (fun wN HN => ?_)
    exact HN.ret () trivial (by rw [show Bt.mde a = 2143289344 from by first | (exfalso; omega) | (unfold Bt.mde; (repeat (first | rw [if_pos (by omega)] | rw [if_neg (by omega)])); try omega)]) (List.nil_sublist _) rfl
  · replace hq3 := of_decide_eq_false hq3
    refine GC.skip ?_
    refine GE.thenN ?_
    refine GC.seq ?_
    refine GC.region ?_
    refine GL.val (Ex.move rfl) (by decide) ?_
    refine GL.val (Ex.assign rfl) (by decide) ?_
    refine GL.nil ?_
    refine GE.thenN ?_
    refine GC.ret ?_
    refine GC.ret1 rfl (Rv.tmp rfl) (fun wN HN => ?_)
    exact HN.ret () trivial (by rw [show Bt.mde a = a from by first | (exfalso; omega) | (unfold Bt.mde; (repeat (first | rw [if_pos (by omega)] | rw [if_neg (by omega)])); try omega)]) (List.nil_sublist _) rfl

set_option maxRecDepth 100000 in
set_option maxHeartbeats 1000000 in
theorem value_p (a : Int) (w : World) :
    Calls Try.prog 58 #[(.int .u32 a)] w (Ret w (fun z : Nat => Fv.Is .f64 z (Fv.V a)) (fun z => .float .f64 z) (fun _ => [])) := by
  refine enter (M := None) (L := []) (n := 6) (l := [(0, (.int .u32 a))]) Try.func58 rfl rfl (Args.cons rfl (Args.nil _)) (Hp.start _ _) ?_
  refine GC.seq ?_
  refine GC.region ?_
  refine GL.val (Ex.assign rfl) (by decide) ?_
  refine GL.nil ?_
  refine GE.thenN ?_
  refine GC.seq ?_
  refine GC.region ?_
  refine GL.val (Ex.move rfl) (by decide) ?_
  refine GL.val (v := (.float .f32 a.toNat)) (Ex.ext (vs := [(.int .u32 a)]) rfl rfl T.ext55 (fun _ => rfl)) (by decide) ?_
  refine GL.step (Stp.fcv (fx := (Fv.rd .f32 a.toNat)) (by decide) rfl Try.underlying98 Try.underlying61 (Fv.Is.rd _ _) Fv.holds_up (by decide)) (fun xq1 hq2 => ?_)
  refine GL.val (Ex.assign rfl) (by decide) ?_
  refine GL.nil ?_
  refine GE.thenN ?_
  refine GC.ret ?_
  refine GC.ret1 rfl (Rv.tmp rfl) (fun wN HN => ?_)
  exact HN.ret xq1 hq2.1 rfl (List.nil_sublist _) rfl

set_option maxRecDepth 100000 in
set_option maxHeartbeats 1000000 in
theorem value_r (a : Int) (w : World) :
    Calls Try.prog 56 #[(.int .u32 a)] w (Ret w (fun z : Nat => Fv.Is .f64 z (Fv.V a)) (fun z => .float .f64 z) (fun _ => [])) := by
  refine enter (M := None) (L := []) (n := 6) (l := [(0, (.int .u32 a))]) Try.func56 rfl rfl (Args.cons rfl (Args.nil _)) (Hp.start _ _) ?_
  refine GC.seq ?_
  refine GC.region ?_
  refine GL.val (Ex.assign rfl) (by decide) ?_
  refine GL.nil ?_
  refine GE.thenN ?_
  refine GC.seq ?_
  refine GC.region ?_
  refine GL.val (Ex.move rfl) (by decide) ?_
  refine GL.val (v := (.float .f32 a.toNat)) (Ex.ext (vs := [(.int .u32 a)]) rfl rfl T.ext55 (fun _ => rfl)) (by decide) ?_
  refine GL.step (Stp.fcv (fx := (Fv.rd .f32 a.toNat)) (by decide) rfl Try.underlying98 Try.underlying61 (Fv.Is.rd _ _) Fv.holds_up (by decide)) (fun xq1 hq2 => ?_)
  refine GL.val (Ex.assign rfl) (by decide) ?_
  refine GL.nil ?_
  refine GE.thenN ?_
  refine GC.ret ?_
  refine GC.ret1 rfl (Rv.tmp rfl) (fun wN HN => ?_)
  exact HN.ret xq1 hq2.1 rfl (List.nil_sublist _) rfl

set_option maxRecDepth 100000 in
set_option maxHeartbeats 1000000 in
theorem told_p (z : Nat) (fx : Option Nat) (w : World) (hz : Fv.Is .f64 z fx) (hH : Fv.Holds .f64 .f32 fx) :
    Calls Try.prog 59 #[(.float .f64 z)] w (Ret w (fun _ : Unit => True) (fun _ => (.int .u32 ((Fv.T fx)))) (fun _ => [])) := by
  refine enter (M := None) (L := []) (n := 7) (l := [(0, (.float .f64 z))]) Try.func59 rfl rfl (Args.cons rfl (Args.nil _)) (Hp.start _ _) ?_
  refine GC.seq ?_
  refine GC.region ?_
  refine GL.val (Ex.assign rfl) (by decide) ?_
  refine GL.nil ?_
  refine GE.thenN ?_
  refine GC.seq ?_
  refine GC.region ?_
  refine GL.val (Ex.move rfl) (by decide) ?_
  refine GL.step (Stp.fcv (fx := fx) (by decide) rfl Try.underlying61 Try.underlying98 hz hH (by decide)) (fun xq1 hq2 => ?_)
  refine GL.val (v := (.int .u32 (((xq1 : Nat) : Int)))) (Ex.ext (vs := [(.float .f32 xq1)]) rfl rfl T.ext66 (fun _ => rfl)) (by decide) ?_
  refine GL.step (Stp.callR (σ := Unit) (p := fun rz => True) (v := fun rz => (.int .u32 ((Fv.T32 (Fv.cv .f64 .f32 fx))))) (N := fun rz => []) (vs := [(.int .u32 (((xq1 : Nat) : Int)))]) rfl rfl T.own67 (by decide) (fun wc hw => (by have h := made_p ((xq1 : Nat) : Int) wc (Bg.isb_lt hq2); rw [Bl.mde_is hq2] at h; exact h))) (fun xq3 hq4 => ?_)
  refine GL.val (Ex.assign rfl) (by decide) ?_
  refine GL.nil ?_
  refine GE.thenN ?_
  refine GC.ret ?_
  refine GC.ret1 rfl (Rv.tmp rfl) (fun wN HN => ?_)
  exact HN.ret () trivial rfl (List.nil_sublist _) rfl

set_option maxRecDepth 100000 in
set_option maxHeartbeats 1000000 in
theorem sample_r (z : Nat) (fx : Option Nat) (w : World) (hz : Fv.Is .f64 z fx) (hH : Fv.Holds .f64 .f32 fx) :
    Calls Try.prog 57 #[(.float .f64 z)] w (Ret w (fun _ : Unit => True) (fun _ => (.int .u32 ((Fv.T fx)))) (fun _ => [])) := by
  refine enter (M := None) (L := []) (n := 9) (l := [(0, (.float .f64 z))]) Try.func57 rfl rfl (Args.cons rfl (Args.nil _)) (Hp.start _ _) ?_
  refine GC.seq ?_
  refine GC.region ?_
  refine GL.val (Ex.assign rfl) (by decide) ?_
  refine GL.nil ?_
  refine GE.thenN ?_
  refine GC.seq ?_
  refine GC.seq ?_
  refine GC.region ?_
  refine GL.val (Ex.move rfl) (by decide) ?_
  refine GL.val (Ex.move rfl) (by decide) ?_
  refine GL.val (v := (.bool fx.isNone)) (Ex.fneq (r := fx.isNone) rfl rfl (Eq.trans (congrArg (fun o : Option Ordering => (o != some .eq)) (Fv.ord_eq hz hz)) (Fv.neq_self hz))) (by decide) ?_
  refine GL.nil ?_
  refine GE.thenN ?_
  refine GC.cond rfl (fun hq1 => ?_) (fun hq1 => ?_)
  · refine GC.seq ?_
    refine GC.region ?_
    refine GL.val (Ex.assign rfl) (by decide) ?_
    refine GL.nil ?_
    refine GE.thenN ?_
    refine GC.ret ?_
    refine GE.thenR ?_
    refine GC.ret1 rfl (Rv.tmp rfl) (fun wN HN => ?_)
    exact HN.ret () trivial (by rw [Bg.T_none hq1]) (List.nil_sublist _) rfl
  · refine GC.skip ?_
    refine GE.thenN ?_
    refine GC.seq ?_
    refine GC.region ?_
    refine GL.val (Ex.move rfl) (by decide) ?_
    refine GL.step (Stp.fcv (fx := fx) (by decide) rfl Try.underlying61 Try.underlying98 hz hH (by decide)) (fun xq2 hq3 => ?_)
    refine GL.val (v := (.int .u32 (((xq2 : Nat) : Int)))) (Ex.ext (vs := [(.float .f32 xq2)]) rfl rfl T.ext66 (fun _ => rfl)) (by decide) ?_
    refine GL.val (Ex.assign rfl) (by decide) ?_
    refine GL.nil ?_
    refine GE.thenN ?_
    refine GC.ret ?_
    refine GC.ret1 rfl (Rv.tmp rfl) (fun wN HN => ?_)
    exact HN.ret () trivial (by rw [Bg.T_some hq3 hH hq1]) (List.nil_sublist _) rfl

set_option maxRecDepth 100000 in
set_option maxHeartbeats 1000000 in
theorem slope_r (a b : Int) (w : World) (ha : 0 ≤ a ∧ a < 4294967296) (hb : 0 ≤ b ∧ b < 4294967296) :
    Calls Try.prog 52 #[(.int .u32 a), (.int .u32 b)] w (Ret w (fun _ : Unit => True) (fun _ => (.int .u32 ((Fv.T (Bl.slp a b))))) (fun _ => [])) := by
  refine enter (M := None) (L := []) (n := 12) (l := [(0, (.int .u32 a)), (1, (.int .u32 b))]) Try.func52 rfl rfl (Args.cons rfl (Args.cons rfl (Args.nil _))) (Hp.start _ _) ?_
  refine GC.seq ?_
  refine GC.region ?_
  refine GL.val (Ex.assign rfl) (by decide) ?_
  refine GL.nil ?_
  refine GE.thenN ?_
  refine GC.seq ?_
  refine GC.region ?_
  refine GL.val (Ex.move rfl) (by decide) ?_
  refine GL.step (Stp.callR (vs := [(.int .u32 a)]) rfl rfl T.own56 (by decide) (fun wc hw => value_r a wc)) (fun xq1 hq2 => ?_)
  refine GL.val (Ex.move rfl) (by decide) ?_
  refine GL.step (Stp.callR (vs := [(.int .u32 b)]) rfl rfl T.own56 (by decide) (fun wc hw => value_r b wc)) (fun xq3 hq4 => ?_)
  refine GL.step (Stp.fop (fx := (Fv.V a)) (fy := (Fv.V b)) rfl rfl rfl hq2 hq4 (by decide)) (fun xq5 hq6 => ?_)
  refine GL.step (Stp.fop (fx := (Fv.op .sub .f64 (Fv.V a) (Fv.V b))) (fy := (some 4611686018427387904)) rfl rfl rfl hq6 ⟨rfl, by decide +kernel⟩ (by decide)) (fun xq7 hq8 => ?_)
  refine GL.step (Stp.callR (vs := [(.float .f64 xq7)]) rfl rfl T.own57 (by decide) (fun wc hw => sample_r xq7 (Fv.op .quo .f64 (Fv.op .sub .f64 (Fv.V a) (Fv.V b)) (some 4611686018427387904)) wc hq8 (Bl.slp_holds ha hb))) (fun xq9 hq10 => ?_)
  refine GL.val (Ex.assign rfl) (by decide) ?_
  refine GL.nil ?_
  refine GE.thenN ?_
  refine GC.ret ?_
  refine GC.ret1 rfl (Rv.tmp rfl) (fun wN HN => ?_)
  exact HN.ret () trivial rfl (List.nil_sublist _) rfl

set_option maxRecDepth 100000 in
set_option maxHeartbeats 1000000 in
theorem size (pw ph : Int) (w : World) :
    Calls Try.prog 60 #[(.int .i64 pw), (.int .i64 ph)] w (Ret w (fun _ : Unit => True) (fun _ => .bool (sizeB pw ph)) (fun _ => [])) := by
  refine enter (M := None) (L := []) (n := 25) (l := [(0, (.int .i64 pw)), (1, (.int .i64 ph))]) Try.func60 rfl rfl (Args.cons rfl (Args.cons rfl (Args.nil _))) (Hp.start _ _) ?_
  refine GC.seq ?_
  refine GC.region ?_
  refine GL.val (Ex.assign rfl) (by decide) ?_
  refine GL.nil ?_
  refine GE.thenN ?_
  refine GC.seq ?_
  refine GC.region ?_
  refine GL.val (Ex.move rfl) (by decide) ?_
  by_cases hq1 : 1 ≤ pw
  · refine GL.val (v := (.bool true)) (Ex.cast (Ex.geq rfl rfl) (congrArg Value.bool (decide_eq_true hq1))) (by decide) ?_
    refine GL.val (Ex.move rfl) (by decide) ?_
    refine GL.stepG (tj := 7) rfl rfl (Ex.wp (v := (.int .i64 ph)) (Ex.move rfl) (by decide)) (fun _ _ => ?_)
    by_cases hq2 : 1 ≤ ph
    · refine GL.stepG (tj := 7) rfl rfl (Ex.wp (v := (.bool true)) (Ex.cast (Ex.geq rfl rfl) (congrArg Value.bool (decide_eq_true hq2))) (by decide)) (fun _ _ => ?_)
      refine GL.val (v := (.bool true)) (Ex.pickT rfl rfl) (by decide) ?_
      refine GL.val (Ex.move rfl) (by decide) ?_
      refine GL.stepG (tj := 11) rfl rfl (Ex.wp (v := (.int .i64 pw)) (Ex.move rfl) (by decide)) (fun _ _ => ?_)
      by_cases hq3 : pw ≤ 1024
      · refine GL.stepG (tj := 11) rfl rfl (Ex.wp (v := (.bool true)) (Ex.cast (Ex.leq rfl rfl) (congrArg Value.bool (decide_eq_true hq3))) (by decide)) (fun _ _ => ?_)
        refine GL.val (v := (.bool true)) (Ex.pickT rfl rfl) (by decide) ?_
        refine GL.val (Ex.move rfl) (by decide) ?_
        refine GL.stepG (tj := 15) rfl rfl (Ex.wp (v := (.int .i64 ph)) (Ex.move rfl) (by decide)) (fun _ _ => ?_)
        by_cases hq4 : ph ≤ 1024
        · have hm := mul_bd (w := pw) (h := ph) (by omega) (by omega) (by omega) (by omega)
          refine GL.stepG (tj := 15) rfl rfl (Ex.wp (v := (.bool true)) (Ex.cast (Ex.leq rfl rfl) (congrArg Value.bool (decide_eq_true hq4))) (by decide)) (fun _ _ => ?_)
          refine GL.val (v := (.bool true)) (Ex.pickT rfl rfl) (by decide) ?_
          refine GL.val (Ex.move rfl) (by decide) ?_
          refine GL.stepG (tj := 19) rfl rfl (Ex.wp (v := (.int .i64 pw)) (Ex.move rfl) (by decide)) (fun _ _ => ?_)
          refine GL.stepG (tj := 19) rfl rfl (Ex.wp (v := (.int .i64 ph)) (Ex.move rfl) (by decide)) (fun _ _ => ?_)
          refine GL.stepG (tj := 19) rfl rfl (Ex.wp (v := (.int .i64 (pw * ph))) (Ex.mul rfl rfl (Z := pw * ph) (w64 (by omega))) (by decide)) (fun _ _ => ?_)
          refine GL.stepG (tj := 19) rfl rfl (Ex.wp (v := (.bool (decide ((pw * ph) ≤ 65536)))) (Ex.leq rfl rfl) (by decide)) (fun _ _ => ?_)
          refine GL.val (v := (.bool (decide ((pw * ph) ≤ 65536)))) (Ex.pickT rfl rfl) (by decide) ?_
          refine GL.val (Ex.assign rfl) (by decide) ?_
          refine GL.nil ?_
          refine GE.thenN ?_
          refine GC.ret ?_
          refine GC.ret1 rfl (Rv.tmp rfl) (fun wN HN => ?_)
          exact HN.ret () trivial (by simp only [sizeB]; congr 1; apply decide_eq_decide.2; omega) (List.nil_sublist _) rfl
        · refine GL.stepG (tj := 15) rfl rfl (Ex.wp (v := (.bool false)) (Ex.cast (Ex.leq rfl rfl) (congrArg Value.bool (decide_eq_false hq4))) (by decide)) (fun _ _ => ?_)
          refine GL.val (v := (.bool false)) (Ex.pickT rfl rfl) (by decide) ?_
          refine GL.val (Ex.move rfl) (by decide) ?_
          refine GL.skipG (tj := 19) rfl rfl rfl (by decide) ?_
          refine GL.skipG (tj := 19) rfl rfl rfl (by decide) ?_
          refine GL.skipG (tj := 19) rfl rfl rfl (by decide) ?_
          refine GL.skipG (tj := 19) rfl rfl rfl (by decide) ?_
          refine GL.val (v := (.bool false)) (Ex.pickF rfl rfl) (by decide) ?_
          refine GL.val (Ex.assign rfl) (by decide) ?_
          refine GL.nil ?_
          refine GE.thenN ?_
          refine GC.ret ?_
          refine GC.ret1 rfl (Rv.tmp rfl) (fun wN HN => ?_)
          exact HN.ret () trivial (by simp only [sizeB]; rw [decide_eq_false (by omega)]) (List.nil_sublist _) rfl
      · refine GL.stepG (tj := 11) rfl rfl (Ex.wp (v := (.bool false)) (Ex.cast (Ex.leq rfl rfl) (congrArg Value.bool (decide_eq_false hq3))) (by decide)) (fun _ _ => ?_)
        refine GL.val (v := (.bool false)) (Ex.pickT rfl rfl) (by decide) ?_
        refine GL.val (Ex.move rfl) (by decide) ?_
        refine GL.skipG (tj := 15) rfl rfl rfl (by decide) ?_
        refine GL.skipG (tj := 15) rfl rfl rfl (by decide) ?_
        refine GL.val (v := (.bool false)) (Ex.pickF rfl rfl) (by decide) ?_
        refine GL.val (Ex.move rfl) (by decide) ?_
        refine GL.skipG (tj := 19) rfl rfl rfl (by decide) ?_
        refine GL.skipG (tj := 19) rfl rfl rfl (by decide) ?_
        refine GL.skipG (tj := 19) rfl rfl rfl (by decide) ?_
        refine GL.skipG (tj := 19) rfl rfl rfl (by decide) ?_
        refine GL.val (v := (.bool false)) (Ex.pickF rfl rfl) (by decide) ?_
        refine GL.val (Ex.assign rfl) (by decide) ?_
        refine GL.nil ?_
        refine GE.thenN ?_
        refine GC.ret ?_
        refine GC.ret1 rfl (Rv.tmp rfl) (fun wN HN => ?_)
        exact HN.ret () trivial (by simp only [sizeB]; rw [decide_eq_false (by omega)]) (List.nil_sublist _) rfl
    · refine GL.stepG (tj := 7) rfl rfl (Ex.wp (v := (.bool false)) (Ex.cast (Ex.geq rfl rfl) (congrArg Value.bool (decide_eq_false hq2))) (by decide)) (fun _ _ => ?_)
      refine GL.val (v := (.bool false)) (Ex.pickT rfl rfl) (by decide) ?_
      refine GL.val (Ex.move rfl) (by decide) ?_
      refine GL.skipG (tj := 11) rfl rfl rfl (by decide) ?_
      refine GL.skipG (tj := 11) rfl rfl rfl (by decide) ?_
      refine GL.val (v := (.bool false)) (Ex.pickF rfl rfl) (by decide) ?_
      refine GL.val (Ex.move rfl) (by decide) ?_
      refine GL.skipG (tj := 15) rfl rfl rfl (by decide) ?_
      refine GL.skipG (tj := 15) rfl rfl rfl (by decide) ?_
      refine GL.val (v := (.bool false)) (Ex.pickF rfl rfl) (by decide) ?_
      refine GL.val (Ex.move rfl) (by decide) ?_
      refine GL.skipG (tj := 19) rfl rfl rfl (by decide) ?_
      refine GL.skipG (tj := 19) rfl rfl rfl (by decide) ?_
      refine GL.skipG (tj := 19) rfl rfl rfl (by decide) ?_
      refine GL.skipG (tj := 19) rfl rfl rfl (by decide) ?_
      refine GL.val (v := (.bool false)) (Ex.pickF rfl rfl) (by decide) ?_
      refine GL.val (Ex.assign rfl) (by decide) ?_
      refine GL.nil ?_
      refine GE.thenN ?_
      refine GC.ret ?_
      refine GC.ret1 rfl (Rv.tmp rfl) (fun wN HN => ?_)
      exact HN.ret () trivial (by simp only [sizeB]; rw [decide_eq_false (by omega)]) (List.nil_sublist _) rfl
  · refine GL.val (v := (.bool false)) (Ex.cast (Ex.geq rfl rfl) (congrArg Value.bool (decide_eq_false hq1))) (by decide) ?_
    refine GL.val (Ex.move rfl) (by decide) ?_
    refine GL.skipG (tj := 7) rfl rfl rfl (by decide) ?_
    refine GL.skipG (tj := 7) rfl rfl rfl (by decide) ?_
    refine GL.val (v := (.bool false)) (Ex.pickF rfl rfl) (by decide) ?_
    refine GL.val (Ex.move rfl) (by decide) ?_
    refine GL.skipG (tj := 11) rfl rfl rfl (by decide) ?_
    refine GL.skipG (tj := 11) rfl rfl rfl (by decide) ?_
    refine GL.val (v := (.bool false)) (Ex.pickF rfl rfl) (by decide) ?_
    refine GL.val (Ex.move rfl) (by decide) ?_
    refine GL.skipG (tj := 15) rfl rfl rfl (by decide) ?_
    refine GL.skipG (tj := 15) rfl rfl rfl (by decide) ?_
    refine GL.val (v := (.bool false)) (Ex.pickF rfl rfl) (by decide) ?_
    refine GL.val (Ex.move rfl) (by decide) ?_
    refine GL.skipG (tj := 19) rfl rfl rfl (by decide) ?_
    refine GL.skipG (tj := 19) rfl rfl rfl (by decide) ?_
    refine GL.skipG (tj := 19) rfl rfl rfl (by decide) ?_
    refine GL.skipG (tj := 19) rfl rfl rfl (by decide) ?_
    refine GL.val (v := (.bool false)) (Ex.pickF rfl rfl) (by decide) ?_
    refine GL.val (Ex.assign rfl) (by decide) ?_
    refine GL.nil ?_
    refine GE.thenN ?_
    refine GC.ret ?_
    refine GC.ret1 rfl (Rv.tmp rfl) (fun wN HN => ?_)
    exact HN.ret () trivial (by simp only [sizeB]; rw [decide_eq_false (by omega)]) (List.nil_sublist _) rfl

set_option maxRecDepth 100000 in
set_option maxHeartbeats 1000000 in
theorem ref_size (pw ph : Int) (w : World) :
    Calls Try.prog 68 #[(.int .i64 pw), (.int .i64 ph)] w (Ret w (fun _ : Unit => True) (fun _ => .bool (sizeB pw ph)) (fun _ => [])) := by
  refine enter (M := None) (L := []) (n := 25) (l := [(0, (.int .i64 pw)), (1, (.int .i64 ph))]) Try.func68 rfl rfl (Args.cons rfl (Args.cons rfl (Args.nil _))) (Hp.start _ _) ?_
  refine GC.seq ?_
  refine GC.region ?_
  refine GL.val (Ex.assign rfl) (by decide) ?_
  refine GL.nil ?_
  refine GE.thenN ?_
  refine GC.seq ?_
  refine GC.region ?_
  refine GL.val (Ex.move rfl) (by decide) ?_
  by_cases hq1 : 1 ≤ pw
  · refine GL.val (v := (.bool true)) (Ex.cast (Ex.geq rfl rfl) (congrArg Value.bool (decide_eq_true hq1))) (by decide) ?_
    refine GL.val (Ex.move rfl) (by decide) ?_
    refine GL.stepG (tj := 7) rfl rfl (Ex.wp (v := (.int .i64 pw)) (Ex.move rfl) (by decide)) (fun _ _ => ?_)
    by_cases hq2 : pw ≤ 1024
    · refine GL.stepG (tj := 7) rfl rfl (Ex.wp (v := (.bool true)) (Ex.cast (Ex.leq rfl rfl) (congrArg Value.bool (decide_eq_true hq2))) (by decide)) (fun _ _ => ?_)
      refine GL.val (v := (.bool true)) (Ex.pickT rfl rfl) (by decide) ?_
      refine GL.val (Ex.move rfl) (by decide) ?_
      refine GL.stepG (tj := 11) rfl rfl (Ex.wp (v := (.int .i64 ph)) (Ex.move rfl) (by decide)) (fun _ _ => ?_)
      by_cases hq3 : 1 ≤ ph
      · refine GL.stepG (tj := 11) rfl rfl (Ex.wp (v := (.bool true)) (Ex.cast (Ex.geq rfl rfl) (congrArg Value.bool (decide_eq_true hq3))) (by decide)) (fun _ _ => ?_)
        refine GL.val (v := (.bool true)) (Ex.pickT rfl rfl) (by decide) ?_
        refine GL.val (Ex.move rfl) (by decide) ?_
        refine GL.stepG (tj := 15) rfl rfl (Ex.wp (v := (.int .i64 ph)) (Ex.move rfl) (by decide)) (fun _ _ => ?_)
        by_cases hq4 : ph ≤ 1024
        · have hm := mul_bd (w := pw) (h := ph) (by omega) (by omega) (by omega) (by omega)
          refine GL.stepG (tj := 15) rfl rfl (Ex.wp (v := (.bool true)) (Ex.cast (Ex.leq rfl rfl) (congrArg Value.bool (decide_eq_true hq4))) (by decide)) (fun _ _ => ?_)
          refine GL.val (v := (.bool true)) (Ex.pickT rfl rfl) (by decide) ?_
          refine GL.val (Ex.move rfl) (by decide) ?_
          refine GL.stepG (tj := 19) rfl rfl (Ex.wp (v := (.int .i64 pw)) (Ex.move rfl) (by decide)) (fun _ _ => ?_)
          refine GL.stepG (tj := 19) rfl rfl (Ex.wp (v := (.int .i64 ph)) (Ex.move rfl) (by decide)) (fun _ _ => ?_)
          refine GL.stepG (tj := 19) rfl rfl (Ex.wp (v := (.int .i64 (pw * ph))) (Ex.mul rfl rfl (Z := pw * ph) (w64 (by omega))) (by decide)) (fun _ _ => ?_)
          refine GL.stepG (tj := 19) rfl rfl (Ex.wp (v := (.bool (decide ((pw * ph) ≤ 65536)))) (Ex.leq rfl rfl) (by decide)) (fun _ _ => ?_)
          refine GL.val (v := (.bool (decide ((pw * ph) ≤ 65536)))) (Ex.pickT rfl rfl) (by decide) ?_
          refine GL.val (Ex.assign rfl) (by decide) ?_
          refine GL.nil ?_
          refine GE.thenN ?_
          refine GC.ret ?_
          refine GC.ret1 rfl (Rv.tmp rfl) (fun wN HN => ?_)
          exact HN.ret () trivial (by simp only [sizeB]; congr 1; apply decide_eq_decide.2; omega) (List.nil_sublist _) rfl
        · refine GL.stepG (tj := 15) rfl rfl (Ex.wp (v := (.bool false)) (Ex.cast (Ex.leq rfl rfl) (congrArg Value.bool (decide_eq_false hq4))) (by decide)) (fun _ _ => ?_)
          refine GL.val (v := (.bool false)) (Ex.pickT rfl rfl) (by decide) ?_
          refine GL.val (Ex.move rfl) (by decide) ?_
          refine GL.skipG (tj := 19) rfl rfl rfl (by decide) ?_
          refine GL.skipG (tj := 19) rfl rfl rfl (by decide) ?_
          refine GL.skipG (tj := 19) rfl rfl rfl (by decide) ?_
          refine GL.skipG (tj := 19) rfl rfl rfl (by decide) ?_
          refine GL.val (v := (.bool false)) (Ex.pickF rfl rfl) (by decide) ?_
          refine GL.val (Ex.assign rfl) (by decide) ?_
          refine GL.nil ?_
          refine GE.thenN ?_
          refine GC.ret ?_
          refine GC.ret1 rfl (Rv.tmp rfl) (fun wN HN => ?_)
          exact HN.ret () trivial (by simp only [sizeB]; rw [decide_eq_false (by omega)]) (List.nil_sublist _) rfl
      · refine GL.stepG (tj := 11) rfl rfl (Ex.wp (v := (.bool false)) (Ex.cast (Ex.geq rfl rfl) (congrArg Value.bool (decide_eq_false hq3))) (by decide)) (fun _ _ => ?_)
        refine GL.val (v := (.bool false)) (Ex.pickT rfl rfl) (by decide) ?_
        refine GL.val (Ex.move rfl) (by decide) ?_
        refine GL.skipG (tj := 15) rfl rfl rfl (by decide) ?_
        refine GL.skipG (tj := 15) rfl rfl rfl (by decide) ?_
        refine GL.val (v := (.bool false)) (Ex.pickF rfl rfl) (by decide) ?_
        refine GL.val (Ex.move rfl) (by decide) ?_
        refine GL.skipG (tj := 19) rfl rfl rfl (by decide) ?_
        refine GL.skipG (tj := 19) rfl rfl rfl (by decide) ?_
        refine GL.skipG (tj := 19) rfl rfl rfl (by decide) ?_
        refine GL.skipG (tj := 19) rfl rfl rfl (by decide) ?_
        refine GL.val (v := (.bool false)) (Ex.pickF rfl rfl) (by decide) ?_
        refine GL.val (Ex.assign rfl) (by decide) ?_
        refine GL.nil ?_
        refine GE.thenN ?_
        refine GC.ret ?_
        refine GC.ret1 rfl (Rv.tmp rfl) (fun wN HN => ?_)
        exact HN.ret () trivial (by simp only [sizeB]; rw [decide_eq_false (by omega)]) (List.nil_sublist _) rfl
    · refine GL.stepG (tj := 7) rfl rfl (Ex.wp (v := (.bool false)) (Ex.cast (Ex.leq rfl rfl) (congrArg Value.bool (decide_eq_false hq2))) (by decide)) (fun _ _ => ?_)
      refine GL.val (v := (.bool false)) (Ex.pickT rfl rfl) (by decide) ?_
      refine GL.val (Ex.move rfl) (by decide) ?_
      refine GL.skipG (tj := 11) rfl rfl rfl (by decide) ?_
      refine GL.skipG (tj := 11) rfl rfl rfl (by decide) ?_
      refine GL.val (v := (.bool false)) (Ex.pickF rfl rfl) (by decide) ?_
      refine GL.val (Ex.move rfl) (by decide) ?_
      refine GL.skipG (tj := 15) rfl rfl rfl (by decide) ?_
      refine GL.skipG (tj := 15) rfl rfl rfl (by decide) ?_
      refine GL.val (v := (.bool false)) (Ex.pickF rfl rfl) (by decide) ?_
      refine GL.val (Ex.move rfl) (by decide) ?_
      refine GL.skipG (tj := 19) rfl rfl rfl (by decide) ?_
      refine GL.skipG (tj := 19) rfl rfl rfl (by decide) ?_
      refine GL.skipG (tj := 19) rfl rfl rfl (by decide) ?_
      refine GL.skipG (tj := 19) rfl rfl rfl (by decide) ?_
      refine GL.val (v := (.bool false)) (Ex.pickF rfl rfl) (by decide) ?_
      refine GL.val (Ex.assign rfl) (by decide) ?_
      refine GL.nil ?_
      refine GE.thenN ?_
      refine GC.ret ?_
      refine GC.ret1 rfl (Rv.tmp rfl) (fun wN HN => ?_)
      exact HN.ret () trivial (by simp only [sizeB]; rw [decide_eq_false (by omega)]) (List.nil_sublist _) rfl
  · refine GL.val (v := (.bool false)) (Ex.cast (Ex.geq rfl rfl) (congrArg Value.bool (decide_eq_false hq1))) (by decide) ?_
    refine GL.val (Ex.move rfl) (by decide) ?_
    refine GL.skipG (tj := 7) rfl rfl rfl (by decide) ?_
    refine GL.skipG (tj := 7) rfl rfl rfl (by decide) ?_
    refine GL.val (v := (.bool false)) (Ex.pickF rfl rfl) (by decide) ?_
    refine GL.val (Ex.move rfl) (by decide) ?_
    refine GL.skipG (tj := 11) rfl rfl rfl (by decide) ?_
    refine GL.skipG (tj := 11) rfl rfl rfl (by decide) ?_
    refine GL.val (v := (.bool false)) (Ex.pickF rfl rfl) (by decide) ?_
    refine GL.val (Ex.move rfl) (by decide) ?_
    refine GL.skipG (tj := 15) rfl rfl rfl (by decide) ?_
    refine GL.skipG (tj := 15) rfl rfl rfl (by decide) ?_
    refine GL.val (v := (.bool false)) (Ex.pickF rfl rfl) (by decide) ?_
    refine GL.val (Ex.move rfl) (by decide) ?_
    refine GL.skipG (tj := 19) rfl rfl rfl (by decide) ?_
    refine GL.skipG (tj := 19) rfl rfl rfl (by decide) ?_
    refine GL.skipG (tj := 19) rfl rfl rfl (by decide) ?_
    refine GL.skipG (tj := 19) rfl rfl rfl (by decide) ?_
    refine GL.val (v := (.bool false)) (Ex.pickF rfl rfl) (by decide) ?_
    refine GL.val (Ex.assign rfl) (by decide) ?_
    refine GL.nil ?_
    refine GE.thenN ?_
    refine GC.ret ?_
    refine GC.ret1 rfl (Rv.tmp rfl) (fun wN HN => ?_)
    exact HN.ret () trivial (by simp only [sizeB]; rw [decide_eq_false (by omega)]) (List.nil_sublist _) rfl

set_option maxRecDepth 100000 in
set_option maxHeartbeats 1000000 in
theorem check (W H : Int) (ad : Option Addr) (n cap : Nat) (w : World) :
    Calls Try.prog 46 #[(.agg #[(.int .i64 W), (.int .i64 H), (.slice ad n cap)])] w (Ret w (fun _ : Unit => True) (fun _ => .int .i64 (chk W H n)) (fun _ => [])) := by
  refine enter (M := None) (L := []) (n := 20) (l := [(0, (.agg #[(.int .i64 W), (.int .i64 H), (.slice ad n cap)]))]) Try.func46 rfl rfl (Args.cons rfl (Args.nil _)) (Hp.start _ _) ?_
  refine GC.seq ?_
  refine GC.region ?_
  refine GL.step (Stp.box (cs := [(.int .i64 W), (.int .i64 H), (.slice ad n cap)]) rfl rfl (by decide)) (fun bq1 _ => ?_)
  refine GL.val (Ex.assign rfl) (by decide) ?_
  refine GL.nil ?_
  refine GE.thenN ?_
  refine GC.seq ?_
  refine GC.block ?_
  refine GC.seq ?_
  refine GC.region ?_
  refine GL.val (v := (.pointer (some ⟨bq1, 0, none⟩))) (Ex.cast (Ex.fieldAddr rfl Try.underlying43 rfl T.sz3 (by decide)) rfl) (by decide) ?_
  refine GL.val (Ex.load rfl T.ag3 (i := 0) rfl rfl) (by decide) ?_
  refine GL.val (v := (.pointer (some ⟨bq1, 1, none⟩))) (Ex.cast (Ex.fieldAddr rfl Try.underlying43 rfl T.sz3 (by decide)) rfl) (by decide) ?_
  refine GL.val (Ex.load rfl T.ag3 (i := 0) rfl rfl) (by decide) ?_
  refine GL.step (Stp.callR (vs := [(.int .i64 W), (.int .i64 H)]) rfl rfl T.own60 (by decide) (fun wc hw => size W H wc)) (fun xq2 hq3 => ?_)
  refine GL.val (v := (.bool (!(sizeB W H)))) (Ex.not rfl) (by decide) ?_
  refine GL.val (Ex.assign rfl) (by decide) ?_
  refine GL.nil ?_
  refine GE.thenN ?_
  refine GC.cond rfl (fun hq4 => ?_) (fun hq4 => ?_)
  · have hs : sizeB W H = false := by simpa using hq4
    refine GC.seq ?_
    refine GC.region ?_
    refine GL.val (Ex.assign rfl) (by decide) ?_
    refine GL.nil ?_
    refine GE.thenN ?_
    refine GC.ret ?_
    refine GE.blockR ?_
    refine GE.thenR ?_
    refine GC.ret1 rfl (Rv.tmp rfl) (fun wN HN => ?_)
    exact HN.ret () trivial (by simp [chk, *]) (List.nil_sublist _) rfl
  · have hs : sizeB W H = true := by simpa using hq4
    refine GC.seq ?_
    have hm := sizeB_mul hs
    refine GC.region ?_
    refine GL.val (v := (.pointer (some ⟨bq1, 2, none⟩))) (Ex.cast (Ex.fieldAddr rfl Try.underlying43 rfl T.sz41 (by decide)) rfl) (by decide) ?_
    refine GL.val (Ex.load rfl T.ag41 (i := 0) rfl rfl) (by decide) ?_
    refine GL.val (v := (.int .i64 ((n : Int)))) (Ex.len rfl Try.underlying41) (by decide) ?_
    refine GL.val (v := (.pointer (some ⟨bq1, 0, none⟩))) (Ex.cast (Ex.fieldAddr rfl Try.underlying43 rfl T.sz3 (by decide)) rfl) (by decide) ?_
    refine GL.val (Ex.load rfl T.ag3 (i := 0) rfl rfl) (by decide) ?_
    refine GL.val (v := (.pointer (some ⟨bq1, 1, none⟩))) (Ex.cast (Ex.fieldAddr rfl Try.underlying43 rfl T.sz3 (by decide)) rfl) (by decide) ?_
    refine GL.val (Ex.load rfl T.ag3 (i := 0) rfl rfl) (by decide) ?_
    refine GL.val (v := (.int .i64 (W * H))) (Ex.mul rfl rfl (Z := W * H) (w64 (by omega))) (by decide) ?_
    refine GL.val (v := (.bool (decide (((n : Int)) ≠ (W * H))))) (Ex.neq rfl rfl) (by decide) ?_
    refine GL.val (Ex.assign rfl) (by decide) ?_
    refine GL.nil ?_
    refine GE.thenN ?_
    refine GC.cond rfl (fun hq5 => ?_) (fun hq5 => ?_)
    · replace hq5 := of_decide_eq_true hq5
      refine GC.seq ?_
      refine GC.region ?_
      refine GL.val (Ex.assign rfl) (by decide) ?_
      refine GL.nil ?_
      refine GE.thenN ?_
      refine GC.ret ?_
      refine GE.blockR ?_
      refine GE.thenR ?_
      refine GC.ret1 rfl (Rv.tmp rfl) (fun wN HN => ?_)
      exact HN.ret () trivial (by simp [chk, *]) (List.nil_sublist _) rfl
    · replace hq5 := of_decide_eq_false hq5
      refine GC.skip ?_
      refine GE.blockN ?_
      refine GE.thenN ?_
      refine GC.seq ?_
      refine GC.region ?_
      refine GL.val (Ex.assign rfl) (by decide) ?_
      refine GL.nil ?_
      refine GE.thenN ?_
      refine GC.ret ?_
      refine GC.ret1 rfl (Rv.tmp rfl) (fun wN HN => ?_)
      exact HN.ret () trivial (by simp [chk, *]) (List.nil_sublist _) rfl

set_option maxRecDepth 100000 in
set_option maxHeartbeats 1000000 in
theorem ref_check (W H : Int) (ad : Option Addr) (n cap : Nat) (w : World) :
    Calls Try.prog 64 #[(.agg #[(.int .i64 W), (.int .i64 H), (.slice ad n cap)])] w (Ret w (fun _ : Unit => True) (fun _ => .int .i64 (chk W H n)) (fun _ => [])) := by
  refine enter (M := None) (L := []) (n := 18) (l := [(0, (.agg #[(.int .i64 W), (.int .i64 H), (.slice ad n cap)]))]) Try.func64 rfl rfl (Args.cons rfl (Args.nil _)) (Hp.start _ _) ?_
  refine GC.seq ?_
  refine GC.region ?_
  refine GL.step (Stp.box (cs := [(.int .i64 W), (.int .i64 H), (.slice ad n cap)]) rfl rfl (by decide)) (fun bq1 _ => ?_)
  refine GL.val (Ex.assign rfl) (by decide) ?_
  refine GL.nil ?_
  refine GE.thenN ?_
  refine GC.seq ?_
  refine GC.seq ?_
  refine GC.region ?_
  refine GL.val (v := (.pointer (some ⟨bq1, 0, none⟩))) (Ex.cast (Ex.fieldAddr rfl Try.underlying43 rfl T.sz3 (by decide)) rfl) (by decide) ?_
  refine GL.val (Ex.load rfl T.ag3 (i := 0) rfl rfl) (by decide) ?_
  refine GL.val (v := (.pointer (some ⟨bq1, 1, none⟩))) (Ex.cast (Ex.fieldAddr rfl Try.underlying43 rfl T.sz3 (by decide)) rfl) (by decide) ?_
  refine GL.val (Ex.load rfl T.ag3 (i := 0) rfl rfl) (by decide) ?_
  refine GL.step (Stp.callR (vs := [(.int .i64 W), (.int .i64 H)]) rfl rfl T.own68 (by decide) (fun wc hw => ref_size W H wc)) (fun xq2 hq3 => ?_)
  refine GL.val (v := (.bool (!(sizeB W H)))) (Ex.not rfl) (by decide) ?_
  refine GL.nil ?_
  refine GE.thenN ?_
  refine GC.cond rfl (fun hq4 => ?_) (fun hq4 => ?_)
  · have hs : sizeB W H = false := by simpa using hq4
    refine GC.seq ?_
    refine GC.region ?_
    refine GL.val (Ex.assign rfl) (by decide) ?_
    refine GL.nil ?_
    refine GE.thenN ?_
    refine GC.ret ?_
    refine GE.thenR ?_
    refine GC.ret1 rfl (Rv.tmp rfl) (fun wN HN => ?_)
    exact HN.ret () trivial (by simp [chk, *]) (List.nil_sublist _) rfl
  · have hs : sizeB W H = true := by simpa using hq4
    refine GC.skip ?_
    refine GE.thenN ?_
    refine GC.seq ?_
    refine GC.seq ?_
    have hm := sizeB_mul hs
    refine GC.region ?_
    refine GL.val (v := (.pointer (some ⟨bq1, 2, none⟩))) (Ex.cast (Ex.fieldAddr rfl Try.underlying43 rfl T.sz41 (by decide)) rfl) (by decide) ?_
    refine GL.val (Ex.load rfl T.ag41 (i := 0) rfl rfl) (by decide) ?_
    refine GL.val (v := (.int .i64 ((n : Int)))) (Ex.len rfl Try.underlying41) (by decide) ?_
    refine GL.val (v := (.pointer (some ⟨bq1, 0, none⟩))) (Ex.cast (Ex.fieldAddr rfl Try.underlying43 rfl T.sz3 (by decide)) rfl) (by decide) ?_
    refine GL.val (Ex.load rfl T.ag3 (i := 0) rfl rfl) (by decide) ?_
    refine GL.val (v := (.pointer (some ⟨bq1, 1, none⟩))) (Ex.cast (Ex.fieldAddr rfl Try.underlying43 rfl T.sz3 (by decide)) rfl) (by decide) ?_
    refine GL.val (Ex.load rfl T.ag3 (i := 0) rfl rfl) (by decide) ?_
    refine GL.val (v := (.int .i64 (W * H))) (Ex.mul rfl rfl (Z := W * H) (w64 (by omega))) (by decide) ?_
    refine GL.val (v := (.bool (decide (((n : Int)) ≠ (W * H))))) (Ex.neq rfl rfl) (by decide) ?_
    refine GL.nil ?_
    refine GE.thenN ?_
    refine GC.cond rfl (fun hq5 => ?_) (fun hq5 => ?_)
    · replace hq5 := of_decide_eq_true hq5
      refine GC.seq ?_
      refine GC.region ?_
      refine GL.val (Ex.assign rfl) (by decide) ?_
      refine GL.nil ?_
      refine GE.thenN ?_
      refine GC.ret ?_
      refine GE.thenR ?_
      refine GC.ret1 rfl (Rv.tmp rfl) (fun wN HN => ?_)
      exact HN.ret () trivial (by simp [chk, *]) (List.nil_sublist _) rfl
    · replace hq5 := of_decide_eq_false hq5
      refine GC.skip ?_
      refine GE.thenN ?_
      refine GC.seq ?_
      refine GC.region ?_
      refine GL.val (Ex.assign rfl) (by decide) ?_
      refine GL.nil ?_
      refine GE.thenN ?_
      refine GC.ret ?_
      refine GC.ret1 rfl (Rv.tmp rfl) (fun wN HN => ?_)
      exact HN.ret () trivial (by simp [chk, *]) (List.nil_sublist _) rfl

set_option maxRecDepth 100000 in
set_option maxHeartbeats 1000000 in
theorem ref_border (k n i : Int) (w : World) :
    Calls Try.prog 65 #[(.int .i64 k), (.int .i64 n), (.int .i64 i)] w (Ret w (fun _ : Unit => True) (fun _ => .tuple #[.int .i64 (bord k n i).1, .int .i64 (bord k n i).2]) (fun _ => [])) := by
  refine enter (M := None) (L := []) (n := 64) (l := [(0, (.int .i64 k)), (1, (.int .i64 n)), (2, (.int .i64 i))]) Try.func65 rfl rfl (Args.cons rfl (Args.cons rfl (Args.cons rfl (Args.nil _)))) (Hp.start _ _) ?_
  refine GC.seq ?_
  refine GC.region ?_
  refine GL.val (Ex.assign rfl) (by decide) ?_
  refine GL.val (Ex.assign rfl) (by decide) ?_
  refine GL.nil ?_
  refine GE.thenN ?_
  refine GC.seq ?_
  refine GC.seq ?_
  refine GC.region ?_
  refine GL.val (Ex.move rfl) (by decide) ?_
  by_cases hq1 : k ≠ 1
  · refine GL.val (v := (.bool true)) (Ex.cast (Ex.neq rfl rfl) (congrArg Value.bool (decide_eq_true hq1))) (by decide) ?_
    refine GL.val (Ex.move rfl) (by decide) ?_
    refine GL.stepG (tj := 12) rfl rfl (Ex.wp (v := (.int .i64 k)) (Ex.move rfl) (by decide)) (fun _ _ => ?_)
    by_cases hq2 : k ≠ 2
    · refine GL.stepG (tj := 12) rfl rfl (Ex.wp (v := (.bool true)) (Ex.cast (Ex.neq rfl rfl) (congrArg Value.bool (decide_eq_true hq2))) (by decide)) (fun _ _ => ?_)
      refine GL.val (v := (.bool true)) (Ex.pickT rfl rfl) (by decide) ?_
      refine GL.val (Ex.move rfl) (by decide) ?_
      refine GL.stepG (tj := 16) rfl rfl (Ex.wp (v := (.int .i64 k)) (Ex.move rfl) (by decide)) (fun _ _ => ?_)
      refine GL.stepG (tj := 16) rfl rfl (Ex.wp (v := (.bool (decide (k ≠ 3)))) (Ex.neq rfl rfl) (by decide)) (fun _ _ => ?_)
      refine GL.val (v := (.bool (decide (k ≠ 3)))) (Ex.pickT rfl rfl) (by decide) ?_
      refine GL.nil ?_
      refine GE.thenN ?_
      refine GC.cond rfl (fun hq3 => ?_) (fun hq3 => ?_)
      · replace hq3 := of_decide_eq_true hq3
        refine GC.seq ?_
        refine GC.region ?_
        refine GL.val (Ex.assign rfl) (by decide) ?_
        refine GL.val (Ex.assign rfl) (by decide) ?_
        refine GL.nil ?_
        refine GE.thenN ?_
        refine GC.ret ?_
        refine GE.thenR ?_
        refine GC.ret2 rfl (Rv.tmp rfl) (Rv.tmp rfl) (fun wN HN => ?_)
        exact HN.ret () trivial (by rw [show bord k n i = (0, 53) from by first | (exfalso; omega) | (unfold bord; (repeat (first | rw [if_pos (by omega)] | rw [if_neg (by omega)])); try exact Prod.ext (by dsimp only; omega) rfl)]) (List.nil_sublist _) rfl
      · replace hq3 := of_decide_eq_false hq3
        refine GC.skip ?_
        refine GE.thenN ?_
        refine GC.seq ?_
        refine GC.seq ?_
        refine GC.region ?_
        refine GL.val (Ex.move rfl) (by decide) ?_
        by_cases hq4 : n < 1
        · refine GL.val (v := (.bool true)) (Ex.cast (Ex.lss rfl rfl) (congrArg Value.bool (decide_eq_true hq4))) (by decide) ?_
          refine GL.val (Ex.move rfl) (by decide) ?_
          refine GL.skipG (tj := 22) rfl rfl rfl (by decide) ?_
          refine GL.skipG (tj := 22) rfl rfl rfl (by decide) ?_
          refine GL.val (v := (.bool true)) (Ex.pickT rfl rfl) (by decide) ?_
          refine GL.nil ?_
          refine GE.thenN ?_
          refine GC.cond rfl (fun _ => ?_) (fun hq5 => by cases hq5)
          refine GC.seq ?_
          refine GC.region ?_
          refine GL.val (Ex.assign rfl) (by decide) ?_
          refine GL.val (Ex.assign rfl) (by decide) ?_
          refine GL.nil ?_
          refine GE.thenN ?_
          refine GC.ret ?_
          refine GE.thenR ?_
          refine GC.ret2 rfl (Rv.tmp rfl) (Rv.tmp rfl) (fun wN HN => ?_)
          exact HN.ret () trivial (by rw [show bord k n i = (0, 50) from by first | (exfalso; omega) | (unfold bord; (repeat (first | rw [if_pos (by omega)] | rw [if_neg (by omega)])); try exact Prod.ext (by dsimp only; omega) rfl)]) (List.nil_sublist _) rfl
        · refine GL.val (v := (.bool false)) (Ex.cast (Ex.lss rfl rfl) (congrArg Value.bool (decide_eq_false hq4))) (by decide) ?_
          refine GL.val (Ex.move rfl) (by decide) ?_
          refine GL.stepG (tj := 22) rfl rfl (Ex.wp (v := (.int .i64 n)) (Ex.move rfl) (by decide)) (fun _ _ => ?_)
          refine GL.stepG (tj := 22) rfl rfl (Ex.wp (v := (.bool (decide (1024 < n)))) (Ex.gtr rfl rfl) (by decide)) (fun _ _ => ?_)
          refine GL.val (v := (.bool (decide (1024 < n)))) (Ex.pickF rfl rfl) (by decide) ?_
          refine GL.nil ?_
          refine GE.thenN ?_
          refine GC.cond rfl (fun hq6 => ?_) (fun hq6 => ?_)
          · replace hq6 := of_decide_eq_true hq6
            refine GC.seq ?_
            refine GC.region ?_
            refine GL.val (Ex.assign rfl) (by decide) ?_
            refine GL.val (Ex.assign rfl) (by decide) ?_
            refine GL.nil ?_
            refine GE.thenN ?_
            refine GC.ret ?_
            refine GE.thenR ?_
            refine GC.ret2 rfl (Rv.tmp rfl) (Rv.tmp rfl) (fun wN HN => ?_)
            exact HN.ret () trivial (by rw [show bord k n i = (0, 50) from by first | (exfalso; omega) | (unfold bord; (repeat (first | rw [if_pos (by omega)] | rw [if_neg (by omega)])); try exact Prod.ext (by dsimp only; omega) rfl)]) (List.nil_sublist _) rfl
          · replace hq6 := of_decide_eq_false hq6
            refine GC.skip ?_
            refine GE.thenN ?_
            refine GC.seq ?_
            refine GC.block ?_
            refine GC.seq ?_
            refine GC.region ?_
            refine GL.val (Ex.move rfl) (by decide) ?_
            refine GL.val (v := (.bool (decide (k = 1)))) (Ex.eql rfl rfl) (by decide) ?_
            refine GL.val (Ex.assign rfl) (by decide) ?_
            refine GL.nil ?_
            refine GE.thenN ?_
            refine GC.cond rfl (fun hq7 => ?_) (fun hq7 => ?_)
            · replace hq7 := of_decide_eq_true hq7
              refine GC.seq ?_
              refine GC.region ?_
              refine GL.val (Ex.move rfl) (by decide) ?_
              refine GL.val (Ex.move rfl) (by decide) ?_
              refine GL.val (v := (.int .i64 (n - 1))) (Ex.sub' rfl rfl (Z := n - 1) (w64 (by omega))) (by decide) ?_
              refine GL.val (v := (.int .i64 (min i (n - 1)))) (Ex.minI rfl rfl (Z := min i (n - 1)) (min64 _ _)) (by decide) ?_
              refine GL.val (v := (.int .i64 (max 0 (min i (n - 1))))) (Ex.maxI rfl rfl (Z := max 0 (min i (n - 1))) (max64 _ _)) (by decide) ?_
              refine GL.val (Ex.assign rfl) (by decide) ?_
              refine GL.val (Ex.assign rfl) (by decide) ?_
              refine GL.nil ?_
              refine GE.thenN ?_
              refine GC.ret ?_
              refine GE.blockR ?_
              refine GE.thenR ?_
              refine GC.ret2 rfl (Rv.tmp rfl) (Rv.tmp rfl) (fun wN HN => ?_)
              exact HN.ret () trivial (by rw [show bord k n i = (max 0 (min i (n - 1)), 0) from by first | (exfalso; omega) | (unfold bord; (repeat (first | rw [if_pos (by omega)] | rw [if_neg (by omega)])); try exact Prod.ext (by dsimp only; omega) rfl)]) (List.nil_sublist _) rfl
            · replace hq7 := of_decide_eq_false hq7
              refine GC.seq ?_
              refine GC.region ?_
              refine GL.val (Ex.move rfl) (by decide) ?_
              refine GL.val (v := (.bool (decide (k = 3)))) (Ex.eql rfl rfl) (by decide) ?_
              refine GL.val (Ex.assign rfl) (by decide) ?_
              refine GL.nil ?_
              refine GE.thenN ?_
              refine GC.cond rfl (fun hq8 => ?_) (fun hq8 => ?_)
              · replace hq8 := of_decide_eq_true hq8
                refine GC.seq ?_
                have hb := tmod_bd i (by omega : 1 ≤ n)
                refine GC.region ?_
                refine GL.val (Ex.move rfl) (by decide) ?_
                refine GL.val (Ex.move rfl) (by decide) ?_
                refine GL.val (v := (.int .i64 (i.tmod n))) (Ex.rem rfl rfl (Z := i.tmod n) (by omega) rfl) (by decide) ?_
                refine GL.val (Ex.move rfl) (by decide) ?_
                refine GL.val (v := (.int .i64 ((i.tmod n) + n))) (Ex.add rfl rfl (Z := (i.tmod n) + n) (w64 (by omega))) (by decide) ?_
                refine GL.val (Ex.move rfl) (by decide) ?_
                refine GL.val (v := (.int .i64 (rst i n))) (Ex.rem rfl rfl (Z := rst i n) (by omega) rfl) (by decide) ?_
                refine GL.val (Ex.assign rfl) (by decide) ?_
                refine GL.val (Ex.assign rfl) (by decide) ?_
                refine GL.nil ?_
                refine GE.thenN ?_
                refine GC.ret ?_
                refine GE.blockR ?_
                refine GE.thenR ?_
                refine GC.ret2 rfl (Rv.tmp rfl) (Rv.tmp rfl) (fun wN HN => ?_)
                exact HN.ret () trivial (by rw [show bord k n i = (rst i n, 0) from by first | (exfalso; omega) | (unfold bord; (repeat (first | rw [if_pos (by omega)] | rw [if_neg (by omega)])); try exact Prod.ext (by dsimp only; omega) rfl)]) (List.nil_sublist _) rfl
              · replace hq8 := of_decide_eq_false hq8
                refine GC.seq ?_
                refine GC.region ?_
                refine GL.val (Ex.move rfl) (by decide) ?_
                refine GL.val (v := (.bool (decide (n = 1)))) (Ex.eql rfl rfl) (by decide) ?_
                refine GL.val (Ex.assign rfl) (by decide) ?_
                refine GL.nil ?_
                refine GE.thenN ?_
                refine GC.cond rfl (fun hq9 => ?_) (fun hq9 => ?_)
                · replace hq9 := of_decide_eq_true hq9
                  refine GC.seq ?_
                  refine GC.region ?_
                  refine GL.val (Ex.assign rfl) (by decide) ?_
                  refine GL.val (Ex.assign rfl) (by decide) ?_
                  refine GL.nil ?_
                  refine GE.thenN ?_
                  refine GC.ret ?_
                  refine GE.blockR ?_
                  refine GE.thenR ?_
                  refine GC.ret2 rfl (Rv.tmp rfl) (Rv.tmp rfl) (fun wN HN => ?_)
                  exact HN.ret () trivial (by rw [show bord k n i = (0, 0) from by first | (exfalso; omega) | (unfold bord; (repeat (first | rw [if_pos (by omega)] | rw [if_neg (by omega)])); try exact Prod.ext (by dsimp only; omega) rfl)]) (List.nil_sublist _) rfl
                · replace hq9 := of_decide_eq_false hq9
                  refine GC.skip ?_
                  refine GE.blockN ?_
                  refine GE.thenN ?_
                  refine GC.seq ?_
                  refine GC.region ?_
                  refine GL.val (Ex.move rfl) (by decide) ?_
                  refine GL.val (v := (.int .i64 (n - 1))) (Ex.sub' rfl rfl (Z := n - 1) (w64 (by omega))) (by decide) ?_
                  refine GL.val (v := (.int .i64 (2 * (n - 1)))) (Ex.mul rfl rfl (Z := 2 * (n - 1)) (w64 (by omega))) (by decide) ?_
                  refine GL.val (Ex.assign rfl) (by decide) ?_
                  refine GL.nil ?_
                  refine GE.thenN ?_
                  refine GC.seq ?_
                  have hb := tmod_bd i (show 1 ≤ 2 * (n - 1) by omega); have hb2 := rst_bd i (show 1 ≤ 2 * (n - 1) by omega)
                  refine GC.region ?_
                  refine GL.val (Ex.move rfl) (by decide) ?_
                  refine GL.val (Ex.move rfl) (by decide) ?_
                  refine GL.val (v := (.int .i64 (i.tmod (2 * (n - 1))))) (Ex.rem rfl rfl (Z := i.tmod (2 * (n - 1))) (by omega) rfl) (by decide) ?_
                  refine GL.val (Ex.move rfl) (by decide) ?_
                  refine GL.val (v := (.int .i64 ((i.tmod (2 * (n - 1))) + (2 * (n - 1))))) (Ex.add rfl rfl (Z := (i.tmod (2 * (n - 1))) + (2 * (n - 1))) (w64 (by omega))) (by decide) ?_
                  refine GL.val (Ex.move rfl) (by decide) ?_
                  refine GL.val (v := (.int .i64 (rst i (2 * (n - 1))))) (Ex.rem rfl rfl (Z := rst i (2 * (n - 1))) (by omega) rfl) (by decide) ?_
                  refine GL.val (Ex.assign rfl) (by decide) ?_
                  refine GL.nil ?_
                  refine GE.thenN ?_
                  refine GC.seq ?_
                  refine GC.seq ?_
                  refine GC.region ?_
                  refine GL.val (Ex.move rfl) (by decide) ?_
                  refine GL.val (Ex.move rfl) (by decide) ?_
                  refine GL.val (v := (.bool (decide ((rst i (2 * (n - 1))) < n)))) (Ex.lss rfl rfl) (by decide) ?_
                  refine GL.nil ?_
                  refine GE.thenN ?_
                  refine GC.cond rfl (fun hq10 => ?_) (fun hq10 => ?_)
                  · replace hq10 := of_decide_eq_true hq10
                    refine GC.seq ?_
                    refine GC.region ?_
                    refine GL.val (Ex.move rfl) (by decide) ?_
                    refine GL.val (Ex.assign rfl) (by decide) ?_
                    refine GL.val (Ex.assign rfl) (by decide) ?_
                    refine GL.nil ?_
                    refine GE.thenN ?_
                    refine GC.ret ?_
                    refine GE.thenR ?_
                    refine GC.ret2 rfl (Rv.tmp rfl) (Rv.tmp rfl) (fun wN HN => ?_)
                    exact HN.ret () trivial (by rw [show bord k n i = (rst i (2 * (n - 1)), 0) from by first | (exfalso; omega) | (unfold bord; (repeat (first | rw [if_pos (by omega)] | rw [if_neg (by omega)])); try exact Prod.ext (by dsimp only; omega) rfl)]) (List.nil_sublist _) rfl
                  · replace hq10 := of_decide_eq_false hq10
                    refine GC.skip ?_
                    refine GE.thenN ?_
                    refine GC.seq ?_
                    refine GC.region ?_
                    refine GL.val (Ex.move rfl) (by decide) ?_
                    refine GL.val (Ex.move rfl) (by decide) ?_
                    refine GL.val (v := (.int .i64 ((2 * (n - 1)) - (rst i (2 * (n - 1)))))) (Ex.sub' rfl rfl (Z := (2 * (n - 1)) - (rst i (2 * (n - 1)))) (w64 (by omega))) (by decide) ?_
                    refine GL.val (Ex.assign rfl) (by decide) ?_
                    refine GL.val (Ex.assign rfl) (by decide) ?_
                    refine GL.nil ?_
                    refine GE.thenN ?_
                    refine GC.ret ?_
                    refine GC.ret2 rfl (Rv.tmp rfl) (Rv.tmp rfl) (fun wN HN => ?_)
                    exact HN.ret () trivial (by rw [show bord k n i = ((2 * (n - 1)) - (rst i (2 * (n - 1))), 0) from by first | (exfalso; omega) | (unfold bord; (repeat (first | rw [if_pos (by omega)] | rw [if_neg (by omega)])); try exact Prod.ext (by dsimp only; omega) rfl)]) (List.nil_sublist _) rfl
    · refine GL.stepG (tj := 12) rfl rfl (Ex.wp (v := (.bool false)) (Ex.cast (Ex.neq rfl rfl) (congrArg Value.bool (decide_eq_false hq2))) (by decide)) (fun _ _ => ?_)
      refine GL.val (v := (.bool false)) (Ex.pickT rfl rfl) (by decide) ?_
      refine GL.val (Ex.move rfl) (by decide) ?_
      refine GL.skipG (tj := 16) rfl rfl rfl (by decide) ?_
      refine GL.skipG (tj := 16) rfl rfl rfl (by decide) ?_
      refine GL.val (v := (.bool false)) (Ex.pickF rfl rfl) (by decide) ?_
      refine GL.nil ?_
      refine GE.thenN ?_
      refine GC.cond rfl (fun hq11 => by cases hq11) (fun _ => ?_)
      refine GC.skip ?_
      refine GE.thenN ?_
      refine GC.seq ?_
      refine GC.seq ?_
      refine GC.region ?_
      refine GL.val (Ex.move rfl) (by decide) ?_
      by_cases hq12 : n < 1
      · refine GL.val (v := (.bool true)) (Ex.cast (Ex.lss rfl rfl) (congrArg Value.bool (decide_eq_true hq12))) (by decide) ?_
        refine GL.val (Ex.move rfl) (by decide) ?_
        refine GL.skipG (tj := 22) rfl rfl rfl (by decide) ?_
        refine GL.skipG (tj := 22) rfl rfl rfl (by decide) ?_
        refine GL.val (v := (.bool true)) (Ex.pickT rfl rfl) (by decide) ?_
        refine GL.nil ?_
        refine GE.thenN ?_
        refine GC.cond rfl (fun _ => ?_) (fun hq13 => by cases hq13)
        refine GC.seq ?_
        refine GC.region ?_
        refine GL.val (Ex.assign rfl) (by decide) ?_
        refine GL.val (Ex.assign rfl) (by decide) ?_
        refine GL.nil ?_
        refine GE.thenN ?_
        refine GC.ret ?_
        refine GE.thenR ?_
        refine GC.ret2 rfl (Rv.tmp rfl) (Rv.tmp rfl) (fun wN HN => ?_)
        exact HN.ret () trivial (by rw [show bord k n i = (0, 50) from by first | (exfalso; omega) | (unfold bord; (repeat (first | rw [if_pos (by omega)] | rw [if_neg (by omega)])); try exact Prod.ext (by dsimp only; omega) rfl)]) (List.nil_sublist _) rfl
      · refine GL.val (v := (.bool false)) (Ex.cast (Ex.lss rfl rfl) (congrArg Value.bool (decide_eq_false hq12))) (by decide) ?_
        refine GL.val (Ex.move rfl) (by decide) ?_
        refine GL.stepG (tj := 22) rfl rfl (Ex.wp (v := (.int .i64 n)) (Ex.move rfl) (by decide)) (fun _ _ => ?_)
        refine GL.stepG (tj := 22) rfl rfl (Ex.wp (v := (.bool (decide (1024 < n)))) (Ex.gtr rfl rfl) (by decide)) (fun _ _ => ?_)
        refine GL.val (v := (.bool (decide (1024 < n)))) (Ex.pickF rfl rfl) (by decide) ?_
        refine GL.nil ?_
        refine GE.thenN ?_
        refine GC.cond rfl (fun hq14 => ?_) (fun hq14 => ?_)
        · replace hq14 := of_decide_eq_true hq14
          refine GC.seq ?_
          refine GC.region ?_
          refine GL.val (Ex.assign rfl) (by decide) ?_
          refine GL.val (Ex.assign rfl) (by decide) ?_
          refine GL.nil ?_
          refine GE.thenN ?_
          refine GC.ret ?_
          refine GE.thenR ?_
          refine GC.ret2 rfl (Rv.tmp rfl) (Rv.tmp rfl) (fun wN HN => ?_)
          exact HN.ret () trivial (by rw [show bord k n i = (0, 50) from by first | (exfalso; omega) | (unfold bord; (repeat (first | rw [if_pos (by omega)] | rw [if_neg (by omega)])); try exact Prod.ext (by dsimp only; omega) rfl)]) (List.nil_sublist _) rfl
        · replace hq14 := of_decide_eq_false hq14
          refine GC.skip ?_
          refine GE.thenN ?_
          refine GC.seq ?_
          refine GC.block ?_
          refine GC.seq ?_
          refine GC.region ?_
          refine GL.val (Ex.move rfl) (by decide) ?_
          refine GL.val (v := (.bool (decide (k = 1)))) (Ex.eql rfl rfl) (by decide) ?_
          refine GL.val (Ex.assign rfl) (by decide) ?_
          refine GL.nil ?_
          refine GE.thenN ?_
          refine GC.cond rfl (fun hq15 => ?_) (fun hq15 => ?_)
          · replace hq15 := of_decide_eq_true hq15
            refine GC.seq ?_
            refine GC.region ?_
            refine GL.val (Ex.move rfl) (by decide) ?_
            refine GL.val (Ex.move rfl) (by decide) ?_
            refine GL.val (v := (.int .i64 (n - 1))) (Ex.sub' rfl rfl (Z := n - 1) (w64 (by omega))) (by decide) ?_
            refine GL.val (v := (.int .i64 (min i (n - 1)))) (Ex.minI rfl rfl (Z := min i (n - 1)) (min64 _ _)) (by decide) ?_
            refine GL.val (v := (.int .i64 (max 0 (min i (n - 1))))) (Ex.maxI rfl rfl (Z := max 0 (min i (n - 1))) (max64 _ _)) (by decide) ?_
            refine GL.val (Ex.assign rfl) (by decide) ?_
            refine GL.val (Ex.assign rfl) (by decide) ?_
            refine GL.nil ?_
            refine GE.thenN ?_
            refine GC.ret ?_
            refine GE.blockR ?_
            refine GE.thenR ?_
            refine GC.ret2 rfl (Rv.tmp rfl) (Rv.tmp rfl) (fun wN HN => ?_)
            exact HN.ret () trivial (by rw [show bord k n i = (max 0 (min i (n - 1)), 0) from by first | (exfalso; omega) | (unfold bord; (repeat (first | rw [if_pos (by omega)] | rw [if_neg (by omega)])); try exact Prod.ext (by dsimp only; omega) rfl)]) (List.nil_sublist _) rfl
          · replace hq15 := of_decide_eq_false hq15
            refine GC.seq ?_
            refine GC.region ?_
            refine GL.val (Ex.move rfl) (by decide) ?_
            refine GL.val (v := (.bool (decide (k = 3)))) (Ex.eql rfl rfl) (by decide) ?_
            refine GL.val (Ex.assign rfl) (by decide) ?_
            refine GL.nil ?_
            refine GE.thenN ?_
            refine GC.cond rfl (fun hq16 => ?_) (fun hq16 => ?_)
            · replace hq16 := of_decide_eq_true hq16
              refine GC.seq ?_
              have hb := tmod_bd i (by omega : 1 ≤ n)
              refine GC.region ?_
              refine GL.val (Ex.move rfl) (by decide) ?_
              refine GL.val (Ex.move rfl) (by decide) ?_
              refine GL.val (v := (.int .i64 (i.tmod n))) (Ex.rem rfl rfl (Z := i.tmod n) (by omega) rfl) (by decide) ?_
              refine GL.val (Ex.move rfl) (by decide) ?_
              refine GL.val (v := (.int .i64 ((i.tmod n) + n))) (Ex.add rfl rfl (Z := (i.tmod n) + n) (w64 (by omega))) (by decide) ?_
              refine GL.val (Ex.move rfl) (by decide) ?_
              refine GL.val (v := (.int .i64 (rst i n))) (Ex.rem rfl rfl (Z := rst i n) (by omega) rfl) (by decide) ?_
              refine GL.val (Ex.assign rfl) (by decide) ?_
              refine GL.val (Ex.assign rfl) (by decide) ?_
              refine GL.nil ?_
              refine GE.thenN ?_
              refine GC.ret ?_
              refine GE.blockR ?_
              refine GE.thenR ?_
              refine GC.ret2 rfl (Rv.tmp rfl) (Rv.tmp rfl) (fun wN HN => ?_)
              exact HN.ret () trivial (by rw [show bord k n i = (rst i n, 0) from by first | (exfalso; omega) | (unfold bord; (repeat (first | rw [if_pos (by omega)] | rw [if_neg (by omega)])); try exact Prod.ext (by dsimp only; omega) rfl)]) (List.nil_sublist _) rfl
            · replace hq16 := of_decide_eq_false hq16
              refine GC.seq ?_
              refine GC.region ?_
              refine GL.val (Ex.move rfl) (by decide) ?_
              refine GL.val (v := (.bool (decide (n = 1)))) (Ex.eql rfl rfl) (by decide) ?_
              refine GL.val (Ex.assign rfl) (by decide) ?_
              refine GL.nil ?_
              refine GE.thenN ?_
              refine GC.cond rfl (fun hq17 => ?_) (fun hq17 => ?_)
              · replace hq17 := of_decide_eq_true hq17
                refine GC.seq ?_
                refine GC.region ?_
                refine GL.val (Ex.assign rfl) (by decide) ?_
                refine GL.val (Ex.assign rfl) (by decide) ?_
                refine GL.nil ?_
                refine GE.thenN ?_
                refine GC.ret ?_
                refine GE.blockR ?_
                refine GE.thenR ?_
                refine GC.ret2 rfl (Rv.tmp rfl) (Rv.tmp rfl) (fun wN HN => ?_)
                exact HN.ret () trivial (by rw [show bord k n i = (0, 0) from by first | (exfalso; omega) | (unfold bord; (repeat (first | rw [if_pos (by omega)] | rw [if_neg (by omega)])); try exact Prod.ext (by dsimp only; omega) rfl)]) (List.nil_sublist _) rfl
              · replace hq17 := of_decide_eq_false hq17
                refine GC.skip ?_
                refine GE.blockN ?_
                refine GE.thenN ?_
                refine GC.seq ?_
                refine GC.region ?_
                refine GL.val (Ex.move rfl) (by decide) ?_
                refine GL.val (v := (.int .i64 (n - 1))) (Ex.sub' rfl rfl (Z := n - 1) (w64 (by omega))) (by decide) ?_
                refine GL.val (v := (.int .i64 (2 * (n - 1)))) (Ex.mul rfl rfl (Z := 2 * (n - 1)) (w64 (by omega))) (by decide) ?_
                refine GL.val (Ex.assign rfl) (by decide) ?_
                refine GL.nil ?_
                refine GE.thenN ?_
                refine GC.seq ?_
                have hb := tmod_bd i (show 1 ≤ 2 * (n - 1) by omega); have hb2 := rst_bd i (show 1 ≤ 2 * (n - 1) by omega)
                refine GC.region ?_
                refine GL.val (Ex.move rfl) (by decide) ?_
                refine GL.val (Ex.move rfl) (by decide) ?_
                refine GL.val (v := (.int .i64 (i.tmod (2 * (n - 1))))) (Ex.rem rfl rfl (Z := i.tmod (2 * (n - 1))) (by omega) rfl) (by decide) ?_
                refine GL.val (Ex.move rfl) (by decide) ?_
                refine GL.val (v := (.int .i64 ((i.tmod (2 * (n - 1))) + (2 * (n - 1))))) (Ex.add rfl rfl (Z := (i.tmod (2 * (n - 1))) + (2 * (n - 1))) (w64 (by omega))) (by decide) ?_
                refine GL.val (Ex.move rfl) (by decide) ?_
                refine GL.val (v := (.int .i64 (rst i (2 * (n - 1))))) (Ex.rem rfl rfl (Z := rst i (2 * (n - 1))) (by omega) rfl) (by decide) ?_
                refine GL.val (Ex.assign rfl) (by decide) ?_
                refine GL.nil ?_
                refine GE.thenN ?_
                refine GC.seq ?_
                refine GC.seq ?_
                refine GC.region ?_
                refine GL.val (Ex.move rfl) (by decide) ?_
                refine GL.val (Ex.move rfl) (by decide) ?_
                refine GL.val (v := (.bool (decide ((rst i (2 * (n - 1))) < n)))) (Ex.lss rfl rfl) (by decide) ?_
                refine GL.nil ?_
                refine GE.thenN ?_
                refine GC.cond rfl (fun hq18 => ?_) (fun hq18 => ?_)
                · replace hq18 := of_decide_eq_true hq18
                  refine GC.seq ?_
                  refine GC.region ?_
                  refine GL.val (Ex.move rfl) (by decide) ?_
                  refine GL.val (Ex.assign rfl) (by decide) ?_
                  refine GL.val (Ex.assign rfl) (by decide) ?_
                  refine GL.nil ?_
                  refine GE.thenN ?_
                  refine GC.ret ?_
                  refine GE.thenR ?_
                  refine GC.ret2 rfl (Rv.tmp rfl) (Rv.tmp rfl) (fun wN HN => ?_)
                  exact HN.ret () trivial (by rw [show bord k n i = (rst i (2 * (n - 1)), 0) from by first | (exfalso; omega) | (unfold bord; (repeat (first | rw [if_pos (by omega)] | rw [if_neg (by omega)])); try exact Prod.ext (by dsimp only; omega) rfl)]) (List.nil_sublist _) rfl
                · replace hq18 := of_decide_eq_false hq18
                  refine GC.skip ?_
                  refine GE.thenN ?_
                  refine GC.seq ?_
                  refine GC.region ?_
                  refine GL.val (Ex.move rfl) (by decide) ?_
                  refine GL.val (Ex.move rfl) (by decide) ?_
                  refine GL.val (v := (.int .i64 ((2 * (n - 1)) - (rst i (2 * (n - 1)))))) (Ex.sub' rfl rfl (Z := (2 * (n - 1)) - (rst i (2 * (n - 1)))) (w64 (by omega))) (by decide) ?_
                  refine GL.val (Ex.assign rfl) (by decide) ?_
                  refine GL.val (Ex.assign rfl) (by decide) ?_
                  refine GL.nil ?_
                  refine GE.thenN ?_
                  refine GC.ret ?_
                  refine GC.ret2 rfl (Rv.tmp rfl) (Rv.tmp rfl) (fun wN HN => ?_)
                  exact HN.ret () trivial (by rw [show bord k n i = ((2 * (n - 1)) - (rst i (2 * (n - 1))), 0) from by first | (exfalso; omega) | (unfold bord; (repeat (first | rw [if_pos (by omega)] | rw [if_neg (by omega)])); try exact Prod.ext (by dsimp only; omega) rfl)]) (List.nil_sublist _) rfl
  · refine GL.val (v := (.bool false)) (Ex.cast (Ex.neq rfl rfl) (congrArg Value.bool (decide_eq_false hq1))) (by decide) ?_
    refine GL.val (Ex.move rfl) (by decide) ?_
    refine GL.skipG (tj := 12) rfl rfl rfl (by decide) ?_
    refine GL.skipG (tj := 12) rfl rfl rfl (by decide) ?_
    refine GL.val (v := (.bool false)) (Ex.pickF rfl rfl) (by decide) ?_
    refine GL.val (Ex.move rfl) (by decide) ?_
    refine GL.skipG (tj := 16) rfl rfl rfl (by decide) ?_
    refine GL.skipG (tj := 16) rfl rfl rfl (by decide) ?_
    refine GL.val (v := (.bool false)) (Ex.pickF rfl rfl) (by decide) ?_
    refine GL.nil ?_
    refine GE.thenN ?_
    refine GC.cond rfl (fun hq19 => by cases hq19) (fun _ => ?_)
    refine GC.skip ?_
    refine GE.thenN ?_
    refine GC.seq ?_
    refine GC.seq ?_
    refine GC.region ?_
    refine GL.val (Ex.move rfl) (by decide) ?_
    by_cases hq20 : n < 1
    · refine GL.val (v := (.bool true)) (Ex.cast (Ex.lss rfl rfl) (congrArg Value.bool (decide_eq_true hq20))) (by decide) ?_
      refine GL.val (Ex.move rfl) (by decide) ?_
      refine GL.skipG (tj := 22) rfl rfl rfl (by decide) ?_
      refine GL.skipG (tj := 22) rfl rfl rfl (by decide) ?_
      refine GL.val (v := (.bool true)) (Ex.pickT rfl rfl) (by decide) ?_
      refine GL.nil ?_
      refine GE.thenN ?_
      refine GC.cond rfl (fun _ => ?_) (fun hq21 => by cases hq21)
      refine GC.seq ?_
      refine GC.region ?_
      refine GL.val (Ex.assign rfl) (by decide) ?_
      refine GL.val (Ex.assign rfl) (by decide) ?_
      refine GL.nil ?_
      refine GE.thenN ?_
      refine GC.ret ?_
      refine GE.thenR ?_
      refine GC.ret2 rfl (Rv.tmp rfl) (Rv.tmp rfl) (fun wN HN => ?_)
      exact HN.ret () trivial (by rw [show bord k n i = (0, 50) from by first | (exfalso; omega) | (unfold bord; (repeat (first | rw [if_pos (by omega)] | rw [if_neg (by omega)])); try exact Prod.ext (by dsimp only; omega) rfl)]) (List.nil_sublist _) rfl
    · refine GL.val (v := (.bool false)) (Ex.cast (Ex.lss rfl rfl) (congrArg Value.bool (decide_eq_false hq20))) (by decide) ?_
      refine GL.val (Ex.move rfl) (by decide) ?_
      refine GL.stepG (tj := 22) rfl rfl (Ex.wp (v := (.int .i64 n)) (Ex.move rfl) (by decide)) (fun _ _ => ?_)
      refine GL.stepG (tj := 22) rfl rfl (Ex.wp (v := (.bool (decide (1024 < n)))) (Ex.gtr rfl rfl) (by decide)) (fun _ _ => ?_)
      refine GL.val (v := (.bool (decide (1024 < n)))) (Ex.pickF rfl rfl) (by decide) ?_
      refine GL.nil ?_
      refine GE.thenN ?_
      refine GC.cond rfl (fun hq22 => ?_) (fun hq22 => ?_)
      · replace hq22 := of_decide_eq_true hq22
        refine GC.seq ?_
        refine GC.region ?_
        refine GL.val (Ex.assign rfl) (by decide) ?_
        refine GL.val (Ex.assign rfl) (by decide) ?_
        refine GL.nil ?_
        refine GE.thenN ?_
        refine GC.ret ?_
        refine GE.thenR ?_
        refine GC.ret2 rfl (Rv.tmp rfl) (Rv.tmp rfl) (fun wN HN => ?_)
        exact HN.ret () trivial (by rw [show bord k n i = (0, 50) from by first | (exfalso; omega) | (unfold bord; (repeat (first | rw [if_pos (by omega)] | rw [if_neg (by omega)])); try exact Prod.ext (by dsimp only; omega) rfl)]) (List.nil_sublist _) rfl
      · replace hq22 := of_decide_eq_false hq22
        refine GC.skip ?_
        refine GE.thenN ?_
        refine GC.seq ?_
        refine GC.block ?_
        refine GC.seq ?_
        refine GC.region ?_
        refine GL.val (Ex.move rfl) (by decide) ?_
        refine GL.val (v := (.bool (decide (k = 1)))) (Ex.eql rfl rfl) (by decide) ?_
        refine GL.val (Ex.assign rfl) (by decide) ?_
        refine GL.nil ?_
        refine GE.thenN ?_
        refine GC.cond rfl (fun hq23 => ?_) (fun hq23 => ?_)
        · replace hq23 := of_decide_eq_true hq23
          refine GC.seq ?_
          refine GC.region ?_
          refine GL.val (Ex.move rfl) (by decide) ?_
          refine GL.val (Ex.move rfl) (by decide) ?_
          refine GL.val (v := (.int .i64 (n - 1))) (Ex.sub' rfl rfl (Z := n - 1) (w64 (by omega))) (by decide) ?_
          refine GL.val (v := (.int .i64 (min i (n - 1)))) (Ex.minI rfl rfl (Z := min i (n - 1)) (min64 _ _)) (by decide) ?_
          refine GL.val (v := (.int .i64 (max 0 (min i (n - 1))))) (Ex.maxI rfl rfl (Z := max 0 (min i (n - 1))) (max64 _ _)) (by decide) ?_
          refine GL.val (Ex.assign rfl) (by decide) ?_
          refine GL.val (Ex.assign rfl) (by decide) ?_
          refine GL.nil ?_
          refine GE.thenN ?_
          refine GC.ret ?_
          refine GE.blockR ?_
          refine GE.thenR ?_
          refine GC.ret2 rfl (Rv.tmp rfl) (Rv.tmp rfl) (fun wN HN => ?_)
          exact HN.ret () trivial (by rw [show bord k n i = (max 0 (min i (n - 1)), 0) from by first | (exfalso; omega) | (unfold bord; (repeat (first | rw [if_pos (by omega)] | rw [if_neg (by omega)])); try exact Prod.ext (by dsimp only; omega) rfl)]) (List.nil_sublist _) rfl
        · replace hq23 := of_decide_eq_false hq23
          refine GC.seq ?_
          refine GC.region ?_
          refine GL.val (Ex.move rfl) (by decide) ?_
          refine GL.val (v := (.bool (decide (k = 3)))) (Ex.eql rfl rfl) (by decide) ?_
          refine GL.val (Ex.assign rfl) (by decide) ?_
          refine GL.nil ?_
          refine GE.thenN ?_
          refine GC.cond rfl (fun hq24 => ?_) (fun hq24 => ?_)
          · replace hq24 := of_decide_eq_true hq24
            refine GC.seq ?_
            have hb := tmod_bd i (by omega : 1 ≤ n)
            refine GC.region ?_
            refine GL.val (Ex.move rfl) (by decide) ?_
            refine GL.val (Ex.move rfl) (by decide) ?_
            refine GL.val (v := (.int .i64 (i.tmod n))) (Ex.rem rfl rfl (Z := i.tmod n) (by omega) rfl) (by decide) ?_
            refine GL.val (Ex.move rfl) (by decide) ?_
            refine GL.val (v := (.int .i64 ((i.tmod n) + n))) (Ex.add rfl rfl (Z := (i.tmod n) + n) (w64 (by omega))) (by decide) ?_
            refine GL.val (Ex.move rfl) (by decide) ?_
            refine GL.val (v := (.int .i64 (rst i n))) (Ex.rem rfl rfl (Z := rst i n) (by omega) rfl) (by decide) ?_
            refine GL.val (Ex.assign rfl) (by decide) ?_
            refine GL.val (Ex.assign rfl) (by decide) ?_
            refine GL.nil ?_
            refine GE.thenN ?_
            refine GC.ret ?_
            refine GE.blockR ?_
            refine GE.thenR ?_
            refine GC.ret2 rfl (Rv.tmp rfl) (Rv.tmp rfl) (fun wN HN => ?_)
            exact HN.ret () trivial (by rw [show bord k n i = (rst i n, 0) from by first | (exfalso; omega) | (unfold bord; (repeat (first | rw [if_pos (by omega)] | rw [if_neg (by omega)])); try exact Prod.ext (by dsimp only; omega) rfl)]) (List.nil_sublist _) rfl
          · replace hq24 := of_decide_eq_false hq24
            refine GC.seq ?_
            refine GC.region ?_
            refine GL.val (Ex.move rfl) (by decide) ?_
            refine GL.val (v := (.bool (decide (n = 1)))) (Ex.eql rfl rfl) (by decide) ?_
            refine GL.val (Ex.assign rfl) (by decide) ?_
            refine GL.nil ?_
            refine GE.thenN ?_
            refine GC.cond rfl (fun hq25 => ?_) (fun hq25 => ?_)
            · replace hq25 := of_decide_eq_true hq25
              refine GC.seq ?_
              refine GC.region ?_
              refine GL.val (Ex.assign rfl) (by decide) ?_
              refine GL.val (Ex.assign rfl) (by decide) ?_
              refine GL.nil ?_
              refine GE.thenN ?_
              refine GC.ret ?_
              refine GE.blockR ?_
              refine GE.thenR ?_
              refine GC.ret2 rfl (Rv.tmp rfl) (Rv.tmp rfl) (fun wN HN => ?_)
              exact HN.ret () trivial (by rw [show bord k n i = (0, 0) from by first | (exfalso; omega) | (unfold bord; (repeat (first | rw [if_pos (by omega)] | rw [if_neg (by omega)])); try exact Prod.ext (by dsimp only; omega) rfl)]) (List.nil_sublist _) rfl
            · replace hq25 := of_decide_eq_false hq25
              refine GC.skip ?_
              refine GE.blockN ?_
              refine GE.thenN ?_
              refine GC.seq ?_
              refine GC.region ?_
              refine GL.val (Ex.move rfl) (by decide) ?_
              refine GL.val (v := (.int .i64 (n - 1))) (Ex.sub' rfl rfl (Z := n - 1) (w64 (by omega))) (by decide) ?_
              refine GL.val (v := (.int .i64 (2 * (n - 1)))) (Ex.mul rfl rfl (Z := 2 * (n - 1)) (w64 (by omega))) (by decide) ?_
              refine GL.val (Ex.assign rfl) (by decide) ?_
              refine GL.nil ?_
              refine GE.thenN ?_
              refine GC.seq ?_
              have hb := tmod_bd i (show 1 ≤ 2 * (n - 1) by omega); have hb2 := rst_bd i (show 1 ≤ 2 * (n - 1) by omega)
              refine GC.region ?_
              refine GL.val (Ex.move rfl) (by decide) ?_
              refine GL.val (Ex.move rfl) (by decide) ?_
              refine GL.val (v := (.int .i64 (i.tmod (2 * (n - 1))))) (Ex.rem rfl rfl (Z := i.tmod (2 * (n - 1))) (by omega) rfl) (by decide) ?_
              refine GL.val (Ex.move rfl) (by decide) ?_
              refine GL.val (v := (.int .i64 ((i.tmod (2 * (n - 1))) + (2 * (n - 1))))) (Ex.add rfl rfl (Z := (i.tmod (2 * (n - 1))) + (2 * (n - 1))) (w64 (by omega))) (by decide) ?_
              refine GL.val (Ex.move rfl) (by decide) ?_
              refine GL.val (v := (.int .i64 (rst i (2 * (n - 1))))) (Ex.rem rfl rfl (Z := rst i (2 * (n - 1))) (by omega) rfl) (by decide) ?_
              refine GL.val (Ex.assign rfl) (by decide) ?_
              refine GL.nil ?_
              refine GE.thenN ?_
              refine GC.seq ?_
              refine GC.seq ?_
              refine GC.region ?_
              refine GL.val (Ex.move rfl) (by decide) ?_
              refine GL.val (Ex.move rfl) (by decide) ?_
              refine GL.val (v := (.bool (decide ((rst i (2 * (n - 1))) < n)))) (Ex.lss rfl rfl) (by decide) ?_
              refine GL.nil ?_
              refine GE.thenN ?_
              refine GC.cond rfl (fun hq26 => ?_) (fun hq26 => ?_)
              · replace hq26 := of_decide_eq_true hq26
                refine GC.seq ?_
                refine GC.region ?_
                refine GL.val (Ex.move rfl) (by decide) ?_
                refine GL.val (Ex.assign rfl) (by decide) ?_
                refine GL.val (Ex.assign rfl) (by decide) ?_
                refine GL.nil ?_
                refine GE.thenN ?_
                refine GC.ret ?_
                refine GE.thenR ?_
                refine GC.ret2 rfl (Rv.tmp rfl) (Rv.tmp rfl) (fun wN HN => ?_)
                exact HN.ret () trivial (by rw [show bord k n i = (rst i (2 * (n - 1)), 0) from by first | (exfalso; omega) | (unfold bord; (repeat (first | rw [if_pos (by omega)] | rw [if_neg (by omega)])); try exact Prod.ext (by dsimp only; omega) rfl)]) (List.nil_sublist _) rfl
              · replace hq26 := of_decide_eq_false hq26
                refine GC.skip ?_
                refine GE.thenN ?_
                refine GC.seq ?_
                refine GC.region ?_
                refine GL.val (Ex.move rfl) (by decide) ?_
                refine GL.val (Ex.move rfl) (by decide) ?_
                refine GL.val (v := (.int .i64 ((2 * (n - 1)) - (rst i (2 * (n - 1)))))) (Ex.sub' rfl rfl (Z := (2 * (n - 1)) - (rst i (2 * (n - 1)))) (w64 (by omega))) (by decide) ?_
                refine GL.val (Ex.assign rfl) (by decide) ?_
                refine GL.val (Ex.assign rfl) (by decide) ?_
                refine GL.nil ?_
                refine GE.thenN ?_
                refine GC.ret ?_
                refine GC.ret2 rfl (Rv.tmp rfl) (Rv.tmp rfl) (fun wN HN => ?_)
                exact HN.ret () trivial (by rw [show bord k n i = ((2 * (n - 1)) - (rst i (2 * (n - 1))), 0) from by first | (exfalso; omega) | (unfold bord; (repeat (first | rw [if_pos (by omega)] | rw [if_neg (by omega)])); try exact Prod.ext (by dsimp only; omega) rfl)]) (List.nil_sublist _) rfl

set_option maxRecDepth 100000 in
set_option maxHeartbeats 1000000 in
theorem borders_p (k : Int) (w : World) :
    Calls Try.prog 47 #[(.int .i64 k)] w (Ret w (fun _ : Unit => True) (fun _ => .int .i64 (bord k 1 0).2) (fun _ => [])) := by
  refine enter (M := None) (L := []) (n := 11) (l := [(0, (.int .i64 k))]) Try.func47 rfl rfl (Args.cons rfl (Args.nil _)) (Hp.start _ _) ?_
  refine GC.seq ?_
  refine GC.region ?_
  refine GL.val (Ex.assign rfl) (by decide) ?_
  refine GL.nil ?_
  refine GE.thenN ?_
  refine GC.seq ?_
  refine GC.region ?_
  refine GL.val (Ex.move rfl) (by decide) ?_
  refine GL.step (Stp.callR (vs := [(.int .i64 k), (.int .i64 1), (.int .i64 0)]) rfl rfl T.own37 (by decide) (fun wc hw => border k 1 0 wc)) (fun xq1 hq2 => ?_)
  refine GL.val (Ex.move rfl) (by decide) ?_
  refine GL.val (Ex.extract rfl rfl) (by decide) ?_
  refine GL.val (Ex.extract rfl rfl) (by decide) ?_
  refine GL.val (Ex.assign rfl) (by decide) ?_
  refine GL.val (Ex.assign rfl) (by decide) ?_
  refine GL.nil ?_
  refine GE.thenN ?_
  refine GC.seq ?_
  refine GC.region ?_
  refine GL.val (Ex.move rfl) (by decide) ?_
  refine GL.val (Ex.assign rfl) (by decide) ?_
  refine GL.nil ?_
  refine GE.thenN ?_
  refine GC.ret ?_
  refine GC.ret1 rfl (Rv.tmp rfl) (fun wN HN => ?_)
  exact HN.ret () trivial rfl (List.nil_sublist _) rfl

set_option maxRecDepth 100000 in
set_option maxHeartbeats 1000000 in
theorem border_r (k n i : Int) (w : World) :
    Calls Try.prog 44 #[(.int .i64 k), (.int .i64 n), (.int .i64 i)] w (Ret w (fun _ : Unit => True) (fun _ => .int .i64 (bord k n i).1) (fun _ => [])) := by
  refine enter (M := None) (L := []) (n := 17) (l := [(0, (.int .i64 k)), (1, (.int .i64 n)), (2, (.int .i64 i))]) Try.func44 rfl rfl (Args.cons rfl (Args.cons rfl (Args.cons rfl (Args.nil _)))) (Hp.start _ _) ?_
  refine GC.seq ?_
  refine GC.region ?_
  refine GL.val (Ex.assign rfl) (by decide) ?_
  refine GL.nil ?_
  refine GE.thenN ?_
  refine GC.seq ?_
  refine GC.region ?_
  refine GL.val (Ex.move rfl) (by decide) ?_
  refine GL.val (Ex.move rfl) (by decide) ?_
  refine GL.val (Ex.move rfl) (by decide) ?_
  refine GL.step (Stp.callR (vs := [(.int .i64 k), (.int .i64 n), (.int .i64 i)]) rfl rfl T.own65 (by decide) (fun wc hw => ref_border k n i wc)) (fun xq1 hq2 => ?_)
  refine GL.val (Ex.move rfl) (by decide) ?_
  refine GL.val (Ex.extract rfl rfl) (by decide) ?_
  refine GL.val (Ex.extract rfl rfl) (by decide) ?_
  refine GL.val (Ex.assign rfl) (by decide) ?_
  refine GL.val (Ex.assign rfl) (by decide) ?_
  refine GL.nil ?_
  refine GE.thenN ?_
  refine GC.seq ?_
  refine GC.region ?_
  refine GL.val (Ex.move rfl) (by decide) ?_
  refine GL.val (Ex.assign rfl) (by decide) ?_
  refine GL.nil ?_
  refine GE.thenN ?_
  refine GC.ret ?_
  refine GC.ret1 rfl (Rv.tmp rfl) (fun wN HN => ?_)
  exact HN.ret () trivial rfl (List.nil_sublist _) rfl

set_option maxRecDepth 100000 in
set_option maxHeartbeats 1000000 in
theorem wrong_r (W H : Int) (ad : Option Addr) (n cap : Nat) (kn k : Int) (w : World) :
    Calls Try.prog 41 #[(.agg #[(.int .i64 W), (.int .i64 H), (.slice ad n cap)]), (.int .i64 kn), (.int .i64 k)] w (Ret w (fun _ : Unit => True) (fun _ => .int .i64 (if chk W H n ≠ 0 then chk W H n else if kn ≠ 0 then kn else (bord k 1 0).2)) (fun _ => [])) := by
  refine enter (M := None) (L := []) (n := 22) (l := [(0, (.agg #[(.int .i64 W), (.int .i64 H), (.slice ad n cap)])), (1, (.int .i64 kn)), (2, (.int .i64 k))]) Try.func41 rfl rfl (Args.cons rfl (Args.cons rfl (Args.cons rfl (Args.nil _)))) (Hp.start _ _) ?_
  refine GC.seq ?_
  refine GC.region ?_
  refine GL.step (Stp.box (cs := [(.int .i64 W), (.int .i64 H), (.slice ad n cap)]) rfl rfl (by decide)) (fun bq1 _ => ?_)
  refine GL.val (Ex.assign rfl) (by decide) ?_
  refine GL.nil ?_
  refine GE.thenN ?_
  refine GC.seq ?_
  refine GC.region ?_
  refine GL.val (v := (.agg #[(.int .i64 W), (.int .i64 H), (.slice ad n cap)])) (Ex.loadA rfl T.ag43 T.sz43 (i := 0) rfl (vs := [(.int .i64 W), (.int .i64 H), (.slice ad n cap)]) rfl rfl) (by decide) ?_
  refine GL.step (Stp.callR (vs := [(.agg #[(.int .i64 W), (.int .i64 H), (.slice ad n cap)])]) rfl rfl T.own64 (by decide) (fun wc hw => ref_check W H ad n cap wc)) (fun xq2 hq3 => ?_)
  refine GL.val (Ex.assign rfl) (by decide) ?_
  refine GL.nil ?_
  refine GE.thenN ?_
  refine GC.seq ?_
  refine GC.seq ?_
  refine GC.region ?_
  refine GL.val (Ex.move rfl) (by decide) ?_
  refine GL.val (v := (.bool (decide (((chk W H n)) ≠ 0)))) (Ex.neq rfl rfl) (by decide) ?_
  refine GL.nil ?_
  refine GE.thenN ?_
  refine GC.cond rfl (fun hq4 => ?_) (fun hq4 => ?_)
  · replace hq4 := of_decide_eq_true hq4
    refine GC.seq ?_
    refine GC.region ?_
    refine GL.val (Ex.move rfl) (by decide) ?_
    refine GL.val (Ex.assign rfl) (by decide) ?_
    refine GL.nil ?_
    refine GE.thenN ?_
    refine GC.ret ?_
    refine GE.thenR ?_
    refine GC.ret1 rfl (Rv.tmp rfl) (fun wN HN => ?_)
    exact HN.ret () trivial (by (repeat (first | rw [if_pos (by assumption)] | rw [if_neg (by assumption)])); all_goals rfl) (List.nil_sublist _) rfl
  · replace hq4 := of_decide_eq_false hq4
    refine GC.skip ?_
    refine GE.thenN ?_
    refine GC.seq ?_
    refine GC.seq ?_
    refine GC.region ?_
    refine GL.val (Ex.move rfl) (by decide) ?_
    refine GL.val (v := (.bool (decide (kn ≠ 0)))) (Ex.neq rfl rfl) (by decide) ?_
    refine GL.nil ?_
    refine GE.thenN ?_
    refine GC.cond rfl (fun hq5 => ?_) (fun hq5 => ?_)
    · replace hq5 := of_decide_eq_true hq5
      refine GC.seq ?_
      refine GC.region ?_
      refine GL.val (Ex.move rfl) (by decide) ?_
      refine GL.val (Ex.assign rfl) (by decide) ?_
      refine GL.nil ?_
      refine GE.thenN ?_
      refine GC.ret ?_
      refine GE.thenR ?_
      refine GC.ret1 rfl (Rv.tmp rfl) (fun wN HN => ?_)
      exact HN.ret () trivial (by (repeat (first | rw [if_pos (by assumption)] | rw [if_neg (by assumption)])); all_goals rfl) (List.nil_sublist _) rfl
    · replace hq5 := of_decide_eq_false hq5
      refine GC.skip ?_
      refine GE.thenN ?_
      refine GC.seq ?_
      refine GC.region ?_
      refine GL.val (Ex.move rfl) (by decide) ?_
      refine GL.step (Stp.callR (vs := [(.int .i64 k), (.int .i64 1), (.int .i64 0)]) rfl rfl T.own65 (by decide) (fun wc hw => ref_border k 1 0 wc)) (fun xq6 hq7 => ?_)
      refine GL.val (Ex.move rfl) (by decide) ?_
      refine GL.val (Ex.extract rfl rfl) (by decide) ?_
      refine GL.val (Ex.extract rfl rfl) (by decide) ?_
      refine GL.val (Ex.assign rfl) (by decide) ?_
      refine GL.nil ?_
      refine GE.thenN ?_
      refine GC.seq ?_
      refine GC.region ?_
      refine GL.val (Ex.move rfl) (by decide) ?_
      refine GL.val (Ex.assign rfl) (by decide) ?_
      refine GL.nil ?_
      refine GE.thenN ?_
      refine GC.ret ?_
      refine GC.ret1 rfl (Rv.tmp rfl) (fun wN HN => ?_)
      exact HN.ret () trivial (by (repeat (first | rw [if_pos (by assumption)] | rw [if_neg (by assumption)])); all_goals rfl) (List.nil_sublist _) rfl

set_option maxRecDepth 100000 in
set_option maxHeartbeats 1000000 in
theorem slope_x (W H n cap b o : Nat) (k : Int) (xs : List Int) (x y : Nat) (w : World) (hk : 1 ≤ k ∧ k ≤ 3) (hok : okP W H) (hn : n = W * H) (hx0 : xs.length = n) (hu : ∀ v ∈ xs, 0 ≤ v ∧ v < 4294967296) (hr : Rd w b o (xs.map u32)) (hx : x < W) (hy : y < H) :
    Calls Try.prog 54 #[(.iface 108 (.agg #[(.int .i64 (((W : Nat) : Int))), (.int .i64 (((H : Nat) : Int))), (.slice (some ⟨b, o, none⟩) n cap), (.int .i64 k), (.int .i64 (((x : Nat) : Int))), (.int .i64 (((y : Nat) : Int))), (.bool false)])), (.agg #[])] w (Ret w (fun _ : Unit => True) (fun _ => (.int .u32 ((Bg.slx xs W k x y)))) (fun _ => [])) := by
  have hW1 := hok.1
  have hH1 := hok.2.1
  have hW2 := hok.2.2.1
  have hH2 := hok.2.2.2.1
  have hA := hok.2.2.2.2
  refine enter (M := None) (L := []) (n := 14) (l := [(0, (.iface 108 (.agg #[(.int .i64 (((W : Nat) : Int))), (.int .i64 (((H : Nat) : Int))), (.slice (some ⟨b, o, none⟩) n cap), (.int .i64 k), (.int .i64 (((x : Nat) : Int))), (.int .i64 (((y : Nat) : Int))), (.bool false)]))), (1, (.agg #[]))]) Try.func54 rfl rfl (Args.cons rfl (Args.cons rfl (Args.nil _))) (Hp.start _ _) ?_
  refine GC.seq ?_
  refine GC.region ?_
  refine GL.step (Stp.box (cs := []) rfl rfl (by decide)) (fun bq1 _ => ?_)
  refine GL.val (Ex.assign rfl) (by decide) ?_
  refine GL.nil ?_
  refine GE.thenN ?_
  refine GC.seq ?_
  refine GC.region ?_
  refine GL.val (Ex.move rfl) (by decide) ?_
  refine GL.step (Stp.invokeR (σ := Unit) (p := fun rz => True) (v := fun rz => (.int .u32 ((smp xs W (bord k W (x + 1)).1.toNat y)))) (N := fun rz => []) (vs := [(.int .i64 1)]) rfl rfl (fun w => T.mth88 _ _ w) (by decide) (fun wc hw => at_x W n cap b o y xs k 1 H x wc hk (by omega) (by omega) (Bg.at_lt hok hn (by first | exact Bg.bX hk hok | assumption) hy) (by omega) hx0 (hw.rd hr (fun x => x)))) (fun xq2 hq3 => ?_)
  refine GL.step (Stp.callR (vs := [(.int .u32 ((smp xs W (bord k W (x + 1)).1.toNat y)))]) rfl rfl T.own58 (by decide) (fun wc hw => value_p ((smp xs W (bord k W (x + 1)).1.toNat y)) wc)) (fun xq4 hq5 => ?_)
  refine GL.val (Ex.move rfl) (by decide) ?_
  refine GL.step (Stp.invokeR (σ := Unit) (p := fun rz => True) (v := fun rz => (.int .u32 ((smp xs W (bord k W (x + (-1))).1.toNat y)))) (N := fun rz => []) (vs := [(.int .i64 (-1))]) rfl rfl (fun w => T.mth88 _ _ w) (by decide) (fun wc hw => at_x W n cap b o y xs k (-1) H x wc hk (by omega) (by omega) (Bg.at_lt hok hn (by first | exact Bg.bX hk hok | assumption) hy) (by omega) hx0 (hw.rd hr (fun x => x)))) (fun xq6 hq7 => ?_)
  refine GL.step (Stp.callR (vs := [(.int .u32 ((smp xs W (bord k W (x + (-1))).1.toNat y)))]) rfl rfl T.own58 (by decide) (fun wc hw => value_p ((smp xs W (bord k W (x + (-1))).1.toNat y)) wc)) (fun xq8 hq9 => ?_)
  refine GL.step (Stp.fop (fx := (Fv.V ((smp xs W (bord k W (x + 1)).1.toNat y)))) (fy := (Fv.V ((smp xs W (bord k W (x + (-1))).1.toNat y)))) rfl rfl rfl hq5 hq9 (by decide)) (fun xq10 hq11 => ?_)
  refine GL.step (Stp.fop (fx := (Fv.op .sub .f64 (Fv.V ((smp xs W (bord k W (x + 1)).1.toNat y))) (Fv.V ((smp xs W (bord k W (x + (-1))).1.toNat y))))) (fy := (some 4611686018427387904)) rfl rfl rfl hq11 ⟨rfl, by decide +kernel⟩ (by decide)) (fun xq12 hq13 => ?_)
  refine GL.step (Stp.callR (vs := [(.float .f64 xq12)]) rfl rfl T.own59 (by decide) (fun wc hw => told_p xq12 (Fv.op .quo .f64 (Fv.op .sub .f64 (Fv.V ((smp xs W (bord k W (x + 1)).1.toNat y))) (Fv.V ((smp xs W (bord k W (x + (-1))).1.toNat y)))) (some 4611686018427387904)) wc hq13 (Bg.slp_ok hu W _ _ _ _))) (fun xq14 hq15 => ?_)
  refine GL.val (Ex.assign rfl) (by decide) ?_
  refine GL.nil ?_
  refine GE.thenN ?_
  refine GC.ret ?_
  refine GC.ret1 rfl (Rv.tmp rfl) (fun wN HN => ?_)
  exact HN.ret () trivial rfl (List.nil_sublist _) rfl

set_option maxRecDepth 100000 in
set_option maxHeartbeats 1000000 in
theorem slope_y (W H n cap b o : Nat) (k : Int) (xs : List Int) (x y : Nat) (w : World) (hk : 1 ≤ k ∧ k ≤ 3) (hok : okP W H) (hn : n = W * H) (hx0 : xs.length = n) (hu : ∀ v ∈ xs, 0 ≤ v ∧ v < 4294967296) (hr : Rd w b o (xs.map u32)) (hx : x < W) (hy : y < H) :
    Calls Try.prog 54 #[(.iface 108 (.agg #[(.int .i64 (((W : Nat) : Int))), (.int .i64 (((H : Nat) : Int))), (.slice (some ⟨b, o, none⟩) n cap), (.int .i64 k), (.int .i64 (((x : Nat) : Int))), (.int .i64 (((y : Nat) : Int))), (.bool true)])), (.agg #[])] w (Ret w (fun _ : Unit => True) (fun _ => (.int .u32 ((Bg.sly xs W H k x y)))) (fun _ => [])) := by
  have hW1 := hok.1
  have hH1 := hok.2.1
  have hW2 := hok.2.2.1
  have hH2 := hok.2.2.2.1
  have hA := hok.2.2.2.2
  refine enter (M := None) (L := []) (n := 14) (l := [(0, (.iface 108 (.agg #[(.int .i64 (((W : Nat) : Int))), (.int .i64 (((H : Nat) : Int))), (.slice (some ⟨b, o, none⟩) n cap), (.int .i64 k), (.int .i64 (((x : Nat) : Int))), (.int .i64 (((y : Nat) : Int))), (.bool true)]))), (1, (.agg #[]))]) Try.func54 rfl rfl (Args.cons rfl (Args.cons rfl (Args.nil _))) (Hp.start _ _) ?_
  refine GC.seq ?_
  refine GC.region ?_
  refine GL.step (Stp.box (cs := []) rfl rfl (by decide)) (fun bq1 _ => ?_)
  refine GL.val (Ex.assign rfl) (by decide) ?_
  refine GL.nil ?_
  refine GE.thenN ?_
  refine GC.seq ?_
  refine GC.region ?_
  refine GL.val (Ex.move rfl) (by decide) ?_
  refine GL.step (Stp.invokeR (σ := Unit) (p := fun rz => True) (v := fun rz => (.int .u32 ((smp xs W x (bord k H (y + 1)).1.toNat)))) (N := fun rz => []) (vs := [(.int .i64 1)]) rfl rfl (fun w => T.mth88 _ _ w) (by decide) (fun wc hw => at_y W n cap b o H x xs k 1 y wc hk (by omega) (by omega) (Bg.at_lt hok hn hx (by first | exact Bg.bY hk hok | assumption)) (by omega) hx0 (hw.rd hr (fun x => x)))) (fun xq2 hq3 => ?_)
  refine GL.step (Stp.callR (vs := [(.int .u32 ((smp xs W x (bord k H (y + 1)).1.toNat)))]) rfl rfl T.own58 (by decide) (fun wc hw => value_p ((smp xs W x (bord k H (y + 1)).1.toNat)) wc)) (fun xq4 hq5 => ?_)
  refine GL.val (Ex.move rfl) (by decide) ?_
  refine GL.step (Stp.invokeR (σ := Unit) (p := fun rz => True) (v := fun rz => (.int .u32 ((smp xs W x (bord k H (y + (-1))).1.toNat)))) (N := fun rz => []) (vs := [(.int .i64 (-1))]) rfl rfl (fun w => T.mth88 _ _ w) (by decide) (fun wc hw => at_y W n cap b o H x xs k (-1) y wc hk (by omega) (by omega) (Bg.at_lt hok hn hx (by first | exact Bg.bY hk hok | assumption)) (by omega) hx0 (hw.rd hr (fun x => x)))) (fun xq6 hq7 => ?_)
  refine GL.step (Stp.callR (vs := [(.int .u32 ((smp xs W x (bord k H (y + (-1))).1.toNat)))]) rfl rfl T.own58 (by decide) (fun wc hw => value_p ((smp xs W x (bord k H (y + (-1))).1.toNat)) wc)) (fun xq8 hq9 => ?_)
  refine GL.step (Stp.fop (fx := (Fv.V ((smp xs W x (bord k H (y + 1)).1.toNat)))) (fy := (Fv.V ((smp xs W x (bord k H (y + (-1))).1.toNat)))) rfl rfl rfl hq5 hq9 (by decide)) (fun xq10 hq11 => ?_)
  refine GL.step (Stp.fop (fx := (Fv.op .sub .f64 (Fv.V ((smp xs W x (bord k H (y + 1)).1.toNat))) (Fv.V ((smp xs W x (bord k H (y + (-1))).1.toNat))))) (fy := (some 4611686018427387904)) rfl rfl rfl hq11 ⟨rfl, by decide +kernel⟩ (by decide)) (fun xq12 hq13 => ?_)
  refine GL.step (Stp.callR (vs := [(.float .f64 xq12)]) rfl rfl T.own59 (by decide) (fun wc hw => told_p xq12 (Fv.op .quo .f64 (Fv.op .sub .f64 (Fv.V ((smp xs W x (bord k H (y + 1)).1.toNat))) (Fv.V ((smp xs W x (bord k H (y + (-1))).1.toNat)))) (some 4611686018427387904)) wc hq13 (Bg.slp_ok hu W _ _ _ _))) (fun xq14 hq15 => ?_)
  refine GL.val (Ex.assign rfl) (by decide) ?_
  refine GL.nil ?_
  refine GE.thenN ?_
  refine GC.ret ?_
  refine GC.ret1 rfl (Rv.tmp rfl) (fun wN HN => ?_)
  exact HN.ret () trivial rfl (List.nil_sublist _) rfl

set_option maxRecDepth 100000 in
set_option maxHeartbeats 1000000 in
theorem grad_ok (W H n cap b o : Nat) (k : Int) (xs : List Int) (w : World) (hk : 1 ≤ k ∧ k ≤ 3) (hok : okP W H) (hn : n = W * H) (hx0 : xs.length = n) (hu : ∀ v ∈ xs, 0 ≤ v ∧ v < 4294967296) (hr : Rd w b o (xs.map u32)) :
    Calls Try.prog 26 #[(.agg #[(.int .i64 (((W : Nat) : Int))), (.int .i64 (((H : Nat) : Int))), (.slice (some ⟨b, o, none⟩) n cap)]), (.int .i64 k)] w (Ret w (fun _ : Nat × Nat => True) (fun p => .tuple #[(.agg #[(.int .i64 (((W : Nat) : Int))), (.int .i64 (((H : Nat) : Int))), (.slice (some ⟨p.1, 0, none⟩) (W * H) (W * H))]), (.agg #[(.int .i64 (((W : Nat) : Int))), (.int .i64 (((H : Nat) : Int))), (.slice (some ⟨p.2, 0, none⟩) (W * H) (W * H))]), .int .i64 0]) (fun p => [⟨p.2, (tab W (fun x y => Bg.sly xs W H k x y) (W * H)).map u32, 63, true⟩, ⟨p.1, (tab W (fun x y => Bg.slx xs W k x y) (W * H)).map u32, 63, true⟩])) := by
  have hW1 := hok.1
  have hH1 := hok.2.1
  have hW2 := hok.2.2.1
  have hH2 := hok.2.2.2.1
  have hA := hok.2.2.2.2
  refine enter (M := None) (L := []) (n := 31) (l := [(0, (.agg #[(.int .i64 (((W : Nat) : Int))), (.int .i64 (((H : Nat) : Int))), (.slice (some ⟨b, o, none⟩) n cap)])), (1, (.int .i64 k))]) Try.func26 rfl rfl (Args.cons rfl (Args.cons rfl (Args.nil _))) (Hp.start _ _) ?_
  refine GC.seq ?_
  refine GC.region ?_
  refine GL.step (Stp.box (cs := [(.int .i64 (((W : Nat) : Int))), (.int .i64 (((H : Nat) : Int))), (.slice (some ⟨b, o, none⟩) n cap)]) rfl rfl (by decide)) (fun bq1 _ => ?_)
  refine GL.step (Stp.alloc T.zr43 (by decide)) (fun bq2 _ => ?_)
  refine GL.step (Stp.alloc T.zr43 (by decide)) (fun bq3 _ => ?_)
  refine GL.val (Ex.assign rfl) (by decide) ?_
  refine GL.nil ?_
  refine GE.thenN ?_
  refine GC.seq ?_
  refine GC.seq ?_
  refine GC.region ?_
  refine GL.val (v := (.agg #[(.int .i64 (((W : Nat) : Int))), (.int .i64 (((H : Nat) : Int))), (.slice (some ⟨b, o, none⟩) n cap)])) (Ex.loadA rfl T.ag43 T.sz43 (i := 2) rfl (vs := [(.int .i64 (((W : Nat) : Int))), (.int .i64 (((H : Nat) : Int))), (.slice (some ⟨b, o, none⟩) n cap)]) rfl rfl) (by decide) ?_
  refine GL.step (Stp.callR (σ := Unit) (p := fun rz => True) (v := fun rz => (.int .i64 0)) (N := fun rz => []) (vs := [(.agg #[(.int .i64 (((W : Nat) : Int))), (.int .i64 (((H : Nat) : Int))), (.slice (some ⟨b, o, none⟩) n cap)])]) rfl rfl T.own46 (by decide) (fun wc hw => (by have h := check (((W : Nat) : Int)) (((H : Nat) : Int)) (some ⟨b, o, none⟩) n cap wc; rw [show chk (((W : Nat) : Int)) (((H : Nat) : Int)) (n) = 0 from (by rw [hn]; exact chk_ok hok)] at h; exact h))) (fun xq4 hq5 => ?_)
  refine GL.val (Ex.assign rfl) (by decide) ?_
  refine GL.nil ?_
  refine GE.thenN ?_
  refine GC.seq ?_
  refine GC.region ?_
  refine GL.val (Ex.move rfl) (by decide) ?_
  refine GL.val (v := (.bool false)) (Ex.cast (Ex.neq rfl rfl) rfl) (by decide) ?_
  refine GL.nil ?_
  refine GE.thenN ?_
  refine GC.cond rfl (fun hq6 => by cases hq6) (fun _ => ?_)
  refine GC.skip ?_
  refine GE.thenN ?_
  refine GC.seq ?_
  refine GC.seq ?_
  refine GC.region ?_
  refine GL.val (Ex.move rfl) (by decide) ?_
  refine GL.step (Stp.callR (vs := [(.int .i64 k)]) rfl rfl T.own47 (by decide) (fun wc hw => borders_p k wc)) (fun xq7 hq8 => ?_)
  refine GL.val (Ex.assign rfl) (by decide) ?_
  refine GL.nil ?_
  refine GE.thenN ?_
  refine GC.seq ?_
  refine GC.region ?_
  refine GL.val (Ex.move rfl) (by decide) ?_
  refine GL.val (v := (.bool false)) (Ex.cast (Ex.neq rfl rfl) (congrArg Value.bool (decide_eq_false (by rw [(bord_ok (i := 0) hk.1 hk.2 (show (1 : Int) ≤ 1 by decide) (by decide)).1]; decide)))) (by decide) ?_
  refine GL.nil ?_
  refine GE.thenN ?_
  refine GC.cond rfl (fun hq9 => by cases hq9) (fun _ => ?_)
  refine GC.skip ?_
  refine GE.thenN ?_
  refine GC.seq ?_
  refine GC.drawP [⟨bq1, [(.int .i64 (((W : Nat) : Int))), (.int .i64 (((H : Nat) : Int))), (.slice (some ⟨b, o, none⟩) n cap)], 43, true⟩] T.mixed (by kernel_rfl) (by kernel_rfl) (fuel := 10) rfl rfl ?_
  refine GH.take 0 (v := (.agg #[(.int .i64 (((W : Nat) : Int))), (.int .i64 (((H : Nat) : Int))), (.slice (some ⟨b, o, none⟩) n cap)])) rfl (by kernel_rfl) (by kernel_rfl) (by kernel_rfl) (fun _ _ _ h => h) (Ex.loadA rfl T.ag43 T.sz43 (i := 0) rfl (vs := [(.int .i64 (((W : Nat) : Int))), (.int .i64 (((H : Nat) : Int))), (.slice (some ⟨b, o, none⟩) n cap)]) rfl rfl) (ulS (ulS (ulC ulN))) (by decide) ?_
  refine GH.take 1 (v := (.int .i64 k)) rfl (by kernel_rfl) (by kernel_rfl) (by kernel_rfl) (fun _ _ _ h => h) (Ex.move rfl) (ulS (ulS (ulC ulN))) (by decide) ?_
  refine GH.take 2 (v := (.agg #[])) rfl (by kernel_rfl) (by kernel_rfl) (by kernel_rfl) (fun _ _ _ h => h) (Ex.build (vs := []) rfl (by first | rfl | kernel_rfl)) (ulS (ulS (ulC ulN))) (by decide) ?_
  refine GH.take 4 (v := (.agg #[(.int .i64 (((W : Nat) : Int))), (.int .i64 (((H : Nat) : Int))), (.slice (some ⟨b, o, none⟩) n cap)])) rfl (by kernel_rfl) (by kernel_rfl) (by kernel_rfl) (fun _ _ _ h => h) (Ex.loadA rfl T.ag43 T.sz43 (i := 0) rfl (vs := [(.int .i64 (((W : Nat) : Int))), (.int .i64 (((H : Nat) : Int))), (.slice (some ⟨b, o, none⟩) n cap)]) rfl rfl) (ulS (ulS (ulC ulN))) (by decide) ?_
  refine GH.take 5 (v := (.int .i64 k)) rfl (by kernel_rfl) (by kernel_rfl) (by kernel_rfl) (fun _ _ _ h => h) (Ex.move rfl) (ulS (ulS (ulC ulN))) (by decide) ?_
  refine GH.take 6 (v := (.agg #[])) rfl (by kernel_rfl) (by kernel_rfl) (by kernel_rfl) (fun _ _ _ h => h) (Ex.build (vs := []) rfl (by first | rfl | kernel_rfl)) (ulS (ulS (ulC ulN))) (by decide) ?_
  refine GH.one 3 rfl (by kernel_rfl) (Stp.callR (vs := [(.agg #[(.int .i64 (((W : Nat) : Int))), (.int .i64 (((H : Nat) : Int))), (.slice (some ⟨b, o, none⟩) n cap)]), (.int .i64 k), (.bool false), (.agg #[]), (.func (.func 54) #[] #[])]) rfl rfl T.own53 (by decide) (fun wc hw => sweepZ W H n cap (some ⟨b, o, none⟩) k false 54 (fun x y => Bg.slx xs W k x y) wc hn ⟨T.own54, fun x y w' hx hy hkp => slope_x W H n cap b o k xs x y w' hk hok hn hx0 hu ((hw.rd hr (fun x => x)).later hkp) hx hy⟩ hW2 hH2 hA)) (fun _ => (ulS (ulS (ulS (ulC ulN))))) (fun xq10 hq11 => ?_)
  refine GH.one 7 rfl (by kernel_rfl) (Stp.callR (vs := [(.agg #[(.int .i64 (((W : Nat) : Int))), (.int .i64 (((H : Nat) : Int))), (.slice (some ⟨b, o, none⟩) n cap)]), (.int .i64 k), (.bool true), (.agg #[]), (.func (.func 54) #[] #[])]) rfl rfl T.own53 (by decide) (fun wc hw => sweepZ W H n cap (some ⟨b, o, none⟩) k true 54 (fun x y => Bg.sly xs W H k x y) wc hn ⟨T.own54, fun x y w' hx hy hkp => slope_y W H n cap b o k xs x y w' hk hok hn hx0 hu ((hw.rd hr (fun x => x)).later hkp) hx hy⟩ hW2 hH2 hA)) (fun _ => (ulS (ulS (ulS (ulS (ulC ulN)))))) (fun xq12 hq13 => ?_)
  refine GH.one 8 rfl (by kernel_rfl) (Stp.st3 (cs' := [(.int .i64 (((W : Nat) : Int))), (.int .i64 (((H : Nat) : Int))), (.slice (some ⟨xq10, 0, none⟩) (W * H) (W * H))]) rfl rfl rfl T.sz43 rfl rfl rfl) (fun _ => (ulS (ulS (ulS (ulS (ulC ulN)))))) (fun _ _ => ?_)
  refine GH.one 9 rfl (by kernel_rfl) (Stp.st2 (cs' := [(.int .i64 (((W : Nat) : Int))), (.int .i64 (((H : Nat) : Int))), (.slice (some ⟨xq12, 0, none⟩) (W * H) (W * H))]) rfl rfl rfl T.sz43 rfl rfl rfl) (fun _ => (ulS (ulS (ulS (ulS (ulC ulN)))))) (fun _ _ => ?_)
  refine GH.done (by kernel_rfl) ?_
  refine GE.thenN ?_
  refine GE.tail rfl (Ex.wp (v := (.int .i64 0)) (Ex.assign rfl) (by decide)) (fun _ _ => ?_)
  refine GE.thenN ?_
  refine GC.ret ?_
  refine GC.ret3 rfl (Rv.cellA rfl T.ag43 T.sz43 (L := _) (i := 3) rfl (vs := [(.int .i64 (((W : Nat) : Int))), (.int .i64 (((H : Nat) : Int))), (.slice (some ⟨xq10, 0, none⟩) (W * H) (W * H))]) rfl rfl) (Rv.cellA rfl T.ag43 T.sz43 (L := _) (i := 2) rfl (vs := [(.int .i64 (((W : Nat) : Int))), (.int .i64 (((H : Nat) : Int))), (.slice (some ⟨xq12, 0, none⟩) (W * H) (W * H))]) rfl rfl) (Rv.tmp rfl) (fun wN HN => ?_)
  exact HN.ret (xq10, xq12) trivial rfl (ulC (ulC (ulS (ulS (ulS ulN))))) rfl

set_option maxRecDepth 100000 in
set_option maxHeartbeats 1000000 in
theorem grad_bad (W H : Int) (ad : Option Addr) (n cap : Nat) (k : Int) (w : World) (hc : chk W H n ≠ 0) :
    Calls Try.prog 26 #[(.agg #[(.int .i64 W), (.int .i64 H), (.slice ad n cap)]), (.int .i64 k)] w (Ret w (fun _ : Unit => True) (fun _ => .tuple #[(.agg #[(.int .i64 0), (.int .i64 0), (.slice none 0 0)]), (.agg #[(.int .i64 0), (.int .i64 0), (.slice none 0 0)]), .int .i64 (chk W H n)]) (fun _ => [])) := by
  refine enter (M := None) (L := []) (n := 31) (l := [(0, (.agg #[(.int .i64 W), (.int .i64 H), (.slice ad n cap)])), (1, (.int .i64 k))]) Try.func26 rfl rfl (Args.cons rfl (Args.cons rfl (Args.nil _))) (Hp.start _ _) ?_
  refine GC.seq ?_
  refine GC.region ?_
  refine GL.step (Stp.box (cs := [(.int .i64 W), (.int .i64 H), (.slice ad n cap)]) rfl rfl (by decide)) (fun bq1 _ => ?_)
  refine GL.step (Stp.alloc T.zr43 (by decide)) (fun bq2 _ => ?_)
  refine GL.step (Stp.alloc T.zr43 (by decide)) (fun bq3 _ => ?_)
  refine GL.val (Ex.assign rfl) (by decide) ?_
  refine GL.nil ?_
  refine GE.thenN ?_
  refine GC.seq ?_
  refine GC.seq ?_
  refine GC.region ?_
  refine GL.val (v := (.agg #[(.int .i64 W), (.int .i64 H), (.slice ad n cap)])) (Ex.loadA rfl T.ag43 T.sz43 (i := 2) rfl (vs := [(.int .i64 W), (.int .i64 H), (.slice ad n cap)]) rfl rfl) (by decide) ?_
  refine GL.step (Stp.callR (vs := [(.agg #[(.int .i64 W), (.int .i64 H), (.slice ad n cap)])]) rfl rfl T.own46 (by decide) (fun wc hw => check W H ad n cap wc)) (fun xq4 hq5 => ?_)
  refine GL.val (Ex.assign rfl) (by decide) ?_
  refine GL.nil ?_
  refine GE.thenN ?_
  refine GC.seq ?_
  refine GC.region ?_
  refine GL.val (Ex.move rfl) (by decide) ?_
  refine GL.val (v := (.bool true)) (Ex.cast (Ex.neq rfl rfl) (congrArg Value.bool (decide_eq_true (by exact hc)))) (by decide) ?_
  refine GL.nil ?_
  refine GE.thenN ?_
  refine GC.cond rfl (fun _ => ?_) (fun hq6 => by cases hq6)
  refine GC.seq ?_
  refine GC.region ?_
  refine GL.val (v := (.agg #[(.int .i64 0), (.int .i64 0), (.slice none 0 0)])) (Ex.build (vs := []) rfl (by first | rfl | kernel_rfl)) (by decide) ?_
  refine GL.val (v := (.agg #[(.int .i64 0), (.int .i64 0), (.slice none 0 0)])) (Ex.build (vs := []) rfl (by first | rfl | kernel_rfl)) (by decide) ?_
  refine GL.val (Ex.move rfl) (by decide) ?_
  refine GL.step (Stp.st1 (cs' := [(.int .i64 0), (.int .i64 0), (.slice none 0 0)]) rfl rfl rfl T.sz43 rfl rfl rfl) (fun _ _ => ?_)
  refine GL.step (Stp.st0 (cs' := [(.int .i64 0), (.int .i64 0), (.slice none 0 0)]) rfl rfl rfl T.sz43 rfl rfl rfl) (fun _ _ => ?_)
  refine GL.val (Ex.assign rfl) (by decide) ?_
  refine GL.nil ?_
  refine GE.thenN ?_
  refine GC.ret ?_
  refine GE.thenR ?_
  refine GC.ret3 rfl (Rv.cellA rfl T.ag43 T.sz43 (L := _) (i := 1) rfl (vs := [(.int .i64 0), (.int .i64 0), (.slice none 0 0)]) rfl rfl) (Rv.cellA rfl T.ag43 T.sz43 (L := _) (i := 0) rfl (vs := [(.int .i64 0), (.int .i64 0), (.slice none 0 0)]) rfl rfl) (Rv.tmp rfl) (fun wN HN => ?_)
  exact HN.ret () trivial rfl (List.nil_sublist _) rfl

set_option maxRecDepth 100000 in
set_option maxHeartbeats 1000000 in
theorem grad_k (W H : Int) (ad : Option Addr) (n cap : Nat) (k : Int) (w : World) (hc : chk W H n = 0) (hk : (bord k 1 0).2 ≠ 0) :
    Calls Try.prog 26 #[(.agg #[(.int .i64 W), (.int .i64 H), (.slice ad n cap)]), (.int .i64 k)] w (Ret w (fun _ : Unit => True) (fun _ => .tuple #[(.agg #[(.int .i64 0), (.int .i64 0), (.slice none 0 0)]), (.agg #[(.int .i64 0), (.int .i64 0), (.slice none 0 0)]), .int .i64 ((bord k 1 0).2)]) (fun _ => [])) := by
  refine enter (M := None) (L := []) (n := 31) (l := [(0, (.agg #[(.int .i64 W), (.int .i64 H), (.slice ad n cap)])), (1, (.int .i64 k))]) Try.func26 rfl rfl (Args.cons rfl (Args.cons rfl (Args.nil _))) (Hp.start _ _) ?_
  refine GC.seq ?_
  refine GC.region ?_
  refine GL.step (Stp.box (cs := [(.int .i64 W), (.int .i64 H), (.slice ad n cap)]) rfl rfl (by decide)) (fun bq1 _ => ?_)
  refine GL.step (Stp.alloc T.zr43 (by decide)) (fun bq2 _ => ?_)
  refine GL.step (Stp.alloc T.zr43 (by decide)) (fun bq3 _ => ?_)
  refine GL.val (Ex.assign rfl) (by decide) ?_
  refine GL.nil ?_
  refine GE.thenN ?_
  refine GC.seq ?_
  refine GC.seq ?_
  refine GC.region ?_
  refine GL.val (v := (.agg #[(.int .i64 W), (.int .i64 H), (.slice ad n cap)])) (Ex.loadA rfl T.ag43 T.sz43 (i := 2) rfl (vs := [(.int .i64 W), (.int .i64 H), (.slice ad n cap)]) rfl rfl) (by decide) ?_
  refine GL.step (Stp.callR (vs := [(.agg #[(.int .i64 W), (.int .i64 H), (.slice ad n cap)])]) rfl rfl T.own46 (by decide) (fun wc hw => check W H ad n cap wc)) (fun xq4 hq5 => ?_)
  refine GL.val (Ex.assign rfl) (by decide) ?_
  refine GL.nil ?_
  refine GE.thenN ?_
  refine GC.seq ?_
  refine GC.region ?_
  refine GL.val (Ex.move rfl) (by decide) ?_
  refine GL.val (v := (.bool false)) (Ex.cast (Ex.neq rfl rfl) (congrArg Value.bool (decide_eq_false (by exact fun h => h hc)))) (by decide) ?_
  refine GL.nil ?_
  refine GE.thenN ?_
  refine GC.cond rfl (fun hq6 => by cases hq6) (fun _ => ?_)
  refine GC.skip ?_
  refine GE.thenN ?_
  refine GC.seq ?_
  refine GC.seq ?_
  refine GC.region ?_
  refine GL.val (Ex.move rfl) (by decide) ?_
  refine GL.step (Stp.callR (vs := [(.int .i64 k)]) rfl rfl T.own47 (by decide) (fun wc hw => borders_p k wc)) (fun xq7 hq8 => ?_)
  refine GL.val (Ex.assign rfl) (by decide) ?_
  refine GL.nil ?_
  refine GE.thenN ?_
  refine GC.seq ?_
  refine GC.region ?_
  refine GL.val (Ex.move rfl) (by decide) ?_
  refine GL.val (v := (.bool true)) (Ex.cast (Ex.neq rfl rfl) (congrArg Value.bool (decide_eq_true (by exact hk)))) (by decide) ?_
  refine GL.nil ?_
  refine GE.thenN ?_
  refine GC.cond rfl (fun _ => ?_) (fun hq9 => by cases hq9)
  refine GC.seq ?_
  refine GC.region ?_
  refine GL.val (v := (.agg #[(.int .i64 0), (.int .i64 0), (.slice none 0 0)])) (Ex.build (vs := []) rfl (by first | rfl | kernel_rfl)) (by decide) ?_
  refine GL.val (v := (.agg #[(.int .i64 0), (.int .i64 0), (.slice none 0 0)])) (Ex.build (vs := []) rfl (by first | rfl | kernel_rfl)) (by decide) ?_
  refine GL.val (Ex.move rfl) (by decide) ?_
  refine GL.step (Stp.st1 (cs' := [(.int .i64 0), (.int .i64 0), (.slice none 0 0)]) rfl rfl rfl T.sz43 rfl rfl rfl) (fun _ _ => ?_)
  refine GL.step (Stp.st0 (cs' := [(.int .i64 0), (.int .i64 0), (.slice none 0 0)]) rfl rfl rfl T.sz43 rfl rfl rfl) (fun _ _ => ?_)
  refine GL.val (Ex.assign rfl) (by decide) ?_
  refine GL.nil ?_
  refine GE.thenN ?_
  refine GC.ret ?_
  refine GE.thenR ?_
  refine GC.ret3 rfl (Rv.cellA rfl T.ag43 T.sz43 (L := _) (i := 1) rfl (vs := [(.int .i64 0), (.int .i64 0), (.slice none 0 0)]) rfl rfl) (Rv.cellA rfl T.ag43 T.sz43 (L := _) (i := 0) rfl (vs := [(.int .i64 0), (.int .i64 0), (.slice none 0 0)]) rfl rfl) (Rv.tmp rfl) (fun wN HN => ?_)
  exact HN.ret () trivial rfl (List.nil_sublist _) rfl

set_option maxRecDepth 100000 in
set_option maxHeartbeats 1000000 in
theorem ref_blank (W H : Nat) (w : World) (hA : W * H ≤ 65536) :
    Calls Try.prog 42 #[(.int .i64 (((W : Nat) : Int))), (.int .i64 (((H : Nat) : Int)))] w (Ret w (fun _ : Nat => True) (fun r => (.agg #[(.int .i64 (((W : Nat) : Int))), (.int .i64 (((H : Nat) : Int))), (.slice (some ⟨r, 0, none⟩) (W * H) (W * H))])) (fun r => [⟨r, List.replicate (W * H) (.int .u32 0), 63, true⟩])) := by
  refine enter (M := None) (L := []) (n := 12) (l := [(0, (.int .i64 (((W : Nat) : Int)))), (1, (.int .i64 (((H : Nat) : Int))))]) Try.func42 rfl rfl (Args.cons rfl (Args.cons rfl (Args.nil _))) (Hp.start _ _) ?_
  refine GC.seq ?_
  refine GC.region ?_
  refine GL.step (Stp.alloc T.zr43 (by decide)) (fun bq1 _ => ?_)
  refine GL.nil ?_
  refine GE.thenN ?_
  refine GC.seq ?_
  refine GC.region ?_
  refine GL.val (Ex.move rfl) (by decide) ?_
  refine GL.val (Ex.move rfl) (by decide) ?_
  refine GL.val (Ex.move rfl) (by decide) ?_
  refine GL.val (Ex.move rfl) (by decide) ?_
  refine GL.val (v := (.int .i64 (((W * H : Nat) : Int)))) (Ex.mul rfl rfl (Z := ((W * H : Nat) : Int)) (mulN (by omega))) (by decide) ?_
  refine GL.step (Stp.makeSlice (a1 := W * H) (c := W * H) rfl rfl Try.underlying41 T.zr63 T.sz63 T.by63 rfl (Nat.le_refl _) (by omega) (by omega) (by decide)) (fun bq2 _ => ?_)
  rw [madeCells_one]
  refine GL.val (v := (.agg #[(.int .i64 (((W : Nat) : Int))), (.int .i64 (((H : Nat) : Int))), (.slice (some ⟨bq2, 0, none⟩) (W * H) (W * H))])) (Ex.build (vs := [(0, (.int .i64 (((W : Nat) : Int)))), (1, (.int .i64 (((H : Nat) : Int)))), (2, (.slice (some ⟨bq2, 0, none⟩) (W * H) (W * H)))]) rfl (by first | rfl | kernel_rfl)) (by decide) ?_
  refine GL.step (Stp.st1 (cs' := [(.int .i64 (((W : Nat) : Int))), (.int .i64 (((H : Nat) : Int))), (.slice (some ⟨bq2, 0, none⟩) (W * H) (W * H))]) rfl rfl rfl T.sz43 rfl rfl rfl) (fun _ _ => ?_)
  refine GL.nil ?_
  refine GE.thenN ?_
  refine GC.ret ?_
  refine GC.ret1 rfl (Rv.cellA rfl T.ag43 T.sz43 (L := _) (i := 1) rfl (vs := [(.int .i64 (((W : Nat) : Int))), (.int .i64 (((H : Nat) : Int))), (.slice (some ⟨bq2, 0, none⟩) (W * H) (W * H))]) rfl rfl) (fun wN HN => ?_)
  exact HN.ret bq2 trivial rfl (ulC (ulS ulN)) rfl

end Go.Proofs.Ytjbpdhofhhinhaa.C
