/- BlurWeighs: what its code does, walked. -/
import Derived.Test.YtjbpdhofhhinhaaKWeighs2
namespace Go.Proofs.Ytjbpdhofhhinhaa.C
open Go Go.RowKit Sx
set_option linter.unusedVariables false
set_option maxRecDepth 100000 in
set_option maxHeartbeats 1000000 in
theorem k16_74 (c0 : Nat) (c1 : Nat) (w : World) (hh : Has w [⟨c0, [(.int .i64 1), (.int .i64 4), (.int .i64 6), (.int .i64 4), (.int .i64 1)], 3, false⟩, ⟨c1, [(.int .i64 1), (.int .i64 4), (.int .i64 6), (.int .i64 4), (.int .i64 1)], 3, false⟩]) :
    Calls Try.prog 16 #[(.slice (some ⟨c0, 0, none⟩) 5 5), (.slice (some ⟨c1, 0, none⟩) 5 5)] w (Ret w (fun _ : Unit => True) (fun rz => (.bool true)) (fun rz => [])) := by
  refine enter (M := None) (L := [⟨c0, [(.int .i64 1), (.int .i64 4), (.int .i64 6), (.int .i64 4), (.int .i64 1)], 3, false⟩, ⟨c1, [(.int .i64 1), (.int .i64 4), (.int .i64 6), (.int .i64 4), (.int .i64 1)], 3, false⟩]) (n := 26) (l := [(0, (.slice (some ⟨c0, 0, none⟩) 5 5)), (1, (.slice (some ⟨c1, 0, none⟩) 5 5))]) Try.func16 rfl rfl (Args.cons rfl (Args.cons rfl (Args.nil _))) (Hp.reads hh rfl) ?_
  refine GC.seq ?_
  refine GC.region ?_
  refine GL.val (Ex.assign rfl) (by decide) ?_
  refine GL.nil ?_
  refine GE.thenN ?_
  refine GC.seq ?_
  refine GC.seq ?_
  refine GC.region ?_
  refine GL.val (Ex.move rfl) (by decide) ?_
  refine GL.val (v := (.int .i64 5)) (Ex.len rfl Try.underlying28) (by decide) ?_
  refine GL.val (Ex.move rfl) (by decide) ?_
  refine GL.val (v := (.int .i64 5)) (Ex.len rfl Try.underlying28) (by decide) ?_
  refine GL.val (v := (.bool false)) (Ex.cast (Ex.neq rfl rfl) rfl) (by decide) ?_
  refine GL.nil ?_
  refine GE.thenN ?_
  refine GC.cond rfl (fun hq1 => by cases hq1) (fun _ => ?_)
  refine GC.skip ?_
  refine GE.thenN ?_
  refine GC.seq ?_
  refine GC.seq ?_
  refine GC.region ?_
  refine GL.val (Ex.assign rfl) (by decide) ?_
  refine GL.nil ?_
  refine GE.thenN ?_
  refine GC.block ?_
  refine GC.unroll 60 ?_
  refine GE.round ?_
  refine GC.seq ?_
  refine GC.seq ?_
  refine GC.region ?_
  refine GL.val (Ex.move rfl) (by decide) ?_
  refine GL.val (Ex.move rfl) (by decide) ?_
  refine GL.val (v := (.int .i64 5)) (Ex.len rfl Try.underlying28) (by decide) ?_
  refine GL.val (v := (.bool true)) (Ex.cast (Ex.lss rfl rfl) rfl) (by decide) ?_
  refine GL.nil ?_
  refine GE.thenN ?_
  refine GC.cond rfl (fun _ => ?_) (fun hq2 => by cases hq2)
  refine GC.skip ?_
  refine GE.thenN ?_
  refine GC.seq ?_
  refine GC.block ?_
  refine GC.seq ?_
  refine GC.draw [⟨c0, [(.int .i64 1), (.int .i64 4), (.int .i64 6), (.int .i64 4), (.int .i64 1)], 3, false⟩, ⟨c1, [(.int .i64 1), (.int .i64 4), (.int .i64 6), (.int .i64 4), (.int .i64 1)], 3, false⟩] T.mixed (fuel := 9) rfl rfl ?_
  refine GH.take 0 (v := (.slice (some ⟨c0, 0, none⟩) 5 5)) rfl (by kernel_rfl) (by kernel_rfl) (by kernel_rfl) (fun _ _ _ h => h) (Ex.move rfl) (ulC (ulC ulN)) (by decide) ?_
  refine GH.take 1 (v := (.int .i64 0)) rfl (by kernel_rfl) (by kernel_rfl) (by kernel_rfl) (fun _ _ _ h => h) (Ex.move rfl) (ulC (ulC ulN)) (by decide) ?_
  refine GH.take 2 (v := (.pointer (some ⟨c0, 0, none⟩))) rfl (by kernel_rfl) (by kernel_rfl) (by kernel_rfl) (fun _ _ _ h => h) (Ex.cast (Ex.indexAddr rfl rfl Try.underlying28 T.sz3 (by omega) (by omega)) rfl) (ulC (ulC ulN)) (by decide) ?_
  refine GH.take 3 (v := (.int .i64 1)) rfl (by kernel_rfl) (by kernel_rfl) (by kernel_rfl) (fun _ _ _ h => h) (Ex.load rfl T.ag3 (i := 0) rfl rfl) (ulC (ulC ulN)) (by decide) ?_
  refine GH.take 4 (v := (.slice (some ⟨c1, 0, none⟩) 5 5)) rfl (by kernel_rfl) (by kernel_rfl) (by kernel_rfl) (fun _ _ _ h => h) (Ex.move rfl) (ulC (ulC ulN)) (by decide) ?_
  refine GH.take 5 (v := (.int .i64 0)) rfl (by kernel_rfl) (by kernel_rfl) (by kernel_rfl) (fun _ _ _ h => h) (Ex.move rfl) (ulC (ulC ulN)) (by decide) ?_
  refine GH.take 6 (v := (.pointer (some ⟨c1, 0, none⟩))) rfl (by kernel_rfl) (by kernel_rfl) (by kernel_rfl) (fun _ _ _ h => h) (Ex.cast (Ex.indexAddr rfl rfl Try.underlying28 T.sz3 (by omega) (by omega)) rfl) (ulC (ulC ulN)) (by decide) ?_
  refine GH.take 7 (v := (.int .i64 1)) rfl (by kernel_rfl) (by kernel_rfl) (by kernel_rfl) (fun _ _ _ h => h) (Ex.load rfl T.ag3 (i := 1) rfl rfl) (ulC (ulC ulN)) (by decide) ?_
  refine GH.take 8 (v := (.bool false)) rfl (by kernel_rfl) (by kernel_rfl) (by kernel_rfl) (fun _ _ _ h => h) (Ex.cast (Ex.neq rfl rfl) rfl) (ulC (ulC ulN)) (by decide) ?_
  refine GH.done (by kernel_rfl) ?_
  refine GE.thenN ?_
  refine GC.cond rfl (fun hq3 => by cases hq3) (fun _ => ?_)
  refine GC.skip ?_
  refine GE.blockN ?_
  refine GE.thenN ?_
  refine GC.region ?_
  refine GL.val (Ex.move rfl) (by decide) ?_
  refine GL.val (v := (.int .i64 1)) (Ex.add rfl rfl (Z := 1) (by decide)) (by decide) ?_
  refine GL.val (Ex.assign rfl) (by decide) ?_
  refine GL.nil ?_
  refine GE.thenN ?_
  refine GE.round ?_
  refine GC.seq ?_
  refine GC.seq ?_
  refine GC.region ?_
  refine GL.val (Ex.move rfl) (by decide) ?_
  refine GL.val (Ex.move rfl) (by decide) ?_
  refine GL.val (v := (.int .i64 5)) (Ex.len rfl Try.underlying28) (by decide) ?_
  refine GL.val (v := (.bool true)) (Ex.cast (Ex.lss rfl rfl) rfl) (by decide) ?_
  refine GL.nil ?_
  refine GE.thenN ?_
  refine GC.cond rfl (fun _ => ?_) (fun hq4 => by cases hq4)
  refine GC.skip ?_
  refine GE.thenN ?_
  refine GC.seq ?_
  refine GC.block ?_
  refine GC.seq ?_
  refine GC.draw [⟨c0, [(.int .i64 1), (.int .i64 4), (.int .i64 6), (.int .i64 4), (.int .i64 1)], 3, false⟩, ⟨c1, [(.int .i64 1), (.int .i64 4), (.int .i64 6), (.int .i64 4), (.int .i64 1)], 3, false⟩] T.mixed (fuel := 9) rfl rfl ?_
  refine GH.take 0 (v := (.slice (some ⟨c0, 0, none⟩) 5 5)) rfl (by kernel_rfl) (by kernel_rfl) (by kernel_rfl) (fun _ _ _ h => h) (Ex.move rfl) (ulC (ulC ulN)) (by decide) ?_
  refine GH.take 1 (v := (.int .i64 1)) rfl (by kernel_rfl) (by kernel_rfl) (by kernel_rfl) (fun _ _ _ h => h) (Ex.move rfl) (ulC (ulC ulN)) (by decide) ?_
  refine GH.take 2 (v := (.pointer (some ⟨c0, 1, none⟩))) rfl (by kernel_rfl) (by kernel_rfl) (by kernel_rfl) (fun _ _ _ h => h) (Ex.cast (Ex.indexAddr rfl rfl Try.underlying28 T.sz3 (by omega) (by omega)) rfl) (ulC (ulC ulN)) (by decide) ?_
  refine GH.take 3 (v := (.int .i64 4)) rfl (by kernel_rfl) (by kernel_rfl) (by kernel_rfl) (fun _ _ _ h => h) (Ex.load rfl T.ag3 (i := 0) rfl rfl) (ulC (ulC ulN)) (by decide) ?_
  refine GH.take 4 (v := (.slice (some ⟨c1, 0, none⟩) 5 5)) rfl (by kernel_rfl) (by kernel_rfl) (by kernel_rfl) (fun _ _ _ h => h) (Ex.move rfl) (ulC (ulC ulN)) (by decide) ?_
  refine GH.take 5 (v := (.int .i64 1)) rfl (by kernel_rfl) (by kernel_rfl) (by kernel_rfl) (fun _ _ _ h => h) (Ex.move rfl) (ulC (ulC ulN)) (by decide) ?_
  refine GH.take 6 (v := (.pointer (some ⟨c1, 1, none⟩))) rfl (by kernel_rfl) (by kernel_rfl) (by kernel_rfl) (fun _ _ _ h => h) (Ex.cast (Ex.indexAddr rfl rfl Try.underlying28 T.sz3 (by omega) (by omega)) rfl) (ulC (ulC ulN)) (by decide) ?_
  refine GH.take 7 (v := (.int .i64 4)) rfl (by kernel_rfl) (by kernel_rfl) (by kernel_rfl) (fun _ _ _ h => h) (Ex.load rfl T.ag3 (i := 1) rfl rfl) (ulC (ulC ulN)) (by decide) ?_
  refine GH.take 8 (v := (.bool false)) rfl (by kernel_rfl) (by kernel_rfl) (by kernel_rfl) (fun _ _ _ h => h) (Ex.cast (Ex.neq rfl rfl) rfl) (ulC (ulC ulN)) (by decide) ?_
  refine GH.done (by kernel_rfl) ?_
  refine GE.thenN ?_
  refine GC.cond rfl (fun hq5 => by cases hq5) (fun _ => ?_)
  refine GC.skip ?_
  refine GE.blockN ?_
  refine GE.thenN ?_
  refine GC.region ?_
  refine GL.val (Ex.move rfl) (by decide) ?_
  refine GL.val (v := (.int .i64 2)) (Ex.add rfl rfl (Z := 2) (by decide)) (by decide) ?_
  refine GL.val (Ex.assign rfl) (by decide) ?_
  refine GL.nil ?_
  refine GE.thenN ?_
  refine GE.round ?_
  refine GC.seq ?_
  refine GC.seq ?_
  refine GC.region ?_
  refine GL.val (Ex.move rfl) (by decide) ?_
  refine GL.val (Ex.move rfl) (by decide) ?_
  refine GL.val (v := (.int .i64 5)) (Ex.len rfl Try.underlying28) (by decide) ?_
  refine GL.val (v := (.bool true)) (Ex.cast (Ex.lss rfl rfl) rfl) (by decide) ?_
  refine GL.nil ?_
  refine GE.thenN ?_
  refine GC.cond rfl (fun _ => ?_) (fun hq6 => by cases hq6)
  refine GC.skip ?_
  refine GE.thenN ?_
  refine GC.seq ?_
  refine GC.block ?_
  refine GC.seq ?_
  refine GC.draw [⟨c0, [(.int .i64 1), (.int .i64 4), (.int .i64 6), (.int .i64 4), (.int .i64 1)], 3, false⟩, ⟨c1, [(.int .i64 1), (.int .i64 4), (.int .i64 6), (.int .i64 4), (.int .i64 1)], 3, false⟩] T.mixed (fuel := 9) rfl rfl ?_
  refine GH.take 0 (v := (.slice (some ⟨c0, 0, none⟩) 5 5)) rfl (by kernel_rfl) (by kernel_rfl) (by kernel_rfl) (fun _ _ _ h => h) (Ex.move rfl) (ulC (ulC ulN)) (by decide) ?_
  refine GH.take 1 (v := (.int .i64 2)) rfl (by kernel_rfl) (by kernel_rfl) (by kernel_rfl) (fun _ _ _ h => h) (Ex.move rfl) (ulC (ulC ulN)) (by decide) ?_
  refine GH.take 2 (v := (.pointer (some ⟨c0, 2, none⟩))) rfl (by kernel_rfl) (by kernel_rfl) (by kernel_rfl) (fun _ _ _ h => h) (Ex.cast (Ex.indexAddr rfl rfl Try.underlying28 T.sz3 (by omega) (by omega)) rfl) (ulC (ulC ulN)) (by decide) ?_
  refine GH.take 3 (v := (.int .i64 6)) rfl (by kernel_rfl) (by kernel_rfl) (by kernel_rfl) (fun _ _ _ h => h) (Ex.load rfl T.ag3 (i := 0) rfl rfl) (ulC (ulC ulN)) (by decide) ?_
  refine GH.take 4 (v := (.slice (some ⟨c1, 0, none⟩) 5 5)) rfl (by kernel_rfl) (by kernel_rfl) (by kernel_rfl) (fun _ _ _ h => h) (Ex.move rfl) (ulC (ulC ulN)) (by decide) ?_
  refine GH.take 5 (v := (.int .i64 2)) rfl (by kernel_rfl) (by kernel_rfl) (by kernel_rfl) (fun _ _ _ h => h) (Ex.move rfl) (ulC (ulC ulN)) (by decide) ?_
  refine GH.take 6 (v := (.pointer (some ⟨c1, 2, none⟩))) rfl (by kernel_rfl) (by kernel_rfl) (by kernel_rfl) (fun _ _ _ h => h) (Ex.cast (Ex.indexAddr rfl rfl Try.underlying28 T.sz3 (by omega) (by omega)) rfl) (ulC (ulC ulN)) (by decide) ?_
  refine GH.take 7 (v := (.int .i64 6)) rfl (by kernel_rfl) (by kernel_rfl) (by kernel_rfl) (fun _ _ _ h => h) (Ex.load rfl T.ag3 (i := 1) rfl rfl) (ulC (ulC ulN)) (by decide) ?_
  refine GH.take 8 (v := (.bool false)) rfl (by kernel_rfl) (by kernel_rfl) (by kernel_rfl) (fun _ _ _ h => h) (Ex.cast (Ex.neq rfl rfl) rfl) (ulC (ulC ulN)) (by decide) ?_
  refine GH.done (by kernel_rfl) ?_
  refine GE.thenN ?_
  refine GC.cond rfl (fun hq7 => by cases hq7) (fun _ => ?_)
  refine GC.skip ?_
  refine GE.blockN ?_
  refine GE.thenN ?_
  refine GC.region ?_
  refine GL.val (Ex.move rfl) (by decide) ?_
  refine GL.val (v := (.int .i64 3)) (Ex.add rfl rfl (Z := 3) (by decide)) (by decide) ?_
  refine GL.val (Ex.assign rfl) (by decide) ?_
  refine GL.nil ?_
  refine GE.thenN ?_
  refine GE.round ?_
  refine GC.seq ?_
  refine GC.seq ?_
  refine GC.region ?_
  refine GL.val (Ex.move rfl) (by decide) ?_
  refine GL.val (Ex.move rfl) (by decide) ?_
  refine GL.val (v := (.int .i64 5)) (Ex.len rfl Try.underlying28) (by decide) ?_
  refine GL.val (v := (.bool true)) (Ex.cast (Ex.lss rfl rfl) rfl) (by decide) ?_
  refine GL.nil ?_
  refine GE.thenN ?_
  refine GC.cond rfl (fun _ => ?_) (fun hq8 => by cases hq8)
  refine GC.skip ?_
  refine GE.thenN ?_
  refine GC.seq ?_
  refine GC.block ?_
  refine GC.seq ?_
  refine GC.draw [⟨c0, [(.int .i64 1), (.int .i64 4), (.int .i64 6), (.int .i64 4), (.int .i64 1)], 3, false⟩, ⟨c1, [(.int .i64 1), (.int .i64 4), (.int .i64 6), (.int .i64 4), (.int .i64 1)], 3, false⟩] T.mixed (fuel := 9) rfl rfl ?_
  refine GH.take 0 (v := (.slice (some ⟨c0, 0, none⟩) 5 5)) rfl (by kernel_rfl) (by kernel_rfl) (by kernel_rfl) (fun _ _ _ h => h) (Ex.move rfl) (ulC (ulC ulN)) (by decide) ?_
  refine GH.take 1 (v := (.int .i64 3)) rfl (by kernel_rfl) (by kernel_rfl) (by kernel_rfl) (fun _ _ _ h => h) (Ex.move rfl) (ulC (ulC ulN)) (by decide) ?_
  refine GH.take 2 (v := (.pointer (some ⟨c0, 3, none⟩))) rfl (by kernel_rfl) (by kernel_rfl) (by kernel_rfl) (fun _ _ _ h => h) (Ex.cast (Ex.indexAddr rfl rfl Try.underlying28 T.sz3 (by omega) (by omega)) rfl) (ulC (ulC ulN)) (by decide) ?_
  refine GH.take 3 (v := (.int .i64 4)) rfl (by kernel_rfl) (by kernel_rfl) (by kernel_rfl) (fun _ _ _ h => h) (Ex.load rfl T.ag3 (i := 0) rfl rfl) (ulC (ulC ulN)) (by decide) ?_
  refine GH.take 4 (v := (.slice (some ⟨c1, 0, none⟩) 5 5)) rfl (by kernel_rfl) (by kernel_rfl) (by kernel_rfl) (fun _ _ _ h => h) (Ex.move rfl) (ulC (ulC ulN)) (by decide) ?_
  refine GH.take 5 (v := (.int .i64 3)) rfl (by kernel_rfl) (by kernel_rfl) (by kernel_rfl) (fun _ _ _ h => h) (Ex.move rfl) (ulC (ulC ulN)) (by decide) ?_
  refine GH.take 6 (v := (.pointer (some ⟨c1, 3, none⟩))) rfl (by kernel_rfl) (by kernel_rfl) (by kernel_rfl) (fun _ _ _ h => h) (Ex.cast (Ex.indexAddr rfl rfl Try.underlying28 T.sz3 (by omega) (by omega)) rfl) (ulC (ulC ulN)) (by decide) ?_
  refine GH.take 7 (v := (.int .i64 4)) rfl (by kernel_rfl) (by kernel_rfl) (by kernel_rfl) (fun _ _ _ h => h) (Ex.load rfl T.ag3 (i := 1) rfl rfl) (ulC (ulC ulN)) (by decide) ?_
  refine GH.take 8 (v := (.bool false)) rfl (by kernel_rfl) (by kernel_rfl) (by kernel_rfl) (fun _ _ _ h => h) (Ex.cast (Ex.neq rfl rfl) rfl) (ulC (ulC ulN)) (by decide) ?_
  refine GH.done (by kernel_rfl) ?_
  refine GE.thenN ?_
  refine GC.cond rfl (fun hq9 => by cases hq9) (fun _ => ?_)
  refine GC.skip ?_
  refine GE.blockN ?_
  refine GE.thenN ?_
  refine GC.region ?_
  refine GL.val (Ex.move rfl) (by decide) ?_
  refine GL.val (v := (.int .i64 4)) (Ex.add rfl rfl (Z := 4) (by decide)) (by decide) ?_
  refine GL.val (Ex.assign rfl) (by decide) ?_
  refine GL.nil ?_
  refine GE.thenN ?_
  refine GE.round ?_
  refine GC.seq ?_
  refine GC.seq ?_
  refine GC.region ?_
  refine GL.val (Ex.move rfl) (by decide) ?_
  refine GL.val (Ex.move rfl) (by decide) ?_
  refine GL.val (v := (.int .i64 5)) (Ex.len rfl Try.underlying28) (by decide) ?_
  refine GL.val (v := (.bool true)) (Ex.cast (Ex.lss rfl rfl) rfl) (by decide) ?_
  refine GL.nil ?_
  refine GE.thenN ?_
  refine GC.cond rfl (fun _ => ?_) (fun hq10 => by cases hq10)
  refine GC.skip ?_
  refine GE.thenN ?_
  refine GC.seq ?_
  refine GC.block ?_
  refine GC.seq ?_
  refine GC.draw [⟨c0, [(.int .i64 1), (.int .i64 4), (.int .i64 6), (.int .i64 4), (.int .i64 1)], 3, false⟩, ⟨c1, [(.int .i64 1), (.int .i64 4), (.int .i64 6), (.int .i64 4), (.int .i64 1)], 3, false⟩] T.mixed (fuel := 9) rfl rfl ?_
  refine GH.take 0 (v := (.slice (some ⟨c0, 0, none⟩) 5 5)) rfl (by kernel_rfl) (by kernel_rfl) (by kernel_rfl) (fun _ _ _ h => h) (Ex.move rfl) (ulC (ulC ulN)) (by decide) ?_
  refine GH.take 1 (v := (.int .i64 4)) rfl (by kernel_rfl) (by kernel_rfl) (by kernel_rfl) (fun _ _ _ h => h) (Ex.move rfl) (ulC (ulC ulN)) (by decide) ?_
  refine GH.take 2 (v := (.pointer (some ⟨c0, 4, none⟩))) rfl (by kernel_rfl) (by kernel_rfl) (by kernel_rfl) (fun _ _ _ h => h) (Ex.cast (Ex.indexAddr rfl rfl Try.underlying28 T.sz3 (by omega) (by omega)) rfl) (ulC (ulC ulN)) (by decide) ?_
  refine GH.take 3 (v := (.int .i64 1)) rfl (by kernel_rfl) (by kernel_rfl) (by kernel_rfl) (fun _ _ _ h => h) (Ex.load rfl T.ag3 (i := 0) rfl rfl) (ulC (ulC ulN)) (by decide) ?_
  refine GH.take 4 (v := (.slice (some ⟨c1, 0, none⟩) 5 5)) rfl (by kernel_rfl) (by kernel_rfl) (by kernel_rfl) (fun _ _ _ h => h) (Ex.move rfl) (ulC (ulC ulN)) (by decide) ?_
  refine GH.take 5 (v := (.int .i64 4)) rfl (by kernel_rfl) (by kernel_rfl) (by kernel_rfl) (fun _ _ _ h => h) (Ex.move rfl) (ulC (ulC ulN)) (by decide) ?_
  refine GH.take 6 (v := (.pointer (some ⟨c1, 4, none⟩))) rfl (by kernel_rfl) (by kernel_rfl) (by kernel_rfl) (fun _ _ _ h => h) (Ex.cast (Ex.indexAddr rfl rfl Try.underlying28 T.sz3 (by omega) (by omega)) rfl) (ulC (ulC ulN)) (by decide) ?_
  refine GH.take 7 (v := (.int .i64 1)) rfl (by kernel_rfl) (by kernel_rfl) (by kernel_rfl) (fun _ _ _ h => h) (Ex.load rfl T.ag3 (i := 1) rfl rfl) (ulC (ulC ulN)) (by decide) ?_
  refine GH.take 8 (v := (.bool false)) rfl (by kernel_rfl) (by kernel_rfl) (by kernel_rfl) (fun _ _ _ h => h) (Ex.cast (Ex.neq rfl rfl) rfl) (ulC (ulC ulN)) (by decide) ?_
  refine GH.done (by kernel_rfl) ?_
  refine GE.thenN ?_
  refine GC.cond rfl (fun hq11 => by cases hq11) (fun _ => ?_)
  refine GC.skip ?_
  refine GE.blockN ?_
  refine GE.thenN ?_
  refine GC.region ?_
  refine GL.val (Ex.move rfl) (by decide) ?_
  refine GL.val (v := (.int .i64 5)) (Ex.add rfl rfl (Z := 5) (by decide)) (by decide) ?_
  refine GL.val (Ex.assign rfl) (by decide) ?_
  refine GL.nil ?_
  refine GE.thenN ?_
  refine GE.round ?_
  refine GC.seq ?_
  refine GC.seq ?_
  refine GC.region ?_
  refine GL.val (Ex.move rfl) (by decide) ?_
  refine GL.val (Ex.move rfl) (by decide) ?_
  refine GL.val (v := (.int .i64 5)) (Ex.len rfl Try.underlying28) (by decide) ?_
  refine GL.val (v := (.bool false)) (Ex.cast (Ex.lss rfl rfl) rfl) (by decide) ?_
  refine GL.nil ?_
  refine GE.thenN ?_
  refine GC.cond rfl (fun hq12 => by cases hq12) (fun _ => ?_)
  refine GC.exit ?_
  refine GE.thenE ?_
  refine GE.thenE ?_
  refine GE.blockE ?_
  refine GE.thenN ?_
  refine GC.seq ?_
  refine GC.region ?_
  refine GL.val (Ex.assign rfl) (by decide) ?_
  refine GL.nil ?_
  refine GE.thenN ?_
  refine GC.ret ?_
  refine GC.ret1 rfl (Rv.tmp rfl) (fun wN HN => ?_)
  exact HN.ret () trivial rfl (ulS (ulS ulN)) rfl

set_option maxRecDepth 100000 in
set_option maxHeartbeats 1000000 in
theorem k16_75 (c0 : Nat) (c1 : Nat) (w : World) (hh : Has w [⟨c0, [(.int .i64 1), (.int .i64 1), (.int .i64 1)], 3, false⟩, ⟨c1, [(.int .i64 1), (.int .i64 1), (.int .i64 1)], 3, false⟩]) :
    Calls Try.prog 16 #[(.slice (some ⟨c0, 0, none⟩) 3 3), (.slice (some ⟨c1, 0, none⟩) 3 3)] w (Ret w (fun _ : Unit => True) (fun rz => (.bool true)) (fun rz => [])) := by
  refine enter (M := None) (L := [⟨c0, [(.int .i64 1), (.int .i64 1), (.int .i64 1)], 3, false⟩, ⟨c1, [(.int .i64 1), (.int .i64 1), (.int .i64 1)], 3, false⟩]) (n := 26) (l := [(0, (.slice (some ⟨c0, 0, none⟩) 3 3)), (1, (.slice (some ⟨c1, 0, none⟩) 3 3))]) Try.func16 rfl rfl (Args.cons rfl (Args.cons rfl (Args.nil _))) (Hp.reads hh rfl) ?_
  refine GC.seq ?_
  refine GC.region ?_
  refine GL.val (Ex.assign rfl) (by decide) ?_
  refine GL.nil ?_
  refine GE.thenN ?_
  refine GC.seq ?_
  refine GC.seq ?_
  refine GC.region ?_
  refine GL.val (Ex.move rfl) (by decide) ?_
  refine GL.val (v := (.int .i64 3)) (Ex.len rfl Try.underlying28) (by decide) ?_
  refine GL.val (Ex.move rfl) (by decide) ?_
  refine GL.val (v := (.int .i64 3)) (Ex.len rfl Try.underlying28) (by decide) ?_
  refine GL.val (v := (.bool false)) (Ex.cast (Ex.neq rfl rfl) rfl) (by decide) ?_
  refine GL.nil ?_
  refine GE.thenN ?_
  refine GC.cond rfl (fun hq1 => by cases hq1) (fun _ => ?_)
  refine GC.skip ?_
  refine GE.thenN ?_
  refine GC.seq ?_
  refine GC.seq ?_
  refine GC.region ?_
  refine GL.val (Ex.assign rfl) (by decide) ?_
  refine GL.nil ?_
  refine GE.thenN ?_
  refine GC.block ?_
  refine GC.unroll 60 ?_
  refine GE.round ?_
  refine GC.seq ?_
  refine GC.seq ?_
  refine GC.region ?_
  refine GL.val (Ex.move rfl) (by decide) ?_
  refine GL.val (Ex.move rfl) (by decide) ?_
  refine GL.val (v := (.int .i64 3)) (Ex.len rfl Try.underlying28) (by decide) ?_
  refine GL.val (v := (.bool true)) (Ex.cast (Ex.lss rfl rfl) rfl) (by decide) ?_
  refine GL.nil ?_
  refine GE.thenN ?_
  refine GC.cond rfl (fun _ => ?_) (fun hq2 => by cases hq2)
  refine GC.skip ?_
  refine GE.thenN ?_
  refine GC.seq ?_
  refine GC.block ?_
  refine GC.seq ?_
  refine GC.draw [⟨c0, [(.int .i64 1), (.int .i64 1), (.int .i64 1)], 3, false⟩, ⟨c1, [(.int .i64 1), (.int .i64 1), (.int .i64 1)], 3, false⟩] T.mixed (fuel := 9) rfl rfl ?_
  refine GH.take 0 (v := (.slice (some ⟨c0, 0, none⟩) 3 3)) rfl (by kernel_rfl) (by kernel_rfl) (by kernel_rfl) (fun _ _ _ h => h) (Ex.move rfl) (ulC (ulC ulN)) (by decide) ?_
  refine GH.take 1 (v := (.int .i64 0)) rfl (by kernel_rfl) (by kernel_rfl) (by kernel_rfl) (fun _ _ _ h => h) (Ex.move rfl) (ulC (ulC ulN)) (by decide) ?_
  refine GH.take 2 (v := (.pointer (some ⟨c0, 0, none⟩))) rfl (by kernel_rfl) (by kernel_rfl) (by kernel_rfl) (fun _ _ _ h => h) (Ex.cast (Ex.indexAddr rfl rfl Try.underlying28 T.sz3 (by omega) (by omega)) rfl) (ulC (ulC ulN)) (by decide) ?_
  refine GH.take 3 (v := (.int .i64 1)) rfl (by kernel_rfl) (by kernel_rfl) (by kernel_rfl) (fun _ _ _ h => h) (Ex.load rfl T.ag3 (i := 0) rfl rfl) (ulC (ulC ulN)) (by decide) ?_
  refine GH.take 4 (v := (.slice (some ⟨c1, 0, none⟩) 3 3)) rfl (by kernel_rfl) (by kernel_rfl) (by kernel_rfl) (fun _ _ _ h => h) (Ex.move rfl) (ulC (ulC ulN)) (by decide) ?_
  refine GH.take 5 (v := (.int .i64 0)) rfl (by kernel_rfl) (by kernel_rfl) (by kernel_rfl) (fun _ _ _ h => h) (Ex.move rfl) (ulC (ulC ulN)) (by decide) ?_
  refine GH.take 6 (v := (.pointer (some ⟨c1, 0, none⟩))) rfl (by kernel_rfl) (by kernel_rfl) (by kernel_rfl) (fun _ _ _ h => h) (Ex.cast (Ex.indexAddr rfl rfl Try.underlying28 T.sz3 (by omega) (by omega)) rfl) (ulC (ulC ulN)) (by decide) ?_
  refine GH.take 7 (v := (.int .i64 1)) rfl (by kernel_rfl) (by kernel_rfl) (by kernel_rfl) (fun _ _ _ h => h) (Ex.load rfl T.ag3 (i := 1) rfl rfl) (ulC (ulC ulN)) (by decide) ?_
  refine GH.take 8 (v := (.bool false)) rfl (by kernel_rfl) (by kernel_rfl) (by kernel_rfl) (fun _ _ _ h => h) (Ex.cast (Ex.neq rfl rfl) rfl) (ulC (ulC ulN)) (by decide) ?_
  refine GH.done (by kernel_rfl) ?_
  refine GE.thenN ?_
  refine GC.cond rfl (fun hq3 => by cases hq3) (fun _ => ?_)
  refine GC.skip ?_
  refine GE.blockN ?_
  refine GE.thenN ?_
  refine GC.region ?_
  refine GL.val (Ex.move rfl) (by decide) ?_
  refine GL.val (v := (.int .i64 1)) (Ex.add rfl rfl (Z := 1) (by decide)) (by decide) ?_
  refine GL.val (Ex.assign rfl) (by decide) ?_
  refine GL.nil ?_
  refine GE.thenN ?_
  refine GE.round ?_
  refine GC.seq ?_
  refine GC.seq ?_
  refine GC.region ?_
  refine GL.val (Ex.move rfl) (by decide) ?_
  refine GL.val (Ex.move rfl) (by decide) ?_
  refine GL.val (v := (.int .i64 3)) (Ex.len rfl Try.underlying28) (by decide) ?_
  refine GL.val (v := (.bool true)) (Ex.cast (Ex.lss rfl rfl) rfl) (by decide) ?_
  refine GL.nil ?_
  refine GE.thenN ?_
  refine GC.cond rfl (fun _ => ?_) (fun hq4 => by cases hq4)
  refine GC.skip ?_
  refine GE.thenN ?_
  refine GC.seq ?_
  refine GC.block ?_
  refine GC.seq ?_
  refine GC.draw [⟨c0, [(.int .i64 1), (.int .i64 1), (.int .i64 1)], 3, false⟩, ⟨c1, [(.int .i64 1), (.int .i64 1), (.int .i64 1)], 3, false⟩] T.mixed (fuel := 9) rfl rfl ?_
  refine GH.take 0 (v := (.slice (some ⟨c0, 0, none⟩) 3 3)) rfl (by kernel_rfl) (by kernel_rfl) (by kernel_rfl) (fun _ _ _ h => h) (Ex.move rfl) (ulC (ulC ulN)) (by decide) ?_
  refine GH.take 1 (v := (.int .i64 1)) rfl (by kernel_rfl) (by kernel_rfl) (by kernel_rfl) (fun _ _ _ h => h) (Ex.move rfl) (ulC (ulC ulN)) (by decide) ?_
  refine GH.take 2 (v := (.pointer (some ⟨c0, 1, none⟩))) rfl (by kernel_rfl) (by kernel_rfl) (by kernel_rfl) (fun _ _ _ h => h) (Ex.cast (Ex.indexAddr rfl rfl Try.underlying28 T.sz3 (by omega) (by omega)) rfl) (ulC (ulC ulN)) (by decide) ?_
  refine GH.take 3 (v := (.int .i64 1)) rfl (by kernel_rfl) (by kernel_rfl) (by kernel_rfl) (fun _ _ _ h => h) (Ex.load rfl T.ag3 (i := 0) rfl rfl) (ulC (ulC ulN)) (by decide) ?_
  refine GH.take 4 (v := (.slice (some ⟨c1, 0, none⟩) 3 3)) rfl (by kernel_rfl) (by kernel_rfl) (by kernel_rfl) (fun _ _ _ h => h) (Ex.move rfl) (ulC (ulC ulN)) (by decide) ?_
  refine GH.take 5 (v := (.int .i64 1)) rfl (by kernel_rfl) (by kernel_rfl) (by kernel_rfl) (fun _ _ _ h => h) (Ex.move rfl) (ulC (ulC ulN)) (by decide) ?_
  refine GH.take 6 (v := (.pointer (some ⟨c1, 1, none⟩))) rfl (by kernel_rfl) (by kernel_rfl) (by kernel_rfl) (fun _ _ _ h => h) (Ex.cast (Ex.indexAddr rfl rfl Try.underlying28 T.sz3 (by omega) (by omega)) rfl) (ulC (ulC ulN)) (by decide) ?_
  refine GH.take 7 (v := (.int .i64 1)) rfl (by kernel_rfl) (by kernel_rfl) (by kernel_rfl) (fun _ _ _ h => h) (Ex.load rfl T.ag3 (i := 1) rfl rfl) (ulC (ulC ulN)) (by decide) ?_
  refine GH.take 8 (v := (.bool false)) rfl (by kernel_rfl) (by kernel_rfl) (by kernel_rfl) (fun _ _ _ h => h) (Ex.cast (Ex.neq rfl rfl) rfl) (ulC (ulC ulN)) (by decide) ?_
  refine GH.done (by kernel_rfl) ?_
  refine GE.thenN ?_
  refine GC.cond rfl (fun hq5 => by cases hq5) (fun _ => ?_)
  refine GC.skip ?_
  refine GE.blockN ?_
  refine GE.thenN ?_
  refine GC.region ?_
  refine GL.val (Ex.move rfl) (by decide) ?_
  refine GL.val (v := (.int .i64 2)) (Ex.add rfl rfl (Z := 2) (by decide)) (by decide) ?_
  refine GL.val (Ex.assign rfl) (by decide) ?_
  refine GL.nil ?_
  refine GE.thenN ?_
  refine GE.round ?_
  refine GC.seq ?_
  refine GC.seq ?_
  refine GC.region ?_
  refine GL.val (Ex.move rfl) (by decide) ?_
  refine GL.val (Ex.move rfl) (by decide) ?_
  refine GL.val (v := (.int .i64 3)) (Ex.len rfl Try.underlying28) (by decide) ?_
  refine GL.val (v := (.bool true)) (Ex.cast (Ex.lss rfl rfl) rfl) (by decide) ?_
  refine GL.nil ?_
  refine GE.thenN ?_
  refine GC.cond rfl (fun _ => ?_) (fun hq6 => by cases hq6)
  refine GC.skip ?_
  refine GE.thenN ?_
  refine GC.seq ?_
  refine GC.block ?_
  refine GC.seq ?_
  refine GC.draw [⟨c0, [(.int .i64 1), (.int .i64 1), (.int .i64 1)], 3, false⟩, ⟨c1, [(.int .i64 1), (.int .i64 1), (.int .i64 1)], 3, false⟩] T.mixed (fuel := 9) rfl rfl ?_
  refine GH.take 0 (v := (.slice (some ⟨c0, 0, none⟩) 3 3)) rfl (by kernel_rfl) (by kernel_rfl) (by kernel_rfl) (fun _ _ _ h => h) (Ex.move rfl) (ulC (ulC ulN)) (by decide) ?_
  refine GH.take 1 (v := (.int .i64 2)) rfl (by kernel_rfl) (by kernel_rfl) (by kernel_rfl) (fun _ _ _ h => h) (Ex.move rfl) (ulC (ulC ulN)) (by decide) ?_
  refine GH.take 2 (v := (.pointer (some ⟨c0, 2, none⟩))) rfl (by kernel_rfl) (by kernel_rfl) (by kernel_rfl) (fun _ _ _ h => h) (Ex.cast (Ex.indexAddr rfl rfl Try.underlying28 T.sz3 (by omega) (by omega)) rfl) (ulC (ulC ulN)) (by decide) ?_
  refine GH.take 3 (v := (.int .i64 1)) rfl (by kernel_rfl) (by kernel_rfl) (by kernel_rfl) (fun _ _ _ h => h) (Ex.load rfl T.ag3 (i := 0) rfl rfl) (ulC (ulC ulN)) (by decide) ?_
  refine GH.take 4 (v := (.slice (some ⟨c1, 0, none⟩) 3 3)) rfl (by kernel_rfl) (by kernel_rfl) (by kernel_rfl) (fun _ _ _ h => h) (Ex.move rfl) (ulC (ulC ulN)) (by decide) ?_
  refine GH.take 5 (v := (.int .i64 2)) rfl (by kernel_rfl) (by kernel_rfl) (by kernel_rfl) (fun _ _ _ h => h) (Ex.move rfl) (ulC (ulC ulN)) (by decide) ?_
  refine GH.take 6 (v := (.pointer (some ⟨c1, 2, none⟩))) rfl (by kernel_rfl) (by kernel_rfl) (by kernel_rfl) (fun _ _ _ h => h) (Ex.cast (Ex.indexAddr rfl rfl Try.underlying28 T.sz3 (by omega) (by omega)) rfl) (ulC (ulC ulN)) (by decide) ?_
  refine GH.take 7 (v := (.int .i64 1)) rfl (by kernel_rfl) (by kernel_rfl) (by kernel_rfl) (fun _ _ _ h => h) (Ex.load rfl T.ag3 (i := 1) rfl rfl) (ulC (ulC ulN)) (by decide) ?_
  refine GH.take 8 (v := (.bool false)) rfl (by kernel_rfl) (by kernel_rfl) (by kernel_rfl) (fun _ _ _ h => h) (Ex.cast (Ex.neq rfl rfl) rfl) (ulC (ulC ulN)) (by decide) ?_
  refine GH.done (by kernel_rfl) ?_
  refine GE.thenN ?_
  refine GC.cond rfl (fun hq7 => by cases hq7) (fun _ => ?_)
  refine GC.skip ?_
  refine GE.blockN ?_
  refine GE.thenN ?_
  refine GC.region ?_
  refine GL.val (Ex.move rfl) (by decide) ?_
  refine GL.val (v := (.int .i64 3)) (Ex.add rfl rfl (Z := 3) (by decide)) (by decide) ?_
  refine GL.val (Ex.assign rfl) (by decide) ?_
  refine GL.nil ?_
  refine GE.thenN ?_
  refine GE.round ?_
  refine GC.seq ?_
  refine GC.seq ?_
  refine GC.region ?_
  refine GL.val (Ex.move rfl) (by decide) ?_
  refine GL.val (Ex.move rfl) (by decide) ?_
  refine GL.val (v := (.int .i64 3)) (Ex.len rfl Try.underlying28) (by decide) ?_
  refine GL.val (v := (.bool false)) (Ex.cast (Ex.lss rfl rfl) rfl) (by decide) ?_
  refine GL.nil ?_
  refine GE.thenN ?_
  refine GC.cond rfl (fun hq8 => by cases hq8) (fun _ => ?_)
  refine GC.exit ?_
  refine GE.thenE ?_
  refine GE.thenE ?_
  refine GE.blockE ?_
  refine GE.thenN ?_
  refine GC.seq ?_
  refine GC.region ?_
  refine GL.val (Ex.assign rfl) (by decide) ?_
  refine GL.nil ?_
  refine GE.thenN ?_
  refine GC.ret ?_
  refine GC.ret1 rfl (Rv.tmp rfl) (fun wN HN => ?_)
  exact HN.ret () trivial rfl (ulS (ulS ulN)) rfl

set_option maxRecDepth 100000 in
set_option maxHeartbeats 1000000 in
theorem k38_76 (c0 : Nat) (w : World) (hh : Has w [⟨c0, [(.int .u32 0), (.int .u32 1048576000), (.int .u32 1056964608), (.int .u32 1048576000), (.int .u32 0)], 63, false⟩]) :
    Calls Try.prog 38 #[(.slice (some ⟨c0, 0, none⟩) 5 5)] w (Ret w (fun _ : Unit => True) (fun rz => (.agg #[(.int .i64 5), (.int .i64 1), (.slice (some ⟨c0, 0, none⟩) 5 5)])) (fun rz => [])) := by
  refine enter (M := None) (L := [⟨c0, [(.int .u32 0), (.int .u32 1048576000), (.int .u32 1056964608), (.int .u32 1048576000), (.int .u32 0)], 63, false⟩]) (n := 7) (l := [(0, (.slice (some ⟨c0, 0, none⟩) 5 5))]) Try.func38 rfl rfl (Args.cons rfl (Args.nil _)) (Hp.reads hh rfl) ?_
  refine GC.seq ?_
  refine GC.region ?_
  refine GL.step (Stp.alloc T.zr43 (by decide)) (fun bq1 _ => ?_)
  refine GL.nil ?_
  refine GE.thenN ?_
  refine GC.seq ?_
  refine GC.region ?_
  refine GL.val (Ex.move rfl) (by decide) ?_
  refine GL.val (v := (.int .i64 5)) (Ex.len rfl Try.underlying41) (by decide) ?_
  refine GL.val (Ex.move rfl) (by decide) ?_
  refine GL.val (v := (.agg #[(.int .i64 5), (.int .i64 1), (.slice (some ⟨c0, 0, none⟩) 5 5)])) (Ex.build (vs := [(0, (.int .i64 5)), (1, (.int .i64 1)), (2, (.slice (some ⟨c0, 0, none⟩) 5 5))]) rfl (by first | rfl | kernel_rfl)) (by decide) ?_
  refine GL.step (Stp.st0 (cs' := [(.int .i64 5), (.int .i64 1), (.slice (some ⟨c0, 0, none⟩) 5 5)]) rfl rfl rfl T.sz43 rfl rfl rfl) (fun _ _ => ?_)
  refine GL.nil ?_
  refine GE.thenN ?_
  refine GC.ret ?_
  refine GC.ret1 rfl (Rv.cellA rfl T.ag43 T.sz43 (L := _) (i := 0) rfl (vs := [(.int .i64 5), (.int .i64 1), (.slice (some ⟨c0, 0, none⟩) 5 5)]) rfl rfl) (fun wN HN => ?_)
  exact HN.ret () trivial rfl (ulS (ulS ulN)) rfl

set_option maxRecDepth 100000 in
set_option maxHeartbeats 1000000 in
theorem k50_78 (c0 : Nat) (c1 : Nat) (w : World) (hh : Has w [⟨c0, [(.int .u32 0), (.int .u32 1048576000), (.int .u32 1056964608), (.int .u32 1048576000), (.int .u32 0)], 63, false⟩, ⟨c1, [(.int .u32 0), (.int .u32 1048576000), (.int .u32 1056964608), (.int .u32 1048576000), (.int .u32 0)], 63, false⟩]) :
    Calls Try.prog 50 #[(.slice (some ⟨c0, 0, none⟩) 5 5), (.slice (some ⟨c1, 0, none⟩) 5 5)] w (Ret w (fun _ : Unit => True) (fun rz => (.bool true)) (fun rz => [])) := by
  refine enter (M := None) (L := [⟨c0, [(.int .u32 0), (.int .u32 1048576000), (.int .u32 1056964608), (.int .u32 1048576000), (.int .u32 0)], 63, false⟩, ⟨c1, [(.int .u32 0), (.int .u32 1048576000), (.int .u32 1056964608), (.int .u32 1048576000), (.int .u32 0)], 63, false⟩]) (n := 26) (l := [(0, (.slice (some ⟨c0, 0, none⟩) 5 5)), (1, (.slice (some ⟨c1, 0, none⟩) 5 5))]) Try.func50 rfl rfl (Args.cons rfl (Args.cons rfl (Args.nil _))) (Hp.reads hh rfl) ?_
  refine GC.seq ?_
  refine GC.region ?_
  refine GL.val (Ex.assign rfl) (by decide) ?_
  refine GL.nil ?_
  refine GE.thenN ?_
  refine GC.seq ?_
  refine GC.seq ?_
  refine GC.region ?_
  refine GL.val (Ex.move rfl) (by decide) ?_
  refine GL.val (v := (.int .i64 5)) (Ex.len rfl Try.underlying41) (by decide) ?_
  refine GL.val (Ex.move rfl) (by decide) ?_
  refine GL.val (v := (.int .i64 5)) (Ex.len rfl Try.underlying41) (by decide) ?_
  refine GL.val (v := (.bool false)) (Ex.cast (Ex.neq rfl rfl) rfl) (by decide) ?_
  refine GL.nil ?_
  refine GE.thenN ?_
  refine GC.cond rfl (fun hq1 => by cases hq1) (fun _ => ?_)
  refine GC.skip ?_
  refine GE.thenN ?_
  refine GC.seq ?_
  refine GC.seq ?_
  refine GC.region ?_
  refine GL.val (Ex.assign rfl) (by decide) ?_
  refine GL.nil ?_
  refine GE.thenN ?_
  refine GC.block ?_
  refine GC.unroll 60 ?_
  refine GE.round ?_
  refine GC.seq ?_
  refine GC.seq ?_
  refine GC.region ?_
  refine GL.val (Ex.move rfl) (by decide) ?_
  refine GL.val (Ex.move rfl) (by decide) ?_
  refine GL.val (v := (.int .i64 5)) (Ex.len rfl Try.underlying41) (by decide) ?_
  refine GL.val (v := (.bool true)) (Ex.cast (Ex.lss rfl rfl) rfl) (by decide) ?_
  refine GL.nil ?_
  refine GE.thenN ?_
  refine GC.cond rfl (fun _ => ?_) (fun hq2 => by cases hq2)
  refine GC.skip ?_
  refine GE.thenN ?_
  refine GC.seq ?_
  refine GC.block ?_
  refine GC.seq ?_
  refine GC.draw [⟨c0, [(.int .u32 0), (.int .u32 1048576000), (.int .u32 1056964608), (.int .u32 1048576000), (.int .u32 0)], 63, false⟩, ⟨c1, [(.int .u32 0), (.int .u32 1048576000), (.int .u32 1056964608), (.int .u32 1048576000), (.int .u32 0)], 63, false⟩] T.mixed (fuel := 9) rfl rfl ?_
  refine GH.take 0 (v := (.slice (some ⟨c0, 0, none⟩) 5 5)) rfl (by kernel_rfl) (by kernel_rfl) (by kernel_rfl) (fun _ _ _ h => h) (Ex.move rfl) (ulC (ulC ulN)) (by decide) ?_
  refine GH.take 1 (v := (.int .i64 0)) rfl (by kernel_rfl) (by kernel_rfl) (by kernel_rfl) (fun _ _ _ h => h) (Ex.move rfl) (ulC (ulC ulN)) (by decide) ?_
  refine GH.take 2 (v := (.pointer (some ⟨c0, 0, none⟩))) rfl (by kernel_rfl) (by kernel_rfl) (by kernel_rfl) (fun _ _ _ h => h) (Ex.cast (Ex.indexAddr rfl rfl Try.underlying41 T.sz63 (by omega) (by omega)) rfl) (ulC (ulC ulN)) (by decide) ?_
  refine GH.take 3 (v := (.int .u32 0)) rfl (by kernel_rfl) (by kernel_rfl) (by kernel_rfl) (fun _ _ _ h => h) (Ex.load rfl T.ag63 (i := 0) rfl rfl) (ulC (ulC ulN)) (by decide) ?_
  refine GH.take 4 (v := (.slice (some ⟨c1, 0, none⟩) 5 5)) rfl (by kernel_rfl) (by kernel_rfl) (by kernel_rfl) (fun _ _ _ h => h) (Ex.move rfl) (ulC (ulC ulN)) (by decide) ?_
  refine GH.take 5 (v := (.int .i64 0)) rfl (by kernel_rfl) (by kernel_rfl) (by kernel_rfl) (fun _ _ _ h => h) (Ex.move rfl) (ulC (ulC ulN)) (by decide) ?_
  refine GH.take 6 (v := (.pointer (some ⟨c1, 0, none⟩))) rfl (by kernel_rfl) (by kernel_rfl) (by kernel_rfl) (fun _ _ _ h => h) (Ex.cast (Ex.indexAddr rfl rfl Try.underlying41 T.sz63 (by omega) (by omega)) rfl) (ulC (ulC ulN)) (by decide) ?_
  refine GH.take 7 (v := (.int .u32 0)) rfl (by kernel_rfl) (by kernel_rfl) (by kernel_rfl) (fun _ _ _ h => h) (Ex.load rfl T.ag63 (i := 1) rfl rfl) (ulC (ulC ulN)) (by decide) ?_
  refine GH.take 8 (v := (.bool false)) rfl (by kernel_rfl) (by kernel_rfl) (by kernel_rfl) (fun _ _ _ h => h) (Ex.cast (Ex.neq rfl rfl) rfl) (ulC (ulC ulN)) (by decide) ?_
  refine GH.done (by kernel_rfl) ?_
  refine GE.thenN ?_
  refine GC.cond rfl (fun hq3 => by cases hq3) (fun _ => ?_)
  refine GC.skip ?_
  refine GE.blockN ?_
  refine GE.thenN ?_
  refine GC.region ?_
  refine GL.val (Ex.move rfl) (by decide) ?_
  refine GL.val (v := (.int .i64 1)) (Ex.add rfl rfl (Z := 1) (by decide)) (by decide) ?_
  refine GL.val (Ex.assign rfl) (by decide) ?_
  refine GL.nil ?_
  refine GE.thenN ?_
  refine GE.round ?_
  refine GC.seq ?_
  refine GC.seq ?_
  refine GC.region ?_
  refine GL.val (Ex.move rfl) (by decide) ?_
  refine GL.val (Ex.move rfl) (by decide) ?_
  refine GL.val (v := (.int .i64 5)) (Ex.len rfl Try.underlying41) (by decide) ?_
  refine GL.val (v := (.bool true)) (Ex.cast (Ex.lss rfl rfl) rfl) (by decide) ?_
  refine GL.nil ?_
  refine GE.thenN ?_
  refine GC.cond rfl (fun _ => ?_) (fun hq4 => by cases hq4)
  refine GC.skip ?_
  refine GE.thenN ?_
  refine GC.seq ?_
  refine GC.block ?_
  refine GC.seq ?_
  refine GC.draw [⟨c0, [(.int .u32 0), (.int .u32 1048576000), (.int .u32 1056964608), (.int .u32 1048576000), (.int .u32 0)], 63, false⟩, ⟨c1, [(.int .u32 0), (.int .u32 1048576000), (.int .u32 1056964608), (.int .u32 1048576000), (.int .u32 0)], 63, false⟩] T.mixed (fuel := 9) rfl rfl ?_
  refine GH.take 0 (v := (.slice (some ⟨c0, 0, none⟩) 5 5)) rfl (by kernel_rfl) (by kernel_rfl) (by kernel_rfl) (fun _ _ _ h => h) (Ex.move rfl) (ulC (ulC ulN)) (by decide) ?_
  refine GH.take 1 (v := (.int .i64 1)) rfl (by kernel_rfl) (by kernel_rfl) (by kernel_rfl) (fun _ _ _ h => h) (Ex.move rfl) (ulC (ulC ulN)) (by decide) ?_
  refine GH.take 2 (v := (.pointer (some ⟨c0, 1, none⟩))) rfl (by kernel_rfl) (by kernel_rfl) (by kernel_rfl) (fun _ _ _ h => h) (Ex.cast (Ex.indexAddr rfl rfl Try.underlying41 T.sz63 (by omega) (by omega)) rfl) (ulC (ulC ulN)) (by decide) ?_
  refine GH.take 3 (v := (.int .u32 1048576000)) rfl (by kernel_rfl) (by kernel_rfl) (by kernel_rfl) (fun _ _ _ h => h) (Ex.load rfl T.ag63 (i := 0) rfl rfl) (ulC (ulC ulN)) (by decide) ?_
  refine GH.take 4 (v := (.slice (some ⟨c1, 0, none⟩) 5 5)) rfl (by kernel_rfl) (by kernel_rfl) (by kernel_rfl) (fun _ _ _ h => h) (Ex.move rfl) (ulC (ulC ulN)) (by decide) ?_
  refine GH.take 5 (v := (.int .i64 1)) rfl (by kernel_rfl) (by kernel_rfl) (by kernel_rfl) (fun _ _ _ h => h) (Ex.move rfl) (ulC (ulC ulN)) (by decide) ?_
  refine GH.take 6 (v := (.pointer (some ⟨c1, 1, none⟩))) rfl (by kernel_rfl) (by kernel_rfl) (by kernel_rfl) (fun _ _ _ h => h) (Ex.cast (Ex.indexAddr rfl rfl Try.underlying41 T.sz63 (by omega) (by omega)) rfl) (ulC (ulC ulN)) (by decide) ?_
  refine GH.take 7 (v := (.int .u32 1048576000)) rfl (by kernel_rfl) (by kernel_rfl) (by kernel_rfl) (fun _ _ _ h => h) (Ex.load rfl T.ag63 (i := 1) rfl rfl) (ulC (ulC ulN)) (by decide) ?_
  refine GH.take 8 (v := (.bool false)) rfl (by kernel_rfl) (by kernel_rfl) (by kernel_rfl) (fun _ _ _ h => h) (Ex.cast (Ex.neq rfl rfl) rfl) (ulC (ulC ulN)) (by decide) ?_
  refine GH.done (by kernel_rfl) ?_
  refine GE.thenN ?_
  refine GC.cond rfl (fun hq5 => by cases hq5) (fun _ => ?_)
  refine GC.skip ?_
  refine GE.blockN ?_
  refine GE.thenN ?_
  refine GC.region ?_
  refine GL.val (Ex.move rfl) (by decide) ?_
  refine GL.val (v := (.int .i64 2)) (Ex.add rfl rfl (Z := 2) (by decide)) (by decide) ?_
  refine GL.val (Ex.assign rfl) (by decide) ?_
  refine GL.nil ?_
  refine GE.thenN ?_
  refine GE.round ?_
  refine GC.seq ?_
  refine GC.seq ?_
  refine GC.region ?_
  refine GL.val (Ex.move rfl) (by decide) ?_
  refine GL.val (Ex.move rfl) (by decide) ?_
  refine GL.val (v := (.int .i64 5)) (Ex.len rfl Try.underlying41) (by decide) ?_
  refine GL.val (v := (.bool true)) (Ex.cast (Ex.lss rfl rfl) rfl) (by decide) ?_
  refine GL.nil ?_
  refine GE.thenN ?_
  refine GC.cond rfl (fun _ => ?_) (fun hq6 => by cases hq6)
  refine GC.skip ?_
  refine GE.thenN ?_
  refine GC.seq ?_
  refine GC.block ?_
  refine GC.seq ?_
  refine GC.draw [⟨c0, [(.int .u32 0), (.int .u32 1048576000), (.int .u32 1056964608), (.int .u32 1048576000), (.int .u32 0)], 63, false⟩, ⟨c1, [(.int .u32 0), (.int .u32 1048576000), (.int .u32 1056964608), (.int .u32 1048576000), (.int .u32 0)], 63, false⟩] T.mixed (fuel := 9) rfl rfl ?_
  refine GH.take 0 (v := (.slice (some ⟨c0, 0, none⟩) 5 5)) rfl (by kernel_rfl) (by kernel_rfl) (by kernel_rfl) (fun _ _ _ h => h) (Ex.move rfl) (ulC (ulC ulN)) (by decide) ?_
  refine GH.take 1 (v := (.int .i64 2)) rfl (by kernel_rfl) (by kernel_rfl) (by kernel_rfl) (fun _ _ _ h => h) (Ex.move rfl) (ulC (ulC ulN)) (by decide) ?_
  refine GH.take 2 (v := (.pointer (some ⟨c0, 2, none⟩))) rfl (by kernel_rfl) (by kernel_rfl) (by kernel_rfl) (fun _ _ _ h => h) (Ex.cast (Ex.indexAddr rfl rfl Try.underlying41 T.sz63 (by omega) (by omega)) rfl) (ulC (ulC ulN)) (by decide) ?_
  refine GH.take 3 (v := (.int .u32 1056964608)) rfl (by kernel_rfl) (by kernel_rfl) (by kernel_rfl) (fun _ _ _ h => h) (Ex.load rfl T.ag63 (i := 0) rfl rfl) (ulC (ulC ulN)) (by decide) ?_
  refine GH.take 4 (v := (.slice (some ⟨c1, 0, none⟩) 5 5)) rfl (by kernel_rfl) (by kernel_rfl) (by kernel_rfl) (fun _ _ _ h => h) (Ex.move rfl) (ulC (ulC ulN)) (by decide) ?_
  refine GH.take 5 (v := (.int .i64 2)) rfl (by kernel_rfl) (by kernel_rfl) (by kernel_rfl) (fun _ _ _ h => h) (Ex.move rfl) (ulC (ulC ulN)) (by decide) ?_
  refine GH.take 6 (v := (.pointer (some ⟨c1, 2, none⟩))) rfl (by kernel_rfl) (by kernel_rfl) (by kernel_rfl) (fun _ _ _ h => h) (Ex.cast (Ex.indexAddr rfl rfl Try.underlying41 T.sz63 (by omega) (by omega)) rfl) (ulC (ulC ulN)) (by decide) ?_
  refine GH.take 7 (v := (.int .u32 1056964608)) rfl (by kernel_rfl) (by kernel_rfl) (by kernel_rfl) (fun _ _ _ h => h) (Ex.load rfl T.ag63 (i := 1) rfl rfl) (ulC (ulC ulN)) (by decide) ?_
  refine GH.take 8 (v := (.bool false)) rfl (by kernel_rfl) (by kernel_rfl) (by kernel_rfl) (fun _ _ _ h => h) (Ex.cast (Ex.neq rfl rfl) rfl) (ulC (ulC ulN)) (by decide) ?_
  refine GH.done (by kernel_rfl) ?_
  refine GE.thenN ?_
  refine GC.cond rfl (fun hq7 => by cases hq7) (fun _ => ?_)
  refine GC.skip ?_
  refine GE.blockN ?_
  refine GE.thenN ?_
  refine GC.region ?_
  refine GL.val (Ex.move rfl) (by decide) ?_
  refine GL.val (v := (.int .i64 3)) (Ex.add rfl rfl (Z := 3) (by decide)) (by decide) ?_
  refine GL.val (Ex.assign rfl) (by decide) ?_
  refine GL.nil ?_
  refine GE.thenN ?_
  refine GE.round ?_
  refine GC.seq ?_
  refine GC.seq ?_
  refine GC.region ?_
  refine GL.val (Ex.move rfl) (by decide) ?_
  refine GL.val (Ex.move rfl) (by decide) ?_
  refine GL.val (v := (.int .i64 5)) (Ex.len rfl Try.underlying41) (by decide) ?_
  refine GL.val (v := (.bool true)) (Ex.cast (Ex.lss rfl rfl) rfl) (by decide) ?_
  refine GL.nil ?_
  refine GE.thenN ?_
  refine GC.cond rfl (fun _ => ?_) (fun hq8 => by cases hq8)
  refine GC.skip ?_
  refine GE.thenN ?_
  refine GC.seq ?_
  refine GC.block ?_
  refine GC.seq ?_
  refine GC.draw [⟨c0, [(.int .u32 0), (.int .u32 1048576000), (.int .u32 1056964608), (.int .u32 1048576000), (.int .u32 0)], 63, false⟩, ⟨c1, [(.int .u32 0), (.int .u32 1048576000), (.int .u32 1056964608), (.int .u32 1048576000), (.int .u32 0)], 63, false⟩] T.mixed (fuel := 9) rfl rfl ?_
  refine GH.take 0 (v := (.slice (some ⟨c0, 0, none⟩) 5 5)) rfl (by kernel_rfl) (by kernel_rfl) (by kernel_rfl) (fun _ _ _ h => h) (Ex.move rfl) (ulC (ulC ulN)) (by decide) ?_
  refine GH.take 1 (v := (.int .i64 3)) rfl (by kernel_rfl) (by kernel_rfl) (by kernel_rfl) (fun _ _ _ h => h) (Ex.move rfl) (ulC (ulC ulN)) (by decide) ?_
  refine GH.take 2 (v := (.pointer (some ⟨c0, 3, none⟩))) rfl (by kernel_rfl) (by kernel_rfl) (by kernel_rfl) (fun _ _ _ h => h) (Ex.cast (Ex.indexAddr rfl rfl Try.underlying41 T.sz63 (by omega) (by omega)) rfl) (ulC (ulC ulN)) (by decide) ?_
  refine GH.take 3 (v := (.int .u32 1048576000)) rfl (by kernel_rfl) (by kernel_rfl) (by kernel_rfl) (fun _ _ _ h => h) (Ex.load rfl T.ag63 (i := 0) rfl rfl) (ulC (ulC ulN)) (by decide) ?_
  refine GH.take 4 (v := (.slice (some ⟨c1, 0, none⟩) 5 5)) rfl (by kernel_rfl) (by kernel_rfl) (by kernel_rfl) (fun _ _ _ h => h) (Ex.move rfl) (ulC (ulC ulN)) (by decide) ?_
  refine GH.take 5 (v := (.int .i64 3)) rfl (by kernel_rfl) (by kernel_rfl) (by kernel_rfl) (fun _ _ _ h => h) (Ex.move rfl) (ulC (ulC ulN)) (by decide) ?_
  refine GH.take 6 (v := (.pointer (some ⟨c1, 3, none⟩))) rfl (by kernel_rfl) (by kernel_rfl) (by kernel_rfl) (fun _ _ _ h => h) (Ex.cast (Ex.indexAddr rfl rfl Try.underlying41 T.sz63 (by omega) (by omega)) rfl) (ulC (ulC ulN)) (by decide) ?_
  refine GH.take 7 (v := (.int .u32 1048576000)) rfl (by kernel_rfl) (by kernel_rfl) (by kernel_rfl) (fun _ _ _ h => h) (Ex.load rfl T.ag63 (i := 1) rfl rfl) (ulC (ulC ulN)) (by decide) ?_
  refine GH.take 8 (v := (.bool false)) rfl (by kernel_rfl) (by kernel_rfl) (by kernel_rfl) (fun _ _ _ h => h) (Ex.cast (Ex.neq rfl rfl) rfl) (ulC (ulC ulN)) (by decide) ?_
  refine GH.done (by kernel_rfl) ?_
  refine GE.thenN ?_
  refine GC.cond rfl (fun hq9 => by cases hq9) (fun _ => ?_)
  refine GC.skip ?_
  refine GE.blockN ?_
  refine GE.thenN ?_
  refine GC.region ?_
  refine GL.val (Ex.move rfl) (by decide) ?_
  refine GL.val (v := (.int .i64 4)) (Ex.add rfl rfl (Z := 4) (by decide)) (by decide) ?_
  refine GL.val (Ex.assign rfl) (by decide) ?_
  refine GL.nil ?_
  refine GE.thenN ?_
  refine GE.round ?_
  refine GC.seq ?_
  refine GC.seq ?_
  refine GC.region ?_
  refine GL.val (Ex.move rfl) (by decide) ?_
  refine GL.val (Ex.move rfl) (by decide) ?_
  refine GL.val (v := (.int .i64 5)) (Ex.len rfl Try.underlying41) (by decide) ?_
  refine GL.val (v := (.bool true)) (Ex.cast (Ex.lss rfl rfl) rfl) (by decide) ?_
  refine GL.nil ?_
  refine GE.thenN ?_
  refine GC.cond rfl (fun _ => ?_) (fun hq10 => by cases hq10)
  refine GC.skip ?_
  refine GE.thenN ?_
  refine GC.seq ?_
  refine GC.block ?_
  refine GC.seq ?_
  refine GC.draw [⟨c0, [(.int .u32 0), (.int .u32 1048576000), (.int .u32 1056964608), (.int .u32 1048576000), (.int .u32 0)], 63, false⟩, ⟨c1, [(.int .u32 0), (.int .u32 1048576000), (.int .u32 1056964608), (.int .u32 1048576000), (.int .u32 0)], 63, false⟩] T.mixed (fuel := 9) rfl rfl ?_
  refine GH.take 0 (v := (.slice (some ⟨c0, 0, none⟩) 5 5)) rfl (by kernel_rfl) (by kernel_rfl) (by kernel_rfl) (fun _ _ _ h => h) (Ex.move rfl) (ulC (ulC ulN)) (by decide) ?_
  refine GH.take 1 (v := (.int .i64 4)) rfl (by kernel_rfl) (by kernel_rfl) (by kernel_rfl) (fun _ _ _ h => h) (Ex.move rfl) (ulC (ulC ulN)) (by decide) ?_
  refine GH.take 2 (v := (.pointer (some ⟨c0, 4, none⟩))) rfl (by kernel_rfl) (by kernel_rfl) (by kernel_rfl) (fun _ _ _ h => h) (Ex.cast (Ex.indexAddr rfl rfl Try.underlying41 T.sz63 (by omega) (by omega)) rfl) (ulC (ulC ulN)) (by decide) ?_
  refine GH.take 3 (v := (.int .u32 0)) rfl (by kernel_rfl) (by kernel_rfl) (by kernel_rfl) (fun _ _ _ h => h) (Ex.load rfl T.ag63 (i := 0) rfl rfl) (ulC (ulC ulN)) (by decide) ?_
  refine GH.take 4 (v := (.slice (some ⟨c1, 0, none⟩) 5 5)) rfl (by kernel_rfl) (by kernel_rfl) (by kernel_rfl) (fun _ _ _ h => h) (Ex.move rfl) (ulC (ulC ulN)) (by decide) ?_
  refine GH.take 5 (v := (.int .i64 4)) rfl (by kernel_rfl) (by kernel_rfl) (by kernel_rfl) (fun _ _ _ h => h) (Ex.move rfl) (ulC (ulC ulN)) (by decide) ?_
  refine GH.take 6 (v := (.pointer (some ⟨c1, 4, none⟩))) rfl (by kernel_rfl) (by kernel_rfl) (by kernel_rfl) (fun _ _ _ h => h) (Ex.cast (Ex.indexAddr rfl rfl Try.underlying41 T.sz63 (by omega) (by omega)) rfl) (ulC (ulC ulN)) (by decide) ?_
  refine GH.take 7 (v := (.int .u32 0)) rfl (by kernel_rfl) (by kernel_rfl) (by kernel_rfl) (fun _ _ _ h => h) (Ex.load rfl T.ag63 (i := 1) rfl rfl) (ulC (ulC ulN)) (by decide) ?_
  refine GH.take 8 (v := (.bool false)) rfl (by kernel_rfl) (by kernel_rfl) (by kernel_rfl) (fun _ _ _ h => h) (Ex.cast (Ex.neq rfl rfl) rfl) (ulC (ulC ulN)) (by decide) ?_
  refine GH.done (by kernel_rfl) ?_
  refine GE.thenN ?_
  refine GC.cond rfl (fun hq11 => by cases hq11) (fun _ => ?_)
  refine GC.skip ?_
  refine GE.blockN ?_
  refine GE.thenN ?_
  refine GC.region ?_
  refine GL.val (Ex.move rfl) (by decide) ?_
  refine GL.val (v := (.int .i64 5)) (Ex.add rfl rfl (Z := 5) (by decide)) (by decide) ?_
  refine GL.val (Ex.assign rfl) (by decide) ?_
  refine GL.nil ?_
  refine GE.thenN ?_
  refine GE.round ?_
  refine GC.seq ?_
  refine GC.seq ?_
  refine GC.region ?_
  refine GL.val (Ex.move rfl) (by decide) ?_
  refine GL.val (Ex.move rfl) (by decide) ?_
  refine GL.val (v := (.int .i64 5)) (Ex.len rfl Try.underlying41) (by decide) ?_
  refine GL.val (v := (.bool false)) (Ex.cast (Ex.lss rfl rfl) rfl) (by decide) ?_
  refine GL.nil ?_
  refine GE.thenN ?_
  refine GC.cond rfl (fun hq12 => by cases hq12) (fun _ => ?_)
  refine GC.exit ?_
  refine GE.thenE ?_
  refine GE.thenE ?_
  refine GE.blockE ?_
  refine GE.thenN ?_
  refine GC.seq ?_
  refine GC.region ?_
  refine GL.val (Ex.assign rfl) (by decide) ?_
  refine GL.nil ?_
  refine GE.thenN ?_
  refine GC.ret ?_
  refine GC.ret1 rfl (Rv.tmp rfl) (fun wN HN => ?_)
  exact HN.ret () trivial rfl (ulS (ulS ulN)) rfl

set_option maxRecDepth 100000 in
set_option maxHeartbeats 1000000 in
theorem k22_77 (c0 : Nat) (c1 : Nat) (w : World) (hh : Has w [⟨c0, [(.int .u32 0), (.int .u32 1048576000), (.int .u32 1056964608), (.int .u32 1048576000), (.int .u32 0)], 63, false⟩, ⟨c1, [(.int .u32 0), (.int .u32 1048576000), (.int .u32 1056964608), (.int .u32 1048576000), (.int .u32 0)], 63, false⟩]) :
    Calls Try.prog 22 #[(.agg #[(.int .i64 5), (.int .i64 1), (.slice (some ⟨c0, 0, none⟩) 5 5)]), (.agg #[(.int .i64 5), (.int .i64 1), (.slice (some ⟨c1, 0, none⟩) 5 5)])] w (Ret w (fun _ : Unit => True) (fun rz => (.bool true)) (fun rz => [])) := by
  refine enter (M := None) (L := [⟨c0, [(.int .u32 0), (.int .u32 1048576000), (.int .u32 1056964608), (.int .u32 1048576000), (.int .u32 0)], 63, false⟩, ⟨c1, [(.int .u32 0), (.int .u32 1048576000), (.int .u32 1056964608), (.int .u32 1048576000), (.int .u32 0)], 63, false⟩]) (n := 24) (l := [(0, (.agg #[(.int .i64 5), (.int .i64 1), (.slice (some ⟨c0, 0, none⟩) 5 5)])), (1, (.agg #[(.int .i64 5), (.int .i64 1), (.slice (some ⟨c1, 0, none⟩) 5 5)]))]) Try.func22 rfl rfl (Args.cons rfl (Args.cons rfl (Args.nil _))) (Hp.reads hh rfl) ?_
  refine GC.seq ?_
  refine GC.region ?_
  refine GL.step (Stp.box (cs := [(.int .i64 5), (.int .i64 1), (.slice (some ⟨c0, 0, none⟩) 5 5)]) rfl rfl (by decide)) (fun bq1 _ => ?_)
  refine GL.step (Stp.box (cs := [(.int .i64 5), (.int .i64 1), (.slice (some ⟨c1, 0, none⟩) 5 5)]) rfl rfl (by decide)) (fun bq2 _ => ?_)
  refine GL.val (Ex.assign rfl) (by decide) ?_
  refine GL.nil ?_
  refine GE.thenN ?_
  refine GC.seq ?_
  refine GC.region ?_
  refine GL.val (v := (.pointer (some ⟨bq1, 0, none⟩))) (Ex.cast (Ex.fieldAddr rfl Try.underlying43 rfl T.sz3 (by decide)) rfl) (by decide) ?_
  refine GL.val (Ex.load rfl T.ag3 (i := 1) rfl rfl) (by decide) ?_
  refine GL.val (v := (.pointer (some ⟨bq2, 0, none⟩))) (Ex.cast (Ex.fieldAddr rfl Try.underlying43 rfl T.sz3 (by decide)) rfl) (by decide) ?_
  refine GL.val (Ex.load rfl T.ag3 (i := 0) rfl rfl) (by decide) ?_
  refine GL.val (v := (.bool true)) (Ex.cast (Ex.eql rfl rfl) rfl) (by decide) ?_
  refine GL.val (Ex.move rfl) (by decide) ?_
  refine GL.stepG (tj := 10) rfl rfl (Ex.wp (v := (.pointer (some ⟨bq1, 1, none⟩))) (Ex.cast (Ex.fieldAddr rfl Try.underlying43 rfl T.sz3 (by decide)) rfl) (by decide)) (fun _ _ => ?_)
  refine GL.stepG (tj := 10) rfl rfl (Ex.wp (v := (.int .i64 1)) (Ex.load rfl T.ag3 (i := 1) rfl rfl) (by decide)) (fun _ _ => ?_)
  refine GL.stepG (tj := 10) rfl rfl (Ex.wp (v := (.pointer (some ⟨bq2, 1, none⟩))) (Ex.cast (Ex.fieldAddr rfl Try.underlying43 rfl T.sz3 (by decide)) rfl) (by decide)) (fun _ _ => ?_)
  refine GL.stepG (tj := 10) rfl rfl (Ex.wp (v := (.int .i64 1)) (Ex.load rfl T.ag3 (i := 0) rfl rfl) (by decide)) (fun _ _ => ?_)
  refine GL.stepG (tj := 10) rfl rfl (Ex.wp (v := (.bool true)) (Ex.cast (Ex.eql rfl rfl) rfl) (by decide)) (fun _ _ => ?_)
  refine GL.val (v := (.bool true)) (Ex.pickT rfl rfl) (by decide) ?_
  refine GL.val (Ex.move rfl) (by decide) ?_
  refine GL.stepG (tj := 17) rfl rfl (Ex.wp (v := (.pointer (some ⟨bq1, 2, none⟩))) (Ex.cast (Ex.fieldAddr rfl Try.underlying43 rfl T.sz41 (by decide)) rfl) (by decide)) (fun _ _ => ?_)
  refine GL.stepG (tj := 17) rfl rfl (Ex.wp (v := (.slice (some ⟨c0, 0, none⟩) 5 5)) (Ex.load rfl T.ag41 (i := 1) rfl rfl) (by decide)) (fun _ _ => ?_)
  refine GL.stepG (tj := 17) rfl rfl (Ex.wp (v := (.pointer (some ⟨bq2, 2, none⟩))) (Ex.cast (Ex.fieldAddr rfl Try.underlying43 rfl T.sz41 (by decide)) rfl) (by decide)) (fun _ _ => ?_)
  refine GL.stepG (tj := 17) rfl rfl (Ex.wp (v := (.slice (some ⟨c1, 0, none⟩) 5 5)) (Ex.load rfl T.ag41 (i := 0) rfl rfl) (by decide)) (fun _ _ => ?_)
  refine GL.stepG (tj := 17) rfl rfl (Stp.callR (vs := [(.slice (some ⟨c0, 0, none⟩) 5 5), (.slice (some ⟨c1, 0, none⟩) 5 5)]) rfl rfl T.own50 (by decide) (fun wc hw => k50_78 c0 c1 wc (Has.cons (hw.hasOf (i := 2) rfl) (Has.cons (hw.hasOf (i := 3) rfl) (Has.nil _))))) (fun xq3 hq4 => ?_)
  refine GL.val (v := (.bool true)) (Ex.pickT rfl rfl) (by decide) ?_
  refine GL.val (Ex.assign rfl) (by decide) ?_
  refine GL.nil ?_
  refine GE.thenN ?_
  refine GC.ret ?_
  refine GC.ret1 rfl (Rv.tmp rfl) (fun wN HN => ?_)
  exact HN.ret () trivial rfl (ulS (ulS (ulS (ulS ulN)))) rfl

set_option maxRecDepth 100000 in
set_option maxHeartbeats 1000000 in
theorem k38_79 (c0 : Nat) (w : World) (hh : Has w [⟨c0, [(.int .u32 1065353216), (.int .u32 1065353216), (.int .u32 1065353216)], 63, false⟩]) :
    Calls Try.prog 38 #[(.slice (some ⟨c0, 0, none⟩) 3 3)] w (Ret w (fun _ : Unit => True) (fun rz => (.agg #[(.int .i64 3), (.int .i64 1), (.slice (some ⟨c0, 0, none⟩) 3 3)])) (fun rz => [])) := by
  refine enter (M := None) (L := [⟨c0, [(.int .u32 1065353216), (.int .u32 1065353216), (.int .u32 1065353216)], 63, false⟩]) (n := 7) (l := [(0, (.slice (some ⟨c0, 0, none⟩) 3 3))]) Try.func38 rfl rfl (Args.cons rfl (Args.nil _)) (Hp.reads hh rfl) ?_
  refine GC.seq ?_
  refine GC.region ?_
  refine GL.step (Stp.alloc T.zr43 (by decide)) (fun bq1 _ => ?_)
  refine GL.nil ?_
  refine GE.thenN ?_
  refine GC.seq ?_
  refine GC.region ?_
  refine GL.val (Ex.move rfl) (by decide) ?_
  refine GL.val (v := (.int .i64 3)) (Ex.len rfl Try.underlying41) (by decide) ?_
  refine GL.val (Ex.move rfl) (by decide) ?_
  refine GL.val (v := (.agg #[(.int .i64 3), (.int .i64 1), (.slice (some ⟨c0, 0, none⟩) 3 3)])) (Ex.build (vs := [(0, (.int .i64 3)), (1, (.int .i64 1)), (2, (.slice (some ⟨c0, 0, none⟩) 3 3))]) rfl (by first | rfl | kernel_rfl)) (by decide) ?_
  refine GL.step (Stp.st0 (cs' := [(.int .i64 3), (.int .i64 1), (.slice (some ⟨c0, 0, none⟩) 3 3)]) rfl rfl rfl T.sz43 rfl rfl rfl) (fun _ _ => ?_)
  refine GL.nil ?_
  refine GE.thenN ?_
  refine GC.ret ?_
  refine GC.ret1 rfl (Rv.cellA rfl T.ag43 T.sz43 (L := _) (i := 0) rfl (vs := [(.int .i64 3), (.int .i64 1), (.slice (some ⟨c0, 0, none⟩) 3 3)]) rfl rfl) (fun wN HN => ?_)
  exact HN.ret () trivial rfl (ulS (ulS ulN)) rfl

set_option maxRecDepth 100000 in
set_option maxHeartbeats 1000000 in
theorem k50_81 (c0 : Nat) (c1 : Nat) (w : World) (hh : Has w [⟨c0, [(.int .u32 1065353216), (.int .u32 1065353216), (.int .u32 1065353216)], 63, false⟩, ⟨c1, [(.int .u32 1065353216), (.int .u32 1065353216), (.int .u32 1065353216)], 63, false⟩]) :
    Calls Try.prog 50 #[(.slice (some ⟨c0, 0, none⟩) 3 3), (.slice (some ⟨c1, 0, none⟩) 3 3)] w (Ret w (fun _ : Unit => True) (fun rz => (.bool true)) (fun rz => [])) := by
  refine enter (M := None) (L := [⟨c0, [(.int .u32 1065353216), (.int .u32 1065353216), (.int .u32 1065353216)], 63, false⟩, ⟨c1, [(.int .u32 1065353216), (.int .u32 1065353216), (.int .u32 1065353216)], 63, false⟩]) (n := 26) (l := [(0, (.slice (some ⟨c0, 0, none⟩) 3 3)), (1, (.slice (some ⟨c1, 0, none⟩) 3 3))]) Try.func50 rfl rfl (Args.cons rfl (Args.cons rfl (Args.nil _))) (Hp.reads hh rfl) ?_
  refine GC.seq ?_
  refine GC.region ?_
  refine GL.val (Ex.assign rfl) (by decide) ?_
  refine GL.nil ?_
  refine GE.thenN ?_
  refine GC.seq ?_
  refine GC.seq ?_
  refine GC.region ?_
  refine GL.val (Ex.move rfl) (by decide) ?_
  refine GL.val (v := (.int .i64 3)) (Ex.len rfl Try.underlying41) (by decide) ?_
  refine GL.val (Ex.move rfl) (by decide) ?_
  refine GL.val (v := (.int .i64 3)) (Ex.len rfl Try.underlying41) (by decide) ?_
  refine GL.val (v := (.bool false)) (Ex.cast (Ex.neq rfl rfl) rfl) (by decide) ?_
  refine GL.nil ?_
  refine GE.thenN ?_
  refine GC.cond rfl (fun hq1 => by cases hq1) (fun _ => ?_)
  refine GC.skip ?_
  refine GE.thenN ?_
  refine GC.seq ?_
  refine GC.seq ?_
  refine GC.region ?_
  refine GL.val (Ex.assign rfl) (by decide) ?_
  refine GL.nil ?_
  refine GE.thenN ?_
  refine GC.block ?_
  refine GC.unroll 60 ?_
  refine GE.round ?_
  refine GC.seq ?_
  refine GC.seq ?_
  refine GC.region ?_
  refine GL.val (Ex.move rfl) (by decide) ?_
  refine GL.val (Ex.move rfl) (by decide) ?_
  refine GL.val (v := (.int .i64 3)) (Ex.len rfl Try.underlying41) (by decide) ?_
  refine GL.val (v := (.bool true)) (Ex.cast (Ex.lss rfl rfl) rfl) (by decide) ?_
  refine GL.nil ?_
  refine GE.thenN ?_
  refine GC.cond rfl (fun _ => ?_) (fun hq2 => by cases hq2)
  refine GC.skip ?_
  refine GE.thenN ?_
  refine GC.seq ?_
  refine GC.block ?_
  refine GC.seq ?_
  refine GC.draw [⟨c0, [(.int .u32 1065353216), (.int .u32 1065353216), (.int .u32 1065353216)], 63, false⟩, ⟨c1, [(.int .u32 1065353216), (.int .u32 1065353216), (.int .u32 1065353216)], 63, false⟩] T.mixed (fuel := 9) rfl rfl ?_
  refine GH.take 0 (v := (.slice (some ⟨c0, 0, none⟩) 3 3)) rfl (by kernel_rfl) (by kernel_rfl) (by kernel_rfl) (fun _ _ _ h => h) (Ex.move rfl) (ulC (ulC ulN)) (by decide) ?_
  refine GH.take 1 (v := (.int .i64 0)) rfl (by kernel_rfl) (by kernel_rfl) (by kernel_rfl) (fun _ _ _ h => h) (Ex.move rfl) (ulC (ulC ulN)) (by decide) ?_
  refine GH.take 2 (v := (.pointer (some ⟨c0, 0, none⟩))) rfl (by kernel_rfl) (by kernel_rfl) (by kernel_rfl) (fun _ _ _ h => h) (Ex.cast (Ex.indexAddr rfl rfl Try.underlying41 T.sz63 (by omega) (by omega)) rfl) (ulC (ulC ulN)) (by decide) ?_
  refine GH.take 3 (v := (.int .u32 1065353216)) rfl (by kernel_rfl) (by kernel_rfl) (by kernel_rfl) (fun _ _ _ h => h) (Ex.load rfl T.ag63 (i := 0) rfl rfl) (ulC (ulC ulN)) (by decide) ?_
  refine GH.take 4 (v := (.slice (some ⟨c1, 0, none⟩) 3 3)) rfl (by kernel_rfl) (by kernel_rfl) (by kernel_rfl) (fun _ _ _ h => h) (Ex.move rfl) (ulC (ulC ulN)) (by decide) ?_
  refine GH.take 5 (v := (.int .i64 0)) rfl (by kernel_rfl) (by kernel_rfl) (by kernel_rfl) (fun _ _ _ h => h) (Ex.move rfl) (ulC (ulC ulN)) (by decide) ?_
  refine GH.take 6 (v := (.pointer (some ⟨c1, 0, none⟩))) rfl (by kernel_rfl) (by kernel_rfl) (by kernel_rfl) (fun _ _ _ h => h) (Ex.cast (Ex.indexAddr rfl rfl Try.underlying41 T.sz63 (by omega) (by omega)) rfl) (ulC (ulC ulN)) (by decide) ?_
  refine GH.take 7 (v := (.int .u32 1065353216)) rfl (by kernel_rfl) (by kernel_rfl) (by kernel_rfl) (fun _ _ _ h => h) (Ex.load rfl T.ag63 (i := 1) rfl rfl) (ulC (ulC ulN)) (by decide) ?_
  refine GH.take 8 (v := (.bool false)) rfl (by kernel_rfl) (by kernel_rfl) (by kernel_rfl) (fun _ _ _ h => h) (Ex.cast (Ex.neq rfl rfl) rfl) (ulC (ulC ulN)) (by decide) ?_
  refine GH.done (by kernel_rfl) ?_
  refine GE.thenN ?_
  refine GC.cond rfl (fun hq3 => by cases hq3) (fun _ => ?_)
  refine GC.skip ?_
  refine GE.blockN ?_
  refine GE.thenN ?_
  refine GC.region ?_
  refine GL.val (Ex.move rfl) (by decide) ?_
  refine GL.val (v := (.int .i64 1)) (Ex.add rfl rfl (Z := 1) (by decide)) (by decide) ?_
  refine GL.val (Ex.assign rfl) (by decide) ?_
  refine GL.nil ?_
  refine GE.thenN ?_
  refine GE.round ?_
  refine GC.seq ?_
  refine GC.seq ?_
  refine GC.region ?_
  refine GL.val (Ex.move rfl) (by decide) ?_
  refine GL.val (Ex.move rfl) (by decide) ?_
  refine GL.val (v := (.int .i64 3)) (Ex.len rfl Try.underlying41) (by decide) ?_
  refine GL.val (v := (.bool true)) (Ex.cast (Ex.lss rfl rfl) rfl) (by decide) ?_
  refine GL.nil ?_
  refine GE.thenN ?_
  refine GC.cond rfl (fun _ => ?_) (fun hq4 => by cases hq4)
  refine GC.skip ?_
  refine GE.thenN ?_
  refine GC.seq ?_
  refine GC.block ?_
  refine GC.seq ?_
  refine GC.draw [⟨c0, [(.int .u32 1065353216), (.int .u32 1065353216), (.int .u32 1065353216)], 63, false⟩, ⟨c1, [(.int .u32 1065353216), (.int .u32 1065353216), (.int .u32 1065353216)], 63, false⟩] T.mixed (fuel := 9) rfl rfl ?_
  refine GH.take 0 (v := (.slice (some ⟨c0, 0, none⟩) 3 3)) rfl (by kernel_rfl) (by kernel_rfl) (by kernel_rfl) (fun _ _ _ h => h) (Ex.move rfl) (ulC (ulC ulN)) (by decide) ?_
  refine GH.take 1 (v := (.int .i64 1)) rfl (by kernel_rfl) (by kernel_rfl) (by kernel_rfl) (fun _ _ _ h => h) (Ex.move rfl) (ulC (ulC ulN)) (by decide) ?_
  refine GH.take 2 (v := (.pointer (some ⟨c0, 1, none⟩))) rfl (by kernel_rfl) (by kernel_rfl) (by kernel_rfl) (fun _ _ _ h => h) (Ex.cast (Ex.indexAddr rfl rfl Try.underlying41 T.sz63 (by omega) (by omega)) rfl) (ulC (ulC ulN)) (by decide) ?_
  refine GH.take 3 (v := (.int .u32 1065353216)) rfl (by kernel_rfl) (by kernel_rfl) (by kernel_rfl) (fun _ _ _ h => h) (Ex.load rfl T.ag63 (i := 0) rfl rfl) (ulC (ulC ulN)) (by decide) ?_
  refine GH.take 4 (v := (.slice (some ⟨c1, 0, none⟩) 3 3)) rfl (by kernel_rfl) (by kernel_rfl) (by kernel_rfl) (fun _ _ _ h => h) (Ex.move rfl) (ulC (ulC ulN)) (by decide) ?_
  refine GH.take 5 (v := (.int .i64 1)) rfl (by kernel_rfl) (by kernel_rfl) (by kernel_rfl) (fun _ _ _ h => h) (Ex.move rfl) (ulC (ulC ulN)) (by decide) ?_
  refine GH.take 6 (v := (.pointer (some ⟨c1, 1, none⟩))) rfl (by kernel_rfl) (by kernel_rfl) (by kernel_rfl) (fun _ _ _ h => h) (Ex.cast (Ex.indexAddr rfl rfl Try.underlying41 T.sz63 (by omega) (by omega)) rfl) (ulC (ulC ulN)) (by decide) ?_
  refine GH.take 7 (v := (.int .u32 1065353216)) rfl (by kernel_rfl) (by kernel_rfl) (by kernel_rfl) (fun _ _ _ h => h) (Ex.load rfl T.ag63 (i := 1) rfl rfl) (ulC (ulC ulN)) (by decide) ?_
  refine GH.take 8 (v := (.bool false)) rfl (by kernel_rfl) (by kernel_rfl) (by kernel_rfl) (fun _ _ _ h => h) (Ex.cast (Ex.neq rfl rfl) rfl) (ulC (ulC ulN)) (by decide) ?_
  refine GH.done (by kernel_rfl) ?_
  refine GE.thenN ?_
  refine GC.cond rfl (fun hq5 => by cases hq5) (fun _ => ?_)
  refine GC.skip ?_
  refine GE.blockN ?_
  refine GE.thenN ?_
  refine GC.region ?_
  refine GL.val (Ex.move rfl) (by decide) ?_
  refine GL.val (v := (.int .i64 2)) (Ex.add rfl rfl (Z := 2) (by decide)) (by decide) ?_
  refine GL.val (Ex.assign rfl) (by decide) ?_
  refine GL.nil ?_
  refine GE.thenN ?_
  refine GE.round ?_
  refine GC.seq ?_
  refine GC.seq ?_
  refine GC.region ?_
  refine GL.val (Ex.move rfl) (by decide) ?_
  refine GL.val (Ex.move rfl) (by decide) ?_
  refine GL.val (v := (.int .i64 3)) (Ex.len rfl Try.underlying41) (by decide) ?_
  refine GL.val (v := (.bool true)) (Ex.cast (Ex.lss rfl rfl) rfl) (by decide) ?_
  refine GL.nil ?_
  refine GE.thenN ?_
  refine GC.cond rfl (fun _ => ?_) (fun hq6 => by cases hq6)
  refine GC.skip ?_
  refine GE.thenN ?_
  refine GC.seq ?_
  refine GC.block ?_
  refine GC.seq ?_
  refine GC.draw [⟨c0, [(.int .u32 1065353216), (.int .u32 1065353216), (.int .u32 1065353216)], 63, false⟩, ⟨c1, [(.int .u32 1065353216), (.int .u32 1065353216), (.int .u32 1065353216)], 63, false⟩] T.mixed (fuel := 9) rfl rfl ?_
  refine GH.take 0 (v := (.slice (some ⟨c0, 0, none⟩) 3 3)) rfl (by kernel_rfl) (by kernel_rfl) (by kernel_rfl) (fun _ _ _ h => h) (Ex.move rfl) (ulC (ulC ulN)) (by decide) ?_
  refine GH.take 1 (v := (.int .i64 2)) rfl (by kernel_rfl) (by kernel_rfl) (by kernel_rfl) (fun _ _ _ h => h) (Ex.move rfl) (ulC (ulC ulN)) (by decide) ?_
  refine GH.take 2 (v := (.pointer (some ⟨c0, 2, none⟩))) rfl (by kernel_rfl) (by kernel_rfl) (by kernel_rfl) (fun _ _ _ h => h) (Ex.cast (Ex.indexAddr rfl rfl Try.underlying41 T.sz63 (by omega) (by omega)) rfl) (ulC (ulC ulN)) (by decide) ?_
  refine GH.take 3 (v := (.int .u32 1065353216)) rfl (by kernel_rfl) (by kernel_rfl) (by kernel_rfl) (fun _ _ _ h => h) (Ex.load rfl T.ag63 (i := 0) rfl rfl) (ulC (ulC ulN)) (by decide) ?_
  refine GH.take 4 (v := (.slice (some ⟨c1, 0, none⟩) 3 3)) rfl (by kernel_rfl) (by kernel_rfl) (by kernel_rfl) (fun _ _ _ h => h) (Ex.move rfl) (ulC (ulC ulN)) (by decide) ?_
  refine GH.take 5 (v := (.int .i64 2)) rfl (by kernel_rfl) (by kernel_rfl) (by kernel_rfl) (fun _ _ _ h => h) (Ex.move rfl) (ulC (ulC ulN)) (by decide) ?_
  refine GH.take 6 (v := (.pointer (some ⟨c1, 2, none⟩))) rfl (by kernel_rfl) (by kernel_rfl) (by kernel_rfl) (fun _ _ _ h => h) (Ex.cast (Ex.indexAddr rfl rfl Try.underlying41 T.sz63 (by omega) (by omega)) rfl) (ulC (ulC ulN)) (by decide) ?_
  refine GH.take 7 (v := (.int .u32 1065353216)) rfl (by kernel_rfl) (by kernel_rfl) (by kernel_rfl) (fun _ _ _ h => h) (Ex.load rfl T.ag63 (i := 1) rfl rfl) (ulC (ulC ulN)) (by decide) ?_
  refine GH.take 8 (v := (.bool false)) rfl (by kernel_rfl) (by kernel_rfl) (by kernel_rfl) (fun _ _ _ h => h) (Ex.cast (Ex.neq rfl rfl) rfl) (ulC (ulC ulN)) (by decide) ?_
  refine GH.done (by kernel_rfl) ?_
  refine GE.thenN ?_
  refine GC.cond rfl (fun hq7 => by cases hq7) (fun _ => ?_)
  refine GC.skip ?_
  refine GE.blockN ?_
  refine GE.thenN ?_
  refine GC.region ?_
  refine GL.val (Ex.move rfl) (by decide) ?_
  refine GL.val (v := (.int .i64 3)) (Ex.add rfl rfl (Z := 3) (by decide)) (by decide) ?_
  refine GL.val (Ex.assign rfl) (by decide) ?_
  refine GL.nil ?_
  refine GE.thenN ?_
  refine GE.round ?_
  refine GC.seq ?_
  refine GC.seq ?_
  refine GC.region ?_
  refine GL.val (Ex.move rfl) (by decide) ?_
  refine GL.val (Ex.move rfl) (by decide) ?_
  refine GL.val (v := (.int .i64 3)) (Ex.len rfl Try.underlying41) (by decide) ?_
  refine GL.val (v := (.bool false)) (Ex.cast (Ex.lss rfl rfl) rfl) (by decide) ?_
  refine GL.nil ?_
  refine GE.thenN ?_
  refine GC.cond rfl (fun hq8 => by cases hq8) (fun _ => ?_)
  refine GC.exit ?_
  refine GE.thenE ?_
  refine GE.thenE ?_
  refine GE.blockE ?_
  refine GE.thenN ?_
  refine GC.seq ?_
  refine GC.region ?_
  refine GL.val (Ex.assign rfl) (by decide) ?_
  refine GL.nil ?_
  refine GE.thenN ?_
  refine GC.ret ?_
  refine GC.ret1 rfl (Rv.tmp rfl) (fun wN HN => ?_)
  exact HN.ret () trivial rfl (ulS (ulS ulN)) rfl

set_option maxRecDepth 100000 in
set_option maxHeartbeats 1000000 in
theorem k22_80 (c0 : Nat) (c1 : Nat) (w : World) (hh : Has w [⟨c0, [(.int .u32 1065353216), (.int .u32 1065353216), (.int .u32 1065353216)], 63, false⟩, ⟨c1, [(.int .u32 1065353216), (.int .u32 1065353216), (.int .u32 1065353216)], 63, false⟩]) :
    Calls Try.prog 22 #[(.agg #[(.int .i64 3), (.int .i64 1), (.slice (some ⟨c0, 0, none⟩) 3 3)]), (.agg #[(.int .i64 3), (.int .i64 1), (.slice (some ⟨c1, 0, none⟩) 3 3)])] w (Ret w (fun _ : Unit => True) (fun rz => (.bool true)) (fun rz => [])) := by
  refine enter (M := None) (L := [⟨c0, [(.int .u32 1065353216), (.int .u32 1065353216), (.int .u32 1065353216)], 63, false⟩, ⟨c1, [(.int .u32 1065353216), (.int .u32 1065353216), (.int .u32 1065353216)], 63, false⟩]) (n := 24) (l := [(0, (.agg #[(.int .i64 3), (.int .i64 1), (.slice (some ⟨c0, 0, none⟩) 3 3)])), (1, (.agg #[(.int .i64 3), (.int .i64 1), (.slice (some ⟨c1, 0, none⟩) 3 3)]))]) Try.func22 rfl rfl (Args.cons rfl (Args.cons rfl (Args.nil _))) (Hp.reads hh rfl) ?_
  refine GC.seq ?_
  refine GC.region ?_
  refine GL.step (Stp.box (cs := [(.int .i64 3), (.int .i64 1), (.slice (some ⟨c0, 0, none⟩) 3 3)]) rfl rfl (by decide)) (fun bq1 _ => ?_)
  refine GL.step (Stp.box (cs := [(.int .i64 3), (.int .i64 1), (.slice (some ⟨c1, 0, none⟩) 3 3)]) rfl rfl (by decide)) (fun bq2 _ => ?_)
  refine GL.val (Ex.assign rfl) (by decide) ?_
  refine GL.nil ?_
  refine GE.thenN ?_
  refine GC.seq ?_
  refine GC.region ?_
  refine GL.val (v := (.pointer (some ⟨bq1, 0, none⟩))) (Ex.cast (Ex.fieldAddr rfl Try.underlying43 rfl T.sz3 (by decide)) rfl) (by decide) ?_
  refine GL.val (Ex.load rfl T.ag3 (i := 1) rfl rfl) (by decide) ?_
  refine GL.val (v := (.pointer (some ⟨bq2, 0, none⟩))) (Ex.cast (Ex.fieldAddr rfl Try.underlying43 rfl T.sz3 (by decide)) rfl) (by decide) ?_
  refine GL.val (Ex.load rfl T.ag3 (i := 0) rfl rfl) (by decide) ?_
  refine GL.val (v := (.bool true)) (Ex.cast (Ex.eql rfl rfl) rfl) (by decide) ?_
  refine GL.val (Ex.move rfl) (by decide) ?_
  refine GL.stepG (tj := 10) rfl rfl (Ex.wp (v := (.pointer (some ⟨bq1, 1, none⟩))) (Ex.cast (Ex.fieldAddr rfl Try.underlying43 rfl T.sz3 (by decide)) rfl) (by decide)) (fun _ _ => ?_)
  refine GL.stepG (tj := 10) rfl rfl (Ex.wp (v := (.int .i64 1)) (Ex.load rfl T.ag3 (i := 1) rfl rfl) (by decide)) (fun _ _ => ?_)
  refine GL.stepG (tj := 10) rfl rfl (Ex.wp (v := (.pointer (some ⟨bq2, 1, none⟩))) (Ex.cast (Ex.fieldAddr rfl Try.underlying43 rfl T.sz3 (by decide)) rfl) (by decide)) (fun _ _ => ?_)
  refine GL.stepG (tj := 10) rfl rfl (Ex.wp (v := (.int .i64 1)) (Ex.load rfl T.ag3 (i := 0) rfl rfl) (by decide)) (fun _ _ => ?_)
  refine GL.stepG (tj := 10) rfl rfl (Ex.wp (v := (.bool true)) (Ex.cast (Ex.eql rfl rfl) rfl) (by decide)) (fun _ _ => ?_)
  refine GL.val (v := (.bool true)) (Ex.pickT rfl rfl) (by decide) ?_
  refine GL.val (Ex.move rfl) (by decide) ?_
  refine GL.stepG (tj := 17) rfl rfl (Ex.wp (v := (.pointer (some ⟨bq1, 2, none⟩))) (Ex.cast (Ex.fieldAddr rfl Try.underlying43 rfl T.sz41 (by decide)) rfl) (by decide)) (fun _ _ => ?_)
  refine GL.stepG (tj := 17) rfl rfl (Ex.wp (v := (.slice (some ⟨c0, 0, none⟩) 3 3)) (Ex.load rfl T.ag41 (i := 1) rfl rfl) (by decide)) (fun _ _ => ?_)
  refine GL.stepG (tj := 17) rfl rfl (Ex.wp (v := (.pointer (some ⟨bq2, 2, none⟩))) (Ex.cast (Ex.fieldAddr rfl Try.underlying43 rfl T.sz41 (by decide)) rfl) (by decide)) (fun _ _ => ?_)
  refine GL.stepG (tj := 17) rfl rfl (Ex.wp (v := (.slice (some ⟨c1, 0, none⟩) 3 3)) (Ex.load rfl T.ag41 (i := 0) rfl rfl) (by decide)) (fun _ _ => ?_)
  refine GL.stepG (tj := 17) rfl rfl (Stp.callR (vs := [(.slice (some ⟨c0, 0, none⟩) 3 3), (.slice (some ⟨c1, 0, none⟩) 3 3)]) rfl rfl T.own50 (by decide) (fun wc hw => k50_81 c0 c1 wc (Has.cons (hw.hasOf (i := 2) rfl) (Has.cons (hw.hasOf (i := 3) rfl) (Has.nil _))))) (fun xq3 hq4 => ?_)
  refine GL.val (v := (.bool true)) (Ex.pickT rfl rfl) (by decide) ?_
  refine GL.val (Ex.assign rfl) (by decide) ?_
  refine GL.nil ?_
  refine GE.thenN ?_
  refine GC.ret ?_
  refine GC.ret1 rfl (Rv.tmp rfl) (fun wN HN => ?_)
  exact HN.ret () trivial rfl (ulS (ulS (ulS (ulS ulN)))) rfl

set_option maxRecDepth 100000 in
set_option maxHeartbeats 1000000 in
theorem k38_82 (c0 : Nat) (w : World) (hh : Has w [⟨c0, [(.int .u32 1056964608), (.int .u32 1069547520), (.int .u32 1065353216)], 63, false⟩]) :
    Calls Try.prog 38 #[(.slice (some ⟨c0, 0, none⟩) 3 3)] w (Ret w (fun _ : Unit => True) (fun rz => (.agg #[(.int .i64 3), (.int .i64 1), (.slice (some ⟨c0, 0, none⟩) 3 3)])) (fun rz => [])) := by
  refine enter (M := None) (L := [⟨c0, [(.int .u32 1056964608), (.int .u32 1069547520), (.int .u32 1065353216)], 63, false⟩]) (n := 7) (l := [(0, (.slice (some ⟨c0, 0, none⟩) 3 3))]) Try.func38 rfl rfl (Args.cons rfl (Args.nil _)) (Hp.reads hh rfl) ?_
  refine GC.seq ?_
  refine GC.region ?_
  refine GL.step (Stp.alloc T.zr43 (by decide)) (fun bq1 _ => ?_)
  refine GL.nil ?_
  refine GE.thenN ?_
  refine GC.seq ?_
  refine GC.region ?_
  refine GL.val (Ex.move rfl) (by decide) ?_
  refine GL.val (v := (.int .i64 3)) (Ex.len rfl Try.underlying41) (by decide) ?_
  refine GL.val (Ex.move rfl) (by decide) ?_
  refine GL.val (v := (.agg #[(.int .i64 3), (.int .i64 1), (.slice (some ⟨c0, 0, none⟩) 3 3)])) (Ex.build (vs := [(0, (.int .i64 3)), (1, (.int .i64 1)), (2, (.slice (some ⟨c0, 0, none⟩) 3 3))]) rfl (by first | rfl | kernel_rfl)) (by decide) ?_
  refine GL.step (Stp.st0 (cs' := [(.int .i64 3), (.int .i64 1), (.slice (some ⟨c0, 0, none⟩) 3 3)]) rfl rfl rfl T.sz43 rfl rfl rfl) (fun _ _ => ?_)
  refine GL.nil ?_
  refine GE.thenN ?_
  refine GC.ret ?_
  refine GC.ret1 rfl (Rv.cellA rfl T.ag43 T.sz43 (L := _) (i := 0) rfl (vs := [(.int .i64 3), (.int .i64 1), (.slice (some ⟨c0, 0, none⟩) 3 3)]) rfl rfl) (fun wN HN => ?_)
  exact HN.ret () trivial rfl (ulS (ulS ulN)) rfl

set_option maxRecDepth 100000 in
set_option maxHeartbeats 1000000 in
theorem k50_84 (c0 : Nat) (c1 : Nat) (w : World) (hh : Has w [⟨c0, [(.int .u32 1056964608), (.int .u32 1069547520), (.int .u32 1065353216)], 63, false⟩, ⟨c1, [(.int .u32 1056964608), (.int .u32 1069547520), (.int .u32 1065353216)], 63, false⟩]) :
    Calls Try.prog 50 #[(.slice (some ⟨c0, 0, none⟩) 3 3), (.slice (some ⟨c1, 0, none⟩) 3 3)] w (Ret w (fun _ : Unit => True) (fun rz => (.bool true)) (fun rz => [])) := by
  refine enter (M := None) (L := [⟨c0, [(.int .u32 1056964608), (.int .u32 1069547520), (.int .u32 1065353216)], 63, false⟩, ⟨c1, [(.int .u32 1056964608), (.int .u32 1069547520), (.int .u32 1065353216)], 63, false⟩]) (n := 26) (l := [(0, (.slice (some ⟨c0, 0, none⟩) 3 3)), (1, (.slice (some ⟨c1, 0, none⟩) 3 3))]) Try.func50 rfl rfl (Args.cons rfl (Args.cons rfl (Args.nil _))) (Hp.reads hh rfl) ?_
  refine GC.seq ?_
  refine GC.region ?_
  refine GL.val (Ex.assign rfl) (by decide) ?_
  refine GL.nil ?_
  refine GE.thenN ?_
  refine GC.seq ?_
  refine GC.seq ?_
  refine GC.region ?_
  refine GL.val (Ex.move rfl) (by decide) ?_
  refine GL.val (v := (.int .i64 3)) (Ex.len rfl Try.underlying41) (by decide) ?_
  refine GL.val (Ex.move rfl) (by decide) ?_
  refine GL.val (v := (.int .i64 3)) (Ex.len rfl Try.underlying41) (by decide) ?_
  refine GL.val (v := (.bool false)) (Ex.cast (Ex.neq rfl rfl) rfl) (by decide) ?_
  refine GL.nil ?_
  refine GE.thenN ?_
  refine GC.cond rfl (fun hq1 => by cases hq1) (fun _ => ?_)
  refine GC.skip ?_
  refine GE.thenN ?_
  refine GC.seq ?_
  refine GC.seq ?_
  refine GC.region ?_
  refine GL.val (Ex.assign rfl) (by decide) ?_
  refine GL.nil ?_
  refine GE.thenN ?_
  refine GC.block ?_
  refine GC.unroll 60 ?_
  refine GE.round ?_
  refine GC.seq ?_
  refine GC.seq ?_
  refine GC.region ?_
  refine GL.val (Ex.move rfl) (by decide) ?_
  refine GL.val (Ex.move rfl) (by decide) ?_
  refine GL.val (v := (.int .i64 3)) (Ex.len rfl Try.underlying41) (by decide) ?_
  refine GL.val (v := (.bool true)) (Ex.cast (Ex.lss rfl rfl) rfl) (by decide) ?_
  refine GL.nil ?_
  refine GE.thenN ?_
  refine GC.cond rfl (fun _ => ?_) (fun hq2 => by cases hq2)
  refine GC.skip ?_
  refine GE.thenN ?_
  refine GC.seq ?_
  refine GC.block ?_
  refine GC.seq ?_
  refine GC.draw [⟨c0, [(.int .u32 1056964608), (.int .u32 1069547520), (.int .u32 1065353216)], 63, false⟩, ⟨c1, [(.int .u32 1056964608), (.int .u32 1069547520), (.int .u32 1065353216)], 63, false⟩] T.mixed (fuel := 9) rfl rfl ?_
  refine GH.take 0 (v := (.slice (some ⟨c0, 0, none⟩) 3 3)) rfl (by kernel_rfl) (by kernel_rfl) (by kernel_rfl) (fun _ _ _ h => h) (Ex.move rfl) (ulC (ulC ulN)) (by decide) ?_
  refine GH.take 1 (v := (.int .i64 0)) rfl (by kernel_rfl) (by kernel_rfl) (by kernel_rfl) (fun _ _ _ h => h) (Ex.move rfl) (ulC (ulC ulN)) (by decide) ?_
  refine GH.take 2 (v := (.pointer (some ⟨c0, 0, none⟩))) rfl (by kernel_rfl) (by kernel_rfl) (by kernel_rfl) (fun _ _ _ h => h) (Ex.cast (Ex.indexAddr rfl rfl Try.underlying41 T.sz63 (by omega) (by omega)) rfl) (ulC (ulC ulN)) (by decide) ?_
  refine GH.take 3 (v := (.int .u32 1056964608)) rfl (by kernel_rfl) (by kernel_rfl) (by kernel_rfl) (fun _ _ _ h => h) (Ex.load rfl T.ag63 (i := 0) rfl rfl) (ulC (ulC ulN)) (by decide) ?_
  refine GH.take 4 (v := (.slice (some ⟨c1, 0, none⟩) 3 3)) rfl (by kernel_rfl) (by kernel_rfl) (by kernel_rfl) (fun _ _ _ h => h) (Ex.move rfl) (ulC (ulC ulN)) (by decide) ?_
  refine GH.take 5 (v := (.int .i64 0)) rfl (by kernel_rfl) (by kernel_rfl) (by kernel_rfl) (fun _ _ _ h => h) (Ex.move rfl) (ulC (ulC ulN)) (by decide) ?_
  refine GH.take 6 (v := (.pointer (some ⟨c1, 0, none⟩))) rfl (by kernel_rfl) (by kernel_rfl) (by kernel_rfl) (fun _ _ _ h => h) (Ex.cast (Ex.indexAddr rfl rfl Try.underlying41 T.sz63 (by omega) (by omega)) rfl) (ulC (ulC ulN)) (by decide) ?_
  refine GH.take 7 (v := (.int .u32 1056964608)) rfl (by kernel_rfl) (by kernel_rfl) (by kernel_rfl) (fun _ _ _ h => h) (Ex.load rfl T.ag63 (i := 1) rfl rfl) (ulC (ulC ulN)) (by decide) ?_
  refine GH.take 8 (v := (.bool false)) rfl (by kernel_rfl) (by kernel_rfl) (by kernel_rfl) (fun _ _ _ h => h) (Ex.cast (Ex.neq rfl rfl) rfl) (ulC (ulC ulN)) (by decide) ?_
  refine GH.done (by kernel_rfl) ?_
  refine GE.thenN ?_
  refine GC.cond rfl (fun hq3 => by cases hq3) (fun _ => ?_)
  refine GC.skip ?_
  refine GE.blockN ?_
  refine GE.thenN ?_
  refine GC.region ?_
  refine GL.val (Ex.move rfl) (by decide) ?_
  refine GL.val (v := (.int .i64 1)) (Ex.add rfl rfl (Z := 1) (by decide)) (by decide) ?_
  refine GL.val (Ex.assign rfl) (by decide) ?_
  refine GL.nil ?_
  refine GE.thenN ?_
  refine GE.round ?_
  refine GC.seq ?_
  refine GC.seq ?_
  refine GC.region ?_
  refine GL.val (Ex.move rfl) (by decide) ?_
  refine GL.val (Ex.move rfl) (by decide) ?_
  refine GL.val (v := (.int .i64 3)) (Ex.len rfl Try.underlying41) (by decide) ?_
  refine GL.val (v := (.bool true)) (Ex.cast (Ex.lss rfl rfl) rfl) (by decide) ?_
  refine GL.nil ?_
  refine GE.thenN ?_
  refine GC.cond rfl (fun _ => ?_) (fun hq4 => by cases hq4)
  refine GC.skip ?_
  refine GE.thenN ?_
  refine GC.seq ?_
  refine GC.block ?_
  refine GC.seq ?_
  refine GC.draw [⟨c0, [(.int .u32 1056964608), (.int .u32 1069547520), (.int .u32 1065353216)], 63, false⟩, ⟨c1, [(.int .u32 1056964608), (.int .u32 1069547520), (.int .u32 1065353216)], 63, false⟩] T.mixed (fuel := 9) rfl rfl ?_
  refine GH.take 0 (v := (.slice (some ⟨c0, 0, none⟩) 3 3)) rfl (by kernel_rfl) (by kernel_rfl) (by kernel_rfl) (fun _ _ _ h => h) (Ex.move rfl) (ulC (ulC ulN)) (by decide) ?_
  refine GH.take 1 (v := (.int .i64 1)) rfl (by kernel_rfl) (by kernel_rfl) (by kernel_rfl) (fun _ _ _ h => h) (Ex.move rfl) (ulC (ulC ulN)) (by decide) ?_
  refine GH.take 2 (v := (.pointer (some ⟨c0, 1, none⟩))) rfl (by kernel_rfl) (by kernel_rfl) (by kernel_rfl) (fun _ _ _ h => h) (Ex.cast (Ex.indexAddr rfl rfl Try.underlying41 T.sz63 (by omega) (by omega)) rfl) (ulC (ulC ulN)) (by decide) ?_
  refine GH.take 3 (v := (.int .u32 1069547520)) rfl (by kernel_rfl) (by kernel_rfl) (by kernel_rfl) (fun _ _ _ h => h) (Ex.load rfl T.ag63 (i := 0) rfl rfl) (ulC (ulC ulN)) (by decide) ?_
  refine GH.take 4 (v := (.slice (some ⟨c1, 0, none⟩) 3 3)) rfl (by kernel_rfl) (by kernel_rfl) (by kernel_rfl) (fun _ _ _ h => h) (Ex.move rfl) (ulC (ulC ulN)) (by decide) ?_
  refine GH.take 5 (v := (.int .i64 1)) rfl (by kernel_rfl) (by kernel_rfl) (by kernel_rfl) (fun _ _ _ h => h) (Ex.move rfl) (ulC (ulC ulN)) (by decide) ?_
  refine GH.take 6 (v := (.pointer (some ⟨c1, 1, none⟩))) rfl (by kernel_rfl) (by kernel_rfl) (by kernel_rfl) (fun _ _ _ h => h) (Ex.cast (Ex.indexAddr rfl rfl Try.underlying41 T.sz63 (by omega) (by omega)) rfl) (ulC (ulC ulN)) (by decide) ?_
  refine GH.take 7 (v := (.int .u32 1069547520)) rfl (by kernel_rfl) (by kernel_rfl) (by kernel_rfl) (fun _ _ _ h => h) (Ex.load rfl T.ag63 (i := 1) rfl rfl) (ulC (ulC ulN)) (by decide) ?_
  refine GH.take 8 (v := (.bool false)) rfl (by kernel_rfl) (by kernel_rfl) (by kernel_rfl) (fun _ _ _ h => h) (Ex.cast (Ex.neq rfl rfl) rfl) (ulC (ulC ulN)) (by decide) ?_
  refine GH.done (by kernel_rfl) ?_
  refine GE.thenN ?_
  refine GC.cond rfl (fun hq5 => by cases hq5) (fun _ => ?_)
  refine GC.skip ?_
  refine GE.blockN ?_
  refine GE.thenN ?_
  refine GC.region ?_
  refine GL.val (Ex.move rfl) (by decide) ?_
  refine GL.val (v := (.int .i64 2)) (Ex.add rfl rfl (Z := 2) (by decide)) (by decide) ?_
  refine GL.val (Ex.assign rfl) (by decide) ?_
  refine GL.nil ?_
  refine GE.thenN ?_
  refine GE.round ?_
  refine GC.seq ?_
  refine GC.seq ?_
  refine GC.region ?_
  refine GL.val (Ex.move rfl) (by decide) ?_
  refine GL.val (Ex.move rfl) (by decide) ?_
  refine GL.val (v := (.int .i64 3)) (Ex.len rfl Try.underlying41) (by decide) ?_
  refine GL.val (v := (.bool true)) (Ex.cast (Ex.lss rfl rfl) rfl) (by decide) ?_
  refine GL.nil ?_
  refine GE.thenN ?_
  refine GC.cond rfl (fun _ => ?_) (fun hq6 => by cases hq6)
  refine GC.skip ?_
  refine GE.thenN ?_
  refine GC.seq ?_
  refine GC.block ?_
  refine GC.seq ?_
  refine GC.draw [⟨c0, [(.int .u32 1056964608), (.int .u32 1069547520), (.int .u32 1065353216)], 63, false⟩, ⟨c1, [(.int .u32 1056964608), (.int .u32 1069547520), (.int .u32 1065353216)], 63, false⟩] T.mixed (fuel := 9) rfl rfl ?_
  refine GH.take 0 (v := (.slice (some ⟨c0, 0, none⟩) 3 3)) rfl (by kernel_rfl) (by kernel_rfl) (by kernel_rfl) (fun _ _ _ h => h) (Ex.move rfl) (ulC (ulC ulN)) (by decide) ?_
  refine GH.take 1 (v := (.int .i64 2)) rfl (by kernel_rfl) (by kernel_rfl) (by kernel_rfl) (fun _ _ _ h => h) (Ex.move rfl) (ulC (ulC ulN)) (by decide) ?_
  refine GH.take 2 (v := (.pointer (some ⟨c0, 2, none⟩))) rfl (by kernel_rfl) (by kernel_rfl) (by kernel_rfl) (fun _ _ _ h => h) (Ex.cast (Ex.indexAddr rfl rfl Try.underlying41 T.sz63 (by omega) (by omega)) rfl) (ulC (ulC ulN)) (by decide) ?_
  refine GH.take 3 (v := (.int .u32 1065353216)) rfl (by kernel_rfl) (by kernel_rfl) (by kernel_rfl) (fun _ _ _ h => h) (Ex.load rfl T.ag63 (i := 0) rfl rfl) (ulC (ulC ulN)) (by decide) ?_
  refine GH.take 4 (v := (.slice (some ⟨c1, 0, none⟩) 3 3)) rfl (by kernel_rfl) (by kernel_rfl) (by kernel_rfl) (fun _ _ _ h => h) (Ex.move rfl) (ulC (ulC ulN)) (by decide) ?_
  refine GH.take 5 (v := (.int .i64 2)) rfl (by kernel_rfl) (by kernel_rfl) (by kernel_rfl) (fun _ _ _ h => h) (Ex.move rfl) (ulC (ulC ulN)) (by decide) ?_
  refine GH.take 6 (v := (.pointer (some ⟨c1, 2, none⟩))) rfl (by kernel_rfl) (by kernel_rfl) (by kernel_rfl) (fun _ _ _ h => h) (Ex.cast (Ex.indexAddr rfl rfl Try.underlying41 T.sz63 (by omega) (by omega)) rfl) (ulC (ulC ulN)) (by decide) ?_
  refine GH.take 7 (v := (.int .u32 1065353216)) rfl (by kernel_rfl) (by kernel_rfl) (by kernel_rfl) (fun _ _ _ h => h) (Ex.load rfl T.ag63 (i := 1) rfl rfl) (ulC (ulC ulN)) (by decide) ?_
  refine GH.take 8 (v := (.bool false)) rfl (by kernel_rfl) (by kernel_rfl) (by kernel_rfl) (fun _ _ _ h => h) (Ex.cast (Ex.neq rfl rfl) rfl) (ulC (ulC ulN)) (by decide) ?_
  refine GH.done (by kernel_rfl) ?_
  refine GE.thenN ?_
  refine GC.cond rfl (fun hq7 => by cases hq7) (fun _ => ?_)
  refine GC.skip ?_
  refine GE.blockN ?_
  refine GE.thenN ?_
  refine GC.region ?_
  refine GL.val (Ex.move rfl) (by decide) ?_
  refine GL.val (v := (.int .i64 3)) (Ex.add rfl rfl (Z := 3) (by decide)) (by decide) ?_
  refine GL.val (Ex.assign rfl) (by decide) ?_
  refine GL.nil ?_
  refine GE.thenN ?_
  refine GE.round ?_
  refine GC.seq ?_
  refine GC.seq ?_
  refine GC.region ?_
  refine GL.val (Ex.move rfl) (by decide) ?_
  refine GL.val (Ex.move rfl) (by decide) ?_
  refine GL.val (v := (.int .i64 3)) (Ex.len rfl Try.underlying41) (by decide) ?_
  refine GL.val (v := (.bool false)) (Ex.cast (Ex.lss rfl rfl) rfl) (by decide) ?_
  refine GL.nil ?_
  refine GE.thenN ?_
  refine GC.cond rfl (fun hq8 => by cases hq8) (fun _ => ?_)
  refine GC.exit ?_
  refine GE.thenE ?_
  refine GE.thenE ?_
  refine GE.blockE ?_
  refine GE.thenN ?_
  refine GC.seq ?_
  refine GC.region ?_
  refine GL.val (Ex.assign rfl) (by decide) ?_
  refine GL.nil ?_
  refine GE.thenN ?_
  refine GC.ret ?_
  refine GC.ret1 rfl (Rv.tmp rfl) (fun wN HN => ?_)
  exact HN.ret () trivial rfl (ulS (ulS ulN)) rfl

set_option maxRecDepth 100000 in
set_option maxHeartbeats 1000000 in
theorem k22_83 (c0 : Nat) (c1 : Nat) (w : World) (hh : Has w [⟨c0, [(.int .u32 1056964608), (.int .u32 1069547520), (.int .u32 1065353216)], 63, false⟩, ⟨c1, [(.int .u32 1056964608), (.int .u32 1069547520), (.int .u32 1065353216)], 63, false⟩]) :
    Calls Try.prog 22 #[(.agg #[(.int .i64 3), (.int .i64 1), (.slice (some ⟨c0, 0, none⟩) 3 3)]), (.agg #[(.int .i64 3), (.int .i64 1), (.slice (some ⟨c1, 0, none⟩) 3 3)])] w (Ret w (fun _ : Unit => True) (fun rz => (.bool true)) (fun rz => [])) := by
  refine enter (M := None) (L := [⟨c0, [(.int .u32 1056964608), (.int .u32 1069547520), (.int .u32 1065353216)], 63, false⟩, ⟨c1, [(.int .u32 1056964608), (.int .u32 1069547520), (.int .u32 1065353216)], 63, false⟩]) (n := 24) (l := [(0, (.agg #[(.int .i64 3), (.int .i64 1), (.slice (some ⟨c0, 0, none⟩) 3 3)])), (1, (.agg #[(.int .i64 3), (.int .i64 1), (.slice (some ⟨c1, 0, none⟩) 3 3)]))]) Try.func22 rfl rfl (Args.cons rfl (Args.cons rfl (Args.nil _))) (Hp.reads hh rfl) ?_
  refine GC.seq ?_
  refine GC.region ?_
  refine GL.step (Stp.box (cs := [(.int .i64 3), (.int .i64 1), (.slice (some ⟨c0, 0, none⟩) 3 3)]) rfl rfl (by decide)) (fun bq1 _ => ?_)
  refine GL.step (Stp.box (cs := [(.int .i64 3), (.int .i64 1), (.slice (some ⟨c1, 0, none⟩) 3 3)]) rfl rfl (by decide)) (fun bq2 _ => ?_)
  refine GL.val (Ex.assign rfl) (by decide) ?_
  refine GL.nil ?_
  refine GE.thenN ?_
  refine GC.seq ?_
  refine GC.region ?_
  refine GL.val (v := (.pointer (some ⟨bq1, 0, none⟩))) (Ex.cast (Ex.fieldAddr rfl Try.underlying43 rfl T.sz3 (by decide)) rfl) (by decide) ?_
  refine GL.val (Ex.load rfl T.ag3 (i := 1) rfl rfl) (by decide) ?_
  refine GL.val (v := (.pointer (some ⟨bq2, 0, none⟩))) (Ex.cast (Ex.fieldAddr rfl Try.underlying43 rfl T.sz3 (by decide)) rfl) (by decide) ?_
  refine GL.val (Ex.load rfl T.ag3 (i := 0) rfl rfl) (by decide) ?_
  refine GL.val (v := (.bool true)) (Ex.cast (Ex.eql rfl rfl) rfl) (by decide) ?_
  refine GL.val (Ex.move rfl) (by decide) ?_
  refine GL.stepG (tj := 10) rfl rfl (Ex.wp (v := (.pointer (some ⟨bq1, 1, none⟩))) (Ex.cast (Ex.fieldAddr rfl Try.underlying43 rfl T.sz3 (by decide)) rfl) (by decide)) (fun _ _ => ?_)
  refine GL.stepG (tj := 10) rfl rfl (Ex.wp (v := (.int .i64 1)) (Ex.load rfl T.ag3 (i := 1) rfl rfl) (by decide)) (fun _ _ => ?_)
  refine GL.stepG (tj := 10) rfl rfl (Ex.wp (v := (.pointer (some ⟨bq2, 1, none⟩))) (Ex.cast (Ex.fieldAddr rfl Try.underlying43 rfl T.sz3 (by decide)) rfl) (by decide)) (fun _ _ => ?_)
  refine GL.stepG (tj := 10) rfl rfl (Ex.wp (v := (.int .i64 1)) (Ex.load rfl T.ag3 (i := 0) rfl rfl) (by decide)) (fun _ _ => ?_)
  refine GL.stepG (tj := 10) rfl rfl (Ex.wp (v := (.bool true)) (Ex.cast (Ex.eql rfl rfl) rfl) (by decide)) (fun _ _ => ?_)
  refine GL.val (v := (.bool true)) (Ex.pickT rfl rfl) (by decide) ?_
  refine GL.val (Ex.move rfl) (by decide) ?_
  refine GL.stepG (tj := 17) rfl rfl (Ex.wp (v := (.pointer (some ⟨bq1, 2, none⟩))) (Ex.cast (Ex.fieldAddr rfl Try.underlying43 rfl T.sz41 (by decide)) rfl) (by decide)) (fun _ _ => ?_)
  refine GL.stepG (tj := 17) rfl rfl (Ex.wp (v := (.slice (some ⟨c0, 0, none⟩) 3 3)) (Ex.load rfl T.ag41 (i := 1) rfl rfl) (by decide)) (fun _ _ => ?_)
  refine GL.stepG (tj := 17) rfl rfl (Ex.wp (v := (.pointer (some ⟨bq2, 2, none⟩))) (Ex.cast (Ex.fieldAddr rfl Try.underlying43 rfl T.sz41 (by decide)) rfl) (by decide)) (fun _ _ => ?_)
  refine GL.stepG (tj := 17) rfl rfl (Ex.wp (v := (.slice (some ⟨c1, 0, none⟩) 3 3)) (Ex.load rfl T.ag41 (i := 0) rfl rfl) (by decide)) (fun _ _ => ?_)
  refine GL.stepG (tj := 17) rfl rfl (Stp.callR (vs := [(.slice (some ⟨c0, 0, none⟩) 3 3), (.slice (some ⟨c1, 0, none⟩) 3 3)]) rfl rfl T.own50 (by decide) (fun wc hw => k50_84 c0 c1 wc (Has.cons (hw.hasOf (i := 2) rfl) (Has.cons (hw.hasOf (i := 3) rfl) (Has.nil _))))) (fun xq3 hq4 => ?_)
  refine GL.val (v := (.bool true)) (Ex.pickT rfl rfl) (by decide) ?_
  refine GL.val (Ex.assign rfl) (by decide) ?_
  refine GL.nil ?_
  refine GE.thenN ?_
  refine GC.ret ?_
  refine GC.ret1 rfl (Rv.tmp rfl) (fun wN HN => ?_)
  exact HN.ret () trivial rfl (ulS (ulS (ulS (ulS ulN)))) rfl

set_option maxRecDepth 100000 in
set_option maxHeartbeats 1000000 in
theorem k38_85 (c0 : Nat) (w : World) (hh : Has w [⟨c0, [(.int .u32 0), (.int .u32 0), (.int .u32 0)], 63, false⟩]) :
    Calls Try.prog 38 #[(.slice (some ⟨c0, 0, none⟩) 3 3)] w (Ret w (fun _ : Unit => True) (fun rz => (.agg #[(.int .i64 3), (.int .i64 1), (.slice (some ⟨c0, 0, none⟩) 3 3)])) (fun rz => [])) := by
  refine enter (M := None) (L := [⟨c0, [(.int .u32 0), (.int .u32 0), (.int .u32 0)], 63, false⟩]) (n := 7) (l := [(0, (.slice (some ⟨c0, 0, none⟩) 3 3))]) Try.func38 rfl rfl (Args.cons rfl (Args.nil _)) (Hp.reads hh rfl) ?_
  refine GC.seq ?_
  refine GC.region ?_
  refine GL.step (Stp.alloc T.zr43 (by decide)) (fun bq1 _ => ?_)
  refine GL.nil ?_
  refine GE.thenN ?_
  refine GC.seq ?_
  refine GC.region ?_
  refine GL.val (Ex.move rfl) (by decide) ?_
  refine GL.val (v := (.int .i64 3)) (Ex.len rfl Try.underlying41) (by decide) ?_
  refine GL.val (Ex.move rfl) (by decide) ?_
  refine GL.val (v := (.agg #[(.int .i64 3), (.int .i64 1), (.slice (some ⟨c0, 0, none⟩) 3 3)])) (Ex.build (vs := [(0, (.int .i64 3)), (1, (.int .i64 1)), (2, (.slice (some ⟨c0, 0, none⟩) 3 3))]) rfl (by first | rfl | kernel_rfl)) (by decide) ?_
  refine GL.step (Stp.st0 (cs' := [(.int .i64 3), (.int .i64 1), (.slice (some ⟨c0, 0, none⟩) 3 3)]) rfl rfl rfl T.sz43 rfl rfl rfl) (fun _ _ => ?_)
  refine GL.nil ?_
  refine GE.thenN ?_
  refine GC.ret ?_
  refine GC.ret1 rfl (Rv.cellA rfl T.ag43 T.sz43 (L := _) (i := 0) rfl (vs := [(.int .i64 3), (.int .i64 1), (.slice (some ⟨c0, 0, none⟩) 3 3)]) rfl rfl) (fun wN HN => ?_)
  exact HN.ret () trivial rfl (ulS (ulS ulN)) rfl

set_option maxRecDepth 100000 in
set_option maxHeartbeats 1000000 in
theorem k50_87 (c0 : Nat) (c1 : Nat) (w : World) (hh : Has w [⟨c0, [(.int .u32 0), (.int .u32 0), (.int .u32 0)], 63, false⟩, ⟨c1, [(.int .u32 0), (.int .u32 0), (.int .u32 0)], 63, false⟩]) :
    Calls Try.prog 50 #[(.slice (some ⟨c0, 0, none⟩) 3 3), (.slice (some ⟨c1, 0, none⟩) 3 3)] w (Ret w (fun _ : Unit => True) (fun rz => (.bool true)) (fun rz => [])) := by
  refine enter (M := None) (L := [⟨c0, [(.int .u32 0), (.int .u32 0), (.int .u32 0)], 63, false⟩, ⟨c1, [(.int .u32 0), (.int .u32 0), (.int .u32 0)], 63, false⟩]) (n := 26) (l := [(0, (.slice (some ⟨c0, 0, none⟩) 3 3)), (1, (.slice (some ⟨c1, 0, none⟩) 3 3))]) Try.func50 rfl rfl (Args.cons rfl (Args.cons rfl (Args.nil _))) (Hp.reads hh rfl) ?_
  refine GC.seq ?_
  refine GC.region ?_
  refine GL.val (Ex.assign rfl) (by decide) ?_
  refine GL.nil ?_
  refine GE.thenN ?_
  refine GC.seq ?_
  refine GC.seq ?_
  refine GC.region ?_
  refine GL.val (Ex.move rfl) (by decide) ?_
  refine GL.val (v := (.int .i64 3)) (Ex.len rfl Try.underlying41) (by decide) ?_
  refine GL.val (Ex.move rfl) (by decide) ?_
  refine GL.val (v := (.int .i64 3)) (Ex.len rfl Try.underlying41) (by decide) ?_
  refine GL.val (v := (.bool false)) (Ex.cast (Ex.neq rfl rfl) rfl) (by decide) ?_
  refine GL.nil ?_
  refine GE.thenN ?_
  refine GC.cond rfl (fun hq1 => by cases hq1) (fun _ => ?_)
  refine GC.skip ?_
  refine GE.thenN ?_
  refine GC.seq ?_
  refine GC.seq ?_
  refine GC.region ?_
  refine GL.val (Ex.assign rfl) (by decide) ?_
  refine GL.nil ?_
  refine GE.thenN ?_
  refine GC.block ?_
  refine GC.unroll 60 ?_
  refine GE.round ?_
  refine GC.seq ?_
  refine GC.seq ?_
  refine GC.region ?_
  refine GL.val (Ex.move rfl) (by decide) ?_
  refine GL.val (Ex.move rfl) (by decide) ?_
  refine GL.val (v := (.int .i64 3)) (Ex.len rfl Try.underlying41) (by decide) ?_
  refine GL.val (v := (.bool true)) (Ex.cast (Ex.lss rfl rfl) rfl) (by decide) ?_
  refine GL.nil ?_
  refine GE.thenN ?_
  refine GC.cond rfl (fun _ => ?_) (fun hq2 => by cases hq2)
  refine GC.skip ?_
  refine GE.thenN ?_
  refine GC.seq ?_
  refine GC.block ?_
  refine GC.seq ?_
  refine GC.draw [⟨c0, [(.int .u32 0), (.int .u32 0), (.int .u32 0)], 63, false⟩, ⟨c1, [(.int .u32 0), (.int .u32 0), (.int .u32 0)], 63, false⟩] T.mixed (fuel := 9) rfl rfl ?_
  refine GH.take 0 (v := (.slice (some ⟨c0, 0, none⟩) 3 3)) rfl (by kernel_rfl) (by kernel_rfl) (by kernel_rfl) (fun _ _ _ h => h) (Ex.move rfl) (ulC (ulC ulN)) (by decide) ?_
  refine GH.take 1 (v := (.int .i64 0)) rfl (by kernel_rfl) (by kernel_rfl) (by kernel_rfl) (fun _ _ _ h => h) (Ex.move rfl) (ulC (ulC ulN)) (by decide) ?_
  refine GH.take 2 (v := (.pointer (some ⟨c0, 0, none⟩))) rfl (by kernel_rfl) (by kernel_rfl) (by kernel_rfl) (fun _ _ _ h => h) (Ex.cast (Ex.indexAddr rfl rfl Try.underlying41 T.sz63 (by omega) (by omega)) rfl) (ulC (ulC ulN)) (by decide) ?_
  refine GH.take 3 (v := (.int .u32 0)) rfl (by kernel_rfl) (by kernel_rfl) (by kernel_rfl) (fun _ _ _ h => h) (Ex.load rfl T.ag63 (i := 0) rfl rfl) (ulC (ulC ulN)) (by decide) ?_
  refine GH.take 4 (v := (.slice (some ⟨c1, 0, none⟩) 3 3)) rfl (by kernel_rfl) (by kernel_rfl) (by kernel_rfl) (fun _ _ _ h => h) (Ex.move rfl) (ulC (ulC ulN)) (by decide) ?_
  refine GH.take 5 (v := (.int .i64 0)) rfl (by kernel_rfl) (by kernel_rfl) (by kernel_rfl) (fun _ _ _ h => h) (Ex.move rfl) (ulC (ulC ulN)) (by decide) ?_
  refine GH.take 6 (v := (.pointer (some ⟨c1, 0, none⟩))) rfl (by kernel_rfl) (by kernel_rfl) (by kernel_rfl) (fun _ _ _ h => h) (Ex.cast (Ex.indexAddr rfl rfl Try.underlying41 T.sz63 (by omega) (by omega)) rfl) (ulC (ulC ulN)) (by decide) ?_
  refine GH.take 7 (v := (.int .u32 0)) rfl (by kernel_rfl) (by kernel_rfl) (by kernel_rfl) (fun _ _ _ h => h) (Ex.load rfl T.ag63 (i := 1) rfl rfl) (ulC (ulC ulN)) (by decide) ?_
  refine GH.take 8 (v := (.bool false)) rfl (by kernel_rfl) (by kernel_rfl) (by kernel_rfl) (fun _ _ _ h => h) (Ex.cast (Ex.neq rfl rfl) rfl) (ulC (ulC ulN)) (by decide) ?_
  refine GH.done (by kernel_rfl) ?_
  refine GE.thenN ?_
  refine GC.cond rfl (fun hq3 => by cases hq3) (fun _ => ?_)
  refine GC.skip ?_
  refine GE.blockN ?_
  refine GE.thenN ?_
  refine GC.region ?_
  refine GL.val (Ex.move rfl) (by decide) ?_
  refine GL.val (v := (.int .i64 1)) (Ex.add rfl rfl (Z := 1) (by decide)) (by decide) ?_
  refine GL.val (Ex.assign rfl) (by decide) ?_
  refine GL.nil ?_
  refine GE.thenN ?_
  refine GE.round ?_
  refine GC.seq ?_
  refine GC.seq ?_
  refine GC.region ?_
  refine GL.val (Ex.move rfl) (by decide) ?_
  refine GL.val (Ex.move rfl) (by decide) ?_
  refine GL.val (v := (.int .i64 3)) (Ex.len rfl Try.underlying41) (by decide) ?_
  refine GL.val (v := (.bool true)) (Ex.cast (Ex.lss rfl rfl) rfl) (by decide) ?_
  refine GL.nil ?_
  refine GE.thenN ?_
  refine GC.cond rfl (fun _ => ?_) (fun hq4 => by cases hq4)
  refine GC.skip ?_
  refine GE.thenN ?_
  refine GC.seq ?_
  refine GC.block ?_
  refine GC.seq ?_
  refine GC.draw [⟨c0, [(.int .u32 0), (.int .u32 0), (.int .u32 0)], 63, false⟩, ⟨c1, [(.int .u32 0), (.int .u32 0), (.int .u32 0)], 63, false⟩] T.mixed (fuel := 9) rfl rfl ?_
  refine GH.take 0 (v := (.slice (some ⟨c0, 0, none⟩) 3 3)) rfl (by kernel_rfl) (by kernel_rfl) (by kernel_rfl) (fun _ _ _ h => h) (Ex.move rfl) (ulC (ulC ulN)) (by decide) ?_
  refine GH.take 1 (v := (.int .i64 1)) rfl (by kernel_rfl) (by kernel_rfl) (by kernel_rfl) (fun _ _ _ h => h) (Ex.move rfl) (ulC (ulC ulN)) (by decide) ?_
  refine GH.take 2 (v := (.pointer (some ⟨c0, 1, none⟩))) rfl (by kernel_rfl) (by kernel_rfl) (by kernel_rfl) (fun _ _ _ h => h) (Ex.cast (Ex.indexAddr rfl rfl Try.underlying41 T.sz63 (by omega) (by omega)) rfl) (ulC (ulC ulN)) (by decide) ?_
  refine GH.take 3 (v := (.int .u32 0)) rfl (by kernel_rfl) (by kernel_rfl) (by kernel_rfl) (fun _ _ _ h => h) (Ex.load rfl T.ag63 (i := 0) rfl rfl) (ulC (ulC ulN)) (by decide) ?_
  refine GH.take 4 (v := (.slice (some ⟨c1, 0, none⟩) 3 3)) rfl (by kernel_rfl) (by kernel_rfl) (by kernel_rfl) (fun _ _ _ h => h) (Ex.move rfl) (ulC (ulC ulN)) (by decide) ?_
  refine GH.take 5 (v := (.int .i64 1)) rfl (by kernel_rfl) (by kernel_rfl) (by kernel_rfl) (fun _ _ _ h => h) (Ex.move rfl) (ulC (ulC ulN)) (by decide) ?_
  refine GH.take 6 (v := (.pointer (some ⟨c1, 1, none⟩))) rfl (by kernel_rfl) (by kernel_rfl) (by kernel_rfl) (fun _ _ _ h => h) (Ex.cast (Ex.indexAddr rfl rfl Try.underlying41 T.sz63 (by omega) (by omega)) rfl) (ulC (ulC ulN)) (by decide) ?_
  refine GH.take 7 (v := (.int .u32 0)) rfl (by kernel_rfl) (by kernel_rfl) (by kernel_rfl) (fun _ _ _ h => h) (Ex.load rfl T.ag63 (i := 1) rfl rfl) (ulC (ulC ulN)) (by decide) ?_
  refine GH.take 8 (v := (.bool false)) rfl (by kernel_rfl) (by kernel_rfl) (by kernel_rfl) (fun _ _ _ h => h) (Ex.cast (Ex.neq rfl rfl) rfl) (ulC (ulC ulN)) (by decide) ?_
  refine GH.done (by kernel_rfl) ?_
  refine GE.thenN ?_
  refine GC.cond rfl (fun hq5 => by cases hq5) (fun _ => ?_)
  refine GC.skip ?_
  refine GE.blockN ?_
  refine GE.thenN ?_
  refine GC.region ?_
  refine GL.val (Ex.move rfl) (by decide) ?_
  refine GL.val (v := (.int .i64 2)) (Ex.add rfl rfl (Z := 2) (by decide)) (by decide) ?_
  refine GL.val (Ex.assign rfl) (by decide) ?_
  refine GL.nil ?_
  refine GE.thenN ?_
  refine GE.round ?_
  refine GC.seq ?_
  refine GC.seq ?_
  refine GC.region ?_
  refine GL.val (Ex.move rfl) (by decide) ?_
  refine GL.val (Ex.move rfl) (by decide) ?_
  refine GL.val (v := (.int .i64 3)) (Ex.len rfl Try.underlying41) (by decide) ?_
  refine GL.val (v := (.bool true)) (Ex.cast (Ex.lss rfl rfl) rfl) (by decide) ?_
  refine GL.nil ?_
  refine GE.thenN ?_
  refine GC.cond rfl (fun _ => ?_) (fun hq6 => by cases hq6)
  refine GC.skip ?_
  refine GE.thenN ?_
  refine GC.seq ?_
  refine GC.block ?_
  refine GC.seq ?_
  refine GC.draw [⟨c0, [(.int .u32 0), (.int .u32 0), (.int .u32 0)], 63, false⟩, ⟨c1, [(.int .u32 0), (.int .u32 0), (.int .u32 0)], 63, false⟩] T.mixed (fuel := 9) rfl rfl ?_
  refine GH.take 0 (v := (.slice (some ⟨c0, 0, none⟩) 3 3)) rfl (by kernel_rfl) (by kernel_rfl) (by kernel_rfl) (fun _ _ _ h => h) (Ex.move rfl) (ulC (ulC ulN)) (by decide) ?_
  refine GH.take 1 (v := (.int .i64 2)) rfl (by kernel_rfl) (by kernel_rfl) (by kernel_rfl) (fun _ _ _ h => h) (Ex.move rfl) (ulC (ulC ulN)) (by decide) ?_
  refine GH.take 2 (v := (.pointer (some ⟨c0, 2, none⟩))) rfl (by kernel_rfl) (by kernel_rfl) (by kernel_rfl) (fun _ _ _ h => h) (Ex.cast (Ex.indexAddr rfl rfl Try.underlying41 T.sz63 (by omega) (by omega)) rfl) (ulC (ulC ulN)) (by decide) ?_
  refine GH.take 3 (v := (.int .u32 0)) rfl (by kernel_rfl) (by kernel_rfl) (by kernel_rfl) (fun _ _ _ h => h) (Ex.load rfl T.ag63 (i := 0) rfl rfl) (ulC (ulC ulN)) (by decide) ?_
  refine GH.take 4 (v := (.slice (some ⟨c1, 0, none⟩) 3 3)) rfl (by kernel_rfl) (by kernel_rfl) (by kernel_rfl) (fun _ _ _ h => h) (Ex.move rfl) (ulC (ulC ulN)) (by decide) ?_
  refine GH.take 5 (v := (.int .i64 2)) rfl (by kernel_rfl) (by kernel_rfl) (by kernel_rfl) (fun _ _ _ h => h) (Ex.move rfl) (ulC (ulC ulN)) (by decide) ?_
  refine GH.take 6 (v := (.pointer (some ⟨c1, 2, none⟩))) rfl (by kernel_rfl) (by kernel_rfl) (by kernel_rfl) (fun _ _ _ h => h) (Ex.cast (Ex.indexAddr rfl rfl Try.underlying41 T.sz63 (by omega) (by omega)) rfl) (ulC (ulC ulN)) (by decide) ?_
  refine GH.take 7 (v := (.int .u32 0)) rfl (by kernel_rfl) (by kernel_rfl) (by kernel_rfl) (fun _ _ _ h => h) (Ex.load rfl T.ag63 (i := 1) rfl rfl) (ulC (ulC ulN)) (by decide) ?_
  refine GH.take 8 (v := (.bool false)) rfl (by kernel_rfl) (by kernel_rfl) (by kernel_rfl) (fun _ _ _ h => h) (Ex.cast (Ex.neq rfl rfl) rfl) (ulC (ulC ulN)) (by decide) ?_
  refine GH.done (by kernel_rfl) ?_
  refine GE.thenN ?_
  refine GC.cond rfl (fun hq7 => by cases hq7) (fun _ => ?_)
  refine GC.skip ?_
  refine GE.blockN ?_
  refine GE.thenN ?_
  refine GC.region ?_
  refine GL.val (Ex.move rfl) (by decide) ?_
  refine GL.val (v := (.int .i64 3)) (Ex.add rfl rfl (Z := 3) (by decide)) (by decide) ?_
  refine GL.val (Ex.assign rfl) (by decide) ?_
  refine GL.nil ?_
  refine GE.thenN ?_
  refine GE.round ?_
  refine GC.seq ?_
  refine GC.seq ?_
  refine GC.region ?_
  refine GL.val (Ex.move rfl) (by decide) ?_
  refine GL.val (Ex.move rfl) (by decide) ?_
  refine GL.val (v := (.int .i64 3)) (Ex.len rfl Try.underlying41) (by decide) ?_
  refine GL.val (v := (.bool false)) (Ex.cast (Ex.lss rfl rfl) rfl) (by decide) ?_
  refine GL.nil ?_
  refine GE.thenN ?_
  refine GC.cond rfl (fun hq8 => by cases hq8) (fun _ => ?_)
  refine GC.exit ?_
  refine GE.thenE ?_
  refine GE.thenE ?_
  refine GE.blockE ?_
  refine GE.thenN ?_
  refine GC.seq ?_
  refine GC.region ?_
  refine GL.val (Ex.assign rfl) (by decide) ?_
  refine GL.nil ?_
  refine GE.thenN ?_
  refine GC.ret ?_
  refine GC.ret1 rfl (Rv.tmp rfl) (fun wN HN => ?_)
  exact HN.ret () trivial rfl (ulS (ulS ulN)) rfl

set_option maxRecDepth 100000 in
set_option maxHeartbeats 1000000 in
theorem k22_86 (c0 : Nat) (c1 : Nat) (w : World) (hh : Has w [⟨c0, [(.int .u32 0), (.int .u32 0), (.int .u32 0)], 63, false⟩, ⟨c1, [(.int .u32 0), (.int .u32 0), (.int .u32 0)], 63, false⟩]) :
    Calls Try.prog 22 #[(.agg #[(.int .i64 3), (.int .i64 1), (.slice (some ⟨c0, 0, none⟩) 3 3)]), (.agg #[(.int .i64 3), (.int .i64 1), (.slice (some ⟨c1, 0, none⟩) 3 3)])] w (Ret w (fun _ : Unit => True) (fun rz => (.bool true)) (fun rz => [])) := by
  refine enter (M := None) (L := [⟨c0, [(.int .u32 0), (.int .u32 0), (.int .u32 0)], 63, false⟩, ⟨c1, [(.int .u32 0), (.int .u32 0), (.int .u32 0)], 63, false⟩]) (n := 24) (l := [(0, (.agg #[(.int .i64 3), (.int .i64 1), (.slice (some ⟨c0, 0, none⟩) 3 3)])), (1, (.agg #[(.int .i64 3), (.int .i64 1), (.slice (some ⟨c1, 0, none⟩) 3 3)]))]) Try.func22 rfl rfl (Args.cons rfl (Args.cons rfl (Args.nil _))) (Hp.reads hh rfl) ?_
  refine GC.seq ?_
  refine GC.region ?_
  refine GL.step (Stp.box (cs := [(.int .i64 3), (.int .i64 1), (.slice (some ⟨c0, 0, none⟩) 3 3)]) rfl rfl (by decide)) (fun bq1 _ => ?_)
  refine GL.step (Stp.box (cs := [(.int .i64 3), (.int .i64 1), (.slice (some ⟨c1, 0, none⟩) 3 3)]) rfl rfl (by decide)) (fun bq2 _ => ?_)
  refine GL.val (Ex.assign rfl) (by decide) ?_
  refine GL.nil ?_
  refine GE.thenN ?_
  refine GC.seq ?_
  refine GC.region ?_
  refine GL.val (v := (.pointer (some ⟨bq1, 0, none⟩))) (Ex.cast (Ex.fieldAddr rfl Try.underlying43 rfl T.sz3 (by decide)) rfl) (by decide) ?_
  refine GL.val (Ex.load rfl T.ag3 (i := 1) rfl rfl) (by decide) ?_
  refine GL.val (v := (.pointer (some ⟨bq2, 0, none⟩))) (Ex.cast (Ex.fieldAddr rfl Try.underlying43 rfl T.sz3 (by decide)) rfl) (by decide) ?_
  refine GL.val (Ex.load rfl T.ag3 (i := 0) rfl rfl) (by decide) ?_
  refine GL.val (v := (.bool true)) (Ex.cast (Ex.eql rfl rfl) rfl) (by decide) ?_
  refine GL.val (Ex.move rfl) (by decide) ?_
  refine GL.stepG (tj := 10) rfl rfl (Ex.wp (v := (.pointer (some ⟨bq1, 1, none⟩))) (Ex.cast (Ex.fieldAddr rfl Try.underlying43 rfl T.sz3 (by decide)) rfl) (by decide)) (fun _ _ => ?_)
  refine GL.stepG (tj := 10) rfl rfl (Ex.wp (v := (.int .i64 1)) (Ex.load rfl T.ag3 (i := 1) rfl rfl) (by decide)) (fun _ _ => ?_)
  refine GL.stepG (tj := 10) rfl rfl (Ex.wp (v := (.pointer (some ⟨bq2, 1, none⟩))) (Ex.cast (Ex.fieldAddr rfl Try.underlying43 rfl T.sz3 (by decide)) rfl) (by decide)) (fun _ _ => ?_)
  refine GL.stepG (tj := 10) rfl rfl (Ex.wp (v := (.int .i64 1)) (Ex.load rfl T.ag3 (i := 0) rfl rfl) (by decide)) (fun _ _ => ?_)
  refine GL.stepG (tj := 10) rfl rfl (Ex.wp (v := (.bool true)) (Ex.cast (Ex.eql rfl rfl) rfl) (by decide)) (fun _ _ => ?_)
  refine GL.val (v := (.bool true)) (Ex.pickT rfl rfl) (by decide) ?_
  refine GL.val (Ex.move rfl) (by decide) ?_
  refine GL.stepG (tj := 17) rfl rfl (Ex.wp (v := (.pointer (some ⟨bq1, 2, none⟩))) (Ex.cast (Ex.fieldAddr rfl Try.underlying43 rfl T.sz41 (by decide)) rfl) (by decide)) (fun _ _ => ?_)
  refine GL.stepG (tj := 17) rfl rfl (Ex.wp (v := (.slice (some ⟨c0, 0, none⟩) 3 3)) (Ex.load rfl T.ag41 (i := 1) rfl rfl) (by decide)) (fun _ _ => ?_)
  refine GL.stepG (tj := 17) rfl rfl (Ex.wp (v := (.pointer (some ⟨bq2, 2, none⟩))) (Ex.cast (Ex.fieldAddr rfl Try.underlying43 rfl T.sz41 (by decide)) rfl) (by decide)) (fun _ _ => ?_)
  refine GL.stepG (tj := 17) rfl rfl (Ex.wp (v := (.slice (some ⟨c1, 0, none⟩) 3 3)) (Ex.load rfl T.ag41 (i := 0) rfl rfl) (by decide)) (fun _ _ => ?_)
  refine GL.stepG (tj := 17) rfl rfl (Stp.callR (vs := [(.slice (some ⟨c0, 0, none⟩) 3 3), (.slice (some ⟨c1, 0, none⟩) 3 3)]) rfl rfl T.own50 (by decide) (fun wc hw => k50_87 c0 c1 wc (Has.cons (hw.hasOf (i := 2) rfl) (Has.cons (hw.hasOf (i := 3) rfl) (Has.nil _))))) (fun xq3 hq4 => ?_)
  refine GL.val (v := (.bool true)) (Ex.pickT rfl rfl) (by decide) ?_
  refine GL.val (Ex.assign rfl) (by decide) ?_
  refine GL.nil ?_
  refine GE.thenN ?_
  refine GC.ret ?_
  refine GC.ret1 rfl (Rv.tmp rfl) (fun wN HN => ?_)
  exact HN.ret () trivial rfl (ulS (ulS (ulS (ulS ulN)))) rfl

set_option maxRecDepth 100000 in
set_option maxHeartbeats 1000000 in
theorem known (w : World) :
    Calls Try.prog 12 #[] w (Ret w (fun _ : Unit => True) (fun _ => .bool true) (fun _ => [])) := by
  refine enter (M := None) (L := []) (n := 82) (l := []) Try.func12 rfl rfl (Args.nil _) (Hp.start _ _) ?_
  refine GC.seq ?_
  refine GC.region ?_
  refine GL.val (Ex.assign rfl) (by decide) ?_
  refine GL.nil ?_
  refine GE.thenN ?_
  refine GC.seq ?_
  refine GC.region ?_
  refine GL.step (Stp.callR (vs := [(.int .i64 1), (.int .i64 2)]) rfl rfl T.own14 (by decide) (fun wc hw => k14_1  wc )) (fun xq1 hq2 => ?_)
  refine GL.val (Ex.move rfl) (by decide) ?_
  refine GL.val (Ex.extract rfl rfl) (by decide) ?_
  refine GL.val (Ex.extract rfl rfl) (by decide) ?_
  refine GL.val (Ex.assign rfl) (by decide) ?_
  refine GL.val (Ex.assign rfl) (by decide) ?_
  refine GL.nil ?_
  refine GE.thenN ?_
  refine GC.seq ?_
  refine GC.region ?_
  refine GL.step (Stp.callR (vs := [(.int .i64 2), (.int .i64 1)]) rfl rfl T.own14 (by decide) (fun wc hw => k14_2  wc )) (fun xq3 hq4 => ?_)
  refine GL.val (Ex.move rfl) (by decide) ?_
  refine GL.val (Ex.extract rfl rfl) (by decide) ?_
  refine GL.val (Ex.extract rfl rfl) (by decide) ?_
  refine GL.val (Ex.assign rfl) (by decide) ?_
  refine GL.val (Ex.assign rfl) (by decide) ?_
  refine GL.nil ?_
  refine GE.thenN ?_
  refine GC.seq ?_
  refine GC.region ?_
  refine GL.step (Stp.buildSlice (cs := [(.int .u32 0), (.int .u32 0), (.int .u32 1065353216), (.int .u32 0), (.int .u32 0)]) (vs := [(0, (.int .u32 0)), (1, (.int .u32 0)), (2, (.int .u32 1065353216)), (3, (.int .u32 0)), (4, (.int .u32 0))]) Try.underlying41 T.zr63 T.sz63 rfl (by decide) (by decide) (by first | rfl | kernel_rfl) (by decide)) (fun bq5 _ => ?_)
  refine GL.step (Stp.callR (vs := [(.slice (some ⟨bq5, 0, none⟩) 5 5)]) rfl rfl T.own38 (by decide) (fun wc hw => k38_3 bq5 wc (Has.cons (hw.hasOf (i := 0) rfl) (Has.nil _)))) (fun xq6 hq7 => ?_)
  refine GL.step (Stp.callR (vs := [(.agg #[(.int .i64 5), (.int .i64 1), (.slice (some ⟨bq5, 0, none⟩) 5 5)]), (.int .i64 1), (.int .i64 1), (.int .i64 1)]) rfl rfl T.own21 (by decide) (fun wc hw => k21_4 bq5 wc (Has.cons (hw.hasOf (i := 0) rfl) (Has.nil _)))) (fun xq8 hq9 => ?_)
  refine GL.val (Ex.move rfl) (by decide) ?_
  refine GL.val (Ex.extract rfl rfl) (by decide) ?_
  refine GL.val (Ex.extract rfl rfl) (by decide) ?_
  refine GL.step (Stp.alloc T.zr43 (by decide)) (fun bq10 _ => ?_)
  refine GL.step (Stp.st0 (cs' := [(.int .i64 5), (.int .i64 1), (.slice (some ⟨xq8, 0, none⟩) 5 5)]) rfl rfl rfl T.sz43 rfl rfl rfl) (fun _ _ => ?_)
  refine GL.val (Ex.assign rfl) (by decide) ?_
  refine GL.nil ?_
  refine GE.thenN ?_
  refine GC.seq ?_
  refine GC.region ?_
  refine GL.step (Stp.buildSlice (cs := [(.int .u32 1077936128), (.int .u32 0), (.int .u32 0)]) (vs := [(0, (.int .u32 1077936128)), (1, (.int .u32 0)), (2, (.int .u32 0))]) Try.underlying41 T.zr63 T.sz63 rfl (by decide) (by decide) (by first | rfl | kernel_rfl) (by decide)) (fun bq11 _ => ?_)
  refine GL.step (Stp.callR (vs := [(.slice (some ⟨bq11, 0, none⟩) 3 3)]) rfl rfl T.own38 (by decide) (fun wc hw => k38_39 bq11 wc (Has.cons (hw.hasOf (i := 0) rfl) (Has.nil _)))) (fun xq12 hq13 => ?_)
  refine GL.step (Stp.callR (vs := [(.agg #[(.int .i64 3), (.int .i64 1), (.slice (some ⟨bq11, 0, none⟩) 3 3)]), (.int .i64 2), (.int .i64 1), (.int .i64 3)]) rfl rfl T.own21 (by decide) (fun wc hw => k21_40 bq11 wc (Has.cons (hw.hasOf (i := 0) rfl) (Has.nil _)))) (fun xq14 hq15 => ?_)
  refine GL.val (Ex.move rfl) (by decide) ?_
  refine GL.val (Ex.extract rfl rfl) (by decide) ?_
  refine GL.val (Ex.extract rfl rfl) (by decide) ?_
  refine GL.step (Stp.alloc T.zr43 (by decide)) (fun bq16 _ => ?_)
  refine GL.step (Stp.st0 (cs' := [(.int .i64 3), (.int .i64 1), (.slice (some ⟨xq14, 0, none⟩) 3 3)]) rfl rfl rfl T.sz43 rfl rfl rfl) (fun _ _ => ?_)
  refine GL.val (Ex.assign rfl) (by decide) ?_
  refine GL.nil ?_
  refine GE.thenN ?_
  refine GC.seq ?_
  refine GC.region ?_
  refine GL.step (Stp.buildSlice (cs := [(.int .u32 1065353216), (.int .u32 1073741824), (.int .u32 1082130432)]) (vs := [(0, (.int .u32 1065353216)), (1, (.int .u32 1073741824)), (2, (.int .u32 1082130432))]) Try.underlying41 T.zr63 T.sz63 rfl (by decide) (by decide) (by first | rfl | kernel_rfl) (by decide)) (fun bq17 _ => ?_)
  refine GL.step (Stp.callR (vs := [(.slice (some ⟨bq17, 0, none⟩) 3 3)]) rfl rfl T.own38 (by decide) (fun wc hw => k38_57 bq17 wc (Has.cons (hw.hasOf (i := 0) rfl) (Has.nil _)))) (fun xq18 hq19 => ?_)
  refine GL.step (Stp.callR (vs := [(.agg #[(.int .i64 3), (.int .i64 1), (.slice (some ⟨bq17, 0, none⟩) 3 3)]), (.int .i64 1)]) rfl rfl T.own26 (by decide) (fun wc hw => k26_58 bq17 wc (Has.cons (hw.hasOf (i := 0) rfl) (Has.nil _)))) (fun xq20 hq21 => ?_)
  refine GL.val (Ex.move rfl) (by decide) ?_
  refine GL.val (Ex.extract rfl rfl) (by decide) ?_
  refine GL.val (Ex.extract rfl rfl) (by decide) ?_
  refine GL.val (Ex.extract rfl rfl) (by decide) ?_
  refine GL.step (Stp.alloc T.zr43 (by decide)) (fun bq22 _ => ?_)
  refine GL.step (Stp.alloc T.zr43 (by decide)) (fun bq23 _ => ?_)
  refine GL.step (Stp.st1 (cs' := [(.int .i64 3), (.int .i64 1), (.slice (some ⟨xq20.2, 0, none⟩) 3 3)]) rfl rfl rfl T.sz43 rfl rfl rfl) (fun _ _ => ?_)
  refine GL.step (Stp.st0 (cs' := [(.int .i64 3), (.int .i64 1), (.slice (some ⟨xq20.1, 0, none⟩) 3 3)]) rfl rfl rfl T.sz43 rfl rfl rfl) (fun _ _ => ?_)
  refine GL.val (Ex.assign rfl) (by decide) ?_
  refine GL.nil ?_
  refine GE.thenN ?_
  refine GC.seq ?_
  refine GC.seq ?_
  refine GC.region ?_
  refine GL.val (Ex.move rfl) (by decide) ?_
  refine GL.step (Stp.callR (vs := [(.int .i64 0)]) rfl rfl T.own15 (by decide) (fun wc hw => k15_73  wc )) (fun xq24 hq25 => ?_)
  refine GL.val (Ex.move rfl) (by decide) ?_
  refine GL.step (Stp.callR (vs := [(.int .i64 0)]) rfl rfl T.own15 (by decide) (fun wc hw => k15_73  wc )) (fun xq26 hq27 => ?_)
  refine GL.val (v := (.int .i64 0)) (Ex.add rfl rfl (Z := 0) (by decide)) (by decide) ?_
  refine GL.val (Ex.move rfl) (by decide) ?_
  refine GL.step (Stp.callR (vs := [(.int .i64 0)]) rfl rfl T.own15 (by decide) (fun wc hw => k15_73  wc )) (fun xq28 hq29 => ?_)
  refine GL.val (v := (.int .i64 0)) (Ex.add rfl rfl (Z := 0) (by decide)) (by decide) ?_
  refine GL.val (v := (.bool false)) (Ex.cast (Ex.neq rfl rfl) rfl) (by decide) ?_
  refine GL.val (Ex.move rfl) (by decide) ?_
  refine GL.stepG (tj := 48) rfl rfl (Ex.wp (v := (.slice (some ⟨xq1, 0, none⟩) 5 5)) (Ex.move rfl) (by decide)) (fun _ _ => ?_)
  refine GL.stepG (tj := 48) rfl rfl (Stp.buildSlice (cs := [(.int .i64 1), (.int .i64 4), (.int .i64 6), (.int .i64 4), (.int .i64 1)]) (vs := [(0, (.int .i64 1)), (1, (.int .i64 4)), (2, (.int .i64 6)), (3, (.int .i64 4)), (4, (.int .i64 1))]) Try.underlying28 T.zr3 T.sz3 rfl (by decide) (by decide) (by first | rfl | kernel_rfl) (by decide)) (fun bq30 _ => ?_)
  refine GL.stepG (tj := 48) rfl rfl (Stp.callR (vs := [(.slice (some ⟨xq1, 0, none⟩) 5 5), (.slice (some ⟨bq30, 0, none⟩) 5 5)]) rfl rfl T.own16 (by decide) (fun wc hw => k16_74 xq1 bq30 wc (Has.cons (hw.hasOf (i := 13) rfl) (Has.cons (hw.hasOf (i := 0) rfl) (Has.nil _))))) (fun xq31 hq32 => ?_)
  refine GL.stepG (tj := 48) rfl rfl (Ex.wp (v := (.bool false)) (Ex.cast (Ex.not rfl) rfl) (by decide)) (fun _ _ => ?_)
  refine GL.val (v := (.bool false)) (Ex.pickF rfl rfl) (by decide) ?_
  refine GL.val (Ex.move rfl) (by decide) ?_
  refine GL.stepG (tj := 54) rfl rfl (Ex.wp (v := (.slice (some ⟨xq3, 0, none⟩) 3 3)) (Ex.move rfl) (by decide)) (fun _ _ => ?_)
  refine GL.stepG (tj := 54) rfl rfl (Stp.buildSlice (cs := [(.int .i64 1), (.int .i64 1), (.int .i64 1)]) (vs := [(0, (.int .i64 1)), (1, (.int .i64 1)), (2, (.int .i64 1))]) Try.underlying28 T.zr3 T.sz3 rfl (by decide) (by decide) (by first | rfl | kernel_rfl) (by decide)) (fun bq33 _ => ?_)
  refine GL.stepG (tj := 54) rfl rfl (Stp.callR (vs := [(.slice (some ⟨xq3, 0, none⟩) 3 3), (.slice (some ⟨bq33, 0, none⟩) 3 3)]) rfl rfl T.own16 (by decide) (fun wc hw => k16_75 xq3 bq33 wc (Has.cons (hw.hasOf (i := 13) rfl) (Has.cons (hw.hasOf (i := 0) rfl) (Has.nil _))))) (fun xq34 hq35 => ?_)
  refine GL.stepG (tj := 54) rfl rfl (Ex.wp (v := (.bool false)) (Ex.cast (Ex.not rfl) rfl) (by decide)) (fun _ _ => ?_)
  refine GL.val (v := (.bool false)) (Ex.pickF rfl rfl) (by decide) ?_
  refine GL.nil ?_
  refine GE.thenN ?_
  refine GC.cond rfl (fun hq36 => by cases hq36) (fun _ => ?_)
  refine GC.skip ?_
  refine GE.thenN ?_
  refine GC.seq ?_
  refine GC.drawP [⟨bq33, [(.int .i64 1), (.int .i64 1), (.int .i64 1)], 3, true⟩, ⟨bq30, [(.int .i64 1), (.int .i64 4), (.int .i64 6), (.int .i64 4), (.int .i64 1)], 3, true⟩, ⟨bq23, [(.int .i64 3), (.int .i64 1), (.slice (some ⟨xq20.1, 0, none⟩) 3 3)], 43, true⟩, ⟨bq22, [(.int .i64 3), (.int .i64 1), (.slice (some ⟨xq20.2, 0, none⟩) 3 3)], 43, true⟩, ⟨xq20.1, [(.int .u32 0), (.int .u32 0), (.int .u32 0)], 63, true⟩, ⟨xq20.2, [(.int .u32 1056964608), (.int .u32 1069547520), (.int .u32 1065353216)], 63, true⟩, ⟨bq17, [(.int .u32 1065353216), (.int .u32 1073741824), (.int .u32 1082130432)], 63, true⟩, ⟨bq16, [(.int .i64 3), (.int .i64 1), (.slice (some ⟨xq14, 0, none⟩) 3 3)], 43, true⟩, ⟨xq14, [(.int .u32 1065353216), (.int .u32 1065353216), (.int .u32 1065353216)], 63, true⟩, ⟨bq11, [(.int .u32 1077936128), (.int .u32 0), (.int .u32 0)], 63, true⟩, ⟨bq10, [(.int .i64 5), (.int .i64 1), (.slice (some ⟨xq8, 0, none⟩) 5 5)], 43, true⟩, ⟨xq8, [(.int .u32 0), (.int .u32 1048576000), (.int .u32 1056964608), (.int .u32 1048576000), (.int .u32 0)], 63, true⟩, ⟨bq5, [(.int .u32 0), (.int .u32 0), (.int .u32 1065353216), (.int .u32 0), (.int .u32 0)], 63, true⟩, ⟨xq3, [(.int .i64 1), (.int .i64 1), (.int .i64 1)], 3, true⟩, ⟨xq1, [(.int .i64 1), (.int .i64 4), (.int .i64 6), (.int .i64 4), (.int .i64 1)], 3, true⟩] T.mixed (by kernel_rfl) (by kernel_rfl) (fuel := 22) rfl rfl ?_
  refine GH.take 0 (v := (.agg #[(.int .i64 5), (.int .i64 1), (.slice (some ⟨xq8, 0, none⟩) 5 5)])) rfl (by kernel_rfl) (by kernel_rfl) (by kernel_rfl) (fun _ _ _ h => h) (Ex.loadA rfl T.ag43 T.sz43 (i := 10) rfl (vs := [(.int .i64 5), (.int .i64 1), (.slice (some ⟨xq8, 0, none⟩) 5 5)]) rfl rfl) (ulC (ulC (ulC (ulC (ulC (ulC (ulC (ulC (ulC (ulC (ulC (ulC (ulC (ulC (ulC ulN))))))))))))))) (by decide) ?_
  refine GH.one 1 rfl (by kernel_rfl) (Stp.buildSlice (cs := [(.int .u32 0), (.int .u32 1048576000), (.int .u32 1056964608), (.int .u32 1048576000), (.int .u32 0)]) (vs := [(0, (.int .u32 0)), (1, (.int .u32 1048576000)), (2, (.int .u32 1056964608)), (3, (.int .u32 1048576000)), (4, (.int .u32 0))]) Try.underlying41 T.zr63 T.sz63 rfl (by decide) (by decide) (by first | rfl | kernel_rfl) (by decide)) (fun _ => (ulS (ulC (ulC (ulC (ulC (ulC (ulC (ulC (ulC (ulC (ulC (ulC (ulC (ulC (ulC (ulC ulN))))))))))))))))) (fun bq37 _ => ?_)
  refine GH.one 2 rfl (by kernel_rfl) (Stp.callR (vs := [(.slice (some ⟨bq37, 0, none⟩) 5 5)]) rfl rfl T.own38 (by decide) (fun wc hw => k38_76 bq37 wc (Has.cons (hw.hasOf (i := 0) rfl) (Has.nil _)))) (fun _ => (ulS (ulC (ulC (ulC (ulC (ulC (ulC (ulC (ulC (ulC (ulC (ulC (ulC (ulC (ulC (ulC ulN))))))))))))))))) (fun xq38 hq39 => ?_)
  refine GH.one 3 rfl (by kernel_rfl) (Stp.callR (vs := [(.agg #[(.int .i64 5), (.int .i64 1), (.slice (some ⟨xq8, 0, none⟩) 5 5)]), (.agg #[(.int .i64 5), (.int .i64 1), (.slice (some ⟨bq37, 0, none⟩) 5 5)])]) rfl rfl T.own22 (by decide) (fun wc hw => k22_77 xq8 bq37 wc (Has.cons (hw.hasOf (i := 12) rfl) (Has.cons (hw.hasOf (i := 0) rfl) (Has.nil _))))) (fun _ => (ulS (ulC (ulC (ulC (ulC (ulC (ulC (ulC (ulC (ulC (ulC (ulC (ulC (ulC (ulC (ulC ulN))))))))))))))))) (fun xq40 hq41 => ?_)
  refine GH.take 4 (v := (.bool true)) rfl (by kernel_rfl) (by kernel_rfl) (by kernel_rfl) (fun _ _ _ h => h) (Ex.move rfl) (ulS (ulC (ulC (ulC (ulC (ulC (ulC (ulC (ulC (ulC (ulC (ulC (ulC (ulC (ulC (ulC ulN)))))))))))))))) (by decide) ?_
  refine GH.takeG 5 (tj := 64) (v := (.agg #[(.int .i64 3), (.int .i64 1), (.slice (some ⟨xq14, 0, none⟩) 3 3)])) rfl rfl rfl (by kernel_rfl) (by kernel_rfl) (by kernel_rfl) (fun _ _ _ h => h) (Ex.loadA rfl T.ag43 T.sz43 (i := 7) rfl (vs := [(.int .i64 3), (.int .i64 1), (.slice (some ⟨xq14, 0, none⟩) 3 3)]) rfl rfl) (ulS (ulC (ulC (ulC (ulC (ulC (ulC (ulC (ulC (ulC (ulC (ulC (ulC (ulC (ulC (ulC ulN)))))))))))))))) (by decide) ?_
  refine GH.oneG 6 (tj := 64) rfl rfl rfl (by kernel_rfl) (Stp.buildSlice (cs := [(.int .u32 1065353216), (.int .u32 1065353216), (.int .u32 1065353216)]) (vs := [(0, (.int .u32 1065353216)), (1, (.int .u32 1065353216)), (2, (.int .u32 1065353216))]) Try.underlying41 T.zr63 T.sz63 rfl (by decide) (by decide) (by first | rfl | kernel_rfl) (by decide)) (fun _ => (ulS (ulS (ulC (ulC (ulC (ulC (ulC (ulC (ulC (ulC (ulC (ulC (ulC (ulC (ulC (ulC (ulC ulN)))))))))))))))))) (fun bq42 _ => ?_)
  refine GH.oneG 7 (tj := 64) rfl rfl rfl (by kernel_rfl) (Stp.callR (vs := [(.slice (some ⟨bq42, 0, none⟩) 3 3)]) rfl rfl T.own38 (by decide) (fun wc hw => k38_79 bq42 wc (Has.cons (hw.hasOf (i := 0) rfl) (Has.nil _)))) (fun _ => (ulS (ulS (ulC (ulC (ulC (ulC (ulC (ulC (ulC (ulC (ulC (ulC (ulC (ulC (ulC (ulC (ulC ulN)))))))))))))))))) (fun xq43 hq44 => ?_)
  refine GH.oneG 8 (tj := 64) rfl rfl rfl (by kernel_rfl) (Stp.callR (vs := [(.agg #[(.int .i64 3), (.int .i64 1), (.slice (some ⟨xq14, 0, none⟩) 3 3)]), (.agg #[(.int .i64 3), (.int .i64 1), (.slice (some ⟨bq42, 0, none⟩) 3 3)])]) rfl rfl T.own22 (by decide) (fun wc hw => k22_80 xq14 bq42 wc (Has.cons (hw.hasOf (i := 10) rfl) (Has.cons (hw.hasOf (i := 0) rfl) (Has.nil _))))) (fun _ => (ulS (ulS (ulC (ulC (ulC (ulC (ulC (ulC (ulC (ulC (ulC (ulC (ulC (ulC (ulC (ulC (ulC ulN)))))))))))))))))) (fun xq45 hq46 => ?_)
  refine GH.take 9 (v := (.bool true)) rfl (by kernel_rfl) (by kernel_rfl) (by kernel_rfl) (fun _ _ _ h => h) (Ex.pickT rfl rfl) (ulS (ulS (ulC (ulC (ulC (ulC (ulC (ulC (ulC (ulC (ulC (ulC (ulC (ulC (ulC (ulC (ulC ulN))))))))))))))))) (by decide) ?_
  refine GH.take 10 (v := (.bool true)) rfl (by kernel_rfl) (by kernel_rfl) (by kernel_rfl) (fun _ _ _ h => h) (Ex.move rfl) (ulS (ulS (ulC (ulC (ulC (ulC (ulC (ulC (ulC (ulC (ulC (ulC (ulC (ulC (ulC (ulC (ulC ulN))))))))))))))))) (by decide) ?_
  refine GH.takeG 11 (tj := 70) (v := (.agg #[(.int .i64 3), (.int .i64 1), (.slice (some ⟨xq20.2, 0, none⟩) 3 3)])) rfl rfl rfl (by kernel_rfl) (by kernel_rfl) (by kernel_rfl) (fun _ _ _ h => h) (Ex.loadA rfl T.ag43 T.sz43 (i := 3) rfl (vs := [(.int .i64 3), (.int .i64 1), (.slice (some ⟨xq20.2, 0, none⟩) 3 3)]) rfl rfl) (ulS (ulS (ulC (ulC (ulC (ulC (ulC (ulC (ulC (ulC (ulC (ulC (ulC (ulC (ulC (ulC (ulC ulN))))))))))))))))) (by decide) ?_
  refine GH.oneG 12 (tj := 70) rfl rfl rfl (by kernel_rfl) (Stp.buildSlice (cs := [(.int .u32 1056964608), (.int .u32 1069547520), (.int .u32 1065353216)]) (vs := [(0, (.int .u32 1056964608)), (1, (.int .u32 1069547520)), (2, (.int .u32 1065353216))]) Try.underlying41 T.zr63 T.sz63 rfl (by decide) (by decide) (by first | rfl | kernel_rfl) (by decide)) (fun _ => (ulS (ulS (ulS (ulC (ulC (ulC (ulC (ulC (ulC (ulC (ulC (ulC (ulC (ulC (ulC (ulC (ulC (ulC ulN))))))))))))))))))) (fun bq47 _ => ?_)
  refine GH.oneG 13 (tj := 70) rfl rfl rfl (by kernel_rfl) (Stp.callR (vs := [(.slice (some ⟨bq47, 0, none⟩) 3 3)]) rfl rfl T.own38 (by decide) (fun wc hw => k38_82 bq47 wc (Has.cons (hw.hasOf (i := 0) rfl) (Has.nil _)))) (fun _ => (ulS (ulS (ulS (ulC (ulC (ulC (ulC (ulC (ulC (ulC (ulC (ulC (ulC (ulC (ulC (ulC (ulC (ulC ulN))))))))))))))))))) (fun xq48 hq49 => ?_)
  refine GH.oneG 14 (tj := 70) rfl rfl rfl (by kernel_rfl) (Stp.callR (vs := [(.agg #[(.int .i64 3), (.int .i64 1), (.slice (some ⟨xq20.2, 0, none⟩) 3 3)]), (.agg #[(.int .i64 3), (.int .i64 1), (.slice (some ⟨bq47, 0, none⟩) 3 3)])]) rfl rfl T.own22 (by decide) (fun wc hw => k22_83 xq20.2 bq47 wc (Has.cons (hw.hasOf (i := 8) rfl) (Has.cons (hw.hasOf (i := 0) rfl) (Has.nil _))))) (fun _ => (ulS (ulS (ulS (ulC (ulC (ulC (ulC (ulC (ulC (ulC (ulC (ulC (ulC (ulC (ulC (ulC (ulC (ulC ulN))))))))))))))))))) (fun xq50 hq51 => ?_)
  refine GH.take 15 (v := (.bool true)) rfl (by kernel_rfl) (by kernel_rfl) (by kernel_rfl) (fun _ _ _ h => h) (Ex.pickT rfl rfl) (ulS (ulS (ulS (ulC (ulC (ulC (ulC (ulC (ulC (ulC (ulC (ulC (ulC (ulC (ulC (ulC (ulC (ulC ulN)))))))))))))))))) (by decide) ?_
  refine GH.take 16 (v := (.bool true)) rfl (by kernel_rfl) (by kernel_rfl) (by kernel_rfl) (fun _ _ _ h => h) (Ex.move rfl) (ulS (ulS (ulS (ulC (ulC (ulC (ulC (ulC (ulC (ulC (ulC (ulC (ulC (ulC (ulC (ulC (ulC (ulC ulN)))))))))))))))))) (by decide) ?_
  refine GH.takeG 17 (tj := 76) (v := (.agg #[(.int .i64 3), (.int .i64 1), (.slice (some ⟨xq20.1, 0, none⟩) 3 3)])) rfl rfl rfl (by kernel_rfl) (by kernel_rfl) (by kernel_rfl) (fun _ _ _ h => h) (Ex.loadA rfl T.ag43 T.sz43 (i := 2) rfl (vs := [(.int .i64 3), (.int .i64 1), (.slice (some ⟨xq20.1, 0, none⟩) 3 3)]) rfl rfl) (ulS (ulS (ulS (ulC (ulC (ulC (ulC (ulC (ulC (ulC (ulC (ulC (ulC (ulC (ulC (ulC (ulC (ulC ulN)))))))))))))))))) (by decide) ?_
  refine GH.oneG 18 (tj := 76) rfl rfl rfl (by kernel_rfl) (Stp.buildSlice (cs := [(.int .u32 0), (.int .u32 0), (.int .u32 0)]) (vs := [(0, (.int .u32 0)), (1, (.int .u32 0)), (2, (.int .u32 0))]) Try.underlying41 T.zr63 T.sz63 rfl (by decide) (by decide) (by first | rfl | kernel_rfl) (by decide)) (fun _ => (ulS (ulS (ulS (ulS (ulC (ulC (ulC (ulC (ulC (ulC (ulC (ulC (ulC (ulC (ulC (ulC (ulC (ulC (ulC ulN)))))))))))))))))))) (fun bq52 _ => ?_)
  refine GH.oneG 19 (tj := 76) rfl rfl rfl (by kernel_rfl) (Stp.callR (vs := [(.slice (some ⟨bq52, 0, none⟩) 3 3)]) rfl rfl T.own38 (by decide) (fun wc hw => k38_85 bq52 wc (Has.cons (hw.hasOf (i := 0) rfl) (Has.nil _)))) (fun _ => (ulS (ulS (ulS (ulS (ulC (ulC (ulC (ulC (ulC (ulC (ulC (ulC (ulC (ulC (ulC (ulC (ulC (ulC (ulC ulN)))))))))))))))))))) (fun xq53 hq54 => ?_)
  refine GH.oneG 20 (tj := 76) rfl rfl rfl (by kernel_rfl) (Stp.callR (vs := [(.agg #[(.int .i64 3), (.int .i64 1), (.slice (some ⟨xq20.1, 0, none⟩) 3 3)]), (.agg #[(.int .i64 3), (.int .i64 1), (.slice (some ⟨bq52, 0, none⟩) 3 3)])]) rfl rfl T.own22 (by decide) (fun wc hw => k22_86 xq20.1 bq52 wc (Has.cons (hw.hasOf (i := 8) rfl) (Has.cons (hw.hasOf (i := 0) rfl) (Has.nil _))))) (fun _ => (ulS (ulS (ulS (ulS (ulC (ulC (ulC (ulC (ulC (ulC (ulC (ulC (ulC (ulC (ulC (ulC (ulC (ulC (ulC ulN)))))))))))))))))))) (fun xq55 hq56 => ?_)
  refine GH.take 21 (v := (.bool true)) rfl (by kernel_rfl) (by kernel_rfl) (by kernel_rfl) (fun _ _ _ h => h) (Ex.pickT rfl rfl) (ulS (ulS (ulS (ulS (ulC (ulC (ulC (ulC (ulC (ulC (ulC (ulC (ulC (ulC (ulC (ulC (ulC (ulC (ulC ulN))))))))))))))))))) (by decide) ?_
  refine GH.done (by kernel_rfl) ?_
  refine GE.thenN ?_
  refine GE.tail rfl (Ex.wp (v := (.bool true)) (Ex.assign rfl) (by decide)) (fun _ _ => ?_)
  refine GE.thenN ?_
  refine GC.ret ?_
  refine GC.ret1 rfl (Rv.tmp rfl) (fun wN HN => ?_)
  exact HN.ret () trivial (by first | rfl | simp) (List.nil_sublist _) rfl

set_option maxRecDepth 100000 in
set_option maxHeartbeats 1000000 in
theorem bkmark (m i : Int) (w : World) :
    Calls Try.prog 39 #[(.int .i64 m), (.int .i64 i)] w (Ret w (fun _ : Unit => True) (fun _ => .int .i64 (mkI m i)) (fun _ => [])) := by
  refine enter (M := None) (L := []) (n := 13) (l := [(0, (.int .i64 m)), (1, (.int .i64 i))]) Try.func39 rfl rfl (Args.cons rfl (Args.cons rfl (Args.nil _))) (Hp.start _ _) ?_
  refine GC.seq ?_
  refine GC.region ?_
  refine GL.val (Ex.assign rfl) (by decide) ?_
  refine GL.nil ?_
  refine GE.thenN ?_
  refine GC.seq ?_
  refine GC.region ?_
  refine GL.val (Ex.move rfl) (by decide) ?_
  refine GL.val (v := (.int .i64 (IntKind.i64.wrap (m * 31)))) (Ex.mul rfl rfl (Z := IntKind.i64.wrap (m * 31)) rfl) (by decide) ?_
  refine GL.val (Ex.move rfl) (by decide) ?_
  refine GL.val (v := (.int .i64 (IntKind.i64.wrap (i * 7)))) (Ex.mul rfl rfl (Z := IntKind.i64.wrap (i * 7)) rfl) (by decide) ?_
  refine GL.val (v := (.int .i64 (IntKind.i64.wrap ((IntKind.i64.wrap (m * 31)) + (IntKind.i64.wrap (i * 7)))))) (Ex.add rfl rfl (Z := IntKind.i64.wrap ((IntKind.i64.wrap (m * 31)) + (IntKind.i64.wrap (i * 7)))) rfl) (by decide) ?_
  refine GL.val (v := (.int .i64 (IntKind.i64.wrap ((IntKind.i64.wrap ((IntKind.i64.wrap (m * 31)) + (IntKind.i64.wrap (i * 7)))) + 1)))) (Ex.add rfl rfl (Z := IntKind.i64.wrap ((IntKind.i64.wrap ((IntKind.i64.wrap (m * 31)) + (IntKind.i64.wrap (i * 7)))) + 1)) rfl) (by decide) ?_
  refine GL.val (v := (.int .i64 ((IntKind.i64.wrap ((IntKind.i64.wrap ((IntKind.i64.wrap (m * 31)) + (IntKind.i64.wrap (i * 7)))) + 1)).tmod 250))) (Ex.rem rfl rfl (Z := (IntKind.i64.wrap ((IntKind.i64.wrap ((IntKind.i64.wrap (m * 31)) + (IntKind.i64.wrap (i * 7)))) + 1)).tmod 250) (by decide) rfl) (by decide) ?_
  refine GL.val (v := (.int .i64 (IntKind.i64.wrap (((IntKind.i64.wrap ((IntKind.i64.wrap ((IntKind.i64.wrap (m * 31)) + (IntKind.i64.wrap (i * 7)))) + 1)).tmod 250) + 1)))) (Ex.add rfl rfl (Z := IntKind.i64.wrap (((IntKind.i64.wrap ((IntKind.i64.wrap ((IntKind.i64.wrap (m * 31)) + (IntKind.i64.wrap (i * 7)))) + 1)).tmod 250) + 1)) rfl) (by decide) ?_
  refine GL.val (Ex.assign rfl) (by decide) ?_
  refine GL.nil ?_
  refine GE.thenN ?_
  refine GC.ret ?_
  refine GC.ret1 rfl (Rv.tmp rfl) (fun wN HN => ?_)
  exact HN.ret () trivial rfl (List.nil_sublist _) rfl

set_option maxRecDepth 100000 in
set_option maxHeartbeats 1000000 in
theorem booki_s00 (w0 : World) (R : List Blk) (kb : Nat) (m : Int) (w : World) (hp0 : Hp None w0 (⟨kb, [(.slice none 0 0), (.slice none 0 0), (.slice none 0 0), (.slice none 0 0), (.slice none 0 0), (.slice none 0 0), (.slice none 0 0), (.slice none 0 0)], 31, true⟩ :: R) w) :
    Calls Try.prog 17 #[(.pointer (some ⟨kb, 0, none⟩)), (.slice none 0 0), (.int .i64 m)] w (Frm (σ := (Nat × Nat × List Value) × (Nat × Nat × List Value)) None w0 (fun x => ([(Value.slice none 0 0)] ++ x.2.2.2 : List Value).length = x.2.2.1 * 1 ∧ ([(Value.int .i64 m)] ++ x.1.2.2 : List Value).length = x.1.2.1 * 1) (fun x => .tuple #[]) (fun x => (⟨x.1.1, [(Value.int .i64 m)] ++ x.1.2.2, 3, true⟩ :: ⟨x.2.1, [(Value.slice none 0 0)] ++ x.2.2.2, 28, true⟩ :: ⟨kb, [(.slice none 0 0), (.slice none 0 0), (.slice none 0 0), (.slice (some ⟨x.2.1, 0, none⟩) 1 x.2.2.1), (.slice none 0 0), (.slice none 0 0), (.slice none 0 0), (.slice (some ⟨x.1.1, 0, none⟩) 1 x.1.2.1)], 31, true⟩ :: R))) := by
  refine enterF (w0 := w0) (M := None) (L := (⟨kb, [(.slice none 0 0), (.slice none 0 0), (.slice none 0 0), (.slice none 0 0), (.slice none 0 0), (.slice none 0 0), (.slice none 0 0), (.slice none 0 0)], 31, true⟩ :: R)) (n := 45) (l := [(0, (.pointer (some ⟨kb, 0, none⟩))), (1, (.slice none 0 0)), (2, (.int .i64 m))]) Try.func17 rfl rfl (Args.cons rfl (Args.cons rfl (Args.cons rfl (Args.nil _)))) hp0 ?_
  refine GC.seq ?_
  refine GC.region ?_
  refine GL.val (Ex.move rfl) (by decide) ?_
  refine GL.val (Ex.move rfl) (by decide) ?_
  refine GL.val (v := (.int .i64 0)) (Ex.cap rfl Try.underlying28) (by decide) ?_
  refine GL.val (v := (.slice none 0 0)) (Ex.sliceH (m := 0) rfl rfl Try.underlying28 T.sz3 rfl (Nat.le_refl _)) (by decide) ?_
  refine GL.val (Ex.assign rfl) (by decide) ?_
  refine GL.nil ?_
  refine GE.thenN ?_
  refine GC.seq ?_
  refine GC.seq ?_
  refine GC.region ?_
  refine GL.val (Ex.assign rfl) (by decide) ?_
  refine GL.nil ?_
  refine GE.thenN ?_
  refine GC.block ?_
  refine GC.unroll 1 ?_
  refine GE.round ?_
  refine GC.seq ?_
  refine GC.seq ?_
  refine GC.region ?_
  refine GL.val (Ex.move rfl) (by decide) ?_
  refine GL.val (Ex.move rfl) (by decide) ?_
  refine GL.val (v := (.int .i64 0)) (Ex.len rfl Try.underlying28) (by decide) ?_
  refine GL.val (v := (.bool false)) (Ex.cast (Ex.lss rfl rfl) rfl) (by decide) ?_
  refine GL.nil ?_
  refine GE.thenN ?_
  refine GC.cond rfl (fun hq1 => by cases hq1) (fun _ => ?_)
  refine GC.exit ?_
  refine GE.thenE ?_
  refine GE.thenE ?_
  refine GE.blockE ?_
  refine GE.thenN ?_
  refine GC.seq ?_
  refine GC.region ?_
  refine GL.val (Ex.move rfl) (by decide) ?_
  refine GL.val (Ex.move rfl) (by decide) ?_
  refine GL.val (v := (.pointer (some ⟨kb, 0, none⟩))) (Ex.nilCheck rfl) (by decide) ?_
  refine GL.val (v := (.pointer (some ⟨kb, 3, none⟩))) (Ex.cast (Ex.fieldAddr rfl Try.underlying31 rfl T.sz27 (by decide)) rfl) (by decide) ?_
  refine GL.val (Ex.load rfl T.ag27 (i := 0) rfl rfl) (by decide) ?_
  refine GL.val (Ex.move rfl) (by decide) ?_
  refine GL.step (Stp.buildSlice (cs := [(.slice none 0 0)]) (vs := [(0, (.slice none 0 0))]) Try.underlying27 T.zr28 T.sz28 rfl (by decide) (by decide) (by first | rfl | kernel_rfl) (by decide)) (fun bq2 _ => ?_)
  refine GL.step (Stp.appendNil (vs := [(.slice none 0 0)]) rfl rfl Try.underlying27 T.sz28 T.zr28 rfl T.by28 (fun wz hz => hz.rdOf (i := 0) rfl 0) rfl (by decide) (by decide) (by decide) (by decide)) (fun xq3 hq4 => ?_)
  refine GL.val (v := (.pointer (some ⟨kb, 0, none⟩))) (Ex.nilCheck rfl) (by decide) ?_
  refine GL.val (v := (.pointer (some ⟨kb, 3, none⟩))) (Ex.cast (Ex.fieldAddr rfl Try.underlying31 rfl T.sz27 (by decide)) rfl) (by decide) ?_
  refine GL.step (Stp.st2 (cs' := [(.slice none 0 0), (.slice none 0 0), (.slice none 0 0), (.slice (some ⟨xq3.1, 0, none⟩) 1 xq3.2.1), (.slice none 0 0), (.slice none 0 0), (.slice none 0 0), (.slice none 0 0)]) rfl rfl rfl T.sz27 rfl rfl rfl) (fun _ _ => ?_)
  refine GL.nil ?_
  refine GE.thenN ?_
  refine GC.draw (⟨xq3.1, [(.slice none 0 0)] ++ xq3.2.2, 28, true⟩ :: ⟨bq2, [(.slice none 0 0)], 28, true⟩ :: R) T.mixed (fuel := 13) rfl rfl ?_
  refine GH.take 0 (v := (.pointer (some ⟨kb, 0, none⟩))) rfl (by kernel_rfl) (by kernel_rfl) (by kernel_rfl) (fun _ _ _ h => h) (Ex.move rfl) (ulC (ulC (ulS ulR))) (by decide) ?_
  refine GH.take 1 (v := (.pointer (some ⟨kb, 0, none⟩))) rfl (by kernel_rfl) (by kernel_rfl) (by kernel_rfl) (fun _ _ _ h => h) (Ex.move rfl) (ulC (ulC (ulS ulR))) (by decide) ?_
  refine GH.take 6 (v := (.int .i64 m)) rfl (by kernel_rfl) (by kernel_rfl) (by kernel_rfl) (fun _ _ _ h => h) (Ex.move rfl) (ulC (ulC (ulS ulR))) (by decide) ?_
  refine GH.many (rs := [2, 7, 9]) (by kernel_rfl) (by simp) ?_
  refine GHs.cons rfl (Ex.wp (v := (.pointer (some ⟨kb, 0, none⟩))) (Ex.nilCheck rfl) (by decide)) (fun _ => (ulC (ulC (ulS ulR)))) (fun _ _ => ?_) ?_
  · refine GH.take 3 (v := (.pointer (some ⟨kb, 4, none⟩))) rfl (by kernel_rfl) (by kernel_rfl) (by kernel_rfl) (fun _ _ _ h => h) (Ex.cast (Ex.fieldAddr rfl Try.underlying31 rfl T.sz29 (by decide)) rfl) (ulC (ulC (ulS ulR))) (by decide) ?_
    refine GH.take 4 (v := (.pointer (some ⟨kb, 7, none⟩))) rfl (by kernel_rfl) (by kernel_rfl) (by kernel_rfl) (fun _ _ _ h => h) (Ex.cast (Ex.indexArr (m := 4) rfl rfl Try.underlying29 T.sz28 (by decide) (by decide)) rfl) (ulC (ulC (ulS ulR))) (by decide) ?_
    refine GH.many (rs := [5, 7, 9]) (by kernel_rfl) (by simp) ?_
    refine GHs.cons rfl (Ex.wp (v := (.slice none 0 0)) (Ex.load rfl T.ag28 (i := 2) rfl rfl) (by decide)) (fun _ => (ulC (ulC (ulS ulR)))) (fun _ _ => ?_) ?_
    · refine GH.many (rs := [7, 9]) (by kernel_rfl) (by simp) ?_
      refine GHs.cons rfl (Stp.buildSlice (cs := [(.int .i64 m)]) (vs := [(0, (.int .i64 m))]) Try.underlying28 T.zr3 T.sz3 rfl (by decide) (by decide) (by first | rfl | kernel_rfl) (by decide)) (fun _ => (ulS (ulC (ulC (ulS ulR))))) (fun bq5 _ => ?_) ?_
      · refine GH.many (rs := [8, 9]) (by kernel_rfl) (by simp) ?_
        refine GHs.cons rfl (Stp.appendNil (vs := [(.int .i64 m)]) rfl rfl Try.underlying28 T.sz3 T.zr3 rfl T.by3 (fun wz hz => hz.rdOf (i := 0) rfl 0) rfl (by decide) (by decide) (by decide) (by decide)) (fun _ => (ulS (ulS (ulC (ulC (ulS ulR)))))) (fun xq6 hq7 => ?_) ?_
        · refine GH.one 9 rfl (by kernel_rfl) (Ex.wp (v := (.pointer (some ⟨kb, 0, none⟩))) (Ex.nilCheck rfl) (by decide)) (fun _ => (ulS (ulS (ulC (ulC (ulS ulR)))))) (fun _ _ => ?_)
          refine GH.take 10 (v := (.pointer (some ⟨kb, 4, none⟩))) rfl (by kernel_rfl) (by kernel_rfl) (by kernel_rfl) (fun _ _ _ h => h) (Ex.cast (Ex.fieldAddr rfl Try.underlying31 rfl T.sz29 (by decide)) rfl) (ulS (ulS (ulC (ulC (ulS ulR))))) (by decide) ?_
          refine GH.take 11 (v := (.pointer (some ⟨kb, 7, none⟩))) rfl (by kernel_rfl) (by kernel_rfl) (by kernel_rfl) (fun _ _ _ h => h) (Ex.cast (Ex.indexArr (m := 4) rfl rfl Try.underlying29 T.sz28 (by decide) (by decide)) rfl) (ulS (ulS (ulC (ulC (ulS ulR))))) (by decide) ?_
          refine GH.one 12 rfl (by kernel_rfl) (Stp.st4 (cs' := [(.slice none 0 0), (.slice none 0 0), (.slice none 0 0), (.slice (some ⟨xq3.1, 0, none⟩) 1 xq3.2.1), (.slice none 0 0), (.slice none 0 0), (.slice none 0 0), (.slice (some ⟨xq6.1, 0, none⟩) 1 xq6.2.1)]) rfl rfl rfl T.sz28 rfl rfl rfl) (fun _ => (ulS (ulS (ulC (ulC (ulS ulR)))))) (fun _ _ => ?_)
          refine GH.done (by kernel_rfl) ?_
          refine GC.end0 rfl (fun wN HN => ?_)
          exact HN.frm (xq6, xq3) ⟨hq4.1, hq7.1⟩ (by rfl) (ulC (ulS (ulC (ulS (ulC ulR)))))
        refine GHs.cons rfl (Ex.wp (v := (.pointer (some ⟨kb, 0, none⟩))) (Ex.nilCheck rfl) (by decide)) (fun _ => (ulS (ulC (ulC (ulS ulR))))) (fun _ _ => ?_) ?_
        · refine GH.take 10 (v := (.pointer (some ⟨kb, 4, none⟩))) rfl (by kernel_rfl) (by kernel_rfl) (by kernel_rfl) (fun _ _ _ h => h) (Ex.cast (Ex.fieldAddr rfl Try.underlying31 rfl T.sz29 (by decide)) rfl) (ulS (ulC (ulC (ulS ulR)))) (by decide) ?_
          refine GH.one 8 rfl (by kernel_rfl) (Stp.appendNil (vs := [(.int .i64 m)]) rfl rfl Try.underlying28 T.sz3 T.zr3 rfl T.by3 (fun wz hz => hz.rdOf (i := 0) rfl 0) rfl (by decide) (by decide) (by decide) (by decide)) (fun _ => (ulS (ulS (ulC (ulC (ulS ulR)))))) (fun xq8 hq9 => ?_)
          refine GH.take 11 (v := (.pointer (some ⟨kb, 7, none⟩))) rfl (by kernel_rfl) (by kernel_rfl) (by kernel_rfl) (fun _ _ _ h => h) (Ex.cast (Ex.indexArr (m := 4) rfl rfl Try.underlying29 T.sz28 (by decide) (by decide)) rfl) (ulS (ulS (ulC (ulC (ulS ulR))))) (by decide) ?_
          refine GH.one 12 rfl (by kernel_rfl) (Stp.st4 (cs' := [(.slice none 0 0), (.slice none 0 0), (.slice none 0 0), (.slice (some ⟨xq3.1, 0, none⟩) 1 xq3.2.1), (.slice none 0 0), (.slice none 0 0), (.slice none 0 0), (.slice (some ⟨xq8.1, 0, none⟩) 1 xq8.2.1)]) rfl rfl rfl T.sz28 rfl rfl rfl) (fun _ => (ulS (ulS (ulC (ulC (ulS ulR)))))) (fun _ _ => ?_)
          refine GH.done (by kernel_rfl) ?_
          refine GC.end0 rfl (fun wN HN => ?_)
          exact HN.frm (xq8, xq3) ⟨hq4.1, hq9.1⟩ (by rfl) (ulC (ulS (ulC (ulS (ulC ulR)))))
        exact GHs.nil
      refine GHs.cons rfl (Ex.wp (v := (.pointer (some ⟨kb, 0, none⟩))) (Ex.nilCheck rfl) (by decide)) (fun _ => (ulC (ulC (ulS ulR)))) (fun _ _ => ?_) ?_
      · refine GH.take 10 (v := (.pointer (some ⟨kb, 4, none⟩))) rfl (by kernel_rfl) (by kernel_rfl) (by kernel_rfl) (fun _ _ _ h => h) (Ex.cast (Ex.fieldAddr rfl Try.underlying31 rfl T.sz29 (by decide)) rfl) (ulC (ulC (ulS ulR))) (by decide) ?_
        refine GH.one 7 rfl (by kernel_rfl) (Stp.buildSlice (cs := [(.int .i64 m)]) (vs := [(0, (.int .i64 m))]) Try.underlying28 T.zr3 T.sz3 rfl (by decide) (by decide) (by first | rfl | kernel_rfl) (by decide)) (fun _ => (ulS (ulC (ulC (ulS ulR))))) (fun bq10 _ => ?_)
        refine GH.one 8 rfl (by kernel_rfl) (Stp.appendNil (vs := [(.int .i64 m)]) rfl rfl Try.underlying28 T.sz3 T.zr3 rfl T.by3 (fun wz hz => hz.rdOf (i := 0) rfl 0) rfl (by decide) (by decide) (by decide) (by decide)) (fun _ => (ulS (ulS (ulC (ulC (ulS ulR)))))) (fun xq11 hq12 => ?_)
        refine GH.take 11 (v := (.pointer (some ⟨kb, 7, none⟩))) rfl (by kernel_rfl) (by kernel_rfl) (by kernel_rfl) (fun _ _ _ h => h) (Ex.cast (Ex.indexArr (m := 4) rfl rfl Try.underlying29 T.sz28 (by decide) (by decide)) rfl) (ulS (ulS (ulC (ulC (ulS ulR))))) (by decide) ?_
        refine GH.one 12 rfl (by kernel_rfl) (Stp.st4 (cs' := [(.slice none 0 0), (.slice none 0 0), (.slice none 0 0), (.slice (some ⟨xq3.1, 0, none⟩) 1 xq3.2.1), (.slice none 0 0), (.slice none 0 0), (.slice none 0 0), (.slice (some ⟨xq11.1, 0, none⟩) 1 xq11.2.1)]) rfl rfl rfl T.sz28 rfl rfl rfl) (fun _ => (ulS (ulS (ulC (ulC (ulS ulR)))))) (fun _ _ => ?_)
        refine GH.done (by kernel_rfl) ?_
        refine GC.end0 rfl (fun wN HN => ?_)
        exact HN.frm (xq11, xq3) ⟨hq4.1, hq12.1⟩ (by rfl) (ulC (ulS (ulC (ulS (ulC ulR)))))
      exact GHs.nil
    refine GHs.cons rfl (Stp.buildSlice (cs := [(.int .i64 m)]) (vs := [(0, (.int .i64 m))]) Try.underlying28 T.zr3 T.sz3 rfl (by decide) (by decide) (by first | rfl | kernel_rfl) (by decide)) (fun _ => (ulS (ulC (ulC (ulS ulR))))) (fun bq13 _ => ?_) ?_
    · refine GH.many (rs := [5, 9]) (by kernel_rfl) (by simp) ?_
      refine GHs.cons rfl (Ex.wp (v := (.slice none 0 0)) (Ex.load rfl T.ag28 (i := 3) rfl rfl) (by decide)) (fun _ => (ulS (ulC (ulC (ulS ulR))))) (fun _ _ => ?_) ?_
      · refine GH.many (rs := [8, 9]) (by kernel_rfl) (by simp) ?_
        refine GHs.cons rfl (Stp.appendNil (vs := [(.int .i64 m)]) rfl rfl Try.underlying28 T.sz3 T.zr3 rfl T.by3 (fun wz hz => hz.rdOf (i := 0) rfl 0) rfl (by decide) (by decide) (by decide) (by decide)) (fun _ => (ulS (ulS (ulC (ulC (ulS ulR)))))) (fun xq14 hq15 => ?_) ?_
        · refine GH.one 9 rfl (by kernel_rfl) (Ex.wp (v := (.pointer (some ⟨kb, 0, none⟩))) (Ex.nilCheck rfl) (by decide)) (fun _ => (ulS (ulS (ulC (ulC (ulS ulR)))))) (fun _ _ => ?_)
          refine GH.take 10 (v := (.pointer (some ⟨kb, 4, none⟩))) rfl (by kernel_rfl) (by kernel_rfl) (by kernel_rfl) (fun _ _ _ h => h) (Ex.cast (Ex.fieldAddr rfl Try.underlying31 rfl T.sz29 (by decide)) rfl) (ulS (ulS (ulC (ulC (ulS ulR))))) (by decide) ?_
          refine GH.take 11 (v := (.pointer (some ⟨kb, 7, none⟩))) rfl (by kernel_rfl) (by kernel_rfl) (by kernel_rfl) (fun _ _ _ h => h) (Ex.cast (Ex.indexArr (m := 4) rfl rfl Try.underlying29 T.sz28 (by decide) (by decide)) rfl) (ulS (ulS (ulC (ulC (ulS ulR))))) (by decide) ?_
          refine GH.one 12 rfl (by kernel_rfl) (Stp.st4 (cs' := [(.slice none 0 0), (.slice none 0 0), (.slice none 0 0), (.slice (some ⟨xq3.1, 0, none⟩) 1 xq3.2.1), (.slice none 0 0), (.slice none 0 0), (.slice none 0 0), (.slice (some ⟨xq14.1, 0, none⟩) 1 xq14.2.1)]) rfl rfl rfl T.sz28 rfl rfl rfl) (fun _ => (ulS (ulS (ulC (ulC (ulS ulR)))))) (fun _ _ => ?_)
          refine GH.done (by kernel_rfl) ?_
          refine GC.end0 rfl (fun wN HN => ?_)
          exact HN.frm (xq14, xq3) ⟨hq4.1, hq15.1⟩ (by rfl) (ulC (ulS (ulC (ulS (ulC ulR)))))
        refine GHs.cons rfl (Ex.wp (v := (.pointer (some ⟨kb, 0, none⟩))) (Ex.nilCheck rfl) (by decide)) (fun _ => (ulS (ulC (ulC (ulS ulR))))) (fun _ _ => ?_) ?_
        · refine GH.take 10 (v := (.pointer (some ⟨kb, 4, none⟩))) rfl (by kernel_rfl) (by kernel_rfl) (by kernel_rfl) (fun _ _ _ h => h) (Ex.cast (Ex.fieldAddr rfl Try.underlying31 rfl T.sz29 (by decide)) rfl) (ulS (ulC (ulC (ulS ulR)))) (by decide) ?_
          refine GH.one 8 rfl (by kernel_rfl) (Stp.appendNil (vs := [(.int .i64 m)]) rfl rfl Try.underlying28 T.sz3 T.zr3 rfl T.by3 (fun wz hz => hz.rdOf (i := 0) rfl 0) rfl (by decide) (by decide) (by decide) (by decide)) (fun _ => (ulS (ulS (ulC (ulC (ulS ulR)))))) (fun xq16 hq17 => ?_)
          refine GH.take 11 (v := (.pointer (some ⟨kb, 7, none⟩))) rfl (by kernel_rfl) (by kernel_rfl) (by kernel_rfl) (fun _ _ _ h => h) (Ex.cast (Ex.indexArr (m := 4) rfl rfl Try.underlying29 T.sz28 (by decide) (by decide)) rfl) (ulS (ulS (ulC (ulC (ulS ulR))))) (by decide) ?_
          refine GH.one 12 rfl (by kernel_rfl) (Stp.st4 (cs' := [(.slice none 0 0), (.slice none 0 0), (.slice none 0 0), (.slice (some ⟨xq3.1, 0, none⟩) 1 xq3.2.1), (.slice none 0 0), (.slice none 0 0), (.slice none 0 0), (.slice (some ⟨xq16.1, 0, none⟩) 1 xq16.2.1)]) rfl rfl rfl T.sz28 rfl rfl rfl) (fun _ => (ulS (ulS (ulC (ulC (ulS ulR)))))) (fun _ _ => ?_)
          refine GH.done (by kernel_rfl) ?_
          refine GC.end0 rfl (fun wN HN => ?_)
          exact HN.frm (xq16, xq3) ⟨hq4.1, hq17.1⟩ (by rfl) (ulC (ulS (ulC (ulS (ulC ulR)))))
        exact GHs.nil
      refine GHs.cons rfl (Ex.wp (v := (.pointer (some ⟨kb, 0, none⟩))) (Ex.nilCheck rfl) (by decide)) (fun _ => (ulS (ulC (ulC (ulS ulR))))) (fun _ _ => ?_) ?_
      · refine GH.take 10 (v := (.pointer (some ⟨kb, 4, none⟩))) rfl (by kernel_rfl) (by kernel_rfl) (by kernel_rfl) (fun _ _ _ h => h) (Ex.cast (Ex.fieldAddr rfl Try.underlying31 rfl T.sz29 (by decide)) rfl) (ulS (ulC (ulC (ulS ulR)))) (by decide) ?_
        refine GH.one 5 rfl (by kernel_rfl) (Ex.wp (v := (.slice none 0 0)) (Ex.load rfl T.ag28 (i := 3) rfl rfl) (by decide)) (fun _ => (ulS (ulC (ulC (ulS ulR))))) (fun _ _ => ?_)
        refine GH.one 8 rfl (by kernel_rfl) (Stp.appendNil (vs := [(.int .i64 m)]) rfl rfl Try.underlying28 T.sz3 T.zr3 rfl T.by3 (fun wz hz => hz.rdOf (i := 0) rfl 0) rfl (by decide) (by decide) (by decide) (by decide)) (fun _ => (ulS (ulS (ulC (ulC (ulS ulR)))))) (fun xq18 hq19 => ?_)
        refine GH.take 11 (v := (.pointer (some ⟨kb, 7, none⟩))) rfl (by kernel_rfl) (by kernel_rfl) (by kernel_rfl) (fun _ _ _ h => h) (Ex.cast (Ex.indexArr (m := 4) rfl rfl Try.underlying29 T.sz28 (by decide) (by decide)) rfl) (ulS (ulS (ulC (ulC (ulS ulR))))) (by decide) ?_
        refine GH.one 12 rfl (by kernel_rfl) (Stp.st4 (cs' := [(.slice none 0 0), (.slice none 0 0), (.slice none 0 0), (.slice (some ⟨xq3.1, 0, none⟩) 1 xq3.2.1), (.slice none 0 0), (.slice none 0 0), (.slice none 0 0), (.slice (some ⟨xq18.1, 0, none⟩) 1 xq18.2.1)]) rfl rfl rfl T.sz28 rfl rfl rfl) (fun _ => (ulS (ulS (ulC (ulC (ulS ulR)))))) (fun _ _ => ?_)
        refine GH.done (by kernel_rfl) ?_
        refine GC.end0 rfl (fun wN HN => ?_)
        exact HN.frm (xq18, xq3) ⟨hq4.1, hq19.1⟩ (by rfl) (ulC (ulS (ulC (ulS (ulC ulR)))))
      exact GHs.nil
    refine GHs.cons rfl (Ex.wp (v := (.pointer (some ⟨kb, 0, none⟩))) (Ex.nilCheck rfl) (by decide)) (fun _ => (ulC (ulC (ulS ulR)))) (fun _ _ => ?_) ?_
    · refine GH.take 10 (v := (.pointer (some ⟨kb, 4, none⟩))) rfl (by kernel_rfl) (by kernel_rfl) (by kernel_rfl) (fun _ _ _ h => h) (Ex.cast (Ex.fieldAddr rfl Try.underlying31 rfl T.sz29 (by decide)) rfl) (ulC (ulC (ulS ulR))) (by decide) ?_
      refine GH.many (rs := [5, 7]) (by kernel_rfl) (by simp) ?_
      refine GHs.cons rfl (Ex.wp (v := (.slice none 0 0)) (Ex.load rfl T.ag28 (i := 2) rfl rfl) (by decide)) (fun _ => (ulC (ulC (ulS ulR)))) (fun _ _ => ?_) ?_
      · refine GH.one 7 rfl (by kernel_rfl) (Stp.buildSlice (cs := [(.int .i64 m)]) (vs := [(0, (.int .i64 m))]) Try.underlying28 T.zr3 T.sz3 rfl (by decide) (by decide) (by first | rfl | kernel_rfl) (by decide)) (fun _ => (ulS (ulC (ulC (ulS ulR))))) (fun bq20 _ => ?_)
        refine GH.one 8 rfl (by kernel_rfl) (Stp.appendNil (vs := [(.int .i64 m)]) rfl rfl Try.underlying28 T.sz3 T.zr3 rfl T.by3 (fun wz hz => hz.rdOf (i := 0) rfl 0) rfl (by decide) (by decide) (by decide) (by decide)) (fun _ => (ulS (ulS (ulC (ulC (ulS ulR)))))) (fun xq21 hq22 => ?_)
        refine GH.take 11 (v := (.pointer (some ⟨kb, 7, none⟩))) rfl (by kernel_rfl) (by kernel_rfl) (by kernel_rfl) (fun _ _ _ h => h) (Ex.cast (Ex.indexArr (m := 4) rfl rfl Try.underlying29 T.sz28 (by decide) (by decide)) rfl) (ulS (ulS (ulC (ulC (ulS ulR))))) (by decide) ?_
        refine GH.one 12 rfl (by kernel_rfl) (Stp.st4 (cs' := [(.slice none 0 0), (.slice none 0 0), (.slice none 0 0), (.slice (some ⟨xq3.1, 0, none⟩) 1 xq3.2.1), (.slice none 0 0), (.slice none 0 0), (.slice none 0 0), (.slice (some ⟨xq21.1, 0, none⟩) 1 xq21.2.1)]) rfl rfl rfl T.sz28 rfl rfl rfl) (fun _ => (ulS (ulS (ulC (ulC (ulS ulR)))))) (fun _ _ => ?_)
        refine GH.done (by kernel_rfl) ?_
        refine GC.end0 rfl (fun wN HN => ?_)
        exact HN.frm (xq21, xq3) ⟨hq4.1, hq22.1⟩ (by rfl) (ulC (ulS (ulC (ulS (ulC ulR)))))
      refine GHs.cons rfl (Stp.buildSlice (cs := [(.int .i64 m)]) (vs := [(0, (.int .i64 m))]) Try.underlying28 T.zr3 T.sz3 rfl (by decide) (by decide) (by first | rfl | kernel_rfl) (by decide)) (fun _ => (ulS (ulC (ulC (ulS ulR))))) (fun bq23 _ => ?_) ?_
      · refine GH.one 5 rfl (by kernel_rfl) (Ex.wp (v := (.slice none 0 0)) (Ex.load rfl T.ag28 (i := 3) rfl rfl) (by decide)) (fun _ => (ulS (ulC (ulC (ulS ulR))))) (fun _ _ => ?_)
        refine GH.one 8 rfl (by kernel_rfl) (Stp.appendNil (vs := [(.int .i64 m)]) rfl rfl Try.underlying28 T.sz3 T.zr3 rfl T.by3 (fun wz hz => hz.rdOf (i := 0) rfl 0) rfl (by decide) (by decide) (by decide) (by decide)) (fun _ => (ulS (ulS (ulC (ulC (ulS ulR)))))) (fun xq24 hq25 => ?_)
        refine GH.take 11 (v := (.pointer (some ⟨kb, 7, none⟩))) rfl (by kernel_rfl) (by kernel_rfl) (by kernel_rfl) (fun _ _ _ h => h) (Ex.cast (Ex.indexArr (m := 4) rfl rfl Try.underlying29 T.sz28 (by decide) (by decide)) rfl) (ulS (ulS (ulC (ulC (ulS ulR))))) (by decide) ?_
        refine GH.one 12 rfl (by kernel_rfl) (Stp.st4 (cs' := [(.slice none 0 0), (.slice none 0 0), (.slice none 0 0), (.slice (some ⟨xq3.1, 0, none⟩) 1 xq3.2.1), (.slice none 0 0), (.slice none 0 0), (.slice none 0 0), (.slice (some ⟨xq24.1, 0, none⟩) 1 xq24.2.1)]) rfl rfl rfl T.sz28 rfl rfl rfl) (fun _ => (ulS (ulS (ulC (ulC (ulS ulR)))))) (fun _ _ => ?_)
        refine GH.done (by kernel_rfl) ?_
        refine GC.end0 rfl (fun wN HN => ?_)
        exact HN.frm (xq24, xq3) ⟨hq4.1, hq25.1⟩ (by rfl) (ulC (ulS (ulC (ulS (ulC ulR)))))
      exact GHs.nil
    exact GHs.nil
  refine GHs.cons rfl (Stp.buildSlice (cs := [(.int .i64 m)]) (vs := [(0, (.int .i64 m))]) Try.underlying28 T.zr3 T.sz3 rfl (by decide) (by decide) (by first | rfl | kernel_rfl) (by decide)) (fun _ => (ulS (ulC (ulC (ulS ulR))))) (fun bq26 _ => ?_) ?_
  · refine GH.many (rs := [2, 9]) (by kernel_rfl) (by simp) ?_
    refine GHs.cons rfl (Ex.wp (v := (.pointer (some ⟨kb, 0, none⟩))) (Ex.nilCheck rfl) (by decide)) (fun _ => (ulS (ulC (ulC (ulS ulR))))) (fun _ _ => ?_) ?_
    · refine GH.take 3 (v := (.pointer (some ⟨kb, 4, none⟩))) rfl (by kernel_rfl) (by kernel_rfl) (by kernel_rfl) (fun _ _ _ h => h) (Ex.cast (Ex.fieldAddr rfl Try.underlying31 rfl T.sz29 (by decide)) rfl) (ulS (ulC (ulC (ulS ulR)))) (by decide) ?_
      refine GH.take 4 (v := (.pointer (some ⟨kb, 7, none⟩))) rfl (by kernel_rfl) (by kernel_rfl) (by kernel_rfl) (fun _ _ _ h => h) (Ex.cast (Ex.indexArr (m := 4) rfl rfl Try.underlying29 T.sz28 (by decide) (by decide)) rfl) (ulS (ulC (ulC (ulS ulR)))) (by decide) ?_
      refine GH.many (rs := [5, 9]) (by kernel_rfl) (by simp) ?_
      refine GHs.cons rfl (Ex.wp (v := (.slice none 0 0)) (Ex.load rfl T.ag28 (i := 3) rfl rfl) (by decide)) (fun _ => (ulS (ulC (ulC (ulS ulR))))) (fun _ _ => ?_) ?_
      · refine GH.many (rs := [8, 9]) (by kernel_rfl) (by simp) ?_
        refine GHs.cons rfl (Stp.appendNil (vs := [(.int .i64 m)]) rfl rfl Try.underlying28 T.sz3 T.zr3 rfl T.by3 (fun wz hz => hz.rdOf (i := 0) rfl 0) rfl (by decide) (by decide) (by decide) (by decide)) (fun _ => (ulS (ulS (ulC (ulC (ulS ulR)))))) (fun xq27 hq28 => ?_) ?_
        · refine GH.one 9 rfl (by kernel_rfl) (Ex.wp (v := (.pointer (some ⟨kb, 0, none⟩))) (Ex.nilCheck rfl) (by decide)) (fun _ => (ulS (ulS (ulC (ulC (ulS ulR)))))) (fun _ _ => ?_)
          refine GH.take 10 (v := (.pointer (some ⟨kb, 4, none⟩))) rfl (by kernel_rfl) (by kernel_rfl) (by kernel_rfl) (fun _ _ _ h => h) (Ex.cast (Ex.fieldAddr rfl Try.underlying31 rfl T.sz29 (by decide)) rfl) (ulS (ulS (ulC (ulC (ulS ulR))))) (by decide) ?_
          refine GH.take 11 (v := (.pointer (some ⟨kb, 7, none⟩))) rfl (by kernel_rfl) (by kernel_rfl) (by kernel_rfl) (fun _ _ _ h => h) (Ex.cast (Ex.indexArr (m := 4) rfl rfl Try.underlying29 T.sz28 (by decide) (by decide)) rfl) (ulS (ulS (ulC (ulC (ulS ulR))))) (by decide) ?_
          refine GH.one 12 rfl (by kernel_rfl) (Stp.st4 (cs' := [(.slice none 0 0), (.slice none 0 0), (.slice none 0 0), (.slice (some ⟨xq3.1, 0, none⟩) 1 xq3.2.1), (.slice none 0 0), (.slice none 0 0), (.slice none 0 0), (.slice (some ⟨xq27.1, 0, none⟩) 1 xq27.2.1)]) rfl rfl rfl T.sz28 rfl rfl rfl) (fun _ => (ulS (ulS (ulC (ulC (ulS ulR)))))) (fun _ _ => ?_)
          refine GH.done (by kernel_rfl) ?_
          refine GC.end0 rfl (fun wN HN => ?_)
          exact HN.frm (xq27, xq3) ⟨hq4.1, hq28.1⟩ (by rfl) (ulC (ulS (ulC (ulS (ulC ulR)))))
        refine GHs.cons rfl (Ex.wp (v := (.pointer (some ⟨kb, 0, none⟩))) (Ex.nilCheck rfl) (by decide)) (fun _ => (ulS (ulC (ulC (ulS ulR))))) (fun _ _ => ?_) ?_
        · refine GH.take 10 (v := (.pointer (some ⟨kb, 4, none⟩))) rfl (by kernel_rfl) (by kernel_rfl) (by kernel_rfl) (fun _ _ _ h => h) (Ex.cast (Ex.fieldAddr rfl Try.underlying31 rfl T.sz29 (by decide)) rfl) (ulS (ulC (ulC (ulS ulR)))) (by decide) ?_
          refine GH.one 8 rfl (by kernel_rfl) (Stp.appendNil (vs := [(.int .i64 m)]) rfl rfl Try.underlying28 T.sz3 T.zr3 rfl T.by3 (fun wz hz => hz.rdOf (i := 0) rfl 0) rfl (by decide) (by decide) (by decide) (by decide)) (fun _ => (ulS (ulS (ulC (ulC (ulS ulR)))))) (fun xq29 hq30 => ?_)
          refine GH.take 11 (v := (.pointer (some ⟨kb, 7, none⟩))) rfl (by kernel_rfl) (by kernel_rfl) (by kernel_rfl) (fun _ _ _ h => h) (Ex.cast (Ex.indexArr (m := 4) rfl rfl Try.underlying29 T.sz28 (by decide) (by decide)) rfl) (ulS (ulS (ulC (ulC (ulS ulR))))) (by decide) ?_
          refine GH.one 12 rfl (by kernel_rfl) (Stp.st4 (cs' := [(.slice none 0 0), (.slice none 0 0), (.slice none 0 0), (.slice (some ⟨xq3.1, 0, none⟩) 1 xq3.2.1), (.slice none 0 0), (.slice none 0 0), (.slice none 0 0), (.slice (some ⟨xq29.1, 0, none⟩) 1 xq29.2.1)]) rfl rfl rfl T.sz28 rfl rfl rfl) (fun _ => (ulS (ulS (ulC (ulC (ulS ulR)))))) (fun _ _ => ?_)
          refine GH.done (by kernel_rfl) ?_
          refine GC.end0 rfl (fun wN HN => ?_)
          exact HN.frm (xq29, xq3) ⟨hq4.1, hq30.1⟩ (by rfl) (ulC (ulS (ulC (ulS (ulC ulR)))))
        exact GHs.nil
      refine GHs.cons rfl (Ex.wp (v := (.pointer (some ⟨kb, 0, none⟩))) (Ex.nilCheck rfl) (by decide)) (fun _ => (ulS (ulC (ulC (ulS ulR))))) (fun _ _ => ?_) ?_
      · refine GH.take 10 (v := (.pointer (some ⟨kb, 4, none⟩))) rfl (by kernel_rfl) (by kernel_rfl) (by kernel_rfl) (fun _ _ _ h => h) (Ex.cast (Ex.fieldAddr rfl Try.underlying31 rfl T.sz29 (by decide)) rfl) (ulS (ulC (ulC (ulS ulR)))) (by decide) ?_
        refine GH.one 5 rfl (by kernel_rfl) (Ex.wp (v := (.slice none 0 0)) (Ex.load rfl T.ag28 (i := 3) rfl rfl) (by decide)) (fun _ => (ulS (ulC (ulC (ulS ulR))))) (fun _ _ => ?_)
        refine GH.one 8 rfl (by kernel_rfl) (Stp.appendNil (vs := [(.int .i64 m)]) rfl rfl Try.underlying28 T.sz3 T.zr3 rfl T.by3 (fun wz hz => hz.rdOf (i := 0) rfl 0) rfl (by decide) (by decide) (by decide) (by decide)) (fun _ => (ulS (ulS (ulC (ulC (ulS ulR)))))) (fun xq31 hq32 => ?_)
        refine GH.take 11 (v := (.pointer (some ⟨kb, 7, none⟩))) rfl (by kernel_rfl) (by kernel_rfl) (by kernel_rfl) (fun _ _ _ h => h) (Ex.cast (Ex.indexArr (m := 4) rfl rfl Try.underlying29 T.sz28 (by decide) (by decide)) rfl) (ulS (ulS (ulC (ulC (ulS ulR))))) (by decide) ?_
        refine GH.one 12 rfl (by kernel_rfl) (Stp.st4 (cs' := [(.slice none 0 0), (.slice none 0 0), (.slice none 0 0), (.slice (some ⟨xq3.1, 0, none⟩) 1 xq3.2.1), (.slice none 0 0), (.slice none 0 0), (.slice none 0 0), (.slice (some ⟨xq31.1, 0, none⟩) 1 xq31.2.1)]) rfl rfl rfl T.sz28 rfl rfl rfl) (fun _ => (ulS (ulS (ulC (ulC (ulS ulR)))))) (fun _ _ => ?_)
        refine GH.done (by kernel_rfl) ?_
        refine GC.end0 rfl (fun wN HN => ?_)
        exact HN.frm (xq31, xq3) ⟨hq4.1, hq32.1⟩ (by rfl) (ulC (ulS (ulC (ulS (ulC ulR)))))
      exact GHs.nil
    refine GHs.cons rfl (Ex.wp (v := (.pointer (some ⟨kb, 0, none⟩))) (Ex.nilCheck rfl) (by decide)) (fun _ => (ulS (ulC (ulC (ulS ulR))))) (fun _ _ => ?_) ?_
    · refine GH.take 10 (v := (.pointer (some ⟨kb, 4, none⟩))) rfl (by kernel_rfl) (by kernel_rfl) (by kernel_rfl) (fun _ _ _ h => h) (Ex.cast (Ex.fieldAddr rfl Try.underlying31 rfl T.sz29 (by decide)) rfl) (ulS (ulC (ulC (ulS ulR)))) (by decide) ?_
      refine GH.one 2 rfl (by kernel_rfl) (Ex.wp (v := (.pointer (some ⟨kb, 0, none⟩))) (Ex.nilCheck rfl) (by decide)) (fun _ => (ulS (ulC (ulC (ulS ulR))))) (fun _ _ => ?_)
      refine GH.take 3 (v := (.pointer (some ⟨kb, 4, none⟩))) rfl (by kernel_rfl) (by kernel_rfl) (by kernel_rfl) (fun _ _ _ h => h) (Ex.cast (Ex.fieldAddr rfl Try.underlying31 rfl T.sz29 (by decide)) rfl) (ulS (ulC (ulC (ulS ulR)))) (by decide) ?_
      refine GH.take 4 (v := (.pointer (some ⟨kb, 7, none⟩))) rfl (by kernel_rfl) (by kernel_rfl) (by kernel_rfl) (fun _ _ _ h => h) (Ex.cast (Ex.indexArr (m := 4) rfl rfl Try.underlying29 T.sz28 (by decide) (by decide)) rfl) (ulS (ulC (ulC (ulS ulR)))) (by decide) ?_
      refine GH.one 5 rfl (by kernel_rfl) (Ex.wp (v := (.slice none 0 0)) (Ex.load rfl T.ag28 (i := 3) rfl rfl) (by decide)) (fun _ => (ulS (ulC (ulC (ulS ulR))))) (fun _ _ => ?_)
      refine GH.one 8 rfl (by kernel_rfl) (Stp.appendNil (vs := [(.int .i64 m)]) rfl rfl Try.underlying28 T.sz3 T.zr3 rfl T.by3 (fun wz hz => hz.rdOf (i := 0) rfl 0) rfl (by decide) (by decide) (by decide) (by decide)) (fun _ => (ulS (ulS (ulC (ulC (ulS ulR)))))) (fun xq33 hq34 => ?_)
      refine GH.take 11 (v := (.pointer (some ⟨kb, 7, none⟩))) rfl (by kernel_rfl) (by kernel_rfl) (by kernel_rfl) (fun _ _ _ h => h) (Ex.cast (Ex.indexArr (m := 4) rfl rfl Try.underlying29 T.sz28 (by decide) (by decide)) rfl) (ulS (ulS (ulC (ulC (ulS ulR))))) (by decide) ?_
      refine GH.one 12 rfl (by kernel_rfl) (Stp.st4 (cs' := [(.slice none 0 0), (.slice none 0 0), (.slice none 0 0), (.slice (some ⟨xq3.1, 0, none⟩) 1 xq3.2.1), (.slice none 0 0), (.slice none 0 0), (.slice none 0 0), (.slice (some ⟨xq33.1, 0, none⟩) 1 xq33.2.1)]) rfl rfl rfl T.sz28 rfl rfl rfl) (fun _ => (ulS (ulS (ulC (ulC (ulS ulR)))))) (fun _ _ => ?_)
      refine GH.done (by kernel_rfl) ?_
      refine GC.end0 rfl (fun wN HN => ?_)
      exact HN.frm (xq33, xq3) ⟨hq4.1, hq34.1⟩ (by rfl) (ulC (ulS (ulC (ulS (ulC ulR)))))
    exact GHs.nil
  refine GHs.cons rfl (Ex.wp (v := (.pointer (some ⟨kb, 0, none⟩))) (Ex.nilCheck rfl) (by decide)) (fun _ => (ulC (ulC (ulS ulR)))) (fun _ _ => ?_) ?_
  · refine GH.take 10 (v := (.pointer (some ⟨kb, 4, none⟩))) rfl (by kernel_rfl) (by kernel_rfl) (by kernel_rfl) (fun _ _ _ h => h) (Ex.cast (Ex.fieldAddr rfl Try.underlying31 rfl T.sz29 (by decide)) rfl) (ulC (ulC (ulS ulR))) (by decide) ?_
    refine GH.many (rs := [2, 7]) (by kernel_rfl) (by simp) ?_
    refine GHs.cons rfl (Ex.wp (v := (.pointer (some ⟨kb, 0, none⟩))) (Ex.nilCheck rfl) (by decide)) (fun _ => (ulC (ulC (ulS ulR)))) (fun _ _ => ?_) ?_
    · refine GH.take 3 (v := (.pointer (some ⟨kb, 4, none⟩))) rfl (by kernel_rfl) (by kernel_rfl) (by kernel_rfl) (fun _ _ _ h => h) (Ex.cast (Ex.fieldAddr rfl Try.underlying31 rfl T.sz29 (by decide)) rfl) (ulC (ulC (ulS ulR))) (by decide) ?_
      refine GH.take 4 (v := (.pointer (some ⟨kb, 7, none⟩))) rfl (by kernel_rfl) (by kernel_rfl) (by kernel_rfl) (fun _ _ _ h => h) (Ex.cast (Ex.indexArr (m := 4) rfl rfl Try.underlying29 T.sz28 (by decide) (by decide)) rfl) (ulC (ulC (ulS ulR))) (by decide) ?_
      refine GH.many (rs := [5, 7]) (by kernel_rfl) (by simp) ?_
      refine GHs.cons rfl (Ex.wp (v := (.slice none 0 0)) (Ex.load rfl T.ag28 (i := 2) rfl rfl) (by decide)) (fun _ => (ulC (ulC (ulS ulR)))) (fun _ _ => ?_) ?_
      · refine GH.one 7 rfl (by kernel_rfl) (Stp.buildSlice (cs := [(.int .i64 m)]) (vs := [(0, (.int .i64 m))]) Try.underlying28 T.zr3 T.sz3 rfl (by decide) (by decide) (by first | rfl | kernel_rfl) (by decide)) (fun _ => (ulS (ulC (ulC (ulS ulR))))) (fun bq35 _ => ?_)
        refine GH.one 8 rfl (by kernel_rfl) (Stp.appendNil (vs := [(.int .i64 m)]) rfl rfl Try.underlying28 T.sz3 T.zr3 rfl T.by3 (fun wz hz => hz.rdOf (i := 0) rfl 0) rfl (by decide) (by decide) (by decide) (by decide)) (fun _ => (ulS (ulS (ulC (ulC (ulS ulR)))))) (fun xq36 hq37 => ?_)
        refine GH.take 11 (v := (.pointer (some ⟨kb, 7, none⟩))) rfl (by kernel_rfl) (by kernel_rfl) (by kernel_rfl) (fun _ _ _ h => h) (Ex.cast (Ex.indexArr (m := 4) rfl rfl Try.underlying29 T.sz28 (by decide) (by decide)) rfl) (ulS (ulS (ulC (ulC (ulS ulR))))) (by decide) ?_
        refine GH.one 12 rfl (by kernel_rfl) (Stp.st4 (cs' := [(.slice none 0 0), (.slice none 0 0), (.slice none 0 0), (.slice (some ⟨xq3.1, 0, none⟩) 1 xq3.2.1), (.slice none 0 0), (.slice none 0 0), (.slice none 0 0), (.slice (some ⟨xq36.1, 0, none⟩) 1 xq36.2.1)]) rfl rfl rfl T.sz28 rfl rfl rfl) (fun _ => (ulS (ulS (ulC (ulC (ulS ulR)))))) (fun _ _ => ?_)
        refine GH.done (by kernel_rfl) ?_
        refine GC.end0 rfl (fun wN HN => ?_)
        exact HN.frm (xq36, xq3) ⟨hq4.1, hq37.1⟩ (by rfl) (ulC (ulS (ulC (ulS (ulC ulR)))))
      refine GHs.cons rfl (Stp.buildSlice (cs := [(.int .i64 m)]) (vs := [(0, (.int .i64 m))]) Try.underlying28 T.zr3 T.sz3 rfl (by decide) (by decide) (by first | rfl | kernel_rfl) (by decide)) (fun _ => (ulS (ulC (ulC (ulS ulR))))) (fun bq38 _ => ?_) ?_
      · refine GH.one 5 rfl (by kernel_rfl) (Ex.wp (v := (.slice none 0 0)) (Ex.load rfl T.ag28 (i := 3) rfl rfl) (by decide)) (fun _ => (ulS (ulC (ulC (ulS ulR))))) (fun _ _ => ?_)
        refine GH.one 8 rfl (by kernel_rfl) (Stp.appendNil (vs := [(.int .i64 m)]) rfl rfl Try.underlying28 T.sz3 T.zr3 rfl T.by3 (fun wz hz => hz.rdOf (i := 0) rfl 0) rfl (by decide) (by decide) (by decide) (by decide)) (fun _ => (ulS (ulS (ulC (ulC (ulS ulR)))))) (fun xq39 hq40 => ?_)
        refine GH.take 11 (v := (.pointer (some ⟨kb, 7, none⟩))) rfl (by kernel_rfl) (by kernel_rfl) (by kernel_rfl) (fun _ _ _ h => h) (Ex.cast (Ex.indexArr (m := 4) rfl rfl Try.underlying29 T.sz28 (by decide) (by decide)) rfl) (ulS (ulS (ulC (ulC (ulS ulR))))) (by decide) ?_
        refine GH.one 12 rfl (by kernel_rfl) (Stp.st4 (cs' := [(.slice none 0 0), (.slice none 0 0), (.slice none 0 0), (.slice (some ⟨xq3.1, 0, none⟩) 1 xq3.2.1), (.slice none 0 0), (.slice none 0 0), (.slice none 0 0), (.slice (some ⟨xq39.1, 0, none⟩) 1 xq39.2.1)]) rfl rfl rfl T.sz28 rfl rfl rfl) (fun _ => (ulS (ulS (ulC (ulC (ulS ulR)))))) (fun _ _ => ?_)
        refine GH.done (by kernel_rfl) ?_
        refine GC.end0 rfl (fun wN HN => ?_)
        exact HN.frm (xq39, xq3) ⟨hq4.1, hq40.1⟩ (by rfl) (ulC (ulS (ulC (ulS (ulC ulR)))))
      exact GHs.nil
    refine GHs.cons rfl (Stp.buildSlice (cs := [(.int .i64 m)]) (vs := [(0, (.int .i64 m))]) Try.underlying28 T.zr3 T.sz3 rfl (by decide) (by decide) (by first | rfl | kernel_rfl) (by decide)) (fun _ => (ulS (ulC (ulC (ulS ulR))))) (fun bq41 _ => ?_) ?_
    · refine GH.one 2 rfl (by kernel_rfl) (Ex.wp (v := (.pointer (some ⟨kb, 0, none⟩))) (Ex.nilCheck rfl) (by decide)) (fun _ => (ulS (ulC (ulC (ulS ulR))))) (fun _ _ => ?_)
      refine GH.take 3 (v := (.pointer (some ⟨kb, 4, none⟩))) rfl (by kernel_rfl) (by kernel_rfl) (by kernel_rfl) (fun _ _ _ h => h) (Ex.cast (Ex.fieldAddr rfl Try.underlying31 rfl T.sz29 (by decide)) rfl) (ulS (ulC (ulC (ulS ulR)))) (by decide) ?_
      refine GH.take 4 (v := (.pointer (some ⟨kb, 7, none⟩))) rfl (by kernel_rfl) (by kernel_rfl) (by kernel_rfl) (fun _ _ _ h => h) (Ex.cast (Ex.indexArr (m := 4) rfl rfl Try.underlying29 T.sz28 (by decide) (by decide)) rfl) (ulS (ulC (ulC (ulS ulR)))) (by decide) ?_
      refine GH.one 5 rfl (by kernel_rfl) (Ex.wp (v := (.slice none 0 0)) (Ex.load rfl T.ag28 (i := 3) rfl rfl) (by decide)) (fun _ => (ulS (ulC (ulC (ulS ulR))))) (fun _ _ => ?_)
      refine GH.one 8 rfl (by kernel_rfl) (Stp.appendNil (vs := [(.int .i64 m)]) rfl rfl Try.underlying28 T.sz3 T.zr3 rfl T.by3 (fun wz hz => hz.rdOf (i := 0) rfl 0) rfl (by decide) (by decide) (by decide) (by decide)) (fun _ => (ulS (ulS (ulC (ulC (ulS ulR)))))) (fun xq42 hq43 => ?_)
      refine GH.take 11 (v := (.pointer (some ⟨kb, 7, none⟩))) rfl (by kernel_rfl) (by kernel_rfl) (by kernel_rfl) (fun _ _ _ h => h) (Ex.cast (Ex.indexArr (m := 4) rfl rfl Try.underlying29 T.sz28 (by decide) (by decide)) rfl) (ulS (ulS (ulC (ulC (ulS ulR))))) (by decide) ?_
      refine GH.one 12 rfl (by kernel_rfl) (Stp.st4 (cs' := [(.slice none 0 0), (.slice none 0 0), (.slice none 0 0), (.slice (some ⟨xq3.1, 0, none⟩) 1 xq3.2.1), (.slice none 0 0), (.slice none 0 0), (.slice none 0 0), (.slice (some ⟨xq42.1, 0, none⟩) 1 xq42.2.1)]) rfl rfl rfl T.sz28 rfl rfl rfl) (fun _ => (ulS (ulS (ulC (ulC (ulS ulR)))))) (fun _ _ => ?_)
      refine GH.done (by kernel_rfl) ?_
      refine GC.end0 rfl (fun wN HN => ?_)
      exact HN.frm (xq42, xq3) ⟨hq4.1, hq43.1⟩ (by rfl) (ulC (ulS (ulC (ulS (ulC ulR)))))
    exact GHs.nil
  exact GHs.nil

set_option maxRecDepth 100000 in
set_option maxHeartbeats 1000000 in
theorem booki_s01 (w0 : World) (R : List Blk) (kb : Nat) (m : Int) (b n cap : Nat) (cs : List Value) (w : World) (hcap : cs.length = cap) (hb : cap ≤ 9223372036854775806) (hp0 : Hp None w0 (⟨kb, [(.slice none 0 0), (.slice none 0 0), (.slice none 0 0), (.slice none 0 0), (.slice none 0 0), (.slice none 0 0), (.slice none 0 0), (.slice none 0 0)], 31, true⟩ :: ⟨b, cs, 3, true⟩ :: R) w) :
    Calls Try.prog 17 #[(.pointer (some ⟨kb, 0, none⟩)), (.slice (some ⟨b, 0, none⟩) n cap), (.int .i64 m)] w (Frm (σ := (Nat × Nat × List Value) × (Nat × Nat × List Value)) None w0 (fun x => ([(Value.slice (some ⟨b, 0, none⟩) cap cap)] ++ x.2.2.2 : List Value).length = x.2.2.1 * 1 ∧ ([(Value.int .i64 m)] ++ x.1.2.2 : List Value).length = x.1.2.1 * 1) (fun x => .tuple #[]) (fun x => (⟨x.1.1, [(Value.int .i64 m)] ++ x.1.2.2, 3, true⟩ :: ⟨x.2.1, [(Value.slice (some ⟨b, 0, none⟩) cap cap)] ++ x.2.2.2, 28, true⟩ :: ⟨kb, [(.slice none 0 0), (.slice none 0 0), (.slice none 0 0), (.slice (some ⟨x.2.1, 0, none⟩) 1 x.2.2.1), (.slice none 0 0), (.slice none 0 0), (.slice none 0 0), (.slice (some ⟨x.1.1, 0, none⟩) 1 x.1.2.1)], 31, true⟩ :: ⟨b, mkvI m cap, 3, true⟩ :: R))) := by
  refine enterF (w0 := w0) (M := None) (L := (⟨kb, [(.slice none 0 0), (.slice none 0 0), (.slice none 0 0), (.slice none 0 0), (.slice none 0 0), (.slice none 0 0), (.slice none 0 0), (.slice none 0 0)], 31, true⟩ :: ⟨b, cs, 3, true⟩ :: R)) (n := 45) (l := [(0, (.pointer (some ⟨kb, 0, none⟩))), (1, (.slice (some ⟨b, 0, none⟩) n cap)), (2, (.int .i64 m))]) Try.func17 rfl rfl (Args.cons rfl (Args.cons rfl (Args.cons rfl (Args.nil _)))) hp0 ?_
  refine GC.seq ?_
  refine GC.region ?_
  refine GL.val (Ex.move rfl) (by decide) ?_
  refine GL.val (Ex.move rfl) (by decide) ?_
  refine GL.val (v := (.int .i64 ((cap : Int)))) (Ex.cap rfl Try.underlying28) (by decide) ?_
  refine GL.val (v := (.slice (some ⟨b, 0, none⟩) cap cap)) (Ex.sliceH (m := cap) rfl rfl Try.underlying28 T.sz3 rfl (Nat.le_refl _)) (by decide) ?_
  refine GL.val (Ex.assign rfl) (by decide) ?_
  refine GL.nil ?_
  refine GE.thenN ?_
  refine GC.seq ?_
  refine GC.seq ?_
  rw [show cs = mkCI m cs 0 from (mkCI_zero m cs).symm]
  refine GC.region ?_
  refine GL.val (Ex.assign rfl) (by decide) ?_
  refine GL.nil ?_
  refine GE.thenN ?_
  refine GC.block ?_
  refine GC.loop (σ := Nat) (fun k => k ≤ cap) (fun k => [(0, (.pointer (some ⟨kb, 0, none⟩))), (1, (.slice (some ⟨b, 0, none⟩) cap cap)), (2, (.int .i64 m)), (6, (.int .i64 (((k : Nat) : Int))))]) (fun k => (⟨kb, [(.slice none 0 0), (.slice none 0 0), (.slice none 0 0), (.slice none 0 0), (.slice none 0 0), (.slice none 0 0), (.slice none 0 0), (.slice none 0 0)], 31, true⟩ :: ⟨b, mkCI m cs k, 3, true⟩ :: R)) (fun k => cap - k) (0) (Nat.zero_le _) ((sub_cons rfl ((sub_cons rfl ((sub_cons rfl ((sub_cons rfl ((sub_nil _)))))))))) (ulC (ulC ulR)) (fun k hp => ?_)
  refine GC.seq ?_
  refine GC.seq ?_
  refine GC.region ?_
  refine GL.val (Ex.move rfl) (by decide) ?_
  refine GL.val (Ex.move rfl) (by decide) ?_
  refine GL.val (v := (.int .i64 ((cap : Int)))) (Ex.len rfl Try.underlying28) (by decide) ?_
  refine GL.val (v := (.bool (decide ((((k : Nat) : Int)) < ((cap : Int)))))) (Ex.lss rfl rfl) (by decide) ?_
  refine GL.nil ?_
  refine GE.thenN ?_
  refine GC.cond rfl (fun hq1 => ?_) (fun hq1 => ?_)
  · replace hq1 := of_decide_eq_true hq1
    refine GC.skip ?_
    refine GE.thenN ?_
    refine GC.seq ?_
    refine GC.block ?_
    refine GC.region ?_
    refine GL.val (Ex.move rfl) (by decide) ?_
    refine GL.val (Ex.move rfl) (by decide) ?_
    refine GL.val (Ex.move rfl) (by decide) ?_
    refine GL.val (Ex.move rfl) (by decide) ?_
    refine GL.step (Stp.callR (vs := [(.int .i64 m), (.int .i64 (((k : Nat) : Int)))]) rfl rfl T.own39 (by decide) (fun wc hw => bkmark m (((k : Nat) : Int)) wc)) (fun xq2 hq3 => ?_)
    refine GL.val (v := (.pointer (some ⟨b, k, none⟩))) (Ex.cast (Ex.indexAddr rfl rfl Try.underlying28 T.sz3 (by omega) (by omega)) (by simp)) (by decide) ?_
    refine GL.step (Stp.storeL (i := 1) (cs := mkCI m cs k) (vs := [.int .i64 (mkI m ((k : Nat) : Int))]) (o := k) (L1 := (⟨kb, [(.slice none 0 0), (.slice none 0 0), (.slice none 0 0), (.slice none 0 0), (.slice none 0 0), (.slice none 0 0), (.slice none 0 0), (.slice none 0 0)], 31, true⟩ :: ⟨b, mkCI m cs (k + 1), 3, true⟩ :: R)) rfl rfl rfl T.sz3 rfl (Nat.ble_eq_true_of_le (by rw [mkCI_len _ _ _ (by omega)]; simp; omega)) rfl (by rw [mkCI_store (by omega)]; rfl)) (fun _ _ => ?_)
    refine GL.nil ?_
    refine GE.blockN ?_
    refine GE.thenN ?_
    refine GC.region ?_
    refine GL.val (Ex.move rfl) (by decide) ?_
    refine GL.val (v := (.int .i64 (((k + 1 : Nat) : Int)))) (Ex.add rfl rfl (Z := ((k + 1 : Nat) : Int)) (by rw [w64 (by omega)]; rfl)) (by decide) ?_
    refine GL.val (Ex.assign rfl) (by decide) ?_
    refine GL.nil ?_
    refine GE.thenN ?_
    exact Head.mk (k + 1) (by omega) (by omega) ((sub_cons rfl ((sub_cons rfl ((sub_cons rfl ((sub_cons rfl ((sub_nil _)))))))))) (ulC (ulC ulR))
  · replace hq1 := of_decide_eq_false hq1
    refine GC.exit ?_
    refine GE.thenE ?_
    refine GE.thenE ?_
    refine GE.blockE ?_
    refine GE.thenN ?_
    refine GC.seq ?_
    rw [mkCI_full m cs k (by omega), show k = cap from by omega]
    refine GC.region ?_
    refine GL.val (Ex.move rfl) (by decide) ?_
    refine GL.val (Ex.move rfl) (by decide) ?_
    refine GL.val (v := (.pointer (some ⟨kb, 0, none⟩))) (Ex.nilCheck rfl) (by decide) ?_
    refine GL.val (v := (.pointer (some ⟨kb, 3, none⟩))) (Ex.cast (Ex.fieldAddr rfl Try.underlying31 rfl T.sz27 (by decide)) rfl) (by decide) ?_
    refine GL.val (Ex.load rfl T.ag27 (i := 0) rfl rfl) (by decide) ?_
    refine GL.val (Ex.move rfl) (by decide) ?_
    refine GL.step (Stp.buildSlice (cs := [(.slice (some ⟨b, 0, none⟩) cap cap)]) (vs := [(0, (.slice (some ⟨b, 0, none⟩) cap cap))]) Try.underlying27 T.zr28 T.sz28 rfl (by decide) (by decide) (by first | rfl | kernel_rfl) (by decide)) (fun bq4 _ => ?_)
    refine GL.step (Stp.appendNil (vs := [(.slice (some ⟨b, 0, none⟩) cap cap)]) rfl rfl Try.underlying27 T.sz28 T.zr28 rfl T.by28 (fun wz hz => hz.rdOf (i := 0) rfl 0) rfl (by decide) (by decide) (by decide) (by decide)) (fun xq5 hq6 => ?_)
    refine GL.val (v := (.pointer (some ⟨kb, 0, none⟩))) (Ex.nilCheck rfl) (by decide) ?_
    refine GL.val (v := (.pointer (some ⟨kb, 3, none⟩))) (Ex.cast (Ex.fieldAddr rfl Try.underlying31 rfl T.sz27 (by decide)) rfl) (by decide) ?_
    refine GL.step (Stp.st2 (cs' := [(.slice none 0 0), (.slice none 0 0), (.slice none 0 0), (.slice (some ⟨xq5.1, 0, none⟩) 1 xq5.2.1), (.slice none 0 0), (.slice none 0 0), (.slice none 0 0), (.slice none 0 0)]) rfl rfl rfl T.sz27 rfl rfl rfl) (fun _ _ => ?_)
    refine GL.nil ?_
    refine GE.thenN ?_
    refine GC.draw (⟨xq5.1, [(.slice (some ⟨b, 0, none⟩) cap cap)] ++ xq5.2.2, 28, true⟩ :: ⟨bq4, [(.slice (some ⟨b, 0, none⟩) cap cap)], 28, true⟩ :: ⟨b, mkvI m cap, 3, true⟩ :: R) T.mixed (fuel := 13) rfl rfl ?_
    refine GH.take 0 (v := (.pointer (some ⟨kb, 0, none⟩))) rfl (by kernel_rfl) (by kernel_rfl) (by kernel_rfl) (fun _ _ _ h => h) (Ex.move rfl) (ulC (ulC (ulS (ulC ulR)))) (by decide) ?_
    refine GH.take 1 (v := (.pointer (some ⟨kb, 0, none⟩))) rfl (by kernel_rfl) (by kernel_rfl) (by kernel_rfl) (fun _ _ _ h => h) (Ex.move rfl) (ulC (ulC (ulS (ulC ulR)))) (by decide) ?_
    refine GH.take 6 (v := (.int .i64 m)) rfl (by kernel_rfl) (by kernel_rfl) (by kernel_rfl) (fun _ _ _ h => h) (Ex.move rfl) (ulC (ulC (ulS (ulC ulR)))) (by decide) ?_
    refine GH.many (rs := [2, 7, 9]) (by kernel_rfl) (by simp) ?_
    refine GHs.cons rfl (Ex.wp (v := (.pointer (some ⟨kb, 0, none⟩))) (Ex.nilCheck rfl) (by decide)) (fun _ => (ulC (ulC (ulS (ulC ulR))))) (fun _ _ => ?_) ?_
    · refine GH.take 3 (v := (.pointer (some ⟨kb, 4, none⟩))) rfl (by kernel_rfl) (by kernel_rfl) (by kernel_rfl) (fun _ _ _ h => h) (Ex.cast (Ex.fieldAddr rfl Try.underlying31 rfl T.sz29 (by decide)) rfl) (ulC (ulC (ulS (ulC ulR)))) (by decide) ?_
      refine GH.take 4 (v := (.pointer (some ⟨kb, 7, none⟩))) rfl (by kernel_rfl) (by kernel_rfl) (by kernel_rfl) (fun _ _ _ h => h) (Ex.cast (Ex.indexArr (m := 4) rfl rfl Try.underlying29 T.sz28 (by decide) (by decide)) rfl) (ulC (ulC (ulS (ulC ulR)))) (by decide) ?_
      refine GH.many (rs := [5, 7, 9]) (by kernel_rfl) (by simp) ?_
      refine GHs.cons rfl (Ex.wp (v := (.slice none 0 0)) (Ex.load rfl T.ag28 (i := 2) rfl rfl) (by decide)) (fun _ => (ulC (ulC (ulS (ulC ulR))))) (fun _ _ => ?_) ?_
      · refine GH.many (rs := [7, 9]) (by kernel_rfl) (by simp) ?_
        refine GHs.cons rfl (Stp.buildSlice (cs := [(.int .i64 m)]) (vs := [(0, (.int .i64 m))]) Try.underlying28 T.zr3 T.sz3 rfl (by decide) (by decide) (by first | rfl | kernel_rfl) (by decide)) (fun _ => (ulS (ulC (ulC (ulS (ulC ulR)))))) (fun bq7 _ => ?_) ?_
        · refine GH.many (rs := [8, 9]) (by kernel_rfl) (by simp) ?_
          refine GHs.cons rfl (Stp.appendNil (vs := [(.int .i64 m)]) rfl rfl Try.underlying28 T.sz3 T.zr3 rfl T.by3 (fun wz hz => hz.rdOf (i := 0) rfl 0) rfl (by decide) (by decide) (by decide) (by decide)) (fun _ => (ulS (ulS (ulC (ulC (ulS (ulC ulR))))))) (fun xq8 hq9 => ?_) ?_
          · refine GH.one 9 rfl (by kernel_rfl) (Ex.wp (v := (.pointer (some ⟨kb, 0, none⟩))) (Ex.nilCheck rfl) (by decide)) (fun _ => (ulS (ulS (ulC (ulC (ulS (ulC ulR))))))) (fun _ _ => ?_)
            refine GH.take 10 (v := (.pointer (some ⟨kb, 4, none⟩))) rfl (by kernel_rfl) (by kernel_rfl) (by kernel_rfl) (fun _ _ _ h => h) (Ex.cast (Ex.fieldAddr rfl Try.underlying31 rfl T.sz29 (by decide)) rfl) (ulS (ulS (ulC (ulC (ulS (ulC ulR)))))) (by decide) ?_
            refine GH.take 11 (v := (.pointer (some ⟨kb, 7, none⟩))) rfl (by kernel_rfl) (by kernel_rfl) (by kernel_rfl) (fun _ _ _ h => h) (Ex.cast (Ex.indexArr (m := 4) rfl rfl Try.underlying29 T.sz28 (by decide) (by decide)) rfl) (ulS (ulS (ulC (ulC (ulS (ulC ulR)))))) (by decide) ?_
            refine GH.one 12 rfl (by kernel_rfl) (Stp.st4 (cs' := [(.slice none 0 0), (.slice none 0 0), (.slice none 0 0), (.slice (some ⟨xq5.1, 0, none⟩) 1 xq5.2.1), (.slice none 0 0), (.slice none 0 0), (.slice none 0 0), (.slice (some ⟨xq8.1, 0, none⟩) 1 xq8.2.1)]) rfl rfl rfl T.sz28 rfl rfl rfl) (fun _ => (ulS (ulS (ulC (ulC (ulS (ulC ulR))))))) (fun _ _ => ?_)
            refine GH.done (by kernel_rfl) ?_
            refine GC.end0 rfl (fun wN HN => ?_)
            exact HN.frm (xq8, xq5) ⟨hq6.1, hq9.1⟩ (by rfl) (ulC (ulS (ulC (ulS (ulC (ulC ulR))))))
          refine GHs.cons rfl (Ex.wp (v := (.pointer (some ⟨kb, 0, none⟩))) (Ex.nilCheck rfl) (by decide)) (fun _ => (ulS (ulC (ulC (ulS (ulC ulR)))))) (fun _ _ => ?_) ?_
          · refine GH.take 10 (v := (.pointer (some ⟨kb, 4, none⟩))) rfl (by kernel_rfl) (by kernel_rfl) (by kernel_rfl) (fun _ _ _ h => h) (Ex.cast (Ex.fieldAddr rfl Try.underlying31 rfl T.sz29 (by decide)) rfl) (ulS (ulC (ulC (ulS (ulC ulR))))) (by decide) ?_
            refine GH.one 8 rfl (by kernel_rfl) (Stp.appendNil (vs := [(.int .i64 m)]) rfl rfl Try.underlying28 T.sz3 T.zr3 rfl T.by3 (fun wz hz => hz.rdOf (i := 0) rfl 0) rfl (by decide) (by decide) (by decide) (by decide)) (fun _ => (ulS (ulS (ulC (ulC (ulS (ulC ulR))))))) (fun xq10 hq11 => ?_)
            refine GH.take 11 (v := (.pointer (some ⟨kb, 7, none⟩))) rfl (by kernel_rfl) (by kernel_rfl) (by kernel_rfl) (fun _ _ _ h => h) (Ex.cast (Ex.indexArr (m := 4) rfl rfl Try.underlying29 T.sz28 (by decide) (by decide)) rfl) (ulS (ulS (ulC (ulC (ulS (ulC ulR)))))) (by decide) ?_
            refine GH.one 12 rfl (by kernel_rfl) (Stp.st4 (cs' := [(.slice none 0 0), (.slice none 0 0), (.slice none 0 0), (.slice (some ⟨xq5.1, 0, none⟩) 1 xq5.2.1), (.slice none 0 0), (.slice none 0 0), (.slice none 0 0), (.slice (some ⟨xq10.1, 0, none⟩) 1 xq10.2.1)]) rfl rfl rfl T.sz28 rfl rfl rfl) (fun _ => (ulS (ulS (ulC (ulC (ulS (ulC ulR))))))) (fun _ _ => ?_)
            refine GH.done (by kernel_rfl) ?_
            refine GC.end0 rfl (fun wN HN => ?_)
            exact HN.frm (xq10, xq5) ⟨hq6.1, hq11.1⟩ (by rfl) (ulC (ulS (ulC (ulS (ulC (ulC ulR))))))
          exact GHs.nil
        refine GHs.cons rfl (Ex.wp (v := (.pointer (some ⟨kb, 0, none⟩))) (Ex.nilCheck rfl) (by decide)) (fun _ => (ulC (ulC (ulS (ulC ulR))))) (fun _ _ => ?_) ?_
        · refine GH.take 10 (v := (.pointer (some ⟨kb, 4, none⟩))) rfl (by kernel_rfl) (by kernel_rfl) (by kernel_rfl) (fun _ _ _ h => h) (Ex.cast (Ex.fieldAddr rfl Try.underlying31 rfl T.sz29 (by decide)) rfl) (ulC (ulC (ulS (ulC ulR)))) (by decide) ?_
          refine GH.one 7 rfl (by kernel_rfl) (Stp.buildSlice (cs := [(.int .i64 m)]) (vs := [(0, (.int .i64 m))]) Try.underlying28 T.zr3 T.sz3 rfl (by decide) (by decide) (by first | rfl | kernel_rfl) (by decide)) (fun _ => (ulS (ulC (ulC (ulS (ulC ulR)))))) (fun bq12 _ => ?_)
          refine GH.one 8 rfl (by kernel_rfl) (Stp.appendNil (vs := [(.int .i64 m)]) rfl rfl Try.underlying28 T.sz3 T.zr3 rfl T.by3 (fun wz hz => hz.rdOf (i := 0) rfl 0) rfl (by decide) (by decide) (by decide) (by decide)) (fun _ => (ulS (ulS (ulC (ulC (ulS (ulC ulR))))))) (fun xq13 hq14 => ?_)
          refine GH.take 11 (v := (.pointer (some ⟨kb, 7, none⟩))) rfl (by kernel_rfl) (by kernel_rfl) (by kernel_rfl) (fun _ _ _ h => h) (Ex.cast (Ex.indexArr (m := 4) rfl rfl Try.underlying29 T.sz28 (by decide) (by decide)) rfl) (ulS (ulS (ulC (ulC (ulS (ulC ulR)))))) (by decide) ?_
          refine GH.one 12 rfl (by kernel_rfl) (Stp.st4 (cs' := [(.slice none 0 0), (.slice none 0 0), (.slice none 0 0), (.slice (some ⟨xq5.1, 0, none⟩) 1 xq5.2.1), (.slice none 0 0), (.slice none 0 0), (.slice none 0 0), (.slice (some ⟨xq13.1, 0, none⟩) 1 xq13.2.1)]) rfl rfl rfl T.sz28 rfl rfl rfl) (fun _ => (ulS (ulS (ulC (ulC (ulS (ulC ulR))))))) (fun _ _ => ?_)
          refine GH.done (by kernel_rfl) ?_
          refine GC.end0 rfl (fun wN HN => ?_)
          exact HN.frm (xq13, xq5) ⟨hq6.1, hq14.1⟩ (by rfl) (ulC (ulS (ulC (ulS (ulC (ulC ulR))))))
        exact GHs.nil
      refine GHs.cons rfl (Stp.buildSlice (cs := [(.int .i64 m)]) (vs := [(0, (.int .i64 m))]) Try.underlying28 T.zr3 T.sz3 rfl (by decide) (by decide) (by first | rfl | kernel_rfl) (by decide)) (fun _ => (ulS (ulC (ulC (ulS (ulC ulR)))))) (fun bq15 _ => ?_) ?_
      · refine GH.many (rs := [5, 9]) (by kernel_rfl) (by simp) ?_
        refine GHs.cons rfl (Ex.wp (v := (.slice none 0 0)) (Ex.load rfl T.ag28 (i := 3) rfl rfl) (by decide)) (fun _ => (ulS (ulC (ulC (ulS (ulC ulR)))))) (fun _ _ => ?_) ?_
        · refine GH.many (rs := [8, 9]) (by kernel_rfl) (by simp) ?_
          refine GHs.cons rfl (Stp.appendNil (vs := [(.int .i64 m)]) rfl rfl Try.underlying28 T.sz3 T.zr3 rfl T.by3 (fun wz hz => hz.rdOf (i := 0) rfl 0) rfl (by decide) (by decide) (by decide) (by decide)) (fun _ => (ulS (ulS (ulC (ulC (ulS (ulC ulR))))))) (fun xq16 hq17 => ?_) ?_
          · refine GH.one 9 rfl (by kernel_rfl) (Ex.wp (v := (.pointer (some ⟨kb, 0, none⟩))) (Ex.nilCheck rfl) (by decide)) (fun _ => (ulS (ulS (ulC (ulC (ulS (ulC ulR))))))) (fun _ _ => ?_)
            refine GH.take 10 (v := (.pointer (some ⟨kb, 4, none⟩))) rfl (by kernel_rfl) (by kernel_rfl) (by kernel_rfl) (fun _ _ _ h => h) (Ex.cast (Ex.fieldAddr rfl Try.underlying31 rfl T.sz29 (by decide)) rfl) (ulS (ulS (ulC (ulC (ulS (ulC ulR)))))) (by decide) ?_
            refine GH.take 11 (v := (.pointer (some ⟨kb, 7, none⟩))) rfl (by kernel_rfl) (by kernel_rfl) (by kernel_rfl) (fun _ _ _ h => h) (Ex.cast (Ex.indexArr (m := 4) rfl rfl Try.underlying29 T.sz28 (by decide) (by decide)) rfl) (ulS (ulS (ulC (ulC (ulS (ulC ulR)))))) (by decide) ?_
            refine GH.one 12 rfl (by kernel_rfl) (Stp.st4 (cs' := [(.slice none 0 0), (.slice none 0 0), (.slice none 0 0), (.slice (some ⟨xq5.1, 0, none⟩) 1 xq5.2.1), (.slice none 0 0), (.slice none 0 0), (.slice none 0 0), (.slice (some ⟨xq16.1, 0, none⟩) 1 xq16.2.1)]) rfl rfl rfl T.sz28 rfl rfl rfl) (fun _ => (ulS (ulS (ulC (ulC (ulS (ulC ulR))))))) (fun _ _ => ?_)
            refine GH.done (by kernel_rfl) ?_
            refine GC.end0 rfl (fun wN HN => ?_)
            exact HN.frm (xq16, xq5) ⟨hq6.1, hq17.1⟩ (by rfl) (ulC (ulS (ulC (ulS (ulC (ulC ulR))))))
          refine GHs.cons rfl (Ex.wp (v := (.pointer (some ⟨kb, 0, none⟩))) (Ex.nilCheck rfl) (by decide)) (fun _ => (ulS (ulC (ulC (ulS (ulC ulR)))))) (fun _ _ => ?_) ?_
          · refine GH.take 10 (v := (.pointer (some ⟨kb, 4, none⟩))) rfl (by kernel_rfl) (by kernel_rfl) (by kernel_rfl) (fun _ _ _ h => h) (Ex.cast (Ex.fieldAddr rfl Try.underlying31 rfl T.sz29 (by decide)) rfl) (ulS (ulC (ulC (ulS (ulC ulR))))) (by decide) ?_
            refine GH.one 8 rfl (by kernel_rfl) (Stp.appendNil (vs := [(.int .i64 m)]) rfl rfl Try.underlying28 T.sz3 T.zr3 rfl T.by3 (fun wz hz => hz.rdOf (i := 0) rfl 0) rfl (by decide) (by decide) (by decide) (by decide)) (fun _ => (ulS (ulS (ulC (ulC (ulS (ulC ulR))))))) (fun xq18 hq19 => ?_)
            refine GH.take 11 (v := (.pointer (some ⟨kb, 7, none⟩))) rfl (by kernel_rfl) (by kernel_rfl) (by kernel_rfl) (fun _ _ _ h => h) (Ex.cast (Ex.indexArr (m := 4) rfl rfl Try.underlying29 T.sz28 (by decide) (by decide)) rfl) (ulS (ulS (ulC (ulC (ulS (ulC ulR)))))) (by decide) ?_
            refine GH.one 12 rfl (by kernel_rfl) (Stp.st4 (cs' := [(.slice none 0 0), (.slice none 0 0), (.slice none 0 0), (.slice (some ⟨xq5.1, 0, none⟩) 1 xq5.2.1), (.slice none 0 0), (.slice none 0 0), (.slice none 0 0), (.slice (some ⟨xq18.1, 0, none⟩) 1 xq18.2.1)]) rfl rfl rfl T.sz28 rfl rfl rfl) (fun _ => (ulS (ulS (ulC (ulC (ulS (ulC ulR))))))) (fun _ _ => ?_)
            refine GH.done (by kernel_rfl) ?_
            refine GC.end0 rfl (fun wN HN => ?_)
            exact HN.frm (xq18, xq5) ⟨hq6.1, hq19.1⟩ (by rfl) (ulC (ulS (ulC (ulS (ulC (ulC ulR))))))
          exact GHs.nil
        refine GHs.cons rfl (Ex.wp (v := (.pointer (some ⟨kb, 0, none⟩))) (Ex.nilCheck rfl) (by decide)) (fun _ => (ulS (ulC (ulC (ulS (ulC ulR)))))) (fun _ _ => ?_) ?_
        · refine GH.take 10 (v := (.pointer (some ⟨kb, 4, none⟩))) rfl (by kernel_rfl) (by kernel_rfl) (by kernel_rfl) (fun _ _ _ h => h) (Ex.cast (Ex.fieldAddr rfl Try.underlying31 rfl T.sz29 (by decide)) rfl) (ulS (ulC (ulC (ulS (ulC ulR))))) (by decide) ?_
          refine GH.one 5 rfl (by kernel_rfl) (Ex.wp (v := (.slice none 0 0)) (Ex.load rfl T.ag28 (i := 3) rfl rfl) (by decide)) (fun _ => (ulS (ulC (ulC (ulS (ulC ulR)))))) (fun _ _ => ?_)
          refine GH.one 8 rfl (by kernel_rfl) (Stp.appendNil (vs := [(.int .i64 m)]) rfl rfl Try.underlying28 T.sz3 T.zr3 rfl T.by3 (fun wz hz => hz.rdOf (i := 0) rfl 0) rfl (by decide) (by decide) (by decide) (by decide)) (fun _ => (ulS (ulS (ulC (ulC (ulS (ulC ulR))))))) (fun xq20 hq21 => ?_)
          refine GH.take 11 (v := (.pointer (some ⟨kb, 7, none⟩))) rfl (by kernel_rfl) (by kernel_rfl) (by kernel_rfl) (fun _ _ _ h => h) (Ex.cast (Ex.indexArr (m := 4) rfl rfl Try.underlying29 T.sz28 (by decide) (by decide)) rfl) (ulS (ulS (ulC (ulC (ulS (ulC ulR)))))) (by decide) ?_
          refine GH.one 12 rfl (by kernel_rfl) (Stp.st4 (cs' := [(.slice none 0 0), (.slice none 0 0), (.slice none 0 0), (.slice (some ⟨xq5.1, 0, none⟩) 1 xq5.2.1), (.slice none 0 0), (.slice none 0 0), (.slice none 0 0), (.slice (some ⟨xq20.1, 0, none⟩) 1 xq20.2.1)]) rfl rfl rfl T.sz28 rfl rfl rfl) (fun _ => (ulS (ulS (ulC (ulC (ulS (ulC ulR))))))) (fun _ _ => ?_)
          refine GH.done (by kernel_rfl) ?_
          refine GC.end0 rfl (fun wN HN => ?_)
          exact HN.frm (xq20, xq5) ⟨hq6.1, hq21.1⟩ (by rfl) (ulC (ulS (ulC (ulS (ulC (ulC ulR))))))
        exact GHs.nil
      refine GHs.cons rfl (Ex.wp (v := (.pointer (some ⟨kb, 0, none⟩))) (Ex.nilCheck rfl) (by decide)) (fun _ => (ulC (ulC (ulS (ulC ulR))))) (fun _ _ => ?_) ?_
      · refine GH.take 10 (v := (.pointer (some ⟨kb, 4, none⟩))) rfl (by kernel_rfl) (by kernel_rfl) (by kernel_rfl) (fun _ _ _ h => h) (Ex.cast (Ex.fieldAddr rfl Try.underlying31 rfl T.sz29 (by decide)) rfl) (ulC (ulC (ulS (ulC ulR)))) (by decide) ?_
        refine GH.many (rs := [5, 7]) (by kernel_rfl) (by simp) ?_
        refine GHs.cons rfl (Ex.wp (v := (.slice none 0 0)) (Ex.load rfl T.ag28 (i := 2) rfl rfl) (by decide)) (fun _ => (ulC (ulC (ulS (ulC ulR))))) (fun _ _ => ?_) ?_
        · refine GH.one 7 rfl (by kernel_rfl) (Stp.buildSlice (cs := [(.int .i64 m)]) (vs := [(0, (.int .i64 m))]) Try.underlying28 T.zr3 T.sz3 rfl (by decide) (by decide) (by first | rfl | kernel_rfl) (by decide)) (fun _ => (ulS (ulC (ulC (ulS (ulC ulR)))))) (fun bq22 _ => ?_)
          refine GH.one 8 rfl (by kernel_rfl) (Stp.appendNil (vs := [(.int .i64 m)]) rfl rfl Try.underlying28 T.sz3 T.zr3 rfl T.by3 (fun wz hz => hz.rdOf (i := 0) rfl 0) rfl (by decide) (by decide) (by decide) (by decide)) (fun _ => (ulS (ulS (ulC (ulC (ulS (ulC ulR))))))) (fun xq23 hq24 => ?_)
          refine GH.take 11 (v := (.pointer (some ⟨kb, 7, none⟩))) rfl (by kernel_rfl) (by kernel_rfl) (by kernel_rfl) (fun _ _ _ h => h) (Ex.cast (Ex.indexArr (m := 4) rfl rfl Try.underlying29 T.sz28 (by decide) (by decide)) rfl) (ulS (ulS (ulC (ulC (ulS (ulC ulR)))))) (by decide) ?_
          refine GH.one 12 rfl (by kernel_rfl) (Stp.st4 (cs' := [(.slice none 0 0), (.slice none 0 0), (.slice none 0 0), (.slice (some ⟨xq5.1, 0, none⟩) 1 xq5.2.1), (.slice none 0 0), (.slice none 0 0), (.slice none 0 0), (.slice (some ⟨xq23.1, 0, none⟩) 1 xq23.2.1)]) rfl rfl rfl T.sz28 rfl rfl rfl) (fun _ => (ulS (ulS (ulC (ulC (ulS (ulC ulR))))))) (fun _ _ => ?_)
          refine GH.done (by kernel_rfl) ?_
          refine GC.end0 rfl (fun wN HN => ?_)
          exact HN.frm (xq23, xq5) ⟨hq6.1, hq24.1⟩ (by rfl) (ulC (ulS (ulC (ulS (ulC (ulC ulR))))))
        refine GHs.cons rfl (Stp.buildSlice (cs := [(.int .i64 m)]) (vs := [(0, (.int .i64 m))]) Try.underlying28 T.zr3 T.sz3 rfl (by decide) (by decide) (by first | rfl | kernel_rfl) (by decide)) (fun _ => (ulS (ulC (ulC (ulS (ulC ulR)))))) (fun bq25 _ => ?_) ?_
        · refine GH.one 5 rfl (by kernel_rfl) (Ex.wp (v := (.slice none 0 0)) (Ex.load rfl T.ag28 (i := 3) rfl rfl) (by decide)) (fun _ => (ulS (ulC (ulC (ulS (ulC ulR)))))) (fun _ _ => ?_)
          refine GH.one 8 rfl (by kernel_rfl) (Stp.appendNil (vs := [(.int .i64 m)]) rfl rfl Try.underlying28 T.sz3 T.zr3 rfl T.by3 (fun wz hz => hz.rdOf (i := 0) rfl 0) rfl (by decide) (by decide) (by decide) (by decide)) (fun _ => (ulS (ulS (ulC (ulC (ulS (ulC ulR))))))) (fun xq26 hq27 => ?_)
          refine GH.take 11 (v := (.pointer (some ⟨kb, 7, none⟩))) rfl (by kernel_rfl) (by kernel_rfl) (by kernel_rfl) (fun _ _ _ h => h) (Ex.cast (Ex.indexArr (m := 4) rfl rfl Try.underlying29 T.sz28 (by decide) (by decide)) rfl) (ulS (ulS (ulC (ulC (ulS (ulC ulR)))))) (by decide) ?_
          refine GH.one 12 rfl (by kernel_rfl) (Stp.st4 (cs' := [(.slice none 0 0), (.slice none 0 0), (.slice none 0 0), (.slice (some ⟨xq5.1, 0, none⟩) 1 xq5.2.1), (.slice none 0 0), (.slice none 0 0), (.slice none 0 0), (.slice (some ⟨xq26.1, 0, none⟩) 1 xq26.2.1)]) rfl rfl rfl T.sz28 rfl rfl rfl) (fun _ => (ulS (ulS (ulC (ulC (ulS (ulC ulR))))))) (fun _ _ => ?_)
          refine GH.done (by kernel_rfl) ?_
          refine GC.end0 rfl (fun wN HN => ?_)
          exact HN.frm (xq26, xq5) ⟨hq6.1, hq27.1⟩ (by rfl) (ulC (ulS (ulC (ulS (ulC (ulC ulR))))))
        exact GHs.nil
      exact GHs.nil
    refine GHs.cons rfl (Stp.buildSlice (cs := [(.int .i64 m)]) (vs := [(0, (.int .i64 m))]) Try.underlying28 T.zr3 T.sz3 rfl (by decide) (by decide) (by first | rfl | kernel_rfl) (by decide)) (fun _ => (ulS (ulC (ulC (ulS (ulC ulR)))))) (fun bq28 _ => ?_) ?_
    · refine GH.many (rs := [2, 9]) (by kernel_rfl) (by simp) ?_
      refine GHs.cons rfl (Ex.wp (v := (.pointer (some ⟨kb, 0, none⟩))) (Ex.nilCheck rfl) (by decide)) (fun _ => (ulS (ulC (ulC (ulS (ulC ulR)))))) (fun _ _ => ?_) ?_
      · refine GH.take 3 (v := (.pointer (some ⟨kb, 4, none⟩))) rfl (by kernel_rfl) (by kernel_rfl) (by kernel_rfl) (fun _ _ _ h => h) (Ex.cast (Ex.fieldAddr rfl Try.underlying31 rfl T.sz29 (by decide)) rfl) (ulS (ulC (ulC (ulS (ulC ulR))))) (by decide) ?_
        refine GH.take 4 (v := (.pointer (some ⟨kb, 7, none⟩))) rfl (by kernel_rfl) (by kernel_rfl) (by kernel_rfl) (fun _ _ _ h => h) (Ex.cast (Ex.indexArr (m := 4) rfl rfl Try.underlying29 T.sz28 (by decide) (by decide)) rfl) (ulS (ulC (ulC (ulS (ulC ulR))))) (by decide) ?_
        refine GH.many (rs := [5, 9]) (by kernel_rfl) (by simp) ?_
        refine GHs.cons rfl (Ex.wp (v := (.slice none 0 0)) (Ex.load rfl T.ag28 (i := 3) rfl rfl) (by decide)) (fun _ => (ulS (ulC (ulC (ulS (ulC ulR)))))) (fun _ _ => ?_) ?_
        · refine GH.many (rs := [8, 9]) (by kernel_rfl) (by simp) ?_
          refine GHs.cons rfl (Stp.appendNil (vs := [(.int .i64 m)]) rfl rfl Try.underlying28 T.sz3 T.zr3 rfl T.by3 (fun wz hz => hz.rdOf (i := 0) rfl 0) rfl (by decide) (by decide) (by decide) (by decide)) (fun _ => (ulS (ulS (ulC (ulC (ulS (ulC ulR))))))) (fun xq29 hq30 => ?_) ?_
          · refine GH.one 9 rfl (by kernel_rfl) (Ex.wp (v := (.pointer (some ⟨kb, 0, none⟩))) (Ex.nilCheck rfl) (by decide)) (fun _ => (ulS (ulS (ulC (ulC (ulS (ulC ulR))))))) (fun _ _ => ?_)
            refine GH.take 10 (v := (.pointer (some ⟨kb, 4, none⟩))) rfl (by kernel_rfl) (by kernel_rfl) (by kernel_rfl) (fun _ _ _ h => h) (Ex.cast (Ex.fieldAddr rfl Try.underlying31 rfl T.sz29 (by decide)) rfl) (ulS (ulS (ulC (ulC (ulS (ulC ulR)))))) (by decide) ?_
            refine GH.take 11 (v := (.pointer (some ⟨kb, 7, none⟩))) rfl (by kernel_rfl) (by kernel_rfl) (by kernel_rfl) (fun _ _ _ h => h) (Ex.cast (Ex.indexArr (m := 4) rfl rfl Try.underlying29 T.sz28 (by decide) (by decide)) rfl) (ulS (ulS (ulC (ulC (ulS (ulC ulR)))))) (by decide) ?_
            refine GH.one 12 rfl (by kernel_rfl) (Stp.st4 (cs' := [(.slice none 0 0), (.slice none 0 0), (.slice none 0 0), (.slice (some ⟨xq5.1, 0, none⟩) 1 xq5.2.1), (.slice none 0 0), (.slice none 0 0), (.slice none 0 0), (.slice (some ⟨xq29.1, 0, none⟩) 1 xq29.2.1)]) rfl rfl rfl T.sz28 rfl rfl rfl) (fun _ => (ulS (ulS (ulC (ulC (ulS (ulC ulR))))))) (fun _ _ => ?_)
            refine GH.done (by kernel_rfl) ?_
            refine GC.end0 rfl (fun wN HN => ?_)
            exact HN.frm (xq29, xq5) ⟨hq6.1, hq30.1⟩ (by rfl) (ulC (ulS (ulC (ulS (ulC (ulC ulR))))))
          refine GHs.cons rfl (Ex.wp (v := (.pointer (some ⟨kb, 0, none⟩))) (Ex.nilCheck rfl) (by decide)) (fun _ => (ulS (ulC (ulC (ulS (ulC ulR)))))) (fun _ _ => ?_) ?_
          · refine GH.take 10 (v := (.pointer (some ⟨kb, 4, none⟩))) rfl (by kernel_rfl) (by kernel_rfl) (by kernel_rfl) (fun _ _ _ h => h) (Ex.cast (Ex.fieldAddr rfl Try.underlying31 rfl T.sz29 (by decide)) rfl) (ulS (ulC (ulC (ulS (ulC ulR))))) (by decide) ?_
            refine GH.one 8 rfl (by kernel_rfl) (Stp.appendNil (vs := [(.int .i64 m)]) rfl rfl Try.underlying28 T.sz3 T.zr3 rfl T.by3 (fun wz hz => hz.rdOf (i := 0) rfl 0) rfl (by decide) (by decide) (by decide) (by decide)) (fun _ => (ulS (ulS (ulC (ulC (ulS (ulC ulR))))))) (fun xq31 hq32 => ?_)
            refine GH.take 11 (v := (.pointer (some ⟨kb, 7, none⟩))) rfl (by kernel_rfl) (by kernel_rfl) (by kernel_rfl) (fun _ _ _ h => h) (Ex.cast (Ex.indexArr (m := 4) rfl rfl Try.underlying29 T.sz28 (by decide) (by decide)) rfl) (ulS (ulS (ulC (ulC (ulS (ulC ulR)))))) (by decide) ?_
            refine GH.one 12 rfl (by kernel_rfl) (Stp.st4 (cs' := [(.slice none 0 0), (.slice none 0 0), (.slice none 0 0), (.slice (some ⟨xq5.1, 0, none⟩) 1 xq5.2.1), (.slice none 0 0), (.slice none 0 0), (.slice none 0 0), (.slice (some ⟨xq31.1, 0, none⟩) 1 xq31.2.1)]) rfl rfl rfl T.sz28 rfl rfl rfl) (fun _ => (ulS (ulS (ulC (ulC (ulS (ulC ulR))))))) (fun _ _ => ?_)
            refine GH.done (by kernel_rfl) ?_
            refine GC.end0 rfl (fun wN HN => ?_)
            exact HN.frm (xq31, xq5) ⟨hq6.1, hq32.1⟩ (by rfl) (ulC (ulS (ulC (ulS (ulC (ulC ulR))))))
          exact GHs.nil
        refine GHs.cons rfl (Ex.wp (v := (.pointer (some ⟨kb, 0, none⟩))) (Ex.nilCheck rfl) (by decide)) (fun _ => (ulS (ulC (ulC (ulS (ulC ulR)))))) (fun _ _ => ?_) ?_
        · refine GH.take 10 (v := (.pointer (some ⟨kb, 4, none⟩))) rfl (by kernel_rfl) (by kernel_rfl) (by kernel_rfl) (fun _ _ _ h => h) (Ex.cast (Ex.fieldAddr rfl Try.underlying31 rfl T.sz29 (by decide)) rfl) (ulS (ulC (ulC (ulS (ulC ulR))))) (by decide) ?_
          refine GH.one 5 rfl (by kernel_rfl) (Ex.wp (v := (.slice none 0 0)) (Ex.load rfl T.ag28 (i := 3) rfl rfl) (by decide)) (fun _ => (ulS (ulC (ulC (ulS (ulC ulR)))))) (fun _ _ => ?_)
          refine GH.one 8 rfl (by kernel_rfl) (Stp.appendNil (vs := [(.int .i64 m)]) rfl rfl Try.underlying28 T.sz3 T.zr3 rfl T.by3 (fun wz hz => hz.rdOf (i := 0) rfl 0) rfl (by decide) (by decide) (by decide) (by decide)) (fun _ => (ulS (ulS (ulC (ulC (ulS (ulC ulR))))))) (fun xq33 hq34 => ?_)
          refine GH.take 11 (v := (.pointer (some ⟨kb, 7, none⟩))) rfl (by kernel_rfl) (by kernel_rfl) (by kernel_rfl) (fun _ _ _ h => h) (Ex.cast (Ex.indexArr (m := 4) rfl rfl Try.underlying29 T.sz28 (by decide) (by decide)) rfl) (ulS (ulS (ulC (ulC (ulS (ulC ulR)))))) (by decide) ?_
          refine GH.one 12 rfl (by kernel_rfl) (Stp.st4 (cs' := [(.slice none 0 0), (.slice none 0 0), (.slice none 0 0), (.slice (some ⟨xq5.1, 0, none⟩) 1 xq5.2.1), (.slice none 0 0), (.slice none 0 0), (.slice none 0 0), (.slice (some ⟨xq33.1, 0, none⟩) 1 xq33.2.1)]) rfl rfl rfl T.sz28 rfl rfl rfl) (fun _ => (ulS (ulS (ulC (ulC (ulS (ulC ulR))))))) (fun _ _ => ?_)
          refine GH.done (by kernel_rfl) ?_
          refine GC.end0 rfl (fun wN HN => ?_)
          exact HN.frm (xq33, xq5) ⟨hq6.1, hq34.1⟩ (by rfl) (ulC (ulS (ulC (ulS (ulC (ulC ulR))))))
        exact GHs.nil
      refine GHs.cons rfl (Ex.wp (v := (.pointer (some ⟨kb, 0, none⟩))) (Ex.nilCheck rfl) (by decide)) (fun _ => (ulS (ulC (ulC (ulS (ulC ulR)))))) (fun _ _ => ?_) ?_
      · refine GH.take 10 (v := (.pointer (some ⟨kb, 4, none⟩))) rfl (by kernel_rfl) (by kernel_rfl) (by kernel_rfl) (fun _ _ _ h => h) (Ex.cast (Ex.fieldAddr rfl Try.underlying31 rfl T.sz29 (by decide)) rfl) (ulS (ulC (ulC (ulS (ulC ulR))))) (by decide) ?_
        refine GH.one 2 rfl (by kernel_rfl) (Ex.wp (v := (.pointer (some ⟨kb, 0, none⟩))) (Ex.nilCheck rfl) (by decide)) (fun _ => (ulS (ulC (ulC (ulS (ulC ulR)))))) (fun _ _ => ?_)
        refine GH.take 3 (v := (.pointer (some ⟨kb, 4, none⟩))) rfl (by kernel_rfl) (by kernel_rfl) (by kernel_rfl) (fun _ _ _ h => h) (Ex.cast (Ex.fieldAddr rfl Try.underlying31 rfl T.sz29 (by decide)) rfl) (ulS (ulC (ulC (ulS (ulC ulR))))) (by decide) ?_
        refine GH.take 4 (v := (.pointer (some ⟨kb, 7, none⟩))) rfl (by kernel_rfl) (by kernel_rfl) (by kernel_rfl) (fun _ _ _ h => h) (Ex.cast (Ex.indexArr (m := 4) rfl rfl Try.underlying29 T.sz28 (by decide) (by decide)) rfl) (ulS (ulC (ulC (ulS (ulC ulR))))) (by decide) ?_
        refine GH.one 5 rfl (by kernel_rfl) (Ex.wp (v := (.slice none 0 0)) (Ex.load rfl T.ag28 (i := 3) rfl rfl) (by decide)) (fun _ => (ulS (ulC (ulC (ulS (ulC ulR)))))) (fun _ _ => ?_)
        refine GH.one 8 rfl (by kernel_rfl) (Stp.appendNil (vs := [(.int .i64 m)]) rfl rfl Try.underlying28 T.sz3 T.zr3 rfl T.by3 (fun wz hz => hz.rdOf (i := 0) rfl 0) rfl (by decide) (by decide) (by decide) (by decide)) (fun _ => (ulS (ulS (ulC (ulC (ulS (ulC ulR))))))) (fun xq35 hq36 => ?_)
        refine GH.take 11 (v := (.pointer (some ⟨kb, 7, none⟩))) rfl (by kernel_rfl) (by kernel_rfl) (by kernel_rfl) (fun _ _ _ h => h) (Ex.cast (Ex.indexArr (m := 4) rfl rfl Try.underlying29 T.sz28 (by decide) (by decide)) rfl) (ulS (ulS (ulC (ulC (ulS (ulC ulR)))))) (by decide) ?_
        refine GH.one 12 rfl (by kernel_rfl) (Stp.st4 (cs' := [(.slice none 0 0), (.slice none 0 0), (.slice none 0 0), (.slice (some ⟨xq5.1, 0, none⟩) 1 xq5.2.1), (.slice none 0 0), (.slice none 0 0), (.slice none 0 0), (.slice (some ⟨xq35.1, 0, none⟩) 1 xq35.2.1)]) rfl rfl rfl T.sz28 rfl rfl rfl) (fun _ => (ulS (ulS (ulC (ulC (ulS (ulC ulR))))))) (fun _ _ => ?_)
        refine GH.done (by kernel_rfl) ?_
        refine GC.end0 rfl (fun wN HN => ?_)
        exact HN.frm (xq35, xq5) ⟨hq6.1, hq36.1⟩ (by rfl) (ulC (ulS (ulC (ulS (ulC (ulC ulR))))))
      exact GHs.nil
    refine GHs.cons rfl (Ex.wp (v := (.pointer (some ⟨kb, 0, none⟩))) (Ex.nilCheck rfl) (by decide)) (fun _ => (ulC (ulC (ulS (ulC ulR))))) (fun _ _ => ?_) ?_
    · refine GH.take 10 (v := (.pointer (some ⟨kb, 4, none⟩))) rfl (by kernel_rfl) (by kernel_rfl) (by kernel_rfl) (fun _ _ _ h => h) (Ex.cast (Ex.fieldAddr rfl Try.underlying31 rfl T.sz29 (by decide)) rfl) (ulC (ulC (ulS (ulC ulR)))) (by decide) ?_
      refine GH.many (rs := [2, 7]) (by kernel_rfl) (by simp) ?_
      refine GHs.cons rfl (Ex.wp (v := (.pointer (some ⟨kb, 0, none⟩))) (Ex.nilCheck rfl) (by decide)) (fun _ => (ulC (ulC (ulS (ulC ulR))))) (fun _ _ => ?_) ?_
      · refine GH.take 3 (v := (.pointer (some ⟨kb, 4, none⟩))) rfl (by kernel_rfl) (by kernel_rfl) (by kernel_rfl) (fun _ _ _ h => h) (Ex.cast (Ex.fieldAddr rfl Try.underlying31 rfl T.sz29 (by decide)) rfl) (ulC (ulC (ulS (ulC ulR)))) (by decide) ?_
        refine GH.take 4 (v := (.pointer (some ⟨kb, 7, none⟩))) rfl (by kernel_rfl) (by kernel_rfl) (by kernel_rfl) (fun _ _ _ h => h) (Ex.cast (Ex.indexArr (m := 4) rfl rfl Try.underlying29 T.sz28 (by decide) (by decide)) rfl) (ulC (ulC (ulS (ulC ulR)))) (by decide) ?_
        refine GH.many (rs := [5, 7]) (by kernel_rfl) (by simp) ?_
        refine GHs.cons rfl (Ex.wp (v := (.slice none 0 0)) (Ex.load rfl T.ag28 (i := 2) rfl rfl) (by decide)) (fun _ => (ulC (ulC (ulS (ulC ulR))))) (fun _ _ => ?_) ?_
        · refine GH.one 7 rfl (by kernel_rfl) (Stp.buildSlice (cs := [(.int .i64 m)]) (vs := [(0, (.int .i64 m))]) Try.underlying28 T.zr3 T.sz3 rfl (by decide) (by decide) (by first | rfl | kernel_rfl) (by decide)) (fun _ => (ulS (ulC (ulC (ulS (ulC ulR)))))) (fun bq37 _ => ?_)
          refine GH.one 8 rfl (by kernel_rfl) (Stp.appendNil (vs := [(.int .i64 m)]) rfl rfl Try.underlying28 T.sz3 T.zr3 rfl T.by3 (fun wz hz => hz.rdOf (i := 0) rfl 0) rfl (by decide) (by decide) (by decide) (by decide)) (fun _ => (ulS (ulS (ulC (ulC (ulS (ulC ulR))))))) (fun xq38 hq39 => ?_)
          refine GH.take 11 (v := (.pointer (some ⟨kb, 7, none⟩))) rfl (by kernel_rfl) (by kernel_rfl) (by kernel_rfl) (fun _ _ _ h => h) (Ex.cast (Ex.indexArr (m := 4) rfl rfl Try.underlying29 T.sz28 (by decide) (by decide)) rfl) (ulS (ulS (ulC (ulC (ulS (ulC ulR)))))) (by decide) ?_
          refine GH.one 12 rfl (by kernel_rfl) (Stp.st4 (cs' := [(.slice none 0 0), (.slice none 0 0), (.slice none 0 0), (.slice (some ⟨xq5.1, 0, none⟩) 1 xq5.2.1), (.slice none 0 0), (.slice none 0 0), (.slice none 0 0), (.slice (some ⟨xq38.1, 0, none⟩) 1 xq38.2.1)]) rfl rfl rfl T.sz28 rfl rfl rfl) (fun _ => (ulS (ulS (ulC (ulC (ulS (ulC ulR))))))) (fun _ _ => ?_)
          refine GH.done (by kernel_rfl) ?_
          refine GC.end0 rfl (fun wN HN => ?_)
          exact HN.frm (xq38, xq5) ⟨hq6.1, hq39.1⟩ (by rfl) (ulC (ulS (ulC (ulS (ulC (ulC ulR))))))
        refine GHs.cons rfl (Stp.buildSlice (cs := [(.int .i64 m)]) (vs := [(0, (.int .i64 m))]) Try.underlying28 T.zr3 T.sz3 rfl (by decide) (by decide) (by first | rfl | kernel_rfl) (by decide)) (fun _ => (ulS (ulC (ulC (ulS (ulC ulR)))))) (fun bq40 _ => ?_) ?_
        · refine GH.one 5 rfl (by kernel_rfl) (Ex.wp (v := (.slice none 0 0)) (Ex.load rfl T.ag28 (i := 3) rfl rfl) (by decide)) (fun _ => (ulS (ulC (ulC (ulS (ulC ulR)))))) (fun _ _ => ?_)
          refine GH.one 8 rfl (by kernel_rfl) (Stp.appendNil (vs := [(.int .i64 m)]) rfl rfl Try.underlying28 T.sz3 T.zr3 rfl T.by3 (fun wz hz => hz.rdOf (i := 0) rfl 0) rfl (by decide) (by decide) (by decide) (by decide)) (fun _ => (ulS (ulS (ulC (ulC (ulS (ulC ulR))))))) (fun xq41 hq42 => ?_)
          refine GH.take 11 (v := (.pointer (some ⟨kb, 7, none⟩))) rfl (by kernel_rfl) (by kernel_rfl) (by kernel_rfl) (fun _ _ _ h => h) (Ex.cast (Ex.indexArr (m := 4) rfl rfl Try.underlying29 T.sz28 (by decide) (by decide)) rfl) (ulS (ulS (ulC (ulC (ulS (ulC ulR)))))) (by decide) ?_
          refine GH.one 12 rfl (by kernel_rfl) (Stp.st4 (cs' := [(.slice none 0 0), (.slice none 0 0), (.slice none 0 0), (.slice (some ⟨xq5.1, 0, none⟩) 1 xq5.2.1), (.slice none 0 0), (.slice none 0 0), (.slice none 0 0), (.slice (some ⟨xq41.1, 0, none⟩) 1 xq41.2.1)]) rfl rfl rfl T.sz28 rfl rfl rfl) (fun _ => (ulS (ulS (ulC (ulC (ulS (ulC ulR))))))) (fun _ _ => ?_)
          refine GH.done (by kernel_rfl) ?_
          refine GC.end0 rfl (fun wN HN => ?_)
          exact HN.frm (xq41, xq5) ⟨hq6.1, hq42.1⟩ (by rfl) (ulC (ulS (ulC (ulS (ulC (ulC ulR))))))
        exact GHs.nil
      refine GHs.cons rfl (Stp.buildSlice (cs := [(.int .i64 m)]) (vs := [(0, (.int .i64 m))]) Try.underlying28 T.zr3 T.sz3 rfl (by decide) (by decide) (by first | rfl | kernel_rfl) (by decide)) (fun _ => (ulS (ulC (ulC (ulS (ulC ulR)))))) (fun bq43 _ => ?_) ?_
      · refine GH.one 2 rfl (by kernel_rfl) (Ex.wp (v := (.pointer (some ⟨kb, 0, none⟩))) (Ex.nilCheck rfl) (by decide)) (fun _ => (ulS (ulC (ulC (ulS (ulC ulR)))))) (fun _ _ => ?_)
        refine GH.take 3 (v := (.pointer (some ⟨kb, 4, none⟩))) rfl (by kernel_rfl) (by kernel_rfl) (by kernel_rfl) (fun _ _ _ h => h) (Ex.cast (Ex.fieldAddr rfl Try.underlying31 rfl T.sz29 (by decide)) rfl) (ulS (ulC (ulC (ulS (ulC ulR))))) (by decide) ?_
        refine GH.take 4 (v := (.pointer (some ⟨kb, 7, none⟩))) rfl (by kernel_rfl) (by kernel_rfl) (by kernel_rfl) (fun _ _ _ h => h) (Ex.cast (Ex.indexArr (m := 4) rfl rfl Try.underlying29 T.sz28 (by decide) (by decide)) rfl) (ulS (ulC (ulC (ulS (ulC ulR))))) (by decide) ?_
        refine GH.one 5 rfl (by kernel_rfl) (Ex.wp (v := (.slice none 0 0)) (Ex.load rfl T.ag28 (i := 3) rfl rfl) (by decide)) (fun _ => (ulS (ulC (ulC (ulS (ulC ulR)))))) (fun _ _ => ?_)
        refine GH.one 8 rfl (by kernel_rfl) (Stp.appendNil (vs := [(.int .i64 m)]) rfl rfl Try.underlying28 T.sz3 T.zr3 rfl T.by3 (fun wz hz => hz.rdOf (i := 0) rfl 0) rfl (by decide) (by decide) (by decide) (by decide)) (fun _ => (ulS (ulS (ulC (ulC (ulS (ulC ulR))))))) (fun xq44 hq45 => ?_)
        refine GH.take 11 (v := (.pointer (some ⟨kb, 7, none⟩))) rfl (by kernel_rfl) (by kernel_rfl) (by kernel_rfl) (fun _ _ _ h => h) (Ex.cast (Ex.indexArr (m := 4) rfl rfl Try.underlying29 T.sz28 (by decide) (by decide)) rfl) (ulS (ulS (ulC (ulC (ulS (ulC ulR)))))) (by decide) ?_
        refine GH.one 12 rfl (by kernel_rfl) (Stp.st4 (cs' := [(.slice none 0 0), (.slice none 0 0), (.slice none 0 0), (.slice (some ⟨xq5.1, 0, none⟩) 1 xq5.2.1), (.slice none 0 0), (.slice none 0 0), (.slice none 0 0), (.slice (some ⟨xq44.1, 0, none⟩) 1 xq44.2.1)]) rfl rfl rfl T.sz28 rfl rfl rfl) (fun _ => (ulS (ulS (ulC (ulC (ulS (ulC ulR))))))) (fun _ _ => ?_)
        refine GH.done (by kernel_rfl) ?_
        refine GC.end0 rfl (fun wN HN => ?_)
        exact HN.frm (xq44, xq5) ⟨hq6.1, hq45.1⟩ (by rfl) (ulC (ulS (ulC (ulS (ulC (ulC ulR))))))
      exact GHs.nil
    exact GHs.nil

end Go.Proofs.Ytjbpdhofhhinhaa.C
