/- Space: the chapter's examples, walked. -/
import Derived.Test.YtbhjadkgeadpiaaT
namespace Go.Proofs.Ytbhjadkgeadpiaa.C
open Go Go.RowKit Sx
set_option linter.unusedVariables false
set_option maxRecDepth 100000 in
set_option maxHeartbeats 1000000 in
theorem k39_2 (w : World) :
    Calls Try.prog 39 #[(.int .u32 1065353216)] w (Ret w (fun _ : Unit => True) (fun rz => (.float .f64 4607182418800017408)) (fun rz => [])) := by
  refine enter (M := None) (L := []) (n := 6) (l := [(0, (.int .u32 1065353216))]) Try.func39 rfl rfl (Args.cons rfl (Args.nil _)) (Hp.start _ _) ?_
  refine GC.seq ?_
  refine GC.region ?_
  refine GL.val (Ex.assign rfl) (by decide) ?_
  refine GL.nil ?_
  refine GE.thenN ?_
  refine GC.seq ?_
  refine GC.region ?_
  refine GL.val (Ex.move rfl) (by decide) ?_
  refine GL.val (v := (.float .f32 1065353216)) (Ex.ext (vs := [(.int .u32 1065353216)]) rfl rfl T.ext69 (fun _ => by first | rfl | kernel_rfl)) (by decide) ?_
  refine GL.val (v := (.float .f64 4607182418800017408)) (Ex.cff (r := 4607182418800017408) rfl Try.underlying76 Try.underlying50 (by kernel_rfl)) (by decide) ?_
  refine GL.val (Ex.assign rfl) (by decide) ?_
  refine GL.nil ?_
  refine GE.thenN ?_
  refine GC.ret ?_
  refine GC.ret1 rfl (Rv.tmp rfl) (fun wN HN => ?_)
  exact HN.ret () trivial rfl ulN rfl

set_option maxRecDepth 100000 in
set_option maxHeartbeats 1000000 in
theorem k39_3 (w : World) :
    Calls Try.prog 39 #[(.int .u32 1082130432)] w (Ret w (fun _ : Unit => True) (fun rz => (.float .f64 4616189618054758400)) (fun rz => [])) := by
  refine enter (M := None) (L := []) (n := 6) (l := [(0, (.int .u32 1082130432))]) Try.func39 rfl rfl (Args.cons rfl (Args.nil _)) (Hp.start _ _) ?_
  refine GC.seq ?_
  refine GC.region ?_
  refine GL.val (Ex.assign rfl) (by decide) ?_
  refine GL.nil ?_
  refine GE.thenN ?_
  refine GC.seq ?_
  refine GC.region ?_
  refine GL.val (Ex.move rfl) (by decide) ?_
  refine GL.val (v := (.float .f32 1082130432)) (Ex.ext (vs := [(.int .u32 1082130432)]) rfl rfl T.ext69 (fun _ => by first | rfl | kernel_rfl)) (by decide) ?_
  refine GL.val (v := (.float .f64 4616189618054758400)) (Ex.cff (r := 4616189618054758400) rfl Try.underlying76 Try.underlying50 (by kernel_rfl)) (by decide) ?_
  refine GL.val (Ex.assign rfl) (by decide) ?_
  refine GL.nil ?_
  refine GE.thenN ?_
  refine GC.ret ?_
  refine GC.ret1 rfl (Rv.tmp rfl) (fun wN HN => ?_)
  exact HN.ret () trivial rfl ulN rfl

set_option maxRecDepth 100000 in
set_option maxHeartbeats 1000000 in
theorem k39_4 (w : World) :
    Calls Try.prog 39 #[(.int .u32 1073741824)] w (Ret w (fun _ : Unit => True) (fun rz => (.float .f64 4611686018427387904)) (fun rz => [])) := by
  refine enter (M := None) (L := []) (n := 6) (l := [(0, (.int .u32 1073741824))]) Try.func39 rfl rfl (Args.cons rfl (Args.nil _)) (Hp.start _ _) ?_
  refine GC.seq ?_
  refine GC.region ?_
  refine GL.val (Ex.assign rfl) (by decide) ?_
  refine GL.nil ?_
  refine GE.thenN ?_
  refine GC.seq ?_
  refine GC.region ?_
  refine GL.val (Ex.move rfl) (by decide) ?_
  refine GL.val (v := (.float .f32 1073741824)) (Ex.ext (vs := [(.int .u32 1073741824)]) rfl rfl T.ext69 (fun _ => by first | rfl | kernel_rfl)) (by decide) ?_
  refine GL.val (v := (.float .f64 4611686018427387904)) (Ex.cff (r := 4611686018427387904) rfl Try.underlying76 Try.underlying50 (by kernel_rfl)) (by decide) ?_
  refine GL.val (Ex.assign rfl) (by decide) ?_
  refine GL.nil ?_
  refine GE.thenN ?_
  refine GC.ret ?_
  refine GC.ret1 rfl (Rv.tmp rfl) (fun wN HN => ?_)
  exact HN.ret () trivial rfl ulN rfl

set_option maxRecDepth 100000 in
set_option maxHeartbeats 1000000 in
theorem k84_7 (w : World) :
    Calls Try.prog 84 #[(.float .f32 1074790400)] w (Ret w (fun _ : Unit => True) (fun rz => (.int .u32 1074790400)) (fun rz => [])) := by
  refine enter (M := None) (L := []) (n := 8) (l := [(0, (.float .f32 1074790400))]) Try.func84 rfl rfl (Args.cons rfl (Args.nil _)) (Hp.start _ _) ?_
  refine GC.seq ?_
  refine GC.region ?_
  refine GL.val (Ex.assign rfl) (by decide) ?_
  refine GL.nil ?_
  refine GE.thenN ?_
  refine GC.seq ?_
  refine GC.seq ?_
  refine GC.region ?_
  refine GL.val (Ex.move rfl) (by decide) ?_
  refine GL.val (Ex.move rfl) (by decide) ?_
  refine GL.val (v := (.bool false)) (Ex.fneq (r := false) rfl rfl (by kernel_rfl)) (by decide) ?_
  refine GL.nil ?_
  refine GE.thenN ?_
  refine GC.cond rfl (fun hq1 => by cases hq1) (fun _ => ?_)
  refine GC.skip ?_
  refine GE.thenN ?_
  refine GC.seq ?_
  refine GC.region ?_
  refine GL.val (Ex.move rfl) (by decide) ?_
  refine GL.val (v := (.int .u32 1074790400)) (Ex.ext (vs := [(.float .f32 1074790400)]) rfl rfl T.ext92 (fun _ => by first | rfl | kernel_rfl)) (by decide) ?_
  refine GL.val (Ex.assign rfl) (by decide) ?_
  refine GL.nil ?_
  refine GE.thenN ?_
  refine GC.ret ?_
  refine GC.ret1 rfl (Rv.tmp rfl) (fun wN HN => ?_)
  exact HN.ret () trivial rfl ulN rfl

set_option maxRecDepth 100000 in
set_option maxHeartbeats 1000000 in
theorem k70_6 (w : World) :
    Calls Try.prog 70 #[(.int .u64 4612248968380809216)] w (Ret w (fun _ : Unit => True) (fun rz => (.int .u32 1074790400)) (fun rz => [])) := by
  refine enter (M := None) (L := []) (n := 7) (l := [(0, (.int .u64 4612248968380809216))]) Try.func70 rfl rfl (Args.cons rfl (Args.nil _)) (Hp.start _ _) ?_
  refine GC.seq ?_
  refine GC.region ?_
  refine GL.val (Ex.assign rfl) (by decide) ?_
  refine GL.nil ?_
  refine GE.thenN ?_
  refine GC.seq ?_
  refine GC.region ?_
  refine GL.val (Ex.move rfl) (by decide) ?_
  refine GL.val (v := (.float .f64 4612248968380809216)) (Ex.ext (vs := [(.int .u64 4612248968380809216)]) rfl rfl T.ext85 (fun _ => by first | rfl | kernel_rfl)) (by decide) ?_
  refine GL.val (v := (.float .f32 1074790400)) (Ex.cff (r := 1074790400) rfl Try.underlying50 Try.underlying76 (by kernel_rfl)) (by decide) ?_
  refine GL.step (Stp.callR (vs := [(.float .f32 1074790400)]) rfl rfl T.own84 (by decide) (fun wc hw => k84_7  wc )) (fun xq1 hq2 => ?_)
  refine GL.val (Ex.assign rfl) (by decide) ?_
  refine GL.nil ?_
  refine GE.thenN ?_
  refine GC.ret ?_
  refine GC.ret1 rfl (Rv.tmp rfl) (fun wN HN => ?_)
  exact HN.ret () trivial rfl ulN rfl

set_option maxRecDepth 100000 in
set_option maxHeartbeats 1000000 in
theorem k40_5 (w : World) :
    Calls Try.prog 40 #[(.float .f64 4612248968380809216)] w (Ret w (fun _ : Unit => True) (fun rz => (.int .u32 1074790400)) (fun rz => [])) := by
  refine enter (M := None) (L := []) (n := 6) (l := [(0, (.float .f64 4612248968380809216))]) Try.func40 rfl rfl (Args.cons rfl (Args.nil _)) (Hp.start _ _) ?_
  refine GC.seq ?_
  refine GC.region ?_
  refine GL.val (Ex.assign rfl) (by decide) ?_
  refine GL.nil ?_
  refine GE.thenN ?_
  refine GC.seq ?_
  refine GC.region ?_
  refine GL.val (Ex.move rfl) (by decide) ?_
  refine GL.val (v := (.int .u64 4612248968380809216)) (Ex.ext (vs := [(.float .f64 4612248968380809216)]) rfl rfl T.ext71 (fun _ => by first | rfl | kernel_rfl)) (by decide) ?_
  refine GL.step (Stp.callR (vs := [(.int .u64 4612248968380809216)]) rfl rfl T.own70 (by decide) (fun wc hw => k70_6  wc )) (fun xq1 hq2 => ?_)
  refine GL.val (Ex.assign rfl) (by decide) ?_
  refine GL.nil ?_
  refine GE.thenN ?_
  refine GC.ret ?_
  refine GC.ret1 rfl (Rv.tmp rfl) (fun wN HN => ?_)
  exact HN.ret () trivial rfl ulN rfl

set_option maxRecDepth 100000 in
set_option maxHeartbeats 1000000 in
theorem k84_10 (w : World) :
    Calls Try.prog 84 #[(.float .f32 3196059648)] w (Ret w (fun _ : Unit => True) (fun rz => (.int .u32 3196059648)) (fun rz => [])) := by
  refine enter (M := None) (L := []) (n := 8) (l := [(0, (.float .f32 3196059648))]) Try.func84 rfl rfl (Args.cons rfl (Args.nil _)) (Hp.start _ _) ?_
  refine GC.seq ?_
  refine GC.region ?_
  refine GL.val (Ex.assign rfl) (by decide) ?_
  refine GL.nil ?_
  refine GE.thenN ?_
  refine GC.seq ?_
  refine GC.seq ?_
  refine GC.region ?_
  refine GL.val (Ex.move rfl) (by decide) ?_
  refine GL.val (Ex.move rfl) (by decide) ?_
  refine GL.val (v := (.bool false)) (Ex.fneq (r := false) rfl rfl (by kernel_rfl)) (by decide) ?_
  refine GL.nil ?_
  refine GE.thenN ?_
  refine GC.cond rfl (fun hq1 => by cases hq1) (fun _ => ?_)
  refine GC.skip ?_
  refine GE.thenN ?_
  refine GC.seq ?_
  refine GC.region ?_
  refine GL.val (Ex.move rfl) (by decide) ?_
  refine GL.val (v := (.int .u32 3196059648)) (Ex.ext (vs := [(.float .f32 3196059648)]) rfl rfl T.ext92 (fun _ => by first | rfl | kernel_rfl)) (by decide) ?_
  refine GL.val (Ex.assign rfl) (by decide) ?_
  refine GL.nil ?_
  refine GE.thenN ?_
  refine GC.ret ?_
  refine GC.ret1 rfl (Rv.tmp rfl) (fun wN HN => ?_)
  exact HN.ret () trivial rfl ulN rfl

set_option maxRecDepth 100000 in
set_option maxHeartbeats 1000000 in
theorem k70_9 (w : World) :
    Calls Try.prog 70 #[(.int .u64 13821547256400052224)] w (Ret w (fun _ : Unit => True) (fun rz => (.int .u32 3196059648)) (fun rz => [])) := by
  refine enter (M := None) (L := []) (n := 7) (l := [(0, (.int .u64 13821547256400052224))]) Try.func70 rfl rfl (Args.cons rfl (Args.nil _)) (Hp.start _ _) ?_
  refine GC.seq ?_
  refine GC.region ?_
  refine GL.val (Ex.assign rfl) (by decide) ?_
  refine GL.nil ?_
  refine GE.thenN ?_
  refine GC.seq ?_
  refine GC.region ?_
  refine GL.val (Ex.move rfl) (by decide) ?_
  refine GL.val (v := (.float .f64 13821547256400052224)) (Ex.ext (vs := [(.int .u64 13821547256400052224)]) rfl rfl T.ext85 (fun _ => by first | rfl | kernel_rfl)) (by decide) ?_
  refine GL.val (v := (.float .f32 3196059648)) (Ex.cff (r := 3196059648) rfl Try.underlying50 Try.underlying76 (by kernel_rfl)) (by decide) ?_
  refine GL.step (Stp.callR (vs := [(.float .f32 3196059648)]) rfl rfl T.own84 (by decide) (fun wc hw => k84_10  wc )) (fun xq1 hq2 => ?_)
  refine GL.val (Ex.assign rfl) (by decide) ?_
  refine GL.nil ?_
  refine GE.thenN ?_
  refine GC.ret ?_
  refine GC.ret1 rfl (Rv.tmp rfl) (fun wN HN => ?_)
  exact HN.ret () trivial rfl ulN rfl

set_option maxRecDepth 100000 in
set_option maxHeartbeats 1000000 in
theorem k40_8 (w : World) :
    Calls Try.prog 40 #[(.float .f64 13821547256400052224)] w (Ret w (fun _ : Unit => True) (fun rz => (.int .u32 3196059648)) (fun rz => [])) := by
  refine enter (M := None) (L := []) (n := 6) (l := [(0, (.float .f64 13821547256400052224))]) Try.func40 rfl rfl (Args.cons rfl (Args.nil _)) (Hp.start _ _) ?_
  refine GC.seq ?_
  refine GC.region ?_
  refine GL.val (Ex.assign rfl) (by decide) ?_
  refine GL.nil ?_
  refine GE.thenN ?_
  refine GC.seq ?_
  refine GC.region ?_
  refine GL.val (Ex.move rfl) (by decide) ?_
  refine GL.val (v := (.int .u64 13821547256400052224)) (Ex.ext (vs := [(.float .f64 13821547256400052224)]) rfl rfl T.ext71 (fun _ => by first | rfl | kernel_rfl)) (by decide) ?_
  refine GL.step (Stp.callR (vs := [(.int .u64 13821547256400052224)]) rfl rfl T.own70 (by decide) (fun wc hw => k70_9  wc )) (fun xq1 hq2 => ?_)
  refine GL.val (Ex.assign rfl) (by decide) ?_
  refine GL.nil ?_
  refine GE.thenN ?_
  refine GC.ret ?_
  refine GC.ret1 rfl (Rv.tmp rfl) (fun wN HN => ?_)
  exact HN.ret () trivial rfl ulN rfl

set_option maxRecDepth 100000 in
set_option maxHeartbeats 1000000 in
theorem k84_13 (w : World) :
    Calls Try.prog 84 #[(.float .f32 3217031168)] w (Ret w (fun _ : Unit => True) (fun rz => (.int .u32 3217031168)) (fun rz => [])) := by
  refine enter (M := None) (L := []) (n := 8) (l := [(0, (.float .f32 3217031168))]) Try.func84 rfl rfl (Args.cons rfl (Args.nil _)) (Hp.start _ _) ?_
  refine GC.seq ?_
  refine GC.region ?_
  refine GL.val (Ex.assign rfl) (by decide) ?_
  refine GL.nil ?_
  refine GE.thenN ?_
  refine GC.seq ?_
  refine GC.seq ?_
  refine GC.region ?_
  refine GL.val (Ex.move rfl) (by decide) ?_
  refine GL.val (Ex.move rfl) (by decide) ?_
  refine GL.val (v := (.bool false)) (Ex.fneq (r := false) rfl rfl (by kernel_rfl)) (by decide) ?_
  refine GL.nil ?_
  refine GE.thenN ?_
  refine GC.cond rfl (fun hq1 => by cases hq1) (fun _ => ?_)
  refine GC.skip ?_
  refine GE.thenN ?_
  refine GC.seq ?_
  refine GC.region ?_
  refine GL.val (Ex.move rfl) (by decide) ?_
  refine GL.val (v := (.int .u32 3217031168)) (Ex.ext (vs := [(.float .f32 3217031168)]) rfl rfl T.ext92 (fun _ => by first | rfl | kernel_rfl)) (by decide) ?_
  refine GL.val (Ex.assign rfl) (by decide) ?_
  refine GL.nil ?_
  refine GE.thenN ?_
  refine GC.ret ?_
  refine GC.ret1 rfl (Rv.tmp rfl) (fun wN HN => ?_)
  exact HN.ret () trivial rfl ulN rfl

set_option maxRecDepth 100000 in
set_option maxHeartbeats 1000000 in
theorem k70_12 (w : World) :
    Calls Try.prog 70 #[(.int .u64 13832806255468478464)] w (Ret w (fun _ : Unit => True) (fun rz => (.int .u32 3217031168)) (fun rz => [])) := by
  refine enter (M := None) (L := []) (n := 7) (l := [(0, (.int .u64 13832806255468478464))]) Try.func70 rfl rfl (Args.cons rfl (Args.nil _)) (Hp.start _ _) ?_
  refine GC.seq ?_
  refine GC.region ?_
  refine GL.val (Ex.assign rfl) (by decide) ?_
  refine GL.nil ?_
  refine GE.thenN ?_
  refine GC.seq ?_
  refine GC.region ?_
  refine GL.val (Ex.move rfl) (by decide) ?_
  refine GL.val (v := (.float .f64 13832806255468478464)) (Ex.ext (vs := [(.int .u64 13832806255468478464)]) rfl rfl T.ext85 (fun _ => by first | rfl | kernel_rfl)) (by decide) ?_
  refine GL.val (v := (.float .f32 3217031168)) (Ex.cff (r := 3217031168) rfl Try.underlying50 Try.underlying76 (by kernel_rfl)) (by decide) ?_
  refine GL.step (Stp.callR (vs := [(.float .f32 3217031168)]) rfl rfl T.own84 (by decide) (fun wc hw => k84_13  wc )) (fun xq1 hq2 => ?_)
  refine GL.val (Ex.assign rfl) (by decide) ?_
  refine GL.nil ?_
  refine GE.thenN ?_
  refine GC.ret ?_
  refine GC.ret1 rfl (Rv.tmp rfl) (fun wN HN => ?_)
  exact HN.ret () trivial rfl ulN rfl

set_option maxRecDepth 100000 in
set_option maxHeartbeats 1000000 in
theorem k40_11 (w : World) :
    Calls Try.prog 40 #[(.float .f64 13832806255468478464)] w (Ret w (fun _ : Unit => True) (fun rz => (.int .u32 3217031168)) (fun rz => [])) := by
  refine enter (M := None) (L := []) (n := 6) (l := [(0, (.float .f64 13832806255468478464))]) Try.func40 rfl rfl (Args.cons rfl (Args.nil _)) (Hp.start _ _) ?_
  refine GC.seq ?_
  refine GC.region ?_
  refine GL.val (Ex.assign rfl) (by decide) ?_
  refine GL.nil ?_
  refine GE.thenN ?_
  refine GC.seq ?_
  refine GC.region ?_
  refine GL.val (Ex.move rfl) (by decide) ?_
  refine GL.val (v := (.int .u64 13832806255468478464)) (Ex.ext (vs := [(.float .f64 13832806255468478464)]) rfl rfl T.ext71 (fun _ => by first | rfl | kernel_rfl)) (by decide) ?_
  refine GL.step (Stp.callR (vs := [(.int .u64 13832806255468478464)]) rfl rfl T.own70 (by decide) (fun wc hw => k70_12  wc )) (fun xq1 hq2 => ?_)
  refine GL.val (Ex.assign rfl) (by decide) ?_
  refine GL.nil ?_
  refine GE.thenN ?_
  refine GC.ret ?_
  refine GC.ret1 rfl (Rv.tmp rfl) (fun wN HN => ?_)
  exact HN.ret () trivial rfl ulN rfl

set_option maxRecDepth 100000 in
set_option maxHeartbeats 1000000 in
theorem k14_1 (w : World) :
    Calls Try.prog 14 #[(.int .u32 1065353216), (.int .u32 1073741824), (.int .u32 1082130432)] w (Ret w (fun _ : Unit => True) (fun rz => (.tuple #[(.int .u32 1074790400), (.int .u32 3196059648), (.int .u32 3217031168)])) (fun rz => [])) := by
  refine enter (M := None) (L := []) (n := 36) (l := [(0, (.int .u32 1065353216)), (1, (.int .u32 1073741824)), (2, (.int .u32 1082130432))]) Try.func14 rfl rfl (Args.cons rfl (Args.cons rfl (Args.cons rfl (Args.nil _)))) (Hp.start _ _) ?_
  refine GC.seq ?_
  refine GC.region ?_
  refine GL.val (Ex.assign rfl) (by decide) ?_
  refine GL.val (Ex.assign rfl) (by decide) ?_
  refine GL.val (Ex.assign rfl) (by decide) ?_
  refine GL.nil ?_
  refine GE.thenN ?_
  refine GC.seq ?_
  refine GC.region ?_
  refine GL.val (Ex.move rfl) (by decide) ?_
  refine GL.step (Stp.callR (vs := [(.int .u32 1065353216)]) rfl rfl T.own39 (by decide) (fun wc hw => k39_2  wc )) (fun xq1 hq2 => ?_)
  refine GL.val (Ex.move rfl) (by decide) ?_
  refine GL.step (Stp.callR (vs := [(.int .u32 1082130432)]) rfl rfl T.own39 (by decide) (fun wc hw => k39_3  wc )) (fun xq3 hq4 => ?_)
  refine GL.val (v := (.float .f64 4617315517961601024)) (Ex.farith (r := 4617315517961601024) rfl rfl (by kernel_rfl)) (by decide) ?_
  refine GL.val (Ex.move rfl) (by decide) ?_
  refine GL.step (Stp.callR (vs := [(.int .u32 1073741824)]) rfl rfl T.own39 (by decide) (fun wc hw => k39_4  wc )) (fun xq5 hq6 => ?_)
  refine GL.val (v := (.float .f64 4616189618054758400)) (Ex.farith (r := 4616189618054758400) rfl rfl (by kernel_rfl)) (by decide) ?_
  refine GL.val (Ex.assign rfl) (by decide) ?_
  refine GL.val (Ex.assign rfl) (by decide) ?_
  refine GL.nil ?_
  refine GE.thenN ?_
  refine GC.seq ?_
  refine GC.region ?_
  refine GL.val (Ex.move rfl) (by decide) ?_
  refine GL.val (Ex.move rfl) (by decide) ?_
  refine GL.val (v := (.float .f64 4621256167635550208)) (Ex.farith (r := 4621256167635550208) rfl rfl (by kernel_rfl)) (by decide) ?_
  refine GL.val (v := (.float .f64 4612248968380809216)) (Ex.farith (r := 4612248968380809216) rfl rfl (by kernel_rfl)) (by decide) ?_
  refine GL.step (Stp.callR (vs := [(.float .f64 4612248968380809216)]) rfl rfl T.own40 (by decide) (fun wc hw => k40_5  wc )) (fun xq7 hq8 => ?_)
  refine GL.val (Ex.move rfl) (by decide) ?_
  refine GL.val (Ex.move rfl) (by decide) ?_
  refine GL.val (v := (.float .f64 13830554455654793216)) (Ex.farith (r := 13830554455654793216) rfl rfl (by kernel_rfl)) (by decide) ?_
  refine GL.val (v := (.float .f64 13821547256400052224)) (Ex.farith (r := 13821547256400052224) rfl rfl (by kernel_rfl)) (by decide) ?_
  refine GL.step (Stp.callR (vs := [(.float .f64 13821547256400052224)]) rfl rfl T.own40 (by decide) (fun wc hw => k40_8  wc )) (fun xq9 hq10 => ?_)
  refine GL.val (Ex.move rfl) (by decide) ?_
  refine GL.step (Stp.callR (vs := [(.int .u32 1065353216)]) rfl rfl T.own39 (by decide) (fun wc hw => k39_2  wc )) (fun xq11 hq12 => ?_)
  refine GL.val (Ex.move rfl) (by decide) ?_
  refine GL.step (Stp.callR (vs := [(.int .u32 1082130432)]) rfl rfl T.own39 (by decide) (fun wc hw => k39_3  wc )) (fun xq13 hq14 => ?_)
  refine GL.val (v := (.float .f64 13837309855095848960)) (Ex.farith (r := 13837309855095848960) rfl rfl (by kernel_rfl)) (by decide) ?_
  refine GL.val (v := (.float .f64 13832806255468478464)) (Ex.farith (r := 13832806255468478464) rfl rfl (by kernel_rfl)) (by decide) ?_
  refine GL.step (Stp.callR (vs := [(.float .f64 13832806255468478464)]) rfl rfl T.own40 (by decide) (fun wc hw => k40_11  wc )) (fun xq15 hq16 => ?_)
  refine GL.val (Ex.assign rfl) (by decide) ?_
  refine GL.val (Ex.assign rfl) (by decide) ?_
  refine GL.val (Ex.assign rfl) (by decide) ?_
  refine GL.nil ?_
  refine GE.thenN ?_
  refine GC.ret ?_
  refine GC.ret3 rfl (Rv.tmp rfl) (Rv.tmp rfl) (Rv.tmp rfl) (fun wN HN => ?_)
  exact HN.ret () trivial rfl ulN rfl

set_option maxRecDepth 100000 in
set_option maxHeartbeats 1000000 in
theorem k39_15 (w : World) :
    Calls Try.prog 39 #[(.int .u32 1074790400)] w (Ret w (fun _ : Unit => True) (fun rz => (.float .f64 4612248968380809216)) (fun rz => [])) := by
  refine enter (M := None) (L := []) (n := 6) (l := [(0, (.int .u32 1074790400))]) Try.func39 rfl rfl (Args.cons rfl (Args.nil _)) (Hp.start _ _) ?_
  refine GC.seq ?_
  refine GC.region ?_
  refine GL.val (Ex.assign rfl) (by decide) ?_
  refine GL.nil ?_
  refine GE.thenN ?_
  refine GC.seq ?_
  refine GC.region ?_
  refine GL.val (Ex.move rfl) (by decide) ?_
  refine GL.val (v := (.float .f32 1074790400)) (Ex.ext (vs := [(.int .u32 1074790400)]) rfl rfl T.ext69 (fun _ => by first | rfl | kernel_rfl)) (by decide) ?_
  refine GL.val (v := (.float .f64 4612248968380809216)) (Ex.cff (r := 4612248968380809216) rfl Try.underlying76 Try.underlying50 (by kernel_rfl)) (by decide) ?_
  refine GL.val (Ex.assign rfl) (by decide) ?_
  refine GL.nil ?_
  refine GE.thenN ?_
  refine GC.ret ?_
  refine GC.ret1 rfl (Rv.tmp rfl) (fun wN HN => ?_)
  exact HN.ret () trivial rfl ulN rfl

set_option maxRecDepth 100000 in
set_option maxHeartbeats 1000000 in
theorem k39_16 (w : World) :
    Calls Try.prog 39 #[(.int .u32 3196059648)] w (Ret w (fun _ : Unit => True) (fun rz => (.float .f64 13821547256400052224)) (fun rz => [])) := by
  refine enter (M := None) (L := []) (n := 6) (l := [(0, (.int .u32 3196059648))]) Try.func39 rfl rfl (Args.cons rfl (Args.nil _)) (Hp.start _ _) ?_
  refine GC.seq ?_
  refine GC.region ?_
  refine GL.val (Ex.assign rfl) (by decide) ?_
  refine GL.nil ?_
  refine GE.thenN ?_
  refine GC.seq ?_
  refine GC.region ?_
  refine GL.val (Ex.move rfl) (by decide) ?_
  refine GL.val (v := (.float .f32 3196059648)) (Ex.ext (vs := [(.int .u32 3196059648)]) rfl rfl T.ext69 (fun _ => by first | rfl | kernel_rfl)) (by decide) ?_
  refine GL.val (v := (.float .f64 13821547256400052224)) (Ex.cff (r := 13821547256400052224) rfl Try.underlying76 Try.underlying50 (by kernel_rfl)) (by decide) ?_
  refine GL.val (Ex.assign rfl) (by decide) ?_
  refine GL.nil ?_
  refine GE.thenN ?_
  refine GC.ret ?_
  refine GC.ret1 rfl (Rv.tmp rfl) (fun wN HN => ?_)
  exact HN.ret () trivial rfl ulN rfl

set_option maxRecDepth 100000 in
set_option maxHeartbeats 1000000 in
theorem k39_17 (w : World) :
    Calls Try.prog 39 #[(.int .u32 3217031168)] w (Ret w (fun _ : Unit => True) (fun rz => (.float .f64 13832806255468478464)) (fun rz => [])) := by
  refine enter (M := None) (L := []) (n := 6) (l := [(0, (.int .u32 3217031168))]) Try.func39 rfl rfl (Args.cons rfl (Args.nil _)) (Hp.start _ _) ?_
  refine GC.seq ?_
  refine GC.region ?_
  refine GL.val (Ex.assign rfl) (by decide) ?_
  refine GL.nil ?_
  refine GE.thenN ?_
  refine GC.seq ?_
  refine GC.region ?_
  refine GL.val (Ex.move rfl) (by decide) ?_
  refine GL.val (v := (.float .f32 3217031168)) (Ex.ext (vs := [(.int .u32 3217031168)]) rfl rfl T.ext69 (fun _ => by first | rfl | kernel_rfl)) (by decide) ?_
  refine GL.val (v := (.float .f64 13832806255468478464)) (Ex.cff (r := 13832806255468478464) rfl Try.underlying76 Try.underlying50 (by kernel_rfl)) (by decide) ?_
  refine GL.val (Ex.assign rfl) (by decide) ?_
  refine GL.nil ?_
  refine GE.thenN ?_
  refine GC.ret ?_
  refine GC.ret1 rfl (Rv.tmp rfl) (fun wN HN => ?_)
  exact HN.ret () trivial rfl ulN rfl

set_option maxRecDepth 100000 in
set_option maxHeartbeats 1000000 in
theorem k84_20 (w : World) :
    Calls Try.prog 84 #[(.float .f32 1065353216)] w (Ret w (fun _ : Unit => True) (fun rz => (.int .u32 1065353216)) (fun rz => [])) := by
  refine enter (M := None) (L := []) (n := 8) (l := [(0, (.float .f32 1065353216))]) Try.func84 rfl rfl (Args.cons rfl (Args.nil _)) (Hp.start _ _) ?_
  refine GC.seq ?_
  refine GC.region ?_
  refine GL.val (Ex.assign rfl) (by decide) ?_
  refine GL.nil ?_
  refine GE.thenN ?_
  refine GC.seq ?_
  refine GC.seq ?_
  refine GC.region ?_
  refine GL.val (Ex.move rfl) (by decide) ?_
  refine GL.val (Ex.move rfl) (by decide) ?_
  refine GL.val (v := (.bool false)) (Ex.fneq (r := false) rfl rfl (by kernel_rfl)) (by decide) ?_
  refine GL.nil ?_
  refine GE.thenN ?_
  refine GC.cond rfl (fun hq1 => by cases hq1) (fun _ => ?_)
  refine GC.skip ?_
  refine GE.thenN ?_
  refine GC.seq ?_
  refine GC.region ?_
  refine GL.val (Ex.move rfl) (by decide) ?_
  refine GL.val (v := (.int .u32 1065353216)) (Ex.ext (vs := [(.float .f32 1065353216)]) rfl rfl T.ext92 (fun _ => by first | rfl | kernel_rfl)) (by decide) ?_
  refine GL.val (Ex.assign rfl) (by decide) ?_
  refine GL.nil ?_
  refine GE.thenN ?_
  refine GC.ret ?_
  refine GC.ret1 rfl (Rv.tmp rfl) (fun wN HN => ?_)
  exact HN.ret () trivial rfl ulN rfl

set_option maxRecDepth 100000 in
set_option maxHeartbeats 1000000 in
theorem k70_19 (w : World) :
    Calls Try.prog 70 #[(.int .u64 4607182418800017408)] w (Ret w (fun _ : Unit => True) (fun rz => (.int .u32 1065353216)) (fun rz => [])) := by
  refine enter (M := None) (L := []) (n := 7) (l := [(0, (.int .u64 4607182418800017408))]) Try.func70 rfl rfl (Args.cons rfl (Args.nil _)) (Hp.start _ _) ?_
  refine GC.seq ?_
  refine GC.region ?_
  refine GL.val (Ex.assign rfl) (by decide) ?_
  refine GL.nil ?_
  refine GE.thenN ?_
  refine GC.seq ?_
  refine GC.region ?_
  refine GL.val (Ex.move rfl) (by decide) ?_
  refine GL.val (v := (.float .f64 4607182418800017408)) (Ex.ext (vs := [(.int .u64 4607182418800017408)]) rfl rfl T.ext85 (fun _ => by first | rfl | kernel_rfl)) (by decide) ?_
  refine GL.val (v := (.float .f32 1065353216)) (Ex.cff (r := 1065353216) rfl Try.underlying50 Try.underlying76 (by kernel_rfl)) (by decide) ?_
  refine GL.step (Stp.callR (vs := [(.float .f32 1065353216)]) rfl rfl T.own84 (by decide) (fun wc hw => k84_20  wc )) (fun xq1 hq2 => ?_)
  refine GL.val (Ex.assign rfl) (by decide) ?_
  refine GL.nil ?_
  refine GE.thenN ?_
  refine GC.ret ?_
  refine GC.ret1 rfl (Rv.tmp rfl) (fun wN HN => ?_)
  exact HN.ret () trivial rfl ulN rfl

set_option maxRecDepth 100000 in
set_option maxHeartbeats 1000000 in
theorem k40_18 (w : World) :
    Calls Try.prog 40 #[(.float .f64 4607182418800017408)] w (Ret w (fun _ : Unit => True) (fun rz => (.int .u32 1065353216)) (fun rz => [])) := by
  refine enter (M := None) (L := []) (n := 6) (l := [(0, (.float .f64 4607182418800017408))]) Try.func40 rfl rfl (Args.cons rfl (Args.nil _)) (Hp.start _ _) ?_
  refine GC.seq ?_
  refine GC.region ?_
  refine GL.val (Ex.assign rfl) (by decide) ?_
  refine GL.nil ?_
  refine GE.thenN ?_
  refine GC.seq ?_
  refine GC.region ?_
  refine GL.val (Ex.move rfl) (by decide) ?_
  refine GL.val (v := (.int .u64 4607182418800017408)) (Ex.ext (vs := [(.float .f64 4607182418800017408)]) rfl rfl T.ext71 (fun _ => by first | rfl | kernel_rfl)) (by decide) ?_
  refine GL.step (Stp.callR (vs := [(.int .u64 4607182418800017408)]) rfl rfl T.own70 (by decide) (fun wc hw => k70_19  wc )) (fun xq1 hq2 => ?_)
  refine GL.val (Ex.assign rfl) (by decide) ?_
  refine GL.nil ?_
  refine GE.thenN ?_
  refine GC.ret ?_
  refine GC.ret1 rfl (Rv.tmp rfl) (fun wN HN => ?_)
  exact HN.ret () trivial rfl ulN rfl

set_option maxRecDepth 100000 in
set_option maxHeartbeats 1000000 in
theorem k84_23 (w : World) :
    Calls Try.prog 84 #[(.float .f32 1073741824)] w (Ret w (fun _ : Unit => True) (fun rz => (.int .u32 1073741824)) (fun rz => [])) := by
  refine enter (M := None) (L := []) (n := 8) (l := [(0, (.float .f32 1073741824))]) Try.func84 rfl rfl (Args.cons rfl (Args.nil _)) (Hp.start _ _) ?_
  refine GC.seq ?_
  refine GC.region ?_
  refine GL.val (Ex.assign rfl) (by decide) ?_
  refine GL.nil ?_
  refine GE.thenN ?_
  refine GC.seq ?_
  refine GC.seq ?_
  refine GC.region ?_
  refine GL.val (Ex.move rfl) (by decide) ?_
  refine GL.val (Ex.move rfl) (by decide) ?_
  refine GL.val (v := (.bool false)) (Ex.fneq (r := false) rfl rfl (by kernel_rfl)) (by decide) ?_
  refine GL.nil ?_
  refine GE.thenN ?_
  refine GC.cond rfl (fun hq1 => by cases hq1) (fun _ => ?_)
  refine GC.skip ?_
  refine GE.thenN ?_
  refine GC.seq ?_
  refine GC.region ?_
  refine GL.val (Ex.move rfl) (by decide) ?_
  refine GL.val (v := (.int .u32 1073741824)) (Ex.ext (vs := [(.float .f32 1073741824)]) rfl rfl T.ext92 (fun _ => by first | rfl | kernel_rfl)) (by decide) ?_
  refine GL.val (Ex.assign rfl) (by decide) ?_
  refine GL.nil ?_
  refine GE.thenN ?_
  refine GC.ret ?_
  refine GC.ret1 rfl (Rv.tmp rfl) (fun wN HN => ?_)
  exact HN.ret () trivial rfl ulN rfl

set_option maxRecDepth 100000 in
set_option maxHeartbeats 1000000 in
theorem k70_22 (w : World) :
    Calls Try.prog 70 #[(.int .u64 4611686018427387904)] w (Ret w (fun _ : Unit => True) (fun rz => (.int .u32 1073741824)) (fun rz => [])) := by
  refine enter (M := None) (L := []) (n := 7) (l := [(0, (.int .u64 4611686018427387904))]) Try.func70 rfl rfl (Args.cons rfl (Args.nil _)) (Hp.start _ _) ?_
  refine GC.seq ?_
  refine GC.region ?_
  refine GL.val (Ex.assign rfl) (by decide) ?_
  refine GL.nil ?_
  refine GE.thenN ?_
  refine GC.seq ?_
  refine GC.region ?_
  refine GL.val (Ex.move rfl) (by decide) ?_
  refine GL.val (v := (.float .f64 4611686018427387904)) (Ex.ext (vs := [(.int .u64 4611686018427387904)]) rfl rfl T.ext85 (fun _ => by first | rfl | kernel_rfl)) (by decide) ?_
  refine GL.val (v := (.float .f32 1073741824)) (Ex.cff (r := 1073741824) rfl Try.underlying50 Try.underlying76 (by kernel_rfl)) (by decide) ?_
  refine GL.step (Stp.callR (vs := [(.float .f32 1073741824)]) rfl rfl T.own84 (by decide) (fun wc hw => k84_23  wc )) (fun xq1 hq2 => ?_)
  refine GL.val (Ex.assign rfl) (by decide) ?_
  refine GL.nil ?_
  refine GE.thenN ?_
  refine GC.ret ?_
  refine GC.ret1 rfl (Rv.tmp rfl) (fun wN HN => ?_)
  exact HN.ret () trivial rfl ulN rfl

set_option maxRecDepth 100000 in
set_option maxHeartbeats 1000000 in
theorem k40_21 (w : World) :
    Calls Try.prog 40 #[(.float .f64 4611686018427387904)] w (Ret w (fun _ : Unit => True) (fun rz => (.int .u32 1073741824)) (fun rz => [])) := by
  refine enter (M := None) (L := []) (n := 6) (l := [(0, (.float .f64 4611686018427387904))]) Try.func40 rfl rfl (Args.cons rfl (Args.nil _)) (Hp.start _ _) ?_
  refine GC.seq ?_
  refine GC.region ?_
  refine GL.val (Ex.assign rfl) (by decide) ?_
  refine GL.nil ?_
  refine GE.thenN ?_
  refine GC.seq ?_
  refine GC.region ?_
  refine GL.val (Ex.move rfl) (by decide) ?_
  refine GL.val (v := (.int .u64 4611686018427387904)) (Ex.ext (vs := [(.float .f64 4611686018427387904)]) rfl rfl T.ext71 (fun _ => by first | rfl | kernel_rfl)) (by decide) ?_
  refine GL.step (Stp.callR (vs := [(.int .u64 4611686018427387904)]) rfl rfl T.own70 (by decide) (fun wc hw => k70_22  wc )) (fun xq1 hq2 => ?_)
  refine GL.val (Ex.assign rfl) (by decide) ?_
  refine GL.nil ?_
  refine GE.thenN ?_
  refine GC.ret ?_
  refine GC.ret1 rfl (Rv.tmp rfl) (fun wN HN => ?_)
  exact HN.ret () trivial rfl ulN rfl

set_option maxRecDepth 100000 in
set_option maxHeartbeats 1000000 in
theorem k84_26 (w : World) :
    Calls Try.prog 84 #[(.float .f32 1082130432)] w (Ret w (fun _ : Unit => True) (fun rz => (.int .u32 1082130432)) (fun rz => [])) := by
  refine enter (M := None) (L := []) (n := 8) (l := [(0, (.float .f32 1082130432))]) Try.func84 rfl rfl (Args.cons rfl (Args.nil _)) (Hp.start _ _) ?_
  refine GC.seq ?_
  refine GC.region ?_
  refine GL.val (Ex.assign rfl) (by decide) ?_
  refine GL.nil ?_
  refine GE.thenN ?_
  refine GC.seq ?_
  refine GC.seq ?_
  refine GC.region ?_
  refine GL.val (Ex.move rfl) (by decide) ?_
  refine GL.val (Ex.move rfl) (by decide) ?_
  refine GL.val (v := (.bool false)) (Ex.fneq (r := false) rfl rfl (by kernel_rfl)) (by decide) ?_
  refine GL.nil ?_
  refine GE.thenN ?_
  refine GC.cond rfl (fun hq1 => by cases hq1) (fun _ => ?_)
  refine GC.skip ?_
  refine GE.thenN ?_
  refine GC.seq ?_
  refine GC.region ?_
  refine GL.val (Ex.move rfl) (by decide) ?_
  refine GL.val (v := (.int .u32 1082130432)) (Ex.ext (vs := [(.float .f32 1082130432)]) rfl rfl T.ext92 (fun _ => by first | rfl | kernel_rfl)) (by decide) ?_
  refine GL.val (Ex.assign rfl) (by decide) ?_
  refine GL.nil ?_
  refine GE.thenN ?_
  refine GC.ret ?_
  refine GC.ret1 rfl (Rv.tmp rfl) (fun wN HN => ?_)
  exact HN.ret () trivial rfl ulN rfl

set_option maxRecDepth 100000 in
set_option maxHeartbeats 1000000 in
theorem k70_25 (w : World) :
    Calls Try.prog 70 #[(.int .u64 4616189618054758400)] w (Ret w (fun _ : Unit => True) (fun rz => (.int .u32 1082130432)) (fun rz => [])) := by
  refine enter (M := None) (L := []) (n := 7) (l := [(0, (.int .u64 4616189618054758400))]) Try.func70 rfl rfl (Args.cons rfl (Args.nil _)) (Hp.start _ _) ?_
  refine GC.seq ?_
  refine GC.region ?_
  refine GL.val (Ex.assign rfl) (by decide) ?_
  refine GL.nil ?_
  refine GE.thenN ?_
  refine GC.seq ?_
  refine GC.region ?_
  refine GL.val (Ex.move rfl) (by decide) ?_
  refine GL.val (v := (.float .f64 4616189618054758400)) (Ex.ext (vs := [(.int .u64 4616189618054758400)]) rfl rfl T.ext85 (fun _ => by first | rfl | kernel_rfl)) (by decide) ?_
  refine GL.val (v := (.float .f32 1082130432)) (Ex.cff (r := 1082130432) rfl Try.underlying50 Try.underlying76 (by kernel_rfl)) (by decide) ?_
  refine GL.step (Stp.callR (vs := [(.float .f32 1082130432)]) rfl rfl T.own84 (by decide) (fun wc hw => k84_26  wc )) (fun xq1 hq2 => ?_)
  refine GL.val (Ex.assign rfl) (by decide) ?_
  refine GL.nil ?_
  refine GE.thenN ?_
  refine GC.ret ?_
  refine GC.ret1 rfl (Rv.tmp rfl) (fun wN HN => ?_)
  exact HN.ret () trivial rfl ulN rfl

set_option maxRecDepth 100000 in
set_option maxHeartbeats 1000000 in
theorem k40_24 (w : World) :
    Calls Try.prog 40 #[(.float .f64 4616189618054758400)] w (Ret w (fun _ : Unit => True) (fun rz => (.int .u32 1082130432)) (fun rz => [])) := by
  refine enter (M := None) (L := []) (n := 6) (l := [(0, (.float .f64 4616189618054758400))]) Try.func40 rfl rfl (Args.cons rfl (Args.nil _)) (Hp.start _ _) ?_
  refine GC.seq ?_
  refine GC.region ?_
  refine GL.val (Ex.assign rfl) (by decide) ?_
  refine GL.nil ?_
  refine GE.thenN ?_
  refine GC.seq ?_
  refine GC.region ?_
  refine GL.val (Ex.move rfl) (by decide) ?_
  refine GL.val (v := (.int .u64 4616189618054758400)) (Ex.ext (vs := [(.float .f64 4616189618054758400)]) rfl rfl T.ext71 (fun _ => by first | rfl | kernel_rfl)) (by decide) ?_
  refine GL.step (Stp.callR (vs := [(.int .u64 4616189618054758400)]) rfl rfl T.own70 (by decide) (fun wc hw => k70_25  wc )) (fun xq1 hq2 => ?_)
  refine GL.val (Ex.assign rfl) (by decide) ?_
  refine GL.nil ?_
  refine GE.thenN ?_
  refine GC.ret ?_
  refine GC.ret1 rfl (Rv.tmp rfl) (fun wN HN => ?_)
  exact HN.ret () trivial rfl ulN rfl

set_option maxRecDepth 100000 in
set_option maxHeartbeats 1000000 in
theorem k16_14 (w : World) :
    Calls Try.prog 16 #[(.int .u32 1074790400), (.int .u32 3196059648), (.int .u32 3217031168)] w (Ret w (fun _ : Unit => True) (fun rz => (.tuple #[(.int .u32 1065353216), (.int .u32 1073741824), (.int .u32 1082130432)])) (fun rz => [])) := by
  refine enter (M := None) (L := []) (n := 31) (l := [(0, (.int .u32 1074790400)), (1, (.int .u32 3196059648)), (2, (.int .u32 3217031168))]) Try.func16 rfl rfl (Args.cons rfl (Args.cons rfl (Args.cons rfl (Args.nil _)))) (Hp.start _ _) ?_
  refine GC.seq ?_
  refine GC.region ?_
  refine GL.val (Ex.assign rfl) (by decide) ?_
  refine GL.val (Ex.assign rfl) (by decide) ?_
  refine GL.val (Ex.assign rfl) (by decide) ?_
  refine GL.nil ?_
  refine GE.thenN ?_
  refine GC.seq ?_
  refine GC.region ?_
  refine GL.val (Ex.move rfl) (by decide) ?_
  refine GL.step (Stp.callR (vs := [(.int .u32 1074790400)]) rfl rfl T.own39 (by decide) (fun wc hw => k39_15  wc )) (fun xq1 hq2 => ?_)
  refine GL.val (Ex.move rfl) (by decide) ?_
  refine GL.step (Stp.callR (vs := [(.int .u32 3196059648)]) rfl rfl T.own39 (by decide) (fun wc hw => k39_16  wc )) (fun xq3 hq4 => ?_)
  refine GL.val (v := (.float .f64 4612811918334230528)) (Ex.farith (r := 4612811918334230528) rfl rfl (by kernel_rfl)) (by decide) ?_
  refine GL.val (Ex.assign rfl) (by decide) ?_
  refine GL.nil ?_
  refine GE.thenN ?_
  refine GC.seq ?_
  refine GC.region ?_
  refine GL.val (Ex.move rfl) (by decide) ?_
  refine GL.val (Ex.move rfl) (by decide) ?_
  refine GL.step (Stp.callR (vs := [(.int .u32 3217031168)]) rfl rfl T.own39 (by decide) (fun wc hw => k39_17  wc )) (fun xq5 hq6 => ?_)
  refine GL.val (v := (.float .f64 4607182418800017408)) (Ex.farith (r := 4607182418800017408) rfl rfl (by kernel_rfl)) (by decide) ?_
  refine GL.step (Stp.callR (vs := [(.float .f64 4607182418800017408)]) rfl rfl T.own40 (by decide) (fun wc hw => k40_18  wc )) (fun xq7 hq8 => ?_)
  refine GL.val (Ex.move rfl) (by decide) ?_
  refine GL.step (Stp.callR (vs := [(.int .u32 1074790400)]) rfl rfl T.own39 (by decide) (fun wc hw => k39_15  wc )) (fun xq9 hq10 => ?_)
  refine GL.val (Ex.move rfl) (by decide) ?_
  refine GL.step (Stp.callR (vs := [(.int .u32 3196059648)]) rfl rfl T.own39 (by decide) (fun wc hw => k39_16  wc )) (fun xq11 hq12 => ?_)
  refine GL.val (v := (.float .f64 4611686018427387904)) (Ex.farith (r := 4611686018427387904) rfl rfl (by kernel_rfl)) (by decide) ?_
  refine GL.step (Stp.callR (vs := [(.float .f64 4611686018427387904)]) rfl rfl T.own40 (by decide) (fun wc hw => k40_21  wc )) (fun xq13 hq14 => ?_)
  refine GL.val (Ex.move rfl) (by decide) ?_
  refine GL.val (Ex.move rfl) (by decide) ?_
  refine GL.step (Stp.callR (vs := [(.int .u32 3217031168)]) rfl rfl T.own39 (by decide) (fun wc hw => k39_17  wc )) (fun xq15 hq16 => ?_)
  refine GL.val (v := (.float .f64 4616189618054758400)) (Ex.farith (r := 4616189618054758400) rfl rfl (by kernel_rfl)) (by decide) ?_
  refine GL.step (Stp.callR (vs := [(.float .f64 4616189618054758400)]) rfl rfl T.own40 (by decide) (fun wc hw => k40_24  wc )) (fun xq17 hq18 => ?_)
  refine GL.val (Ex.assign rfl) (by decide) ?_
  refine GL.val (Ex.assign rfl) (by decide) ?_
  refine GL.val (Ex.assign rfl) (by decide) ?_
  refine GL.nil ?_
  refine GE.thenN ?_
  refine GC.ret ?_
  refine GC.ret3 rfl (Rv.tmp rfl) (Rv.tmp rfl) (Rv.tmp rfl) (fun wN HN => ?_)
  exact HN.ret () trivial rfl ulN rfl

set_option maxRecDepth 100000 in
set_option maxHeartbeats 1000000 in
theorem k39_28 (w : World) :
    Calls Try.prog 39 #[(.int .u32 1090519040)] w (Ret w (fun _ : Unit => True) (fun rz => (.float .f64 4620693217682128896)) (fun rz => [])) := by
  refine enter (M := None) (L := []) (n := 6) (l := [(0, (.int .u32 1090519040))]) Try.func39 rfl rfl (Args.cons rfl (Args.nil _)) (Hp.start _ _) ?_
  refine GC.seq ?_
  refine GC.region ?_
  refine GL.val (Ex.assign rfl) (by decide) ?_
  refine GL.nil ?_
  refine GE.thenN ?_
  refine GC.seq ?_
  refine GC.region ?_
  refine GL.val (Ex.move rfl) (by decide) ?_
  refine GL.val (v := (.float .f32 1090519040)) (Ex.ext (vs := [(.int .u32 1090519040)]) rfl rfl T.ext69 (fun _ => by first | rfl | kernel_rfl)) (by decide) ?_
  refine GL.val (v := (.float .f64 4620693217682128896)) (Ex.cff (r := 4620693217682128896) rfl Try.underlying76 Try.underlying50 (by kernel_rfl)) (by decide) ?_
  refine GL.val (Ex.assign rfl) (by decide) ?_
  refine GL.nil ?_
  refine GE.thenN ?_
  refine GC.ret ?_
  refine GC.ret1 rfl (Rv.tmp rfl) (fun wN HN => ?_)
  exact HN.ret () trivial rfl ulN rfl

set_option maxRecDepth 100000 in
set_option maxHeartbeats 1000000 in
theorem k84_31 (w : World) :
    Calls Try.prog 84 #[(.float .f32 1077936128)] w (Ret w (fun _ : Unit => True) (fun rz => (.int .u32 1077936128)) (fun rz => [])) := by
  refine enter (M := None) (L := []) (n := 8) (l := [(0, (.float .f32 1077936128))]) Try.func84 rfl rfl (Args.cons rfl (Args.nil _)) (Hp.start _ _) ?_
  refine GC.seq ?_
  refine GC.region ?_
  refine GL.val (Ex.assign rfl) (by decide) ?_
  refine GL.nil ?_
  refine GE.thenN ?_
  refine GC.seq ?_
  refine GC.seq ?_
  refine GC.region ?_
  refine GL.val (Ex.move rfl) (by decide) ?_
  refine GL.val (Ex.move rfl) (by decide) ?_
  refine GL.val (v := (.bool false)) (Ex.fneq (r := false) rfl rfl (by kernel_rfl)) (by decide) ?_
  refine GL.nil ?_
  refine GE.thenN ?_
  refine GC.cond rfl (fun hq1 => by cases hq1) (fun _ => ?_)
  refine GC.skip ?_
  refine GE.thenN ?_
  refine GC.seq ?_
  refine GC.region ?_
  refine GL.val (Ex.move rfl) (by decide) ?_
  refine GL.val (v := (.int .u32 1077936128)) (Ex.ext (vs := [(.float .f32 1077936128)]) rfl rfl T.ext92 (fun _ => by first | rfl | kernel_rfl)) (by decide) ?_
  refine GL.val (Ex.assign rfl) (by decide) ?_
  refine GL.nil ?_
  refine GE.thenN ?_
  refine GC.ret ?_
  refine GC.ret1 rfl (Rv.tmp rfl) (fun wN HN => ?_)
  exact HN.ret () trivial rfl ulN rfl

set_option maxRecDepth 100000 in
set_option maxHeartbeats 1000000 in
theorem k70_30 (w : World) :
    Calls Try.prog 70 #[(.int .u64 4613937818241073152)] w (Ret w (fun _ : Unit => True) (fun rz => (.int .u32 1077936128)) (fun rz => [])) := by
  refine enter (M := None) (L := []) (n := 7) (l := [(0, (.int .u64 4613937818241073152))]) Try.func70 rfl rfl (Args.cons rfl (Args.nil _)) (Hp.start _ _) ?_
  refine GC.seq ?_
  refine GC.region ?_
  refine GL.val (Ex.assign rfl) (by decide) ?_
  refine GL.nil ?_
  refine GE.thenN ?_
  refine GC.seq ?_
  refine GC.region ?_
  refine GL.val (Ex.move rfl) (by decide) ?_
  refine GL.val (v := (.float .f64 4613937818241073152)) (Ex.ext (vs := [(.int .u64 4613937818241073152)]) rfl rfl T.ext85 (fun _ => by first | rfl | kernel_rfl)) (by decide) ?_
  refine GL.val (v := (.float .f32 1077936128)) (Ex.cff (r := 1077936128) rfl Try.underlying50 Try.underlying76 (by kernel_rfl)) (by decide) ?_
  refine GL.step (Stp.callR (vs := [(.float .f32 1077936128)]) rfl rfl T.own84 (by decide) (fun wc hw => k84_31  wc )) (fun xq1 hq2 => ?_)
  refine GL.val (Ex.assign rfl) (by decide) ?_
  refine GL.nil ?_
  refine GE.thenN ?_
  refine GC.ret ?_
  refine GC.ret1 rfl (Rv.tmp rfl) (fun wN HN => ?_)
  exact HN.ret () trivial rfl ulN rfl

set_option maxRecDepth 100000 in
set_option maxHeartbeats 1000000 in
theorem k40_29 (w : World) :
    Calls Try.prog 40 #[(.float .f64 4613937818241073152)] w (Ret w (fun _ : Unit => True) (fun rz => (.int .u32 1077936128)) (fun rz => [])) := by
  refine enter (M := None) (L := []) (n := 6) (l := [(0, (.float .f64 4613937818241073152))]) Try.func40 rfl rfl (Args.cons rfl (Args.nil _)) (Hp.start _ _) ?_
  refine GC.seq ?_
  refine GC.region ?_
  refine GL.val (Ex.assign rfl) (by decide) ?_
  refine GL.nil ?_
  refine GE.thenN ?_
  refine GC.seq ?_
  refine GC.region ?_
  refine GL.val (Ex.move rfl) (by decide) ?_
  refine GL.val (v := (.int .u64 4613937818241073152)) (Ex.ext (vs := [(.float .f64 4613937818241073152)]) rfl rfl T.ext71 (fun _ => by first | rfl | kernel_rfl)) (by decide) ?_
  refine GL.step (Stp.callR (vs := [(.int .u64 4613937818241073152)]) rfl rfl T.own70 (by decide) (fun wc hw => k70_30  wc )) (fun xq1 hq2 => ?_)
  refine GL.val (Ex.assign rfl) (by decide) ?_
  refine GL.nil ?_
  refine GE.thenN ?_
  refine GC.ret ?_
  refine GC.ret1 rfl (Rv.tmp rfl) (fun wN HN => ?_)
  exact HN.ret () trivial rfl ulN rfl

set_option maxRecDepth 100000 in
set_option maxHeartbeats 1000000 in
theorem k18_27 (w : World) :
    Calls Try.prog 18 #[(.int .u32 1090519040)] w (Ret w (fun _ : Unit => True) (fun rz => (.int .u32 1077936128)) (fun rz => [])) := by
  refine enter (M := None) (L := []) (n := 23) (l := [(0, (.int .u32 1090519040))]) Try.func18 rfl rfl (Args.cons rfl (Args.nil _)) (Hp.start _ _) ?_
  refine GC.seq ?_
  refine GC.region ?_
  refine GL.val (Ex.assign rfl) (by decide) ?_
  refine GL.nil ?_
  refine GE.thenN ?_
  refine GC.seq ?_
  refine GC.seq ?_
  refine GC.region ?_
  refine GL.val (Ex.move rfl) (by decide) ?_
  refine GL.step (Stp.callR (vs := [(.int .u32 1090519040)]) rfl rfl T.own39 (by decide) (fun wc hw => k39_28  wc )) (fun xq1 hq2 => ?_)
  refine GL.val (Ex.assign rfl) (by decide) ?_
  refine GL.nil ?_
  refine GE.thenN ?_
  refine GC.block ?_
  refine GC.seq ?_
  refine GC.region ?_
  refine GL.val (Ex.move rfl) (by decide) ?_
  refine GL.val (v := (.bool false)) (Ex.feql (r := false) rfl rfl (by kernel_rfl)) (by decide) ?_
  refine GL.val (Ex.assign rfl) (by decide) ?_
  refine GL.nil ?_
  refine GE.thenN ?_
  refine GC.cond rfl (fun hq3 => by cases hq3) (fun _ => ?_)
  refine GC.seq ?_
  refine GC.region ?_
  refine GL.val (Ex.move rfl) (by decide) ?_
  refine GL.val (v := (.bool true)) (Ex.fgtr (r := true) rfl rfl (by kernel_rfl)) (by decide) ?_
  refine GL.val (v := (.bool false)) (Ex.cast (Ex.not rfl) rfl) (by decide) ?_
  refine GL.val (Ex.assign rfl) (by decide) ?_
  refine GL.nil ?_
  refine GE.thenN ?_
  refine GC.cond rfl (fun hq4 => by cases hq4) (fun _ => ?_)
  refine GC.seq ?_
  refine GC.region ?_
  refine GL.val (Ex.move rfl) (by decide) ?_
  refine GL.val (v := (.bool false)) (Ex.cast (Ex.eql rfl rfl) rfl) (by decide) ?_
  refine GL.val (Ex.assign rfl) (by decide) ?_
  refine GL.nil ?_
  refine GE.thenN ?_
  refine GC.cond rfl (fun hq5 => by cases hq5) (fun _ => ?_)
  refine GC.skip ?_
  refine GE.blockN ?_
  refine GE.thenN ?_
  refine GC.seq ?_
  refine GC.region ?_
  refine GL.val (Ex.move rfl) (by decide) ?_
  refine GL.val (v := (.int .i64 1090519040)) (Ex.conv rfl Try.underlying23 Try.underlying3 (Z := 1090519040) (by decide)) (by decide) ?_
  refine GL.val (v := (.int .i64 25165824)) (Ex.sub' rfl rfl (Z := 25165824) (by decide)) (by decide) ?_
  refine GL.val (v := (.float .f64 4717520609670594560)) (Ex.cast (Ex.cif rfl Try.underlying3 Try.underlying50) (by kernel_rfl)) (by decide) ?_
  refine GL.val (v := (.float .f64 4613937818241073152)) (Ex.farith (r := 4613937818241073152) rfl rfl (by kernel_rfl)) (by decide) ?_
  refine GL.step (Stp.callR (vs := [(.float .f64 4613937818241073152)]) rfl rfl T.own40 (by decide) (fun wc hw => k40_29  wc )) (fun xq6 hq7 => ?_)
  refine GL.val (Ex.assign rfl) (by decide) ?_
  refine GL.nil ?_
  refine GE.thenN ?_
  refine GC.ret ?_
  refine GC.ret1 rfl (Rv.tmp rfl) (fun wN HN => ?_)
  exact HN.ret () trivial rfl ulN rfl

set_option maxRecDepth 100000 in
set_option maxHeartbeats 1000000 in
theorem k39_33 (w : World) :
    Calls Try.prog 39 #[(.int .u32 3212836864)] w (Ret w (fun _ : Unit => True) (fun rz => (.float .f64 13830554455654793216)) (fun rz => [])) := by
  refine enter (M := None) (L := []) (n := 6) (l := [(0, (.int .u32 3212836864))]) Try.func39 rfl rfl (Args.cons rfl (Args.nil _)) (Hp.start _ _) ?_
  refine GC.seq ?_
  refine GC.region ?_
  refine GL.val (Ex.assign rfl) (by decide) ?_
  refine GL.nil ?_
  refine GE.thenN ?_
  refine GC.seq ?_
  refine GC.region ?_
  refine GL.val (Ex.move rfl) (by decide) ?_
  refine GL.val (v := (.float .f32 3212836864)) (Ex.ext (vs := [(.int .u32 3212836864)]) rfl rfl T.ext69 (fun _ => by first | rfl | kernel_rfl)) (by decide) ?_
  refine GL.val (v := (.float .f64 13830554455654793216)) (Ex.cff (r := 13830554455654793216) rfl Try.underlying76 Try.underlying50 (by kernel_rfl)) (by decide) ?_
  refine GL.val (Ex.assign rfl) (by decide) ?_
  refine GL.nil ?_
  refine GE.thenN ?_
  refine GC.ret ?_
  refine GC.ret1 rfl (Rv.tmp rfl) (fun wN HN => ?_)
  exact HN.ret () trivial rfl ulN rfl

set_option maxRecDepth 100000 in
set_option maxHeartbeats 1000000 in
theorem k18_32 (w : World) :
    Calls Try.prog 18 #[(.int .u32 3212836864)] w (Ret w (fun _ : Unit => True) (fun rz => (.int .u32 2143289344)) (fun rz => [])) := by
  refine enter (M := None) (L := []) (n := 23) (l := [(0, (.int .u32 3212836864))]) Try.func18 rfl rfl (Args.cons rfl (Args.nil _)) (Hp.start _ _) ?_
  refine GC.seq ?_
  refine GC.region ?_
  refine GL.val (Ex.assign rfl) (by decide) ?_
  refine GL.nil ?_
  refine GE.thenN ?_
  refine GC.seq ?_
  refine GC.seq ?_
  refine GC.region ?_
  refine GL.val (Ex.move rfl) (by decide) ?_
  refine GL.step (Stp.callR (vs := [(.int .u32 3212836864)]) rfl rfl T.own39 (by decide) (fun wc hw => k39_33  wc )) (fun xq1 hq2 => ?_)
  refine GL.val (Ex.assign rfl) (by decide) ?_
  refine GL.nil ?_
  refine GE.thenN ?_
  refine GC.block ?_
  refine GC.seq ?_
  refine GC.region ?_
  refine GL.val (Ex.move rfl) (by decide) ?_
  refine GL.val (v := (.bool false)) (Ex.feql (r := false) rfl rfl (by kernel_rfl)) (by decide) ?_
  refine GL.val (Ex.assign rfl) (by decide) ?_
  refine GL.nil ?_
  refine GE.thenN ?_
  refine GC.cond rfl (fun hq3 => by cases hq3) (fun _ => ?_)
  refine GC.seq ?_
  refine GC.region ?_
  refine GL.val (Ex.move rfl) (by decide) ?_
  refine GL.val (v := (.bool false)) (Ex.fgtr (r := false) rfl rfl (by kernel_rfl)) (by decide) ?_
  refine GL.val (v := (.bool true)) (Ex.cast (Ex.not rfl) rfl) (by decide) ?_
  refine GL.val (Ex.assign rfl) (by decide) ?_
  refine GL.nil ?_
  refine GE.thenN ?_
  refine GC.cond rfl (fun _ => ?_) (fun hq4 => by cases hq4)
  refine GC.seq ?_
  refine GC.region ?_
  refine GL.val (Ex.assign rfl) (by decide) ?_
  refine GL.nil ?_
  refine GE.thenN ?_
  refine GC.ret ?_
  refine GE.blockR ?_
  refine GE.thenR ?_
  refine GC.ret1 rfl (Rv.tmp rfl) (fun wN HN => ?_)
  exact HN.ret () trivial rfl ulN rfl

set_option maxRecDepth 100000 in
set_option maxHeartbeats 1000000 in
theorem k39_35 (w : World) :
    Calls Try.prog 39 #[(.int .u32 2147483648)] w (Ret w (fun _ : Unit => True) (fun rz => (.float .f64 9223372036854775808)) (fun rz => [])) := by
  refine enter (M := None) (L := []) (n := 6) (l := [(0, (.int .u32 2147483648))]) Try.func39 rfl rfl (Args.cons rfl (Args.nil _)) (Hp.start _ _) ?_
  refine GC.seq ?_
  refine GC.region ?_
  refine GL.val (Ex.assign rfl) (by decide) ?_
  refine GL.nil ?_
  refine GE.thenN ?_
  refine GC.seq ?_
  refine GC.region ?_
  refine GL.val (Ex.move rfl) (by decide) ?_
  refine GL.val (v := (.float .f32 2147483648)) (Ex.ext (vs := [(.int .u32 2147483648)]) rfl rfl T.ext69 (fun _ => by first | rfl | kernel_rfl)) (by decide) ?_
  refine GL.val (v := (.float .f64 9223372036854775808)) (Ex.cff (r := 9223372036854775808) rfl Try.underlying76 Try.underlying50 (by kernel_rfl)) (by decide) ?_
  refine GL.val (Ex.assign rfl) (by decide) ?_
  refine GL.nil ?_
  refine GE.thenN ?_
  refine GC.ret ?_
  refine GC.ret1 rfl (Rv.tmp rfl) (fun wN HN => ?_)
  exact HN.ret () trivial rfl ulN rfl

set_option maxRecDepth 100000 in
set_option maxHeartbeats 1000000 in
theorem k18_34 (w : World) :
    Calls Try.prog 18 #[(.int .u32 2147483648)] w (Ret w (fun _ : Unit => True) (fun rz => (.int .u32 4286578688)) (fun rz => [])) := by
  refine enter (M := None) (L := []) (n := 23) (l := [(0, (.int .u32 2147483648))]) Try.func18 rfl rfl (Args.cons rfl (Args.nil _)) (Hp.start _ _) ?_
  refine GC.seq ?_
  refine GC.region ?_
  refine GL.val (Ex.assign rfl) (by decide) ?_
  refine GL.nil ?_
  refine GE.thenN ?_
  refine GC.seq ?_
  refine GC.seq ?_
  refine GC.region ?_
  refine GL.val (Ex.move rfl) (by decide) ?_
  refine GL.step (Stp.callR (vs := [(.int .u32 2147483648)]) rfl rfl T.own39 (by decide) (fun wc hw => k39_35  wc )) (fun xq1 hq2 => ?_)
  refine GL.val (Ex.assign rfl) (by decide) ?_
  refine GL.nil ?_
  refine GE.thenN ?_
  refine GC.block ?_
  refine GC.seq ?_
  refine GC.region ?_
  refine GL.val (Ex.move rfl) (by decide) ?_
  refine GL.val (v := (.bool true)) (Ex.feql (r := true) rfl rfl (by kernel_rfl)) (by decide) ?_
  refine GL.val (Ex.assign rfl) (by decide) ?_
  refine GL.nil ?_
  refine GE.thenN ?_
  refine GC.cond rfl (fun _ => ?_) (fun hq3 => by cases hq3)
  refine GC.seq ?_
  refine GC.region ?_
  refine GL.val (Ex.assign rfl) (by decide) ?_
  refine GL.nil ?_
  refine GE.thenN ?_
  refine GC.ret ?_
  refine GE.blockR ?_
  refine GE.thenR ?_
  refine GC.ret1 rfl (Rv.tmp rfl) (fun wN HN => ?_)
  exact HN.ret () trivial rfl ulN rfl

set_option maxRecDepth 100000 in
set_option maxHeartbeats 1000000 in
theorem k39_37 (w : World) :
    Calls Try.prog 39 #[(.int .u32 1056964608)] w (Ret w (fun _ : Unit => True) (fun rz => (.float .f64 4602678819172646912)) (fun rz => [])) := by
  refine enter (M := None) (L := []) (n := 6) (l := [(0, (.int .u32 1056964608))]) Try.func39 rfl rfl (Args.cons rfl (Args.nil _)) (Hp.start _ _) ?_
  refine GC.seq ?_
  refine GC.region ?_
  refine GL.val (Ex.assign rfl) (by decide) ?_
  refine GL.nil ?_
  refine GE.thenN ?_
  refine GC.seq ?_
  refine GC.region ?_
  refine GL.val (Ex.move rfl) (by decide) ?_
  refine GL.val (v := (.float .f32 1056964608)) (Ex.ext (vs := [(.int .u32 1056964608)]) rfl rfl T.ext69 (fun _ => by first | rfl | kernel_rfl)) (by decide) ?_
  refine GL.val (v := (.float .f64 4602678819172646912)) (Ex.cff (r := 4602678819172646912) rfl Try.underlying76 Try.underlying50 (by kernel_rfl)) (by decide) ?_
  refine GL.val (Ex.assign rfl) (by decide) ?_
  refine GL.nil ?_
  refine GE.thenN ?_
  refine GC.ret ?_
  refine GC.ret1 rfl (Rv.tmp rfl) (fun wN HN => ?_)
  exact HN.ret () trivial rfl ulN rfl

set_option maxRecDepth 100000 in
set_option maxHeartbeats 1000000 in
theorem k20_36 (w : World) :
    Calls Try.prog 20 #[(.int .u32 1056964608)] w (Ret w (fun _ : Unit => True) (fun rz => (.int .u32 1069547520)) (fun rz => [])) := by
  refine enter (M := None) (L := []) (n := 22) (l := [(0, (.int .u32 1056964608))]) Try.func20 rfl rfl (Args.cons rfl (Args.nil _)) (Hp.start _ _) ?_
  refine GC.seq ?_
  refine GC.region ?_
  refine GL.val (Ex.assign rfl) (by decide) ?_
  refine GL.nil ?_
  refine GE.thenN ?_
  refine GC.seq ?_
  refine GC.region ?_
  refine GL.val (Ex.move rfl) (by decide) ?_
  refine GL.step (Stp.callR (vs := [(.int .u32 1056964608)]) rfl rfl T.own39 (by decide) (fun wc hw => k39_37  wc )) (fun xq1 hq2 => ?_)
  refine GL.val (Ex.assign rfl) (by decide) ?_
  refine GL.nil ?_
  refine GE.thenN ?_
  refine GC.seq ?_
  refine GC.block ?_
  refine GC.seq ?_
  refine GC.region ?_
  refine GL.val (Ex.move rfl) (by decide) ?_
  refine GL.val (Ex.move rfl) (by decide) ?_
  refine GL.val (v := (.bool false)) (Ex.fneq (r := false) rfl rfl (by kernel_rfl)) (by decide) ?_
  refine GL.val (Ex.assign rfl) (by decide) ?_
  refine GL.nil ?_
  refine GE.thenN ?_
  refine GC.cond rfl (fun hq3 => by cases hq3) (fun _ => ?_)
  refine GC.seq ?_
  refine GC.region ?_
  refine GL.val (Ex.move rfl) (by decide) ?_
  refine GL.val (v := (.bool false)) (Ex.fgeq (r := false) rfl rfl (by kernel_rfl)) (by decide) ?_
  refine GL.val (Ex.assign rfl) (by decide) ?_
  refine GL.nil ?_
  refine GE.thenN ?_
  refine GC.cond rfl (fun hq4 => by cases hq4) (fun _ => ?_)
  refine GC.seq ?_
  refine GC.region ?_
  refine GL.val (Ex.move rfl) (by decide) ?_
  refine GL.val (v := (.bool false)) (Ex.flss (r := false) rfl rfl (by kernel_rfl)) (by decide) ?_
  refine GL.val (Ex.assign rfl) (by decide) ?_
  refine GL.nil ?_
  refine GE.thenN ?_
  refine GC.cond rfl (fun hq5 => by cases hq5) (fun _ => ?_)
  refine GC.skip ?_
  refine GE.blockN ?_
  refine GE.thenN ?_
  refine GC.seq ?_
  refine GC.region ?_
  refine GL.val (Ex.move rfl) (by decide) ?_
  refine GL.val (v := (.float .f64 4706261610602168320)) (Ex.farith (r := 4706261610602168320) rfl rfl (by kernel_rfl)) (by decide) ?_
  refine GL.val (v := (.float .f64 4706261610602168320)) (Ex.ext (vs := [(.float .f64 4706261610602168320)]) rfl rfl T.ext48 (fun _ => by first | rfl | kernel_rfl)) (by decide) ?_
  refine GL.val (v := (.int .i64 4194304)) (Ex.cfi (m := 4194304) rfl Try.underlying50 Try.underlying3 (by kernel_rfl)) (by decide) ?_
  refine GL.val (v := (.int .i64 1069547520)) (Ex.add rfl rfl (Z := 1069547520) (by decide)) (by decide) ?_
  refine GL.val (v := (.int .u32 1069547520)) (Ex.conv rfl Try.underlying3 Try.underlying23 (Z := 1069547520) (by decide)) (by decide) ?_
  refine GL.val (Ex.assign rfl) (by decide) ?_
  refine GL.nil ?_
  refine GE.thenN ?_
  refine GC.ret ?_
  refine GC.ret1 rfl (Rv.tmp rfl) (fun wN HN => ?_)
  exact HN.ret () trivial rfl ulN rfl

set_option maxRecDepth 100000 in
set_option maxHeartbeats 1000000 in
theorem k39_39 (w : World) :
    Calls Try.prog 39 #[(.int .u32 1124073472)] w (Ret w (fun _ : Unit => True) (fun rz => (.float .f64 4638707616191610880)) (fun rz => [])) := by
  refine enter (M := None) (L := []) (n := 6) (l := [(0, (.int .u32 1124073472))]) Try.func39 rfl rfl (Args.cons rfl (Args.nil _)) (Hp.start _ _) ?_
  refine GC.seq ?_
  refine GC.region ?_
  refine GL.val (Ex.assign rfl) (by decide) ?_
  refine GL.nil ?_
  refine GE.thenN ?_
  refine GC.seq ?_
  refine GC.region ?_
  refine GL.val (Ex.move rfl) (by decide) ?_
  refine GL.val (v := (.float .f32 1124073472)) (Ex.ext (vs := [(.int .u32 1124073472)]) rfl rfl T.ext69 (fun _ => by first | rfl | kernel_rfl)) (by decide) ?_
  refine GL.val (v := (.float .f64 4638707616191610880)) (Ex.cff (r := 4638707616191610880) rfl Try.underlying76 Try.underlying50 (by kernel_rfl)) (by decide) ?_
  refine GL.val (Ex.assign rfl) (by decide) ?_
  refine GL.nil ?_
  refine GE.thenN ?_
  refine GC.ret ?_
  refine GC.ret1 rfl (Rv.tmp rfl) (fun wN HN => ?_)
  exact HN.ret () trivial rfl ulN rfl

set_option maxRecDepth 100000 in
set_option maxHeartbeats 1000000 in
theorem k20_38 (w : World) :
    Calls Try.prog 20 #[(.int .u32 1124073472)] w (Ret w (fun _ : Unit => True) (fun rz => (.int .u32 2139095040)) (fun rz => [])) := by
  refine enter (M := None) (L := []) (n := 22) (l := [(0, (.int .u32 1124073472))]) Try.func20 rfl rfl (Args.cons rfl (Args.nil _)) (Hp.start _ _) ?_
  refine GC.seq ?_
  refine GC.region ?_
  refine GL.val (Ex.assign rfl) (by decide) ?_
  refine GL.nil ?_
  refine GE.thenN ?_
  refine GC.seq ?_
  refine GC.region ?_
  refine GL.val (Ex.move rfl) (by decide) ?_
  refine GL.step (Stp.callR (vs := [(.int .u32 1124073472)]) rfl rfl T.own39 (by decide) (fun wc hw => k39_39  wc )) (fun xq1 hq2 => ?_)
  refine GL.val (Ex.assign rfl) (by decide) ?_
  refine GL.nil ?_
  refine GE.thenN ?_
  refine GC.seq ?_
  refine GC.block ?_
  refine GC.seq ?_
  refine GC.region ?_
  refine GL.val (Ex.move rfl) (by decide) ?_
  refine GL.val (Ex.move rfl) (by decide) ?_
  refine GL.val (v := (.bool false)) (Ex.fneq (r := false) rfl rfl (by kernel_rfl)) (by decide) ?_
  refine GL.val (Ex.assign rfl) (by decide) ?_
  refine GL.nil ?_
  refine GE.thenN ?_
  refine GC.cond rfl (fun hq3 => by cases hq3) (fun _ => ?_)
  refine GC.seq ?_
  refine GC.region ?_
  refine GL.val (Ex.move rfl) (by decide) ?_
  refine GL.val (v := (.bool true)) (Ex.fgeq (r := true) rfl rfl (by kernel_rfl)) (by decide) ?_
  refine GL.val (Ex.assign rfl) (by decide) ?_
  refine GL.nil ?_
  refine GE.thenN ?_
  refine GC.cond rfl (fun _ => ?_) (fun hq4 => by cases hq4)
  refine GC.seq ?_
  refine GC.region ?_
  refine GL.val (Ex.assign rfl) (by decide) ?_
  refine GL.nil ?_
  refine GE.thenN ?_
  refine GC.ret ?_
  refine GE.blockR ?_
  refine GE.thenR ?_
  refine GC.ret1 rfl (Rv.tmp rfl) (fun wN HN => ?_)
  exact HN.ret () trivial rfl ulN rfl

set_option maxRecDepth 100000 in
set_option maxHeartbeats 1000000 in
theorem k39_41 (w : World) :
    Calls Try.prog 39 #[(.int .u32 2139095039)] w (Ret w (fun _ : Unit => True) (fun rz => (.float .f64 5183643170566569984)) (fun rz => [])) := by
  refine enter (M := None) (L := []) (n := 6) (l := [(0, (.int .u32 2139095039))]) Try.func39 rfl rfl (Args.cons rfl (Args.nil _)) (Hp.start _ _) ?_
  refine GC.seq ?_
  refine GC.region ?_
  refine GL.val (Ex.assign rfl) (by decide) ?_
  refine GL.nil ?_
  refine GE.thenN ?_
  refine GC.seq ?_
  refine GC.region ?_
  refine GL.val (Ex.move rfl) (by decide) ?_
  refine GL.val (v := (.float .f32 2139095039)) (Ex.ext (vs := [(.int .u32 2139095039)]) rfl rfl T.ext69 (fun _ => by first | rfl | kernel_rfl)) (by decide) ?_
  refine GL.val (v := (.float .f64 5183643170566569984)) (Ex.cff (r := 5183643170566569984) rfl Try.underlying76 Try.underlying50 (by kernel_rfl)) (by decide) ?_
  refine GL.val (Ex.assign rfl) (by decide) ?_
  refine GL.nil ?_
  refine GE.thenN ?_
  refine GC.ret ?_
  refine GC.ret1 rfl (Rv.tmp rfl) (fun wN HN => ?_)
  exact HN.ret () trivial rfl ulN rfl

set_option maxRecDepth 100000 in
set_option maxHeartbeats 1000000 in
theorem k84_44 (w : World) :
    Calls Try.prog 84 #[(.float .f32 1124073472)] w (Ret w (fun _ : Unit => True) (fun rz => (.int .u32 1124073472)) (fun rz => [])) := by
  refine enter (M := None) (L := []) (n := 8) (l := [(0, (.float .f32 1124073472))]) Try.func84 rfl rfl (Args.cons rfl (Args.nil _)) (Hp.start _ _) ?_
  refine GC.seq ?_
  refine GC.region ?_
  refine GL.val (Ex.assign rfl) (by decide) ?_
  refine GL.nil ?_
  refine GE.thenN ?_
  refine GC.seq ?_
  refine GC.seq ?_
  refine GC.region ?_
  refine GL.val (Ex.move rfl) (by decide) ?_
  refine GL.val (Ex.move rfl) (by decide) ?_
  refine GL.val (v := (.bool false)) (Ex.fneq (r := false) rfl rfl (by kernel_rfl)) (by decide) ?_
  refine GL.nil ?_
  refine GE.thenN ?_
  refine GC.cond rfl (fun hq1 => by cases hq1) (fun _ => ?_)
  refine GC.skip ?_
  refine GE.thenN ?_
  refine GC.seq ?_
  refine GC.region ?_
  refine GL.val (Ex.move rfl) (by decide) ?_
  refine GL.val (v := (.int .u32 1124073472)) (Ex.ext (vs := [(.float .f32 1124073472)]) rfl rfl T.ext92 (fun _ => by first | rfl | kernel_rfl)) (by decide) ?_
  refine GL.val (Ex.assign rfl) (by decide) ?_
  refine GL.nil ?_
  refine GE.thenN ?_
  refine GC.ret ?_
  refine GC.ret1 rfl (Rv.tmp rfl) (fun wN HN => ?_)
  exact HN.ret () trivial rfl ulN rfl

set_option maxRecDepth 100000 in
set_option maxHeartbeats 1000000 in
theorem k70_43 (w : World) :
    Calls Try.prog 70 #[(.int .u64 4638707616183222272)] w (Ret w (fun _ : Unit => True) (fun rz => (.int .u32 1124073472)) (fun rz => [])) := by
  refine enter (M := None) (L := []) (n := 7) (l := [(0, (.int .u64 4638707616183222272))]) Try.func70 rfl rfl (Args.cons rfl (Args.nil _)) (Hp.start _ _) ?_
  refine GC.seq ?_
  refine GC.region ?_
  refine GL.val (Ex.assign rfl) (by decide) ?_
  refine GL.nil ?_
  refine GE.thenN ?_
  refine GC.seq ?_
  refine GC.region ?_
  refine GL.val (Ex.move rfl) (by decide) ?_
  refine GL.val (v := (.float .f64 4638707616183222272)) (Ex.ext (vs := [(.int .u64 4638707616183222272)]) rfl rfl T.ext85 (fun _ => by first | rfl | kernel_rfl)) (by decide) ?_
  refine GL.val (v := (.float .f32 1124073472)) (Ex.cff (r := 1124073472) rfl Try.underlying50 Try.underlying76 (by kernel_rfl)) (by decide) ?_
  refine GL.step (Stp.callR (vs := [(.float .f32 1124073472)]) rfl rfl T.own84 (by decide) (fun wc hw => k84_44  wc )) (fun xq1 hq2 => ?_)
  refine GL.val (Ex.assign rfl) (by decide) ?_
  refine GL.nil ?_
  refine GE.thenN ?_
  refine GC.ret ?_
  refine GC.ret1 rfl (Rv.tmp rfl) (fun wN HN => ?_)
  exact HN.ret () trivial rfl ulN rfl

set_option maxRecDepth 100000 in
set_option maxHeartbeats 1000000 in
theorem k40_42 (w : World) :
    Calls Try.prog 40 #[(.float .f64 4638707616183222272)] w (Ret w (fun _ : Unit => True) (fun rz => (.int .u32 1124073472)) (fun rz => [])) := by
  refine enter (M := None) (L := []) (n := 6) (l := [(0, (.float .f64 4638707616183222272))]) Try.func40 rfl rfl (Args.cons rfl (Args.nil _)) (Hp.start _ _) ?_
  refine GC.seq ?_
  refine GC.region ?_
  refine GL.val (Ex.assign rfl) (by decide) ?_
  refine GL.nil ?_
  refine GE.thenN ?_
  refine GC.seq ?_
  refine GC.region ?_
  refine GL.val (Ex.move rfl) (by decide) ?_
  refine GL.val (v := (.int .u64 4638707616183222272)) (Ex.ext (vs := [(.float .f64 4638707616183222272)]) rfl rfl T.ext71 (fun _ => by first | rfl | kernel_rfl)) (by decide) ?_
  refine GL.step (Stp.callR (vs := [(.int .u64 4638707616183222272)]) rfl rfl T.own70 (by decide) (fun wc hw => k70_43  wc )) (fun xq1 hq2 => ?_)
  refine GL.val (Ex.assign rfl) (by decide) ?_
  refine GL.nil ?_
  refine GE.thenN ?_
  refine GC.ret ?_
  refine GC.ret1 rfl (Rv.tmp rfl) (fun wN HN => ?_)
  exact HN.ret () trivial rfl ulN rfl

set_option maxRecDepth 100000 in
set_option maxHeartbeats 1000000 in
theorem k18_40 (w : World) :
    Calls Try.prog 18 #[(.int .u32 2139095039)] w (Ret w (fun _ : Unit => True) (fun rz => (.int .u32 1124073472)) (fun rz => [])) := by
  refine enter (M := None) (L := []) (n := 23) (l := [(0, (.int .u32 2139095039))]) Try.func18 rfl rfl (Args.cons rfl (Args.nil _)) (Hp.start _ _) ?_
  refine GC.seq ?_
  refine GC.region ?_
  refine GL.val (Ex.assign rfl) (by decide) ?_
  refine GL.nil ?_
  refine GE.thenN ?_
  refine GC.seq ?_
  refine GC.seq ?_
  refine GC.region ?_
  refine GL.val (Ex.move rfl) (by decide) ?_
  refine GL.step (Stp.callR (vs := [(.int .u32 2139095039)]) rfl rfl T.own39 (by decide) (fun wc hw => k39_41  wc )) (fun xq1 hq2 => ?_)
  refine GL.val (Ex.assign rfl) (by decide) ?_
  refine GL.nil ?_
  refine GE.thenN ?_
  refine GC.block ?_
  refine GC.seq ?_
  refine GC.region ?_
  refine GL.val (Ex.move rfl) (by decide) ?_
  refine GL.val (v := (.bool false)) (Ex.feql (r := false) rfl rfl (by kernel_rfl)) (by decide) ?_
  refine GL.val (Ex.assign rfl) (by decide) ?_
  refine GL.nil ?_
  refine GE.thenN ?_
  refine GC.cond rfl (fun hq3 => by cases hq3) (fun _ => ?_)
  refine GC.seq ?_
  refine GC.region ?_
  refine GL.val (Ex.move rfl) (by decide) ?_
  refine GL.val (v := (.bool true)) (Ex.fgtr (r := true) rfl rfl (by kernel_rfl)) (by decide) ?_
  refine GL.val (v := (.bool false)) (Ex.cast (Ex.not rfl) rfl) (by decide) ?_
  refine GL.val (Ex.assign rfl) (by decide) ?_
  refine GL.nil ?_
  refine GE.thenN ?_
  refine GC.cond rfl (fun hq4 => by cases hq4) (fun _ => ?_)
  refine GC.seq ?_
  refine GC.region ?_
  refine GL.val (Ex.move rfl) (by decide) ?_
  refine GL.val (v := (.bool false)) (Ex.cast (Ex.eql rfl rfl) rfl) (by decide) ?_
  refine GL.val (Ex.assign rfl) (by decide) ?_
  refine GL.nil ?_
  refine GE.thenN ?_
  refine GC.cond rfl (fun hq5 => by cases hq5) (fun _ => ?_)
  refine GC.skip ?_
  refine GE.blockN ?_
  refine GE.thenN ?_
  refine GC.seq ?_
  refine GC.region ?_
  refine GL.val (Ex.move rfl) (by decide) ?_
  refine GL.val (v := (.int .i64 2139095039)) (Ex.conv rfl Try.underlying23 Try.underlying3 (Z := 2139095039) (by decide)) (by decide) ?_
  refine GL.val (v := (.int .i64 1073741823)) (Ex.sub' rfl rfl (Z := 1073741823) (by decide)) (by decide) ?_
  refine GL.val (v := (.float .f64 4742290407612743680)) (Ex.cast (Ex.cif rfl Try.underlying3 Try.underlying50) (by kernel_rfl)) (by decide) ?_
  refine GL.val (v := (.float .f64 4638707616183222272)) (Ex.farith (r := 4638707616183222272) rfl rfl (by kernel_rfl)) (by decide) ?_
  refine GL.step (Stp.callR (vs := [(.float .f64 4638707616183222272)]) rfl rfl T.own40 (by decide) (fun wc hw => k40_42  wc )) (fun xq6 hq7 => ?_)
  refine GL.val (Ex.assign rfl) (by decide) ?_
  refine GL.nil ?_
  refine GE.thenN ?_
  refine GC.ret ?_
  refine GC.ret1 rfl (Rv.tmp rfl) (fun wN HN => ?_)
  exact HN.ret () trivial rfl ulN rfl

set_option maxRecDepth 100000 in
set_option maxHeartbeats 1000000 in
theorem k50_46 (w : World) :
    Calls Try.prog 50 #[(.int .u32 3)] w (Ret w (fun _ : Unit => True) (fun rz => (.int .u32 2147483651)) (fun rz => [])) := by
  refine enter (M := None) (L := []) (n := 9) (l := [(0, (.int .u32 3))]) Try.func50 rfl rfl (Args.cons rfl (Args.nil _)) (Hp.start _ _) ?_
  refine GC.seq ?_
  refine GC.region ?_
  refine GL.val (Ex.assign rfl) (by decide) ?_
  refine GL.nil ?_
  refine GE.thenN ?_
  refine GC.seq ?_
  refine GC.seq ?_
  refine GC.region ?_
  refine GL.val (Ex.move rfl) (by decide) ?_
  refine GL.val (v := (.bool true)) (Ex.cast (Ex.lss rfl rfl) rfl) (by decide) ?_
  refine GL.nil ?_
  refine GE.thenN ?_
  refine GC.cond rfl (fun _ => ?_) (fun hq1 => by cases hq1)
  refine GC.seq ?_
  refine GC.region ?_
  refine GL.val (Ex.move rfl) (by decide) ?_
  refine GL.val (v := (.int .u32 2147483651)) (Ex.add rfl rfl (Z := 2147483651) (by decide)) (by decide) ?_
  refine GL.val (Ex.assign rfl) (by decide) ?_
  refine GL.nil ?_
  refine GE.thenN ?_
  refine GC.ret ?_
  refine GE.thenR ?_
  refine GC.ret1 rfl (Rv.tmp rfl) (fun wN HN => ?_)
  exact HN.ret () trivial rfl ulN rfl

set_option maxRecDepth 100000 in
set_option maxHeartbeats 1000000 in
theorem k50_47 (w : World) :
    Calls Try.prog 50 #[(.int .u32 0)] w (Ret w (fun _ : Unit => True) (fun rz => (.int .u32 2147483648)) (fun rz => [])) := by
  refine enter (M := None) (L := []) (n := 9) (l := [(0, (.int .u32 0))]) Try.func50 rfl rfl (Args.cons rfl (Args.nil _)) (Hp.start _ _) ?_
  refine GC.seq ?_
  refine GC.region ?_
  refine GL.val (Ex.assign rfl) (by decide) ?_
  refine GL.nil ?_
  refine GE.thenN ?_
  refine GC.seq ?_
  refine GC.seq ?_
  refine GC.region ?_
  refine GL.val (Ex.move rfl) (by decide) ?_
  refine GL.val (v := (.bool true)) (Ex.cast (Ex.lss rfl rfl) rfl) (by decide) ?_
  refine GL.nil ?_
  refine GE.thenN ?_
  refine GC.cond rfl (fun _ => ?_) (fun hq1 => by cases hq1)
  refine GC.seq ?_
  refine GC.region ?_
  refine GL.val (Ex.move rfl) (by decide) ?_
  refine GL.val (v := (.int .u32 2147483648)) (Ex.add rfl rfl (Z := 2147483648) (by decide)) (by decide) ?_
  refine GL.val (Ex.assign rfl) (by decide) ?_
  refine GL.nil ?_
  refine GE.thenN ?_
  refine GC.ret ?_
  refine GE.thenR ?_
  refine GC.ret1 rfl (Rv.tmp rfl) (fun wN HN => ?_)
  exact HN.ret () trivial rfl ulN rfl

set_option maxRecDepth 100000 in
set_option maxHeartbeats 1000000 in
theorem k51_48 (w : World) :
    Calls Try.prog 51 #[(.int .u32 3)] w (Ret w (fun _ : Unit => True) (fun rz => (.int .u32 1)) (fun rz => [])) := by
  refine enter (M := None) (L := []) (n := 7) (l := [(0, (.int .u32 3))]) Try.func51 rfl rfl (Args.cons rfl (Args.nil _)) (Hp.start _ _) ?_
  refine GC.seq ?_
  refine GC.region ?_
  refine GL.val (Ex.assign rfl) (by decide) ?_
  refine GL.nil ?_
  refine GE.thenN ?_
  refine GC.seq ?_
  refine GC.region ?_
  refine GL.val (Ex.move rfl) (by decide) ?_
  refine GL.val (v := (.int .i32 3)) (Ex.conv rfl Try.underlying23 Try.underlying21 (Z := 3) (by decide)) (by decide) ?_
  refine GL.val (v := (.int .i32 1)) (Ex.shr rfl (m := 1) rfl (by decide) (Z := 1) (by decide)) (by decide) ?_
  refine GL.val (v := (.int .u32 1)) (Ex.conv rfl Try.underlying21 Try.underlying23 (Z := 1) (by decide)) (by decide) ?_
  refine GL.val (Ex.assign rfl) (by decide) ?_
  refine GL.nil ?_
  refine GE.thenN ?_
  refine GC.ret ?_
  refine GC.ret1 rfl (Rv.tmp rfl) (fun wN HN => ?_)
  exact HN.ret () trivial rfl ulN rfl

set_option maxRecDepth 100000 in
set_option maxHeartbeats 1000000 in
theorem k50_49 (w : World) :
    Calls Try.prog 50 #[(.int .u32 2)] w (Ret w (fun _ : Unit => True) (fun rz => (.int .u32 2147483650)) (fun rz => [])) := by
  refine enter (M := None) (L := []) (n := 9) (l := [(0, (.int .u32 2))]) Try.func50 rfl rfl (Args.cons rfl (Args.nil _)) (Hp.start _ _) ?_
  refine GC.seq ?_
  refine GC.region ?_
  refine GL.val (Ex.assign rfl) (by decide) ?_
  refine GL.nil ?_
  refine GE.thenN ?_
  refine GC.seq ?_
  refine GC.seq ?_
  refine GC.region ?_
  refine GL.val (Ex.move rfl) (by decide) ?_
  refine GL.val (v := (.bool true)) (Ex.cast (Ex.lss rfl rfl) rfl) (by decide) ?_
  refine GL.nil ?_
  refine GE.thenN ?_
  refine GC.cond rfl (fun _ => ?_) (fun hq1 => by cases hq1)
  refine GC.seq ?_
  refine GC.region ?_
  refine GL.val (Ex.move rfl) (by decide) ?_
  refine GL.val (v := (.int .u32 2147483650)) (Ex.add rfl rfl (Z := 2147483650) (by decide)) (by decide) ?_
  refine GL.val (Ex.assign rfl) (by decide) ?_
  refine GL.nil ?_
  refine GE.thenN ?_
  refine GC.ret ?_
  refine GE.thenR ?_
  refine GC.ret1 rfl (Rv.tmp rfl) (fun wN HN => ?_)
  exact HN.ret () trivial rfl ulN rfl

set_option maxRecDepth 100000 in
set_option maxHeartbeats 1000000 in
theorem k51_50 (w : World) :
    Calls Try.prog 51 #[(.int .u32 1)] w (Ret w (fun _ : Unit => True) (fun rz => (.int .u32 0)) (fun rz => [])) := by
  refine enter (M := None) (L := []) (n := 7) (l := [(0, (.int .u32 1))]) Try.func51 rfl rfl (Args.cons rfl (Args.nil _)) (Hp.start _ _) ?_
  refine GC.seq ?_
  refine GC.region ?_
  refine GL.val (Ex.assign rfl) (by decide) ?_
  refine GL.nil ?_
  refine GE.thenN ?_
  refine GC.seq ?_
  refine GC.region ?_
  refine GL.val (Ex.move rfl) (by decide) ?_
  refine GL.val (v := (.int .i32 1)) (Ex.conv rfl Try.underlying23 Try.underlying21 (Z := 1) (by decide)) (by decide) ?_
  refine GL.val (v := (.int .i32 0)) (Ex.shr rfl (m := 1) rfl (by decide) (Z := 0) (by decide)) (by decide) ?_
  refine GL.val (v := (.int .u32 0)) (Ex.conv rfl Try.underlying21 Try.underlying23 (Z := 0) (by decide)) (by decide) ?_
  refine GL.val (Ex.assign rfl) (by decide) ?_
  refine GL.nil ?_
  refine GE.thenN ?_
  refine GC.ret ?_
  refine GC.ret1 rfl (Rv.tmp rfl) (fun wN HN => ?_)
  exact HN.ret () trivial rfl ulN rfl

set_option maxRecDepth 100000 in
set_option maxHeartbeats 1000000 in
theorem k52_51 (w : World) :
    Calls Try.prog 52 #[(.int .u32 2147483649)] w (Ret w (fun _ : Unit => True) (fun rz => (.int .u32 1)) (fun rz => [])) := by
  refine enter (M := None) (L := []) (n := 9) (l := [(0, (.int .u32 2147483649))]) Try.func52 rfl rfl (Args.cons rfl (Args.nil _)) (Hp.start _ _) ?_
  refine GC.seq ?_
  refine GC.region ?_
  refine GL.val (Ex.assign rfl) (by decide) ?_
  refine GL.nil ?_
  refine GE.thenN ?_
  refine GC.seq ?_
  refine GC.seq ?_
  refine GC.region ?_
  refine GL.val (Ex.move rfl) (by decide) ?_
  refine GL.val (v := (.bool true)) (Ex.cast (Ex.geq rfl rfl) rfl) (by decide) ?_
  refine GL.nil ?_
  refine GE.thenN ?_
  refine GC.cond rfl (fun _ => ?_) (fun hq1 => by cases hq1)
  refine GC.seq ?_
  refine GC.region ?_
  refine GL.val (Ex.move rfl) (by decide) ?_
  refine GL.val (v := (.int .u32 1)) (Ex.sub' rfl rfl (Z := 1) (by decide)) (by decide) ?_
  refine GL.val (Ex.assign rfl) (by decide) ?_
  refine GL.nil ?_
  refine GE.thenN ?_
  refine GC.ret ?_
  refine GE.thenR ?_
  refine GC.ret1 rfl (Rv.tmp rfl) (fun wN HN => ?_)
  exact HN.ret () trivial rfl ulN rfl

set_option maxRecDepth 100000 in
set_option maxHeartbeats 1000000 in
theorem k52_52 (w : World) :
    Calls Try.prog 52 #[(.int .u32 2147483651)] w (Ret w (fun _ : Unit => True) (fun rz => (.int .u32 3)) (fun rz => [])) := by
  refine enter (M := None) (L := []) (n := 9) (l := [(0, (.int .u32 2147483651))]) Try.func52 rfl rfl (Args.cons rfl (Args.nil _)) (Hp.start _ _) ?_
  refine GC.seq ?_
  refine GC.region ?_
  refine GL.val (Ex.assign rfl) (by decide) ?_
  refine GL.nil ?_
  refine GE.thenN ?_
  refine GC.seq ?_
  refine GC.seq ?_
  refine GC.region ?_
  refine GL.val (Ex.move rfl) (by decide) ?_
  refine GL.val (v := (.bool true)) (Ex.cast (Ex.geq rfl rfl) rfl) (by decide) ?_
  refine GL.nil ?_
  refine GE.thenN ?_
  refine GC.cond rfl (fun _ => ?_) (fun hq1 => by cases hq1)
  refine GC.seq ?_
  refine GC.region ?_
  refine GL.val (Ex.move rfl) (by decide) ?_
  refine GL.val (v := (.int .u32 3)) (Ex.sub' rfl rfl (Z := 3) (by decide)) (by decide) ?_
  refine GL.val (Ex.assign rfl) (by decide) ?_
  refine GL.nil ?_
  refine GE.thenN ?_
  refine GC.ret ?_
  refine GE.thenR ?_
  refine GC.ret1 rfl (Rv.tmp rfl) (fun wN HN => ?_)
  exact HN.ret () trivial rfl ulN rfl

set_option maxRecDepth 100000 in
set_option maxHeartbeats 1000000 in
theorem k22_45 (w : World) :
    Calls Try.prog 22 #[(.int .u32 3), (.int .u32 2), (.int .u32 0)] w (Ret w (fun _ : Unit => True) (fun rz => (.tuple #[(.int .u32 1), (.int .u32 1), (.int .u32 3)])) (fun rz => [])) := by
  refine enter (M := None) (L := []) (n := 37) (l := [(0, (.int .u32 3)), (1, (.int .u32 2)), (2, (.int .u32 0))]) Try.func22 rfl rfl (Args.cons rfl (Args.cons rfl (Args.cons rfl (Args.nil _)))) (Hp.start _ _) ?_
  refine GC.seq ?_
  refine GC.region ?_
  refine GL.val (Ex.assign rfl) (by decide) ?_
  refine GL.val (Ex.assign rfl) (by decide) ?_
  refine GL.val (Ex.assign rfl) (by decide) ?_
  refine GL.nil ?_
  refine GE.thenN ?_
  refine GC.seq ?_
  refine GC.region ?_
  refine GL.val (Ex.move rfl) (by decide) ?_
  refine GL.step (Stp.callR (vs := [(.int .u32 3)]) rfl rfl T.own50 (by decide) (fun wc hw => k50_46  wc )) (fun xq1 hq2 => ?_)
  refine GL.val (Ex.move rfl) (by decide) ?_
  refine GL.step (Stp.callR (vs := [(.int .u32 0)]) rfl rfl T.own50 (by decide) (fun wc hw => k50_47  wc )) (fun xq3 hq4 => ?_)
  refine GL.val (v := (.int .u32 3)) (Ex.sub' rfl rfl (Z := 3) (by decide)) (by decide) ?_
  refine GL.val (Ex.assign rfl) (by decide) ?_
  refine GL.nil ?_
  refine GE.thenN ?_
  refine GC.seq ?_
  refine GC.region ?_
  refine GL.val (Ex.move rfl) (by decide) ?_
  refine GL.step (Stp.callR (vs := [(.int .u32 0)]) rfl rfl T.own50 (by decide) (fun wc hw => k50_47  wc )) (fun xq5 hq6 => ?_)
  refine GL.val (Ex.move rfl) (by decide) ?_
  refine GL.step (Stp.callR (vs := [(.int .u32 3)]) rfl rfl T.own51 (by decide) (fun wc hw => k51_48  wc )) (fun xq7 hq8 => ?_)
  refine GL.val (v := (.int .u32 2147483649)) (Ex.add rfl rfl (Z := 2147483649) (by decide)) (by decide) ?_
  refine GL.val (Ex.assign rfl) (by decide) ?_
  refine GL.nil ?_
  refine GE.thenN ?_
  refine GC.seq ?_
  refine GC.region ?_
  refine GL.val (Ex.move rfl) (by decide) ?_
  refine GL.step (Stp.callR (vs := [(.int .u32 2)]) rfl rfl T.own50 (by decide) (fun wc hw => k50_49  wc )) (fun xq9 hq10 => ?_)
  refine GL.val (Ex.move rfl) (by decide) ?_
  refine GL.val (v := (.int .u32 1)) (Ex.sub' rfl rfl (Z := 1) (by decide)) (by decide) ?_
  refine GL.val (Ex.assign rfl) (by decide) ?_
  refine GL.nil ?_
  refine GE.thenN ?_
  refine GC.seq ?_
  refine GC.region ?_
  refine GL.val (Ex.move rfl) (by decide) ?_
  refine GL.val (Ex.move rfl) (by decide) ?_
  refine GL.step (Stp.callR (vs := [(.int .u32 1)]) rfl rfl T.own51 (by decide) (fun wc hw => k51_50  wc )) (fun xq11 hq12 => ?_)
  refine GL.val (v := (.int .u32 2147483649)) (Ex.add rfl rfl (Z := 2147483649) (by decide)) (by decide) ?_
  refine GL.step (Stp.callR (vs := [(.int .u32 2147483649)]) rfl rfl T.own52 (by decide) (fun wc hw => k52_51  wc )) (fun xq13 hq14 => ?_)
  refine GL.val (Ex.move rfl) (by decide) ?_
  refine GL.val (v := (.int .u32 2147483649)) (Ex.add rfl rfl (Z := 2147483649) (by decide)) (by decide) ?_
  refine GL.step (Stp.callR (vs := [(.int .u32 2147483649)]) rfl rfl T.own52 (by decide) (fun wc hw => k52_51  wc )) (fun xq15 hq16 => ?_)
  refine GL.val (Ex.move rfl) (by decide) ?_
  refine GL.val (v := (.int .u32 2147483651)) (Ex.add rfl rfl (Z := 2147483651) (by decide)) (by decide) ?_
  refine GL.step (Stp.callR (vs := [(.int .u32 2147483651)]) rfl rfl T.own52 (by decide) (fun wc hw => k52_52  wc )) (fun xq17 hq18 => ?_)
  refine GL.val (Ex.assign rfl) (by decide) ?_
  refine GL.val (Ex.assign rfl) (by decide) ?_
  refine GL.val (Ex.assign rfl) (by decide) ?_
  refine GL.nil ?_
  refine GE.thenN ?_
  refine GC.ret ?_
  refine GC.ret3 rfl (Rv.tmp rfl) (Rv.tmp rfl) (Rv.tmp rfl) (fun wN HN => ?_)
  exact HN.ret () trivial rfl ulN rfl

set_option maxRecDepth 100000 in
set_option maxHeartbeats 1000000 in
theorem k50_54 (w : World) :
    Calls Try.prog 50 #[(.int .u32 1)] w (Ret w (fun _ : Unit => True) (fun rz => (.int .u32 2147483649)) (fun rz => [])) := by
  refine enter (M := None) (L := []) (n := 9) (l := [(0, (.int .u32 1))]) Try.func50 rfl rfl (Args.cons rfl (Args.nil _)) (Hp.start _ _) ?_
  refine GC.seq ?_
  refine GC.region ?_
  refine GL.val (Ex.assign rfl) (by decide) ?_
  refine GL.nil ?_
  refine GE.thenN ?_
  refine GC.seq ?_
  refine GC.seq ?_
  refine GC.region ?_
  refine GL.val (Ex.move rfl) (by decide) ?_
  refine GL.val (v := (.bool true)) (Ex.cast (Ex.lss rfl rfl) rfl) (by decide) ?_
  refine GL.nil ?_
  refine GE.thenN ?_
  refine GC.cond rfl (fun _ => ?_) (fun hq1 => by cases hq1)
  refine GC.seq ?_
  refine GC.region ?_
  refine GL.val (Ex.move rfl) (by decide) ?_
  refine GL.val (v := (.int .u32 2147483649)) (Ex.add rfl rfl (Z := 2147483649) (by decide)) (by decide) ?_
  refine GL.val (Ex.assign rfl) (by decide) ?_
  refine GL.nil ?_
  refine GE.thenN ?_
  refine GC.ret ?_
  refine GE.thenR ?_
  refine GC.ret1 rfl (Rv.tmp rfl) (fun wN HN => ?_)
  exact HN.ret () trivial rfl ulN rfl

set_option maxRecDepth 100000 in
set_option maxHeartbeats 1000000 in
theorem k52_55 (w : World) :
    Calls Try.prog 52 #[(.int .u32 2147483650)] w (Ret w (fun _ : Unit => True) (fun rz => (.int .u32 2)) (fun rz => [])) := by
  refine enter (M := None) (L := []) (n := 9) (l := [(0, (.int .u32 2147483650))]) Try.func52 rfl rfl (Args.cons rfl (Args.nil _)) (Hp.start _ _) ?_
  refine GC.seq ?_
  refine GC.region ?_
  refine GL.val (Ex.assign rfl) (by decide) ?_
  refine GL.nil ?_
  refine GE.thenN ?_
  refine GC.seq ?_
  refine GC.seq ?_
  refine GC.region ?_
  refine GL.val (Ex.move rfl) (by decide) ?_
  refine GL.val (v := (.bool true)) (Ex.cast (Ex.geq rfl rfl) rfl) (by decide) ?_
  refine GL.nil ?_
  refine GE.thenN ?_
  refine GC.cond rfl (fun _ => ?_) (fun hq1 => by cases hq1)
  refine GC.seq ?_
  refine GC.region ?_
  refine GL.val (Ex.move rfl) (by decide) ?_
  refine GL.val (v := (.int .u32 2)) (Ex.sub' rfl rfl (Z := 2) (by decide)) (by decide) ?_
  refine GL.val (Ex.assign rfl) (by decide) ?_
  refine GL.nil ?_
  refine GE.thenN ?_
  refine GC.ret ?_
  refine GE.thenR ?_
  refine GC.ret1 rfl (Rv.tmp rfl) (fun wN HN => ?_)
  exact HN.ret () trivial rfl ulN rfl

set_option maxRecDepth 100000 in
set_option maxHeartbeats 1000000 in
theorem k52_56 (w : World) :
    Calls Try.prog 52 #[(.int .u32 2147483648)] w (Ret w (fun _ : Unit => True) (fun rz => (.int .u32 0)) (fun rz => [])) := by
  refine enter (M := None) (L := []) (n := 9) (l := [(0, (.int .u32 2147483648))]) Try.func52 rfl rfl (Args.cons rfl (Args.nil _)) (Hp.start _ _) ?_
  refine GC.seq ?_
  refine GC.region ?_
  refine GL.val (Ex.assign rfl) (by decide) ?_
  refine GL.nil ?_
  refine GE.thenN ?_
  refine GC.seq ?_
  refine GC.seq ?_
  refine GC.region ?_
  refine GL.val (Ex.move rfl) (by decide) ?_
  refine GL.val (v := (.bool true)) (Ex.cast (Ex.geq rfl rfl) rfl) (by decide) ?_
  refine GL.nil ?_
  refine GE.thenN ?_
  refine GC.cond rfl (fun _ => ?_) (fun hq1 => by cases hq1)
  refine GC.seq ?_
  refine GC.region ?_
  refine GL.val (Ex.move rfl) (by decide) ?_
  refine GL.val (v := (.int .u32 0)) (Ex.sub' rfl rfl (Z := 0) (by decide)) (by decide) ?_
  refine GL.val (Ex.assign rfl) (by decide) ?_
  refine GL.nil ?_
  refine GE.thenN ?_
  refine GC.ret ?_
  refine GE.thenR ?_
  refine GC.ret1 rfl (Rv.tmp rfl) (fun wN HN => ?_)
  exact HN.ret () trivial rfl ulN rfl

set_option maxRecDepth 100000 in
set_option maxHeartbeats 1000000 in
theorem k24_53 (w : World) :
    Calls Try.prog 24 #[(.int .u32 1), (.int .u32 1), (.int .u32 3)] w (Ret w (fun _ : Unit => True) (fun rz => (.tuple #[(.int .u32 3), (.int .u32 2), (.int .u32 0)])) (fun rz => [])) := by
  refine enter (M := None) (L := []) (n := 38) (l := [(0, (.int .u32 1)), (1, (.int .u32 1)), (2, (.int .u32 3))]) Try.func24 rfl rfl (Args.cons rfl (Args.cons rfl (Args.cons rfl (Args.nil _)))) (Hp.start _ _) ?_
  refine GC.seq ?_
  refine GC.region ?_
  refine GL.val (Ex.assign rfl) (by decide) ?_
  refine GL.val (Ex.assign rfl) (by decide) ?_
  refine GL.val (Ex.assign rfl) (by decide) ?_
  refine GL.nil ?_
  refine GE.thenN ?_
  refine GC.seq ?_
  refine GC.region ?_
  refine GL.val (Ex.move rfl) (by decide) ?_
  refine GL.step (Stp.callR (vs := [(.int .u32 1)]) rfl rfl T.own50 (by decide) (fun wc hw => k50_54  wc )) (fun xq1 hq2 => ?_)
  refine GL.val (v := (.int .u32 1)) (Ex.sub' rfl rfl (Z := 1) (by decide)) (by decide) ?_
  refine GL.val (Ex.move rfl) (by decide) ?_
  refine GL.step (Stp.callR (vs := [(.int .u32 3)]) rfl rfl T.own50 (by decide) (fun wc hw => k50_46  wc )) (fun xq3 hq4 => ?_)
  refine GL.val (v := (.int .u32 3)) (Ex.sub' rfl rfl (Z := 3) (by decide)) (by decide) ?_
  refine GL.val (Ex.assign rfl) (by decide) ?_
  refine GL.val (Ex.assign rfl) (by decide) ?_
  refine GL.nil ?_
  refine GE.thenN ?_
  refine GC.seq ?_
  refine GC.region ?_
  refine GL.val (Ex.move rfl) (by decide) ?_
  refine GL.step (Stp.callR (vs := [(.int .u32 1)]) rfl rfl T.own50 (by decide) (fun wc hw => k50_54  wc )) (fun xq5 hq6 => ?_)
  refine GL.val (Ex.move rfl) (by decide) ?_
  refine GL.step (Stp.callR (vs := [(.int .u32 1)]) rfl rfl T.own51 (by decide) (fun wc hw => k51_50  wc )) (fun xq7 hq8 => ?_)
  refine GL.val (v := (.int .u32 2147483649)) (Ex.sub' rfl rfl (Z := 2147483649) (by decide)) (by decide) ?_
  refine GL.val (Ex.assign rfl) (by decide) ?_
  refine GL.nil ?_
  refine GE.thenN ?_
  refine GC.seq ?_
  refine GC.region ?_
  refine GL.val (Ex.move rfl) (by decide) ?_
  refine GL.val (Ex.move rfl) (by decide) ?_
  refine GL.step (Stp.callR (vs := [(.int .u32 3)]) rfl rfl T.own51 (by decide) (fun wc hw => k51_48  wc )) (fun xq9 hq10 => ?_)
  refine GL.val (v := (.int .u32 2147483648)) (Ex.sub' rfl rfl (Z := 2147483648) (by decide)) (by decide) ?_
  refine GL.val (Ex.assign rfl) (by decide) ?_
  refine GL.nil ?_
  refine GE.thenN ?_
  refine GC.seq ?_
  refine GC.region ?_
  refine GL.val (Ex.move rfl) (by decide) ?_
  refine GL.val (Ex.move rfl) (by decide) ?_
  refine GL.val (v := (.int .u32 2147483651)) (Ex.add rfl rfl (Z := 2147483651) (by decide)) (by decide) ?_
  refine GL.step (Stp.callR (vs := [(.int .u32 2147483651)]) rfl rfl T.own52 (by decide) (fun wc hw => k52_52  wc )) (fun xq11 hq12 => ?_)
  refine GL.val (Ex.move rfl) (by decide) ?_
  refine GL.val (Ex.move rfl) (by decide) ?_
  refine GL.val (v := (.int .u32 2147483650)) (Ex.add rfl rfl (Z := 2147483650) (by decide)) (by decide) ?_
  refine GL.step (Stp.callR (vs := [(.int .u32 2147483650)]) rfl rfl T.own52 (by decide) (fun wc hw => k52_55  wc )) (fun xq13 hq14 => ?_)
  refine GL.val (Ex.move rfl) (by decide) ?_
  refine GL.step (Stp.callR (vs := [(.int .u32 2147483648)]) rfl rfl T.own52 (by decide) (fun wc hw => k52_56  wc )) (fun xq15 hq16 => ?_)
  refine GL.val (Ex.assign rfl) (by decide) ?_
  refine GL.val (Ex.assign rfl) (by decide) ?_
  refine GL.val (Ex.assign rfl) (by decide) ?_
  refine GL.nil ?_
  refine GE.thenN ?_
  refine GC.ret ?_
  refine GC.ret3 rfl (Rv.tmp rfl) (Rv.tmp rfl) (Rv.tmp rfl) (fun wN HN => ?_)
  exact HN.ret () trivial rfl ulN rfl

set_option maxRecDepth 100000 in
set_option maxHeartbeats 1000000 in
theorem k56_58 (w : World) :
    Calls Try.prog 56 #[(.int .i64 1)] w (Ret w (fun _ : Unit => True) (fun rz => (.bool true)) (fun rz => [])) := by
  refine enter (M := None) (L := []) (n := 9) (l := [(0, (.int .i64 1))]) Try.func56 rfl rfl (Args.cons rfl (Args.nil _)) (Hp.start _ _) ?_
  refine GC.seq ?_
  refine GC.region ?_
  refine GL.val (Ex.assign rfl) (by decide) ?_
  refine GL.nil ?_
  refine GE.thenN ?_
  refine GC.seq ?_
  refine GC.region ?_
  refine GL.val (Ex.move rfl) (by decide) ?_
  refine GL.val (v := (.bool true)) (Ex.cast (Ex.geq rfl rfl) rfl) (by decide) ?_
  refine GL.val (Ex.move rfl) (by decide) ?_
  refine GL.stepG (tj := 5) rfl rfl (Ex.wp (v := (.int .i64 1)) (Ex.move rfl) (by decide)) (fun _ _ => ?_)
  refine GL.stepG (tj := 5) rfl rfl (Ex.wp (v := (.bool true)) (Ex.cast (Ex.leq rfl rfl) rfl) (by decide)) (fun _ _ => ?_)
  refine GL.val (v := (.bool true)) (Ex.pickT rfl rfl) (by decide) ?_
  refine GL.val (Ex.assign rfl) (by decide) ?_
  refine GL.nil ?_
  refine GE.thenN ?_
  refine GC.ret ?_
  refine GC.ret1 rfl (Rv.tmp rfl) (fun wN HN => ?_)
  exact HN.ret () trivial rfl ulN rfl

set_option maxRecDepth 100000 in
set_option maxHeartbeats 1000000 in
theorem k56_59 (w : World) :
    Calls Try.prog 56 #[(.int .i64 2)] w (Ret w (fun _ : Unit => True) (fun rz => (.bool true)) (fun rz => [])) := by
  refine enter (M := None) (L := []) (n := 9) (l := [(0, (.int .i64 2))]) Try.func56 rfl rfl (Args.cons rfl (Args.nil _)) (Hp.start _ _) ?_
  refine GC.seq ?_
  refine GC.region ?_
  refine GL.val (Ex.assign rfl) (by decide) ?_
  refine GL.nil ?_
  refine GE.thenN ?_
  refine GC.seq ?_
  refine GC.region ?_
  refine GL.val (Ex.move rfl) (by decide) ?_
  refine GL.val (v := (.bool true)) (Ex.cast (Ex.geq rfl rfl) rfl) (by decide) ?_
  refine GL.val (Ex.move rfl) (by decide) ?_
  refine GL.stepG (tj := 5) rfl rfl (Ex.wp (v := (.int .i64 2)) (Ex.move rfl) (by decide)) (fun _ _ => ?_)
  refine GL.stepG (tj := 5) rfl rfl (Ex.wp (v := (.bool true)) (Ex.cast (Ex.leq rfl rfl) rfl) (by decide)) (fun _ _ => ?_)
  refine GL.val (v := (.bool true)) (Ex.pickT rfl rfl) (by decide) ?_
  refine GL.val (Ex.assign rfl) (by decide) ?_
  refine GL.nil ?_
  refine GE.thenN ?_
  refine GC.ret ?_
  refine GC.ret1 rfl (Rv.tmp rfl) (fun wN HN => ?_)
  exact HN.ret () trivial rfl ulN rfl

set_option maxRecDepth 100000 in
set_option maxHeartbeats 1000000 in
theorem k79_61 (w : World) :
    Calls Try.prog 79 #[(.func (.func 16) #[] #[])] w (Ret w (fun _ : Nat => True) (fun rz => (.func (.func 90) #[] #[(.pointer (some ⟨rz, 0, none⟩))])) (fun rz => [⟨rz, [(.func (.func 16) #[] #[])], 25, true⟩])) := by
  refine enter (M := None) (L := []) (n := 4) (l := [(0, (.func (.func 16) #[] #[]))]) Try.func79 rfl rfl (Args.cons rfl (Args.nil _)) (Hp.start _ _) ?_
  refine GC.seq ?_
  refine GC.region ?_
  refine GL.step (Stp.box (cs := [(.func (.func 16) #[] #[])]) rfl rfl (by decide)) (fun bq1 _ => ?_)
  refine GL.val (Ex.assign rfl) (by decide) ?_
  refine GL.nil ?_
  refine GE.thenN ?_
  refine GC.seq ?_
  refine GC.region ?_
  refine GL.val (v := (.func (.func 90) #[] #[(.pointer (some ⟨bq1, 0, none⟩))])) (Ex.func (cs := [(.pointer (some ⟨bq1, 0, none⟩))]) rfl (fun _ hF => hF.evals _ _ rfl)) (by decide) ?_
  refine GL.val (Ex.assign rfl) (by decide) ?_
  refine GL.nil ?_
  refine GE.thenN ?_
  refine GC.ret ?_
  refine GC.ret1 rfl (Rv.tmp rfl) (fun wN HN => ?_)
  exact HN.ret bq1 trivial rfl (ulC ulN) rfl

set_option maxRecDepth 100000 in
set_option maxHeartbeats 1000000 in
theorem k79_62 (w : World) :
    Calls Try.prog 79 #[(.func (.func 14) #[] #[])] w (Ret w (fun _ : Nat => True) (fun rz => (.func (.func 90) #[] #[(.pointer (some ⟨rz, 0, none⟩))])) (fun rz => [⟨rz, [(.func (.func 14) #[] #[])], 25, true⟩])) := by
  refine enter (M := None) (L := []) (n := 4) (l := [(0, (.func (.func 14) #[] #[]))]) Try.func79 rfl rfl (Args.cons rfl (Args.nil _)) (Hp.start _ _) ?_
  refine GC.seq ?_
  refine GC.region ?_
  refine GL.step (Stp.box (cs := [(.func (.func 14) #[] #[])]) rfl rfl (by decide)) (fun bq1 _ => ?_)
  refine GL.val (Ex.assign rfl) (by decide) ?_
  refine GL.nil ?_
  refine GE.thenN ?_
  refine GC.seq ?_
  refine GC.region ?_
  refine GL.val (v := (.func (.func 90) #[] #[(.pointer (some ⟨bq1, 0, none⟩))])) (Ex.func (cs := [(.pointer (some ⟨bq1, 0, none⟩))]) rfl (fun _ hF => hF.evals _ _ rfl)) (by decide) ?_
  refine GL.val (Ex.assign rfl) (by decide) ?_
  refine GL.nil ?_
  refine GE.thenN ?_
  refine GC.ret ?_
  refine GC.ret1 rfl (Rv.tmp rfl) (fun wN HN => ?_)
  exact HN.ret bq1 trivial rfl (ulC ulN) rfl

set_option maxRecDepth 100000 in
set_option maxHeartbeats 1000000 in
theorem k57_60 (w : World) :
    Calls Try.prog 57 #[(.int .i64 2)] w (Ret w (fun _ : Nat × Nat => True) (fun rz => (.agg #[(.func (.func 90) #[] #[(.pointer (some ⟨rz.2, 0, none⟩))]), (.func (.func 90) #[] #[(.pointer (some ⟨rz.1, 0, none⟩))])])) (fun rz => [⟨rz.1, [(.func (.func 14) #[] #[])], 25, true⟩, ⟨rz.2, [(.func (.func 16) #[] #[])], 25, true⟩])) := by
  refine enter (M := None) (L := []) (n := 23) (l := [(0, (.int .i64 2))]) Try.func57 rfl rfl (Args.cons rfl (Args.nil _)) (Hp.start _ _) ?_
  refine GC.seq ?_
  refine GC.region ?_
  refine GL.step (Stp.alloc T.zr64 (by decide)) (fun bq1 _ => ?_)
  refine GL.nil ?_
  refine GE.thenN ?_
  refine GC.seq ?_
  refine GC.seq ?_
  refine GC.region ?_
  refine GL.val (Ex.move rfl) (by decide) ?_
  refine GL.nil ?_
  refine GE.thenN ?_
  refine GC.block ?_
  refine GC.seq ?_
  refine GC.region ?_
  refine GL.val (v := (.bool true)) (Ex.cast (Ex.eql rfl rfl) rfl) (by decide) ?_
  refine GL.val (Ex.assign rfl) (by decide) ?_
  refine GL.nil ?_
  refine GE.thenN ?_
  refine GC.cond rfl (fun _ => ?_) (fun hq2 => by cases hq2)
  refine GC.seq ?_
  refine GC.region ?_
  refine GL.step (Stp.callR (vs := [(.func (.func 16) #[] #[])]) rfl rfl T.own79 (by decide) (fun wc hw => k79_61  wc )) (fun xq3 hq4 => ?_)
  refine GL.step (Stp.callR (vs := [(.func (.func 14) #[] #[])]) rfl rfl T.own79 (by decide) (fun wc hw => k79_62  wc )) (fun xq5 hq6 => ?_)
  refine GL.val (v := (.agg #[(.func (.func 90) #[] #[(.pointer (some ⟨xq3, 0, none⟩))]), (.func (.func 90) #[] #[(.pointer (some ⟨xq5, 0, none⟩))])])) (Ex.build (vs := [(0, (.func (.func 90) #[] #[(.pointer (some ⟨xq3, 0, none⟩))])), (1, (.func (.func 90) #[] #[(.pointer (some ⟨xq5, 0, none⟩))]))]) rfl (by first | rfl | kernel_rfl)) (by decide) ?_
  refine GL.step (Stp.st2 (cs' := [(.func (.func 90) #[] #[(.pointer (some ⟨xq3, 0, none⟩))]), (.func (.func 90) #[] #[(.pointer (some ⟨xq5, 0, none⟩))])]) rfl rfl rfl T.sz64 rfl rfl rfl) (fun _ _ => ?_)
  refine GL.nil ?_
  refine GE.thenN ?_
  refine GC.ret ?_
  refine GE.blockR ?_
  refine GE.thenR ?_
  refine GC.ret1 rfl (Rv.cellA rfl T.ag64 T.sz64 (L := _) (i := 2) rfl (vs := [(.func (.func 90) #[] #[(.pointer (some ⟨xq3, 0, none⟩))]), (.func (.func 90) #[] #[(.pointer (some ⟨xq5, 0, none⟩))])]) rfl rfl) (fun wN HN => ?_)
  exact HN.ret (xq5, xq3) trivial rfl (ulC (ulC (ulS ulN))) rfl

set_option maxRecDepth 100000 in
set_option maxHeartbeats 1000000 in
theorem k57_63 (w : World) :
    Calls Try.prog 57 #[(.int .i64 1)] w (Ret w (fun _ : Unit => True) (fun rz => (.agg #[(.func (.func 81) #[] #[]), (.func (.func 81) #[] #[])])) (fun rz => [])) := by
  refine enter (M := None) (L := []) (n := 23) (l := [(0, (.int .i64 1))]) Try.func57 rfl rfl (Args.cons rfl (Args.nil _)) (Hp.start _ _) ?_
  refine GC.seq ?_
  refine GC.region ?_
  refine GL.step (Stp.alloc T.zr64 (by decide)) (fun bq1 _ => ?_)
  refine GL.nil ?_
  refine GE.thenN ?_
  refine GC.seq ?_
  refine GC.seq ?_
  refine GC.region ?_
  refine GL.val (Ex.move rfl) (by decide) ?_
  refine GL.nil ?_
  refine GE.thenN ?_
  refine GC.block ?_
  refine GC.seq ?_
  refine GC.region ?_
  refine GL.val (v := (.bool false)) (Ex.cast (Ex.eql rfl rfl) rfl) (by decide) ?_
  refine GL.val (Ex.assign rfl) (by decide) ?_
  refine GL.nil ?_
  refine GE.thenN ?_
  refine GC.cond rfl (fun hq2 => by cases hq2) (fun _ => ?_)
  refine GC.seq ?_
  refine GC.region ?_
  refine GL.val (v := (.bool false)) (Ex.cast (Ex.eql rfl rfl) rfl) (by decide) ?_
  refine GL.val (Ex.assign rfl) (by decide) ?_
  refine GL.nil ?_
  refine GE.thenN ?_
  refine GC.cond rfl (fun hq3 => by cases hq3) (fun _ => ?_)
  refine GC.seq ?_
  refine GC.region ?_
  refine GL.val (v := (.bool false)) (Ex.cast (Ex.eql rfl rfl) rfl) (by decide) ?_
  refine GL.val (Ex.assign rfl) (by decide) ?_
  refine GL.nil ?_
  refine GE.thenN ?_
  refine GC.cond rfl (fun hq4 => by cases hq4) (fun _ => ?_)
  refine GC.skip ?_
  refine GE.blockN ?_
  refine GE.thenN ?_
  refine GC.seq ?_
  refine GC.region ?_
  refine GL.val (Ex.assign rfl) (by decide) ?_
  refine GL.nil ?_
  refine GE.thenN ?_
  refine GC.seq ?_
  refine GC.region ?_
  refine GL.val (Ex.move rfl) (by decide) ?_
  refine GL.val (Ex.move rfl) (by decide) ?_
  refine GL.val (v := (.agg #[(.func (.func 81) #[] #[]), (.func (.func 81) #[] #[])])) (Ex.build (vs := [(0, (.func (.func 81) #[] #[])), (1, (.func (.func 81) #[] #[]))]) rfl (by first | rfl | kernel_rfl)) (by decide) ?_
  refine GL.step (Stp.st0 (cs' := [(.func (.func 81) #[] #[]), (.func (.func 81) #[] #[])]) rfl rfl rfl T.sz64 rfl rfl rfl) (fun _ _ => ?_)
  refine GL.nil ?_
  refine GE.thenN ?_
  refine GC.ret ?_
  refine GC.ret1 rfl (Rv.cellA rfl T.ag64 T.sz64 (L := _) (i := 0) rfl (vs := [(.func (.func 81) #[] #[]), (.func (.func 81) #[] #[])]) rfl rfl) (fun wN HN => ?_)
  exact HN.ret () trivial rfl (ulS ulN) rfl

set_option maxRecDepth 100000 in
set_option maxHeartbeats 1000000 in
theorem k81_64 (w : World) :
    Calls Try.prog 81 #[(.agg #[(.int .u32 1065353216), (.int .u32 1073741824), (.int .u32 1082130432)])] w (Ret w (fun _ : Unit => True) (fun rz => (.agg #[(.int .u32 1065353216), (.int .u32 1073741824), (.int .u32 1082130432)])) (fun rz => [])) := by
  refine enter (M := None) (L := []) (n := 4) (l := [(0, (.agg #[(.int .u32 1065353216), (.int .u32 1073741824), (.int .u32 1082130432)]))]) Try.func81 rfl rfl (Args.cons rfl (Args.nil _)) (Hp.start _ _) ?_
  refine GC.seq ?_
  refine GC.region ?_
  refine GL.step (Stp.box (cs := [(.int .u32 1065353216), (.int .u32 1073741824), (.int .u32 1082130432)]) rfl rfl (by decide)) (fun bq1 _ => ?_)
  refine GL.step (Stp.alloc T.zr61 (by decide)) (fun bq2 _ => ?_)
  refine GL.nil ?_
  refine GE.thenN ?_
  refine GC.seq ?_
  refine GC.region ?_
  refine GL.val (v := (.agg #[(.int .u32 1065353216), (.int .u32 1073741824), (.int .u32 1082130432)])) (Ex.loadA rfl T.ag61 T.sz61 (i := 1) rfl (vs := [(.int .u32 1065353216), (.int .u32 1073741824), (.int .u32 1082130432)]) rfl rfl) (by decide) ?_
  refine GL.step (Stp.st0 (cs' := [(.int .u32 1065353216), (.int .u32 1073741824), (.int .u32 1082130432)]) rfl rfl rfl T.sz61 rfl rfl rfl) (fun _ _ => ?_)
  refine GL.nil ?_
  refine GE.thenN ?_
  refine GC.ret ?_
  refine GC.ret1 rfl (Rv.cellA rfl T.ag61 T.sz61 (L := _) (i := 0) rfl (vs := [(.int .u32 1065353216), (.int .u32 1073741824), (.int .u32 1082130432)]) rfl rfl) (fun wN HN => ?_)
  exact HN.ret () trivial rfl (ulS (ulS ulN)) rfl

set_option maxRecDepth 100000 in
set_option maxHeartbeats 1000000 in
theorem k90_65 (c0 : Nat) (w : World) (hh : Has w [⟨c0, [(.func (.func 14) #[] #[])], 25, false⟩]) :
    Calls Try.prog 90 #[(.agg #[(.int .u32 1065353216), (.int .u32 1073741824), (.int .u32 1082130432)]), (.pointer (some ⟨c0, 0, none⟩))] w (Ret w (fun _ : Unit => True) (fun rz => (.agg #[(.int .u32 1074790400), (.int .u32 3196059648), (.int .u32 3217031168)])) (fun rz => [])) := by
  refine enter (M := None) (L := [⟨c0, [(.func (.func 14) #[] #[])], 25, false⟩]) (n := 23) (l := [(0, (.agg #[(.int .u32 1065353216), (.int .u32 1073741824), (.int .u32 1082130432)])), (1, (.pointer (some ⟨c0, 0, none⟩)))]) Try.func90 rfl rfl (Args.cons rfl (Args.cons rfl (Args.nil _))) (Hp.reads hh rfl) ?_
  refine GC.seq ?_
  refine GC.region ?_
  refine GL.step (Stp.box (cs := [(.int .u32 1065353216), (.int .u32 1073741824), (.int .u32 1082130432)]) rfl rfl (by decide)) (fun bq1 _ => ?_)
  refine GL.step (Stp.alloc T.zr61 (by decide)) (fun bq2 _ => ?_)
  refine GL.nil ?_
  refine GE.thenN ?_
  refine GC.seq ?_
  refine GC.region ?_
  refine GL.val (Ex.load rfl T.ag25 (i := 2) rfl rfl) (by decide) ?_
  refine GL.val (v := (.pointer (some ⟨bq1, 0, none⟩))) (Ex.cast (Ex.indexArr (m := 3) rfl rfl Try.underlying61 T.sz23 (by decide) (by decide)) rfl) (by decide) ?_
  refine GL.val (Ex.load rfl T.ag23 (i := 1) rfl rfl) (by decide) ?_
  refine GL.val (v := (.pointer (some ⟨bq1, 1, none⟩))) (Ex.cast (Ex.indexArr (m := 3) rfl rfl Try.underlying61 T.sz23 (by decide) (by decide)) rfl) (by decide) ?_
  refine GL.val (Ex.load rfl T.ag23 (i := 1) rfl rfl) (by decide) ?_
  refine GL.val (v := (.pointer (some ⟨bq1, 2, none⟩))) (Ex.cast (Ex.indexArr (m := 3) rfl rfl Try.underlying61 T.sz23 (by decide) (by decide)) rfl) (by decide) ?_
  refine GL.val (Ex.load rfl T.ag23 (i := 1) rfl rfl) (by decide) ?_
  refine GL.step (Stp.callR (vs := [(.int .u32 1065353216), (.int .u32 1073741824), (.int .u32 1082130432)]) rfl rfl T.own14 (by decide) (fun wc hw => k14_1  wc )) (fun xq3 hq4 => ?_)
  refine GL.val (Ex.move rfl) (by decide) ?_
  refine GL.val (Ex.extract rfl rfl) (by decide) ?_
  refine GL.val (Ex.extract rfl rfl) (by decide) ?_
  refine GL.val (Ex.extract rfl rfl) (by decide) ?_
  refine GL.val (Ex.assign rfl) (by decide) ?_
  refine GL.val (Ex.assign rfl) (by decide) ?_
  refine GL.val (Ex.assign rfl) (by decide) ?_
  refine GL.nil ?_
  refine GE.thenN ?_
  refine GC.seq ?_
  refine GC.region ?_
  refine GL.val (Ex.move rfl) (by decide) ?_
  refine GL.val (Ex.move rfl) (by decide) ?_
  refine GL.val (Ex.move rfl) (by decide) ?_
  refine GL.val (v := (.agg #[(.int .u32 1074790400), (.int .u32 3196059648), (.int .u32 3217031168)])) (Ex.build (vs := [(0, (.int .u32 1074790400)), (1, (.int .u32 3196059648)), (2, (.int .u32 3217031168))]) rfl (by first | rfl | kernel_rfl)) (by decide) ?_
  refine GL.step (Stp.st0 (cs' := [(.int .u32 1074790400), (.int .u32 3196059648), (.int .u32 3217031168)]) rfl rfl rfl T.sz61 rfl rfl rfl) (fun _ _ => ?_)
  refine GL.nil ?_
  refine GE.thenN ?_
  refine GC.ret ?_
  refine GC.ret1 rfl (Rv.cellA rfl T.ag61 T.sz61 (L := _) (i := 0) rfl (vs := [(.int .u32 1074790400), (.int .u32 3196059648), (.int .u32 3217031168)]) rfl rfl) (fun wN HN => ?_)
  exact HN.ret () trivial rfl (ulS (ulS (ulS ulN))) rfl

set_option maxRecDepth 100000 in
set_option maxHeartbeats 1000000 in
theorem k26_57 (w : World) :
    Calls Try.prog 26 #[(.int .i64 1), (.int .i64 2), (.int .u32 1065353216), (.int .u32 1073741824), (.int .u32 1082130432)] w (Ret w (fun _ : Unit => True) (fun rz => (.tuple #[(.int .u32 1074790400), (.int .u32 3196059648), (.int .u32 3217031168), (.int .i64 0)])) (fun rz => [])) := by
  refine enter (M := None) (L := []) (n := 56) (l := [(0, (.int .i64 1)), (1, (.int .i64 2)), (2, (.int .u32 1065353216)), (3, (.int .u32 1073741824)), (4, (.int .u32 1082130432))]) Try.func26 rfl rfl (Args.cons rfl (Args.cons rfl (Args.cons rfl (Args.cons rfl (Args.cons rfl (Args.nil _)))))) (Hp.start _ _) ?_
  refine GC.seq ?_
  refine GC.region ?_
  refine GL.val (Ex.assign rfl) (by decide) ?_
  refine GL.val (Ex.assign rfl) (by decide) ?_
  refine GL.val (Ex.assign rfl) (by decide) ?_
  refine GL.val (Ex.assign rfl) (by decide) ?_
  refine GL.nil ?_
  refine GE.thenN ?_
  refine GC.seq ?_
  refine GC.block ?_
  refine GC.seq ?_
  refine GC.region ?_
  refine GL.val (Ex.move rfl) (by decide) ?_
  refine GL.step (Stp.callR (vs := [(.int .i64 1)]) rfl rfl T.own56 (by decide) (fun wc hw => k56_58  wc )) (fun xq1 hq2 => ?_)
  refine GL.val (v := (.bool false)) (Ex.cast (Ex.not rfl) rfl) (by decide) ?_
  refine GL.val (Ex.move rfl) (by decide) ?_
  refine GL.stepG (tj := 19) rfl rfl (Ex.wp (v := (.int .i64 2)) (Ex.move rfl) (by decide)) (fun _ _ => ?_)
  refine GL.stepG (tj := 19) rfl rfl (Stp.callR (vs := [(.int .i64 2)]) rfl rfl T.own56 (by decide) (fun wc hw => k56_59  wc )) (fun xq3 hq4 => ?_)
  refine GL.stepG (tj := 19) rfl rfl (Ex.wp (v := (.bool false)) (Ex.cast (Ex.not rfl) rfl) (by decide)) (fun _ _ => ?_)
  refine GL.val (v := (.bool false)) (Ex.pickF rfl rfl) (by decide) ?_
  refine GL.val (Ex.move rfl) (by decide) ?_
  refine GL.stepG (tj := 24) rfl rfl (Ex.wp (v := (.int .i64 1)) (Ex.move rfl) (by decide)) (fun _ _ => ?_)
  refine GL.stepG (tj := 24) rfl rfl (Ex.wp (v := (.bool false)) (Ex.cast (Ex.eql rfl rfl) rfl) (by decide)) (fun _ _ => ?_)
  refine GL.stepG (tj := 24) rfl rfl (Ex.wp (v := (.int .i64 2)) (Ex.move rfl) (by decide)) (fun _ _ => ?_)
  refine GL.stepG (tj := 24) rfl rfl (Ex.wp (v := (.bool false)) (Ex.cast (Ex.eql rfl rfl) rfl) (by decide)) (fun _ _ => ?_)
  refine GL.stepG (tj := 24) rfl rfl (Ex.wp (v := (.bool false)) (Ex.cast (Ex.neqB rfl rfl Try.underlying4) rfl) (by decide)) (fun _ _ => ?_)
  refine GL.val (v := (.bool false)) (Ex.pickF rfl rfl) (by decide) ?_
  refine GL.val (Ex.assign rfl) (by decide) ?_
  refine GL.nil ?_
  refine GE.thenN ?_
  refine GC.cond rfl (fun hq5 => by cases hq5) (fun _ => ?_)
  refine GC.seq ?_
  refine GC.region ?_
  refine GL.val (Ex.move rfl) (by decide) ?_
  refine GL.val (Ex.move rfl) (by decide) ?_
  refine GL.val (v := (.bool false)) (Ex.cast (Ex.eql rfl rfl) rfl) (by decide) ?_
  refine GL.val (Ex.assign rfl) (by decide) ?_
  refine GL.nil ?_
  refine GE.thenN ?_
  refine GC.cond rfl (fun hq6 => by cases hq6) (fun _ => ?_)
  refine GC.skip ?_
  refine GE.blockN ?_
  refine GE.thenN ?_
  refine GC.seq ?_
  refine GC.region ?_
  refine GL.val (Ex.move rfl) (by decide) ?_
  refine GL.step (Stp.callR (vs := [(.int .i64 2)]) rfl rfl T.own57 (by decide) (fun wc hw => k57_60  wc )) (fun xq7 hq8 => ?_)
  refine GL.val (v := (.func (.func 90) #[] #[(.pointer (some ⟨xq7.1, 0, none⟩))])) (Ex.field1 rfl Try.underlying64 rfl T.ag62 rfl) (by decide) ?_
  refine GL.val (Ex.move rfl) (by decide) ?_
  refine GL.step (Stp.callR (vs := [(.int .i64 1)]) rfl rfl T.own57 (by decide) (fun wc hw => k57_63  wc )) (fun xq9 hq10 => ?_)
  refine GL.val (v := (.func (.func 81) #[] #[])) (Ex.field1 rfl Try.underlying64 rfl T.ag62 rfl) (by decide) ?_
  refine GL.val (Ex.move rfl) (by decide) ?_
  refine GL.val (Ex.move rfl) (by decide) ?_
  refine GL.val (Ex.move rfl) (by decide) ?_
  refine GL.val (v := (.agg #[(.int .u32 1065353216), (.int .u32 1073741824), (.int .u32 1082130432)])) (Ex.build (vs := [(0, (.int .u32 1065353216)), (1, (.int .u32 1073741824)), (2, (.int .u32 1082130432))]) rfl (by first | rfl | kernel_rfl)) (by decide) ?_
  refine GL.step (Stp.callR (vs := [(.agg #[(.int .u32 1065353216), (.int .u32 1073741824), (.int .u32 1082130432)])]) rfl rfl T.own81 (by decide) (fun wc hw => k81_64  wc )) (fun xq11 hq12 => ?_)
  refine GL.step (Stp.callR (vs := [(.agg #[(.int .u32 1065353216), (.int .u32 1073741824), (.int .u32 1082130432)])]) rfl rfl T.own90 (by decide) (fun wc hw => k90_65 xq7.1 wc (Has.cons (hw.hasOf (i := 0) rfl) (Has.nil _)))) (fun xq13 hq14 => ?_)
  refine GL.step (Stp.alloc T.zr61 (by decide)) (fun bq15 _ => ?_)
  refine GL.step (Stp.st0 (cs' := [(.int .u32 1074790400), (.int .u32 3196059648), (.int .u32 3217031168)]) rfl rfl rfl T.sz61 rfl rfl rfl) (fun _ _ => ?_)
  refine GL.nil ?_
  refine GE.thenN ?_
  refine GC.seq ?_
  refine GC.drawP [⟨bq15, [(.int .u32 1074790400), (.int .u32 3196059648), (.int .u32 3217031168)], 61, true⟩, ⟨xq7.1, [(.func (.func 14) #[] #[])], 25, true⟩, ⟨xq7.2, [(.func (.func 16) #[] #[])], 25, true⟩] T.mixed (by kernel_rfl) (by kernel_rfl) (fuel := 9) rfl rfl ?_
  refine GH.take 0 (v := (.pointer (some ⟨bq15, 0, none⟩))) rfl (by kernel_rfl) (by kernel_rfl) (by kernel_rfl) (fun _ _ _ h => h) (Ex.cast (Ex.indexArr (m := 3) rfl rfl Try.underlying61 T.sz23 (by decide) (by decide)) rfl) (ulC (ulC (ulC ulN))) (by decide) ?_
  refine GH.take 1 (v := (.int .u32 1074790400)) rfl (by kernel_rfl) (by kernel_rfl) (by kernel_rfl) (fun _ _ _ h => h) (Ex.load rfl T.ag23 (i := 0) rfl rfl) (ulC (ulC (ulC ulN))) (by decide) ?_
  refine GH.take 2 (v := (.pointer (some ⟨bq15, 1, none⟩))) rfl (by kernel_rfl) (by kernel_rfl) (by kernel_rfl) (fun _ _ _ h => h) (Ex.cast (Ex.indexArr (m := 3) rfl rfl Try.underlying61 T.sz23 (by decide) (by decide)) rfl) (ulC (ulC (ulC ulN))) (by decide) ?_
  refine GH.take 3 (v := (.int .u32 3196059648)) rfl (by kernel_rfl) (by kernel_rfl) (by kernel_rfl) (fun _ _ _ h => h) (Ex.load rfl T.ag23 (i := 0) rfl rfl) (ulC (ulC (ulC ulN))) (by decide) ?_
  refine GH.take 4 (v := (.pointer (some ⟨bq15, 2, none⟩))) rfl (by kernel_rfl) (by kernel_rfl) (by kernel_rfl) (fun _ _ _ h => h) (Ex.cast (Ex.indexArr (m := 3) rfl rfl Try.underlying61 T.sz23 (by decide) (by decide)) rfl) (ulC (ulC (ulC ulN))) (by decide) ?_
  refine GH.take 5 (v := (.int .u32 3217031168)) rfl (by kernel_rfl) (by kernel_rfl) (by kernel_rfl) (fun _ _ _ h => h) (Ex.load rfl T.ag23 (i := 0) rfl rfl) (ulC (ulC (ulC ulN))) (by decide) ?_
  refine GH.take 6 (v := (.int .u32 1074790400)) rfl (by kernel_rfl) (by kernel_rfl) (by kernel_rfl) (fun _ _ _ h => h) (Ex.assign rfl) (ulC (ulC (ulC ulN))) (by decide) ?_
  refine GH.take 7 (v := (.int .u32 3196059648)) rfl (by kernel_rfl) (by kernel_rfl) (by kernel_rfl) (fun _ _ _ h => h) (Ex.assign rfl) (ulC (ulC (ulC ulN))) (by decide) ?_
  refine GH.take 8 (v := (.int .u32 3217031168)) rfl (by kernel_rfl) (by kernel_rfl) (by kernel_rfl) (fun _ _ _ h => h) (Ex.assign rfl) (ulC (ulC (ulC ulN))) (by decide) ?_
  refine GH.done (by kernel_rfl) ?_
  refine GE.thenN ?_
  refine GE.tail rfl (Ex.wp (v := (.int .i64 0)) (Ex.assign rfl) (by decide)) (fun _ _ => ?_)
  refine GE.thenN ?_
  refine GC.ret ?_
  refine GC.ret4 rfl (Rv.tmp rfl) (Rv.tmp rfl) (Rv.tmp rfl) (Rv.tmp rfl) (fun wN HN => ?_)
  exact HN.ret () trivial rfl (ulS (ulS (ulS ulN))) rfl

set_option maxRecDepth 100000 in
set_option maxHeartbeats 1000000 in
theorem k56_67 (w : World) :
    Calls Try.prog 56 #[(.int .i64 0)] w (Ret w (fun _ : Unit => True) (fun rz => (.bool true)) (fun rz => [])) := by
  refine enter (M := None) (L := []) (n := 9) (l := [(0, (.int .i64 0))]) Try.func56 rfl rfl (Args.cons rfl (Args.nil _)) (Hp.start _ _) ?_
  refine GC.seq ?_
  refine GC.region ?_
  refine GL.val (Ex.assign rfl) (by decide) ?_
  refine GL.nil ?_
  refine GE.thenN ?_
  refine GC.seq ?_
  refine GC.region ?_
  refine GL.val (Ex.move rfl) (by decide) ?_
  refine GL.val (v := (.bool true)) (Ex.cast (Ex.geq rfl rfl) rfl) (by decide) ?_
  refine GL.val (Ex.move rfl) (by decide) ?_
  refine GL.stepG (tj := 5) rfl rfl (Ex.wp (v := (.int .i64 0)) (Ex.move rfl) (by decide)) (fun _ _ => ?_)
  refine GL.stepG (tj := 5) rfl rfl (Ex.wp (v := (.bool true)) (Ex.cast (Ex.leq rfl rfl) rfl) (by decide)) (fun _ _ => ?_)
  refine GL.val (v := (.bool true)) (Ex.pickT rfl rfl) (by decide) ?_
  refine GL.val (Ex.assign rfl) (by decide) ?_
  refine GL.nil ?_
  refine GE.thenN ?_
  refine GC.ret ?_
  refine GC.ret1 rfl (Rv.tmp rfl) (fun wN HN => ?_)
  exact HN.ret () trivial rfl ulN rfl

set_option maxRecDepth 100000 in
set_option maxHeartbeats 1000000 in
theorem k26_66 (w : World) :
    Calls Try.prog 26 #[(.int .i64 0), (.int .i64 1), (.int .u32 0), (.int .u32 0), (.int .u32 0)] w (Ret w (fun _ : Unit => True) (fun rz => (.tuple #[(.int .u32 0), (.int .u32 0), (.int .u32 0), (.int .i64 70)])) (fun rz => [])) := by
  refine enter (M := None) (L := []) (n := 56) (l := [(0, (.int .i64 0)), (1, (.int .i64 1)), (2, (.int .u32 0)), (3, (.int .u32 0)), (4, (.int .u32 0))]) Try.func26 rfl rfl (Args.cons rfl (Args.cons rfl (Args.cons rfl (Args.cons rfl (Args.cons rfl (Args.nil _)))))) (Hp.start _ _) ?_
  refine GC.seq ?_
  refine GC.region ?_
  refine GL.val (Ex.assign rfl) (by decide) ?_
  refine GL.val (Ex.assign rfl) (by decide) ?_
  refine GL.val (Ex.assign rfl) (by decide) ?_
  refine GL.val (Ex.assign rfl) (by decide) ?_
  refine GL.nil ?_
  refine GE.thenN ?_
  refine GC.seq ?_
  refine GC.block ?_
  refine GC.seq ?_
  refine GC.region ?_
  refine GL.val (Ex.move rfl) (by decide) ?_
  refine GL.step (Stp.callR (vs := [(.int .i64 0)]) rfl rfl T.own56 (by decide) (fun wc hw => k56_67  wc )) (fun xq1 hq2 => ?_)
  refine GL.val (v := (.bool false)) (Ex.cast (Ex.not rfl) rfl) (by decide) ?_
  refine GL.val (Ex.move rfl) (by decide) ?_
  refine GL.stepG (tj := 19) rfl rfl (Ex.wp (v := (.int .i64 1)) (Ex.move rfl) (by decide)) (fun _ _ => ?_)
  refine GL.stepG (tj := 19) rfl rfl (Stp.callR (vs := [(.int .i64 1)]) rfl rfl T.own56 (by decide) (fun wc hw => k56_58  wc )) (fun xq3 hq4 => ?_)
  refine GL.stepG (tj := 19) rfl rfl (Ex.wp (v := (.bool false)) (Ex.cast (Ex.not rfl) rfl) (by decide)) (fun _ _ => ?_)
  refine GL.val (v := (.bool false)) (Ex.pickF rfl rfl) (by decide) ?_
  refine GL.val (Ex.move rfl) (by decide) ?_
  refine GL.stepG (tj := 24) rfl rfl (Ex.wp (v := (.int .i64 0)) (Ex.move rfl) (by decide)) (fun _ _ => ?_)
  refine GL.stepG (tj := 24) rfl rfl (Ex.wp (v := (.bool true)) (Ex.cast (Ex.eql rfl rfl) rfl) (by decide)) (fun _ _ => ?_)
  refine GL.stepG (tj := 24) rfl rfl (Ex.wp (v := (.int .i64 1)) (Ex.move rfl) (by decide)) (fun _ _ => ?_)
  refine GL.stepG (tj := 24) rfl rfl (Ex.wp (v := (.bool false)) (Ex.cast (Ex.eql rfl rfl) rfl) (by decide)) (fun _ _ => ?_)
  refine GL.stepG (tj := 24) rfl rfl (Ex.wp (v := (.bool true)) (Ex.cast (Ex.neqB rfl rfl Try.underlying4) rfl) (by decide)) (fun _ _ => ?_)
  refine GL.val (v := (.bool true)) (Ex.pickF rfl rfl) (by decide) ?_
  refine GL.val (Ex.assign rfl) (by decide) ?_
  refine GL.nil ?_
  refine GE.thenN ?_
  refine GC.cond rfl (fun _ => ?_) (fun hq5 => by cases hq5)
  refine GC.seq ?_
  refine GC.region ?_
  refine GL.val (Ex.assign rfl) (by decide) ?_
  refine GL.val (Ex.assign rfl) (by decide) ?_
  refine GL.val (Ex.assign rfl) (by decide) ?_
  refine GL.val (Ex.assign rfl) (by decide) ?_
  refine GL.nil ?_
  refine GE.thenN ?_
  refine GC.ret ?_
  refine GE.blockR ?_
  refine GE.thenR ?_
  refine GC.ret4 rfl (Rv.tmp rfl) (Rv.tmp rfl) (Rv.tmp rfl) (Rv.tmp rfl) (fun wN HN => ?_)
  exact HN.ret () trivial rfl ulN rfl

set_option maxRecDepth 100000 in
set_option maxHeartbeats 1000000 in
theorem known (w : World) :
    Calls Try.prog 13 #[] w (Ret w (fun _ : Unit => True) (fun _ => .bool true) (fun _ => [])) := by
  refine enter (M := None) (L := []) (n := 131) (l := []) Try.func13 rfl rfl (Args.nil _) (Hp.start _ _) ?_
  refine GC.seq ?_
  refine GC.region ?_
  refine GL.val (Ex.assign rfl) (by decide) ?_
  refine GL.nil ?_
  refine GE.thenN ?_
  refine GC.seq ?_
  refine GC.region ?_
  refine GL.step (Stp.callR (vs := [(.int .u32 1065353216), (.int .u32 1073741824), (.int .u32 1082130432)]) rfl rfl T.own14 (by decide) (fun wc hw => k14_1  wc )) (fun xq1 hq2 => ?_)
  refine GL.val (Ex.move rfl) (by decide) ?_
  refine GL.val (Ex.extract rfl rfl) (by decide) ?_
  refine GL.val (Ex.extract rfl rfl) (by decide) ?_
  refine GL.val (Ex.extract rfl rfl) (by decide) ?_
  refine GL.val (Ex.assign rfl) (by decide) ?_
  refine GL.val (Ex.assign rfl) (by decide) ?_
  refine GL.val (Ex.assign rfl) (by decide) ?_
  refine GL.nil ?_
  refine GE.thenN ?_
  refine GC.seq ?_
  refine GC.region ?_
  refine GL.val (Ex.move rfl) (by decide) ?_
  refine GL.val (Ex.move rfl) (by decide) ?_
  refine GL.val (Ex.move rfl) (by decide) ?_
  refine GL.step (Stp.callR (vs := [(.int .u32 1074790400), (.int .u32 3196059648), (.int .u32 3217031168)]) rfl rfl T.own16 (by decide) (fun wc hw => k16_14  wc )) (fun xq3 hq4 => ?_)
  refine GL.val (Ex.move rfl) (by decide) ?_
  refine GL.val (Ex.extract rfl rfl) (by decide) ?_
  refine GL.val (Ex.extract rfl rfl) (by decide) ?_
  refine GL.val (Ex.extract rfl rfl) (by decide) ?_
  refine GL.val (Ex.assign rfl) (by decide) ?_
  refine GL.val (Ex.assign rfl) (by decide) ?_
  refine GL.val (Ex.assign rfl) (by decide) ?_
  refine GL.nil ?_
  refine GE.thenN ?_
  refine GC.seq ?_
  refine GC.seq ?_
  refine GC.region ?_
  refine GL.val (Ex.move rfl) (by decide) ?_
  refine GL.val (v := (.bool false)) (Ex.cast (Ex.neq rfl rfl) rfl) (by decide) ?_
  refine GL.val (Ex.move rfl) (by decide) ?_
  refine GL.stepG (tj := 27) rfl rfl (Ex.wp (v := (.int .u32 3196059648)) (Ex.move rfl) (by decide)) (fun _ _ => ?_)
  refine GL.stepG (tj := 27) rfl rfl (Ex.wp (v := (.bool false)) (Ex.cast (Ex.neq rfl rfl) rfl) (by decide)) (fun _ _ => ?_)
  refine GL.val (v := (.bool false)) (Ex.pickF rfl rfl) (by decide) ?_
  refine GL.val (Ex.move rfl) (by decide) ?_
  refine GL.stepG (tj := 31) rfl rfl (Ex.wp (v := (.int .u32 3217031168)) (Ex.move rfl) (by decide)) (fun _ _ => ?_)
  refine GL.stepG (tj := 31) rfl rfl (Ex.wp (v := (.bool false)) (Ex.cast (Ex.neq rfl rfl) rfl) (by decide)) (fun _ _ => ?_)
  refine GL.val (v := (.bool false)) (Ex.pickF rfl rfl) (by decide) ?_
  refine GL.val (Ex.move rfl) (by decide) ?_
  refine GL.stepG (tj := 35) rfl rfl (Ex.wp (v := (.int .u32 1065353216)) (Ex.move rfl) (by decide)) (fun _ _ => ?_)
  refine GL.stepG (tj := 35) rfl rfl (Ex.wp (v := (.bool false)) (Ex.cast (Ex.neq rfl rfl) rfl) (by decide)) (fun _ _ => ?_)
  refine GL.val (v := (.bool false)) (Ex.pickF rfl rfl) (by decide) ?_
  refine GL.val (Ex.move rfl) (by decide) ?_
  refine GL.stepG (tj := 39) rfl rfl (Ex.wp (v := (.int .u32 1073741824)) (Ex.move rfl) (by decide)) (fun _ _ => ?_)
  refine GL.stepG (tj := 39) rfl rfl (Ex.wp (v := (.bool false)) (Ex.cast (Ex.neq rfl rfl) rfl) (by decide)) (fun _ _ => ?_)
  refine GL.val (v := (.bool false)) (Ex.pickF rfl rfl) (by decide) ?_
  refine GL.val (Ex.move rfl) (by decide) ?_
  refine GL.stepG (tj := 43) rfl rfl (Ex.wp (v := (.int .u32 1082130432)) (Ex.move rfl) (by decide)) (fun _ _ => ?_)
  refine GL.stepG (tj := 43) rfl rfl (Ex.wp (v := (.bool false)) (Ex.cast (Ex.neq rfl rfl) rfl) (by decide)) (fun _ _ => ?_)
  refine GL.val (v := (.bool false)) (Ex.pickF rfl rfl) (by decide) ?_
  refine GL.nil ?_
  refine GE.thenN ?_
  refine GC.cond rfl (fun hq5 => by cases hq5) (fun _ => ?_)
  refine GC.skip ?_
  refine GE.thenN ?_
  refine GC.seq ?_
  refine GC.seq ?_
  refine GC.region ?_
  refine GL.step (Stp.callR (vs := [(.int .u32 1090519040)]) rfl rfl T.own18 (by decide) (fun wc hw => k18_27  wc )) (fun xq6 hq7 => ?_)
  refine GL.val (v := (.bool false)) (Ex.cast (Ex.neq rfl rfl) rfl) (by decide) ?_
  refine GL.val (Ex.move rfl) (by decide) ?_
  refine GL.stepG (tj := 49) rfl rfl (Stp.callR (vs := [(.int .u32 3212836864)]) rfl rfl T.own18 (by decide) (fun wc hw => k18_32  wc )) (fun xq8 hq9 => ?_)
  refine GL.stepG (tj := 49) rfl rfl (Ex.wp (v := (.bool false)) (Ex.cast (Ex.neq rfl rfl) rfl) (by decide)) (fun _ _ => ?_)
  refine GL.val (v := (.bool false)) (Ex.pickF rfl rfl) (by decide) ?_
  refine GL.val (Ex.move rfl) (by decide) ?_
  refine GL.stepG (tj := 53) rfl rfl (Stp.callR (vs := [(.int .u32 2147483648)]) rfl rfl T.own18 (by decide) (fun wc hw => k18_34  wc )) (fun xq10 hq11 => ?_)
  refine GL.stepG (tj := 53) rfl rfl (Ex.wp (v := (.bool false)) (Ex.cast (Ex.neq rfl rfl) rfl) (by decide)) (fun _ _ => ?_)
  refine GL.val (v := (.bool false)) (Ex.pickF rfl rfl) (by decide) ?_
  refine GL.val (Ex.move rfl) (by decide) ?_
  refine GL.stepG (tj := 57) rfl rfl (Stp.callR (vs := [(.int .u32 1056964608)]) rfl rfl T.own20 (by decide) (fun wc hw => k20_36  wc )) (fun xq12 hq13 => ?_)
  refine GL.stepG (tj := 57) rfl rfl (Ex.wp (v := (.bool false)) (Ex.cast (Ex.neq rfl rfl) rfl) (by decide)) (fun _ _ => ?_)
  refine GL.val (v := (.bool false)) (Ex.pickF rfl rfl) (by decide) ?_
  refine GL.val (Ex.move rfl) (by decide) ?_
  refine GL.stepG (tj := 61) rfl rfl (Stp.callR (vs := [(.int .u32 1124073472)]) rfl rfl T.own20 (by decide) (fun wc hw => k20_38  wc )) (fun xq14 hq15 => ?_)
  refine GL.stepG (tj := 61) rfl rfl (Ex.wp (v := (.bool false)) (Ex.cast (Ex.neq rfl rfl) rfl) (by decide)) (fun _ _ => ?_)
  refine GL.val (v := (.bool false)) (Ex.pickF rfl rfl) (by decide) ?_
  refine GL.val (Ex.move rfl) (by decide) ?_
  refine GL.stepG (tj := 65) rfl rfl (Stp.callR (vs := [(.int .u32 2139095039)]) rfl rfl T.own18 (by decide) (fun wc hw => k18_40  wc )) (fun xq16 hq17 => ?_)
  refine GL.stepG (tj := 65) rfl rfl (Ex.wp (v := (.bool false)) (Ex.cast (Ex.neq rfl rfl) rfl) (by decide)) (fun _ _ => ?_)
  refine GL.val (v := (.bool false)) (Ex.pickF rfl rfl) (by decide) ?_
  refine GL.nil ?_
  refine GE.thenN ?_
  refine GC.cond rfl (fun hq18 => by cases hq18) (fun _ => ?_)
  refine GC.skip ?_
  refine GE.thenN ?_
  refine GC.seq ?_
  refine GC.region ?_
  refine GL.step (Stp.callR (vs := [(.int .u32 3), (.int .u32 2), (.int .u32 0)]) rfl rfl T.own22 (by decide) (fun wc hw => k22_45  wc )) (fun xq19 hq20 => ?_)
  refine GL.val (Ex.move rfl) (by decide) ?_
  refine GL.val (Ex.extract rfl rfl) (by decide) ?_
  refine GL.val (Ex.extract rfl rfl) (by decide) ?_
  refine GL.val (Ex.extract rfl rfl) (by decide) ?_
  refine GL.val (Ex.assign rfl) (by decide) ?_
  refine GL.val (Ex.assign rfl) (by decide) ?_
  refine GL.val (Ex.assign rfl) (by decide) ?_
  refine GL.nil ?_
  refine GE.thenN ?_
  refine GC.seq ?_
  refine GC.region ?_
  refine GL.step (Stp.callR (vs := [(.int .u32 1), (.int .u32 1), (.int .u32 3)]) rfl rfl T.own24 (by decide) (fun wc hw => k24_53  wc )) (fun xq21 hq22 => ?_)
  refine GL.val (Ex.move rfl) (by decide) ?_
  refine GL.val (Ex.extract rfl rfl) (by decide) ?_
  refine GL.val (Ex.extract rfl rfl) (by decide) ?_
  refine GL.val (Ex.extract rfl rfl) (by decide) ?_
  refine GL.val (Ex.assign rfl) (by decide) ?_
  refine GL.val (Ex.assign rfl) (by decide) ?_
  refine GL.val (Ex.assign rfl) (by decide) ?_
  refine GL.nil ?_
  refine GE.thenN ?_
  refine GC.seq ?_
  refine GC.seq ?_
  refine GC.region ?_
  refine GL.val (Ex.move rfl) (by decide) ?_
  refine GL.val (v := (.bool false)) (Ex.cast (Ex.neq rfl rfl) rfl) (by decide) ?_
  refine GL.val (Ex.move rfl) (by decide) ?_
  refine GL.stepG (tj := 81) rfl rfl (Ex.wp (v := (.int .u32 1)) (Ex.move rfl) (by decide)) (fun _ _ => ?_)
  refine GL.stepG (tj := 81) rfl rfl (Ex.wp (v := (.bool false)) (Ex.cast (Ex.neq rfl rfl) rfl) (by decide)) (fun _ _ => ?_)
  refine GL.val (v := (.bool false)) (Ex.pickF rfl rfl) (by decide) ?_
  refine GL.val (Ex.move rfl) (by decide) ?_
  refine GL.stepG (tj := 85) rfl rfl (Ex.wp (v := (.int .u32 3)) (Ex.move rfl) (by decide)) (fun _ _ => ?_)
  refine GL.stepG (tj := 85) rfl rfl (Ex.wp (v := (.bool false)) (Ex.cast (Ex.neq rfl rfl) rfl) (by decide)) (fun _ _ => ?_)
  refine GL.val (v := (.bool false)) (Ex.pickF rfl rfl) (by decide) ?_
  refine GL.val (Ex.move rfl) (by decide) ?_
  refine GL.stepG (tj := 89) rfl rfl (Ex.wp (v := (.int .u32 3)) (Ex.move rfl) (by decide)) (fun _ _ => ?_)
  refine GL.stepG (tj := 89) rfl rfl (Ex.wp (v := (.bool false)) (Ex.cast (Ex.neq rfl rfl) rfl) (by decide)) (fun _ _ => ?_)
  refine GL.val (v := (.bool false)) (Ex.pickF rfl rfl) (by decide) ?_
  refine GL.val (Ex.move rfl) (by decide) ?_
  refine GL.stepG (tj := 93) rfl rfl (Ex.wp (v := (.int .u32 2)) (Ex.move rfl) (by decide)) (fun _ _ => ?_)
  refine GL.stepG (tj := 93) rfl rfl (Ex.wp (v := (.bool false)) (Ex.cast (Ex.neq rfl rfl) rfl) (by decide)) (fun _ _ => ?_)
  refine GL.val (v := (.bool false)) (Ex.pickF rfl rfl) (by decide) ?_
  refine GL.val (Ex.move rfl) (by decide) ?_
  refine GL.stepG (tj := 97) rfl rfl (Ex.wp (v := (.int .u32 0)) (Ex.move rfl) (by decide)) (fun _ _ => ?_)
  refine GL.stepG (tj := 97) rfl rfl (Ex.wp (v := (.bool false)) (Ex.cast (Ex.neq rfl rfl) rfl) (by decide)) (fun _ _ => ?_)
  refine GL.val (v := (.bool false)) (Ex.pickF rfl rfl) (by decide) ?_
  refine GL.nil ?_
  refine GE.thenN ?_
  refine GC.cond rfl (fun hq23 => by cases hq23) (fun _ => ?_)
  refine GC.skip ?_
  refine GE.thenN ?_
  refine GC.seq ?_
  refine GC.region ?_
  refine GL.step (Stp.callR (vs := [(.int .i64 1), (.int .i64 2), (.int .u32 1065353216), (.int .u32 1073741824), (.int .u32 1082130432)]) rfl rfl T.own26 (by decide) (fun wc hw => k26_57  wc )) (fun xq24 hq25 => ?_)
  refine GL.val (Ex.move rfl) (by decide) ?_
  refine GL.val (Ex.extract rfl rfl) (by decide) ?_
  refine GL.val (Ex.extract rfl rfl) (by decide) ?_
  refine GL.val (Ex.extract rfl rfl) (by decide) ?_
  refine GL.val (Ex.extract rfl rfl) (by decide) ?_
  refine GL.val (Ex.assign rfl) (by decide) ?_
  refine GL.val (Ex.assign rfl) (by decide) ?_
  refine GL.val (Ex.assign rfl) (by decide) ?_
  refine GL.val (Ex.assign rfl) (by decide) ?_
  refine GL.nil ?_
  refine GE.thenN ?_
  refine GC.seq ?_
  refine GC.region ?_
  refine GL.step (Stp.callR (vs := [(.int .i64 0), (.int .i64 1), (.int .u32 0), (.int .u32 0), (.int .u32 0)]) rfl rfl T.own26 (by decide) (fun wc hw => k26_66  wc )) (fun xq26 hq27 => ?_)
  refine GL.val (Ex.move rfl) (by decide) ?_
  refine GL.val (Ex.extract rfl rfl) (by decide) ?_
  refine GL.val (Ex.extract rfl rfl) (by decide) ?_
  refine GL.val (Ex.extract rfl rfl) (by decide) ?_
  refine GL.val (Ex.extract rfl rfl) (by decide) ?_
  refine GL.val (Ex.assign rfl) (by decide) ?_
  refine GL.val (Ex.assign rfl) (by decide) ?_
  refine GL.val (Ex.assign rfl) (by decide) ?_
  refine GL.val (Ex.assign rfl) (by decide) ?_
  refine GL.nil ?_
  refine GE.thenN ?_
  refine GC.seq ?_
  refine GC.region ?_
  refine GL.val (Ex.move rfl) (by decide) ?_
  refine GL.val (v := (.bool true)) (Ex.cast (Ex.eql rfl rfl) rfl) (by decide) ?_
  refine GL.val (Ex.move rfl) (by decide) ?_
  refine GL.stepG (tj := 115) rfl rfl (Ex.wp (v := (.int .u32 3196059648)) (Ex.move rfl) (by decide)) (fun _ _ => ?_)
  refine GL.stepG (tj := 115) rfl rfl (Ex.wp (v := (.bool true)) (Ex.cast (Ex.eql rfl rfl) rfl) (by decide)) (fun _ _ => ?_)
  refine GL.val (v := (.bool true)) (Ex.pickT rfl rfl) (by decide) ?_
  refine GL.val (Ex.move rfl) (by decide) ?_
  refine GL.stepG (tj := 119) rfl rfl (Ex.wp (v := (.int .u32 3217031168)) (Ex.move rfl) (by decide)) (fun _ _ => ?_)
  refine GL.stepG (tj := 119) rfl rfl (Ex.wp (v := (.bool true)) (Ex.cast (Ex.eql rfl rfl) rfl) (by decide)) (fun _ _ => ?_)
  refine GL.val (v := (.bool true)) (Ex.pickT rfl rfl) (by decide) ?_
  refine GL.val (Ex.move rfl) (by decide) ?_
  refine GL.stepG (tj := 123) rfl rfl (Ex.wp (v := (.int .i64 0)) (Ex.move rfl) (by decide)) (fun _ _ => ?_)
  refine GL.stepG (tj := 123) rfl rfl (Ex.wp (v := (.bool true)) (Ex.cast (Ex.eql rfl rfl) rfl) (by decide)) (fun _ _ => ?_)
  refine GL.val (v := (.bool true)) (Ex.pickT rfl rfl) (by decide) ?_
  refine GL.val (Ex.move rfl) (by decide) ?_
  refine GL.stepG (tj := 127) rfl rfl (Ex.wp (v := (.int .i64 70)) (Ex.move rfl) (by decide)) (fun _ _ => ?_)
  refine GL.stepG (tj := 127) rfl rfl (Ex.wp (v := (.bool true)) (Ex.cast (Ex.eql rfl rfl) rfl) (by decide)) (fun _ _ => ?_)
  refine GL.val (v := (.bool true)) (Ex.pickT rfl rfl) (by decide) ?_
  refine GL.val (Ex.assign rfl) (by decide) ?_
  refine GL.nil ?_
  refine GE.thenN ?_
  refine GC.ret ?_
  refine GC.ret1 rfl (Rv.tmp rfl) (fun wN HN => ?_)
  exact HN.ret () trivial (by first | rfl | simp) (List.nil_sublist _) rfl

set_option maxRecDepth 100000 in
set_option maxHeartbeats 1000000 in
theorem lawNames (w : World) :
    Calls Try.prog 3 #[] w (Ret w (fun _ : Unit => True) (fun _ => .bool true) (fun _ => [])) := by
  refine enter (M := None) (L := []) (n := 4) (l := []) Try.func3 rfl rfl (Args.nil _) (Hp.start _ _) ?_
  refine GC.seq ?_
  refine GC.region ?_
  refine GL.val (Ex.assign rfl) (by decide) ?_
  refine GL.nil ?_
  refine GE.thenN ?_
  refine GC.seq ?_
  refine GC.region ?_
  refine GL.val (Ex.move rfl) (by decide) ?_
  refine GL.stepG (tj := 1) rfl rfl (Stp.callR (vs := []) rfl rfl T.own13 (by decide) (fun wc hw => known wc)) (fun xq1 hq2 => ?_)
  refine GL.val (v := (.bool true)) (Ex.pickT rfl rfl) (by decide) ?_
  refine GL.val (Ex.assign rfl) (by decide) ?_
  refine GL.nil ?_
  refine GE.thenN ?_
  refine GC.ret ?_
  refine GC.ret1 rfl (Rv.tmp rfl) (fun wN HN => ?_)
  exact HN.ret () trivial (by first | rfl | simp) (List.nil_sublist _) rfl

end Go.Proofs.Ytbhjadkgeadpiaa.C
