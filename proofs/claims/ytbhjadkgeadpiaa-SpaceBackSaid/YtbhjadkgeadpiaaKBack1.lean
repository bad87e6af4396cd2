/- SpaceBack: what its code does, walked. -/
import Derived.Test.YtbhjadkgeadpiaaT
import Derived.Test.YtbhjadkgeadpiaaSp
import Derived.Test.YtbhjadkgeadpiaaSb
import Derived.Test.YtbhjadkgeadpiaaDc
namespace Go.Proofs.Ytbhjadkgeadpiaa.C
open Go Go.RowKit Sx
set_option linter.unusedVariables false
set_option maxRecDepth 100000 in
set_option maxHeartbeats 1000000 in
theorem k39_2 (w : World) :
  Calls Try.prog 39 #[(.int .u32 1065353216)] w (Ret w (fun _ : Unit => True) (fun rz => (.float .f64 4607182418800017408)) (fun rz => [])) := by
 refine enter (M := None) (L := []) (n := 6) (l := [(0, (.int .u32 1065353216))]) Try.func39 rfl rfl (Args.cons rfl (Args.nil _)) (Hp.start _ _) ?_
 refine GC.seq ?_
 refine GC.region ?_
 refine GL.val (Ex.assign rfl) (by decide) ?_
 refine GL.nil ?_
 refine GE.thenN ?_
 refine GC.seq ?_
 refine GC.region ?_
 refine GL.val (Ex.move rfl) (by decide) ?_
 refine GL.val (v := (.float .f32 1065353216)) (Ex.ext (vs := [(.int .u32 1065353216)]) rfl rfl T.ext69 (fun _ => by first | rfl | kernel_rfl)) (by decide) ?_
 refine GL.val (v := (.float .f64 4607182418800017408)) (Ex.cff (r := 4607182418800017408) rfl Try.underlying76 Try.underlying50 (by kernel_rfl)) (by decide) ?_
 refine GL.val (Ex.assign rfl) (by decide) ?_
 refine GL.nil ?_
 refine GE.thenN ?_
 refine GC.ret ?_
 refine GC.ret1 rfl (Rv.tmp rfl) (fun wN HN => ?_)
 exact HN.ret () trivial rfl ulN rfl

set_option maxRecDepth 100000 in
set_option maxHeartbeats 1000000 in
theorem k39_3 (w : World) :
  Calls Try.prog 39 #[(.int .u32 1082130432)] w (Ret w (fun _ : Unit => True) (fun rz => (.float .f64 4616189618054758400)) (fun rz => [])) := by
 refine enter (M := None) (L := []) (n := 6) (l := [(0, (.int .u32 1082130432))]) Try.func39 rfl rfl (Args.cons rfl (Args.nil _)) (Hp.start _ _) ?_
 refine GC.seq ?_
 refine GC.region ?_
 refine GL.val (Ex.assign rfl) (by decide) ?_
 refine GL.nil ?_
 refine GE.thenN ?_
 refine GC.seq ?_
 refine GC.region ?_
 refine GL.val (Ex.move rfl) (by decide) ?_
 refine GL.val (v := (.float .f32 1082130432)) (Ex.ext (vs := [(.int .u32 1082130432)]) rfl rfl T.ext69 (fun _ => by first | rfl | kernel_rfl)) (by decide) ?_
 refine GL.val (v := (.float .f64 4616189618054758400)) (Ex.cff (r := 4616189618054758400) rfl Try.underlying76 Try.underlying50 (by kernel_rfl)) (by decide) ?_
 refine GL.val (Ex.assign rfl) (by decide) ?_
 refine GL.nil ?_
 refine GE.thenN ?_
 refine GC.ret ?_
 refine GC.ret1 rfl (Rv.tmp rfl) (fun wN HN => ?_)
 exact HN.ret () trivial rfl ulN rfl

set_option maxRecDepth 100000 in
set_option maxHeartbeats 1000000 in
theorem k39_4 (w : World) :
  Calls Try.prog 39 #[(.int .u32 1073741824)] w (Ret w (fun _ : Unit => True) (fun rz => (.float .f64 4611686018427387904)) (fun rz => [])) := by
 refine enter (M := None) (L := []) (n := 6) (l := [(0, (.int .u32 1073741824))]) Try.func39 rfl rfl (Args.cons rfl (Args.nil _)) (Hp.start _ _) ?_
 refine GC.seq ?_
 refine GC.region ?_
 refine GL.val (Ex.assign rfl) (by decide) ?_
 refine GL.nil ?_
 refine GE.thenN ?_
 refine GC.seq ?_
 refine GC.region ?_
 refine GL.val (Ex.move rfl) (by decide) ?_
 refine GL.val (v := (.float .f32 1073741824)) (Ex.ext (vs := [(.int .u32 1073741824)]) rfl rfl T.ext69 (fun _ => by first | rfl | kernel_rfl)) (by decide) ?_
 refine GL.val (v := (.float .f64 4611686018427387904)) (Ex.cff (r := 4611686018427387904) rfl Try.underlying76 Try.underlying50 (by kernel_rfl)) (by decide) ?_
 refine GL.val (Ex.assign rfl) (by decide) ?_
 refine GL.nil ?_
 refine GE.thenN ?_
 refine GC.ret ?_
 refine GC.ret1 rfl (Rv.tmp rfl) (fun wN HN => ?_)
 exact HN.ret () trivial rfl ulN rfl

set_option maxRecDepth 100000 in
set_option maxHeartbeats 1000000 in
theorem k84_7 (w : World) :
  Calls Try.prog 84 #[(.float .f32 1074790400)] w (Ret w (fun _ : Unit => True) (fun rz => (.int .u32 1074790400)) (fun rz => [])) := by
 refine enter (M := None) (L := []) (n := 8) (l := [(0, (.float .f32 1074790400))]) Try.func84 rfl rfl (Args.cons rfl (Args.nil _)) (Hp.start _ _) ?_
 refine GC.seq ?_
 refine GC.region ?_
 refine GL.val (Ex.assign rfl) (by decide) ?_
 refine GL.nil ?_
 refine GE.thenN ?_
 refine GC.seq ?_
 refine GC.seq ?_
 refine GC.region ?_
 refine GL.val (Ex.move rfl) (by decide) ?_
 refine GL.val (Ex.move rfl) (by decide) ?_
 refine GL.val (v := (.bool false)) (Ex.fneq (r := false) rfl rfl (by kernel_rfl)) (by decide) ?_
 refine GL.nil ?_
 refine GE.thenN ?_
 refine GC.cond rfl (fun hq1 => by cases hq1) (fun _ => ?_)
 refine GC.skip ?_
 refine GE.thenN ?_
 refine GC.seq ?_
 refine GC.region ?_
 refine GL.val (Ex.move rfl) (by decide) ?_
 refine GL.val (v := (.int .u32 1074790400)) (Ex.ext (vs := [(.float .f32 1074790400)]) rfl rfl T.ext92 (fun _ => by first | rfl | kernel_rfl)) (by decide) ?_
 refine GL.val (Ex.assign rfl) (by decide) ?_
 refine GL.nil ?_
 refine GE.thenN ?_
 refine GC.ret ?_
 refine GC.ret1 rfl (Rv.tmp rfl) (fun wN HN => ?_)
 exact HN.ret () trivial rfl ulN rfl

set_option maxRecDepth 100000 in
set_option maxHeartbeats 1000000 in
theorem k70_6 (w : World) :
  Calls Try.prog 70 #[(.int .u64 4612248968380809216)] w (Ret w (fun _ : Unit => True) (fun rz => (.int .u32 1074790400)) (fun rz => [])) := by
 refine enter (M := None) (L := []) (n := 7) (l := [(0, (.int .u64 4612248968380809216))]) Try.func70 rfl rfl (Args.cons rfl (Args.nil _)) (Hp.start _ _) ?_
 refine GC.seq ?_
 refine GC.region ?_
 refine GL.val (Ex.assign rfl) (by decide) ?_
 refine GL.nil ?_
 refine GE.thenN ?_
 refine GC.seq ?_
 refine GC.region ?_
 refine GL.val (Ex.move rfl) (by decide) ?_
 refine GL.val (v := (.float .f64 4612248968380809216)) (Ex.ext (vs := [(.int .u64 4612248968380809216)]) rfl rfl T.ext85 (fun _ => by first | rfl | kernel_rfl)) (by decide) ?_
 refine GL.val (v := (.float .f32 1074790400)) (Ex.cff (r := 1074790400) rfl Try.underlying50 Try.underlying76 (by kernel_rfl)) (by decide) ?_
 refine GL.step (Stp.callR (vs := [(.float .f32 1074790400)]) rfl rfl T.own84 (by decide) (fun wc hw => k84_7  wc )) (fun xq1 hq2 => ?_)
 refine GL.val (Ex.assign rfl) (by decide) ?_
 refine GL.nil ?_
 refine GE.thenN ?_
 refine GC.ret ?_
 refine GC.ret1 rfl (Rv.tmp rfl) (fun wN HN => ?_)
 exact HN.ret () trivial rfl ulN rfl

set_option maxRecDepth 100000 in
set_option maxHeartbeats 1000000 in
theorem k40_5 (w : World) :
  Calls Try.prog 40 #[(.float .f64 4612248968380809216)] w (Ret w (fun _ : Unit => True) (fun rz => (.int .u32 1074790400)) (fun rz => [])) := by
 refine enter (M := None) (L := []) (n := 6) (l := [(0, (.float .f64 4612248968380809216))]) Try.func40 rfl rfl (Args.cons rfl (Args.nil _)) (Hp.start _ _) ?_
 refine GC.seq ?_
 refine GC.region ?_
 refine GL.val (Ex.assign rfl) (by decide) ?_
 refine GL.nil ?_
 refine GE.thenN ?_
 refine GC.seq ?_
 refine GC.region ?_
 refine GL.val (Ex.move rfl) (by decide) ?_
 refine GL.val (v := (.int .u64 4612248968380809216)) (Ex.ext (vs := [(.float .f64 4612248968380809216)]) rfl rfl T.ext71 (fun _ => by first | rfl | kernel_rfl)) (by decide) ?_
 refine GL.step (Stp.callR (vs := [(.int .u64 4612248968380809216)]) rfl rfl T.own70 (by decide) (fun wc hw => k70_6  wc )) (fun xq1 hq2 => ?_)
 refine GL.val (Ex.assign rfl) (by decide) ?_
 refine GL.nil ?_
 refine GE.thenN ?_
 refine GC.ret ?_
 refine GC.ret1 rfl (Rv.tmp rfl) (fun wN HN => ?_)
 exact HN.ret () trivial rfl ulN rfl

set_option maxRecDepth 100000 in
set_option maxHeartbeats 1000000 in
theorem k84_10 (w : World) :
  Calls Try.prog 84 #[(.float .f32 3196059648)] w (Ret w (fun _ : Unit => True) (fun rz => (.int .u32 3196059648)) (fun rz => [])) := by
 refine enter (M := None) (L := []) (n := 8) (l := [(0, (.float .f32 3196059648))]) Try.func84 rfl rfl (Args.cons rfl (Args.nil _)) (Hp.start _ _) ?_
 refine GC.seq ?_
 refine GC.region ?_
 refine GL.val (Ex.assign rfl) (by decide) ?_
 refine GL.nil ?_
 refine GE.thenN ?_
 refine GC.seq ?_
 refine GC.seq ?_
 refine GC.region ?_
 refine GL.val (Ex.move rfl) (by decide) ?_
 refine GL.val (Ex.move rfl) (by decide) ?_
 refine GL.val (v := (.bool false)) (Ex.fneq (r := false) rfl rfl (by kernel_rfl)) (by decide) ?_
 refine GL.nil ?_
 refine GE.thenN ?_
 refine GC.cond rfl (fun hq1 => by cases hq1) (fun _ => ?_)
 refine GC.skip ?_
 refine GE.thenN ?_
 refine GC.seq ?_
 refine GC.region ?_
 refine GL.val (Ex.move rfl) (by decide) ?_
 refine GL.val (v := (.int .u32 3196059648)) (Ex.ext (vs := [(.float .f32 3196059648)]) rfl rfl T.ext92 (fun _ => by first | rfl | kernel_rfl)) (by decide) ?_
 refine GL.val (Ex.assign rfl) (by decide) ?_
 refine GL.nil ?_
 refine GE.thenN ?_
 refine GC.ret ?_
 refine GC.ret1 rfl (Rv.tmp rfl) (fun wN HN => ?_)
 exact HN.ret () trivial rfl ulN rfl

set_option maxRecDepth 100000 in
set_option maxHeartbeats 1000000 in
theorem k70_9 (w : World) :
  Calls Try.prog 70 #[(.int .u64 13821547256400052224)] w (Ret w (fun _ : Unit => True) (fun rz => (.int .u32 3196059648)) (fun rz => [])) := by
 refine enter (M := None) (L := []) (n := 7) (l := [(0, (.int .u64 13821547256400052224))]) Try.func70 rfl rfl (Args.cons rfl (Args.nil _)) (Hp.start _ _) ?_
 refine GC.seq ?_
 refine GC.region ?_
 refine GL.val (Ex.assign rfl) (by decide) ?_
 refine GL.nil ?_
 refine GE.thenN ?_
 refine GC.seq ?_
 refine GC.region ?_
 refine GL.val (Ex.move rfl) (by decide) ?_
 refine GL.val (v := (.float .f64 13821547256400052224)) (Ex.ext (vs := [(.int .u64 13821547256400052224)]) rfl rfl T.ext85 (fun _ => by first | rfl | kernel_rfl)) (by decide) ?_
 refine GL.val (v := (.float .f32 3196059648)) (Ex.cff (r := 3196059648) rfl Try.underlying50 Try.underlying76 (by kernel_rfl)) (by decide) ?_
 refine GL.step (Stp.callR (vs := [(.float .f32 3196059648)]) rfl rfl T.own84 (by decide) (fun wc hw => k84_10  wc )) (fun xq1 hq2 => ?_)
 refine GL.val (Ex.assign rfl) (by decide) ?_
 refine GL.nil ?_
 refine GE.thenN ?_
 refine GC.ret ?_
 refine GC.ret1 rfl (Rv.tmp rfl) (fun wN HN => ?_)
 exact HN.ret () trivial rfl ulN rfl

set_option maxRecDepth 100000 in
set_option maxHeartbeats 1000000 in
theorem k40_8 (w : World) :
  Calls Try.prog 40 #[(.float .f64 13821547256400052224)] w (Ret w (fun _ : Unit => True) (fun rz => (.int .u32 3196059648)) (fun rz => [])) := by
 refine enter (M := None) (L := []) (n := 6) (l := [(0, (.float .f64 13821547256400052224))]) Try.func40 rfl rfl (Args.cons rfl (Args.nil _)) (Hp.start _ _) ?_
 refine GC.seq ?_
 refine GC.region ?_
 refine GL.val (Ex.assign rfl) (by decide) ?_
 refine GL.nil ?_
 refine GE.thenN ?_
 refine GC.seq ?_
 refine GC.region ?_
 refine GL.val (Ex.move rfl) (by decide) ?_
 refine GL.val (v := (.int .u64 13821547256400052224)) (Ex.ext (vs := [(.float .f64 13821547256400052224)]) rfl rfl T.ext71 (fun _ => by first | rfl | kernel_rfl)) (by decide) ?_
 refine GL.step (Stp.callR (vs := [(.int .u64 13821547256400052224)]) rfl rfl T.own70 (by decide) (fun wc hw => k70_9  wc )) (fun xq1 hq2 => ?_)
 refine GL.val (Ex.assign rfl) (by decide) ?_
 refine GL.nil ?_
 refine GE.thenN ?_
 refine GC.ret ?_
 refine GC.ret1 rfl (Rv.tmp rfl) (fun wN HN => ?_)
 exact HN.ret () trivial rfl ulN rfl

set_option maxRecDepth 100000 in
set_option maxHeartbeats 1000000 in
theorem k84_13 (w : World) :
  Calls Try.prog 84 #[(.float .f32 3217031168)] w (Ret w (fun _ : Unit => True) (fun rz => (.int .u32 3217031168)) (fun rz => [])) := by
 refine enter (M := None) (L := []) (n := 8) (l := [(0, (.float .f32 3217031168))]) Try.func84 rfl rfl (Args.cons rfl (Args.nil _)) (Hp.start _ _) ?_
 refine GC.seq ?_
 refine GC.region ?_
 refine GL.val (Ex.assign rfl) (by decide) ?_
 refine GL.nil ?_
 refine GE.thenN ?_
 refine GC.seq ?_
 refine GC.seq ?_
 refine GC.region ?_
 refine GL.val (Ex.move rfl) (by decide) ?_
 refine GL.val (Ex.move rfl) (by decide) ?_
 refine GL.val (v := (.bool false)) (Ex.fneq (r := false) rfl rfl (by kernel_rfl)) (by decide) ?_
 refine GL.nil ?_
 refine GE.thenN ?_
 refine GC.cond rfl (fun hq1 => by cases hq1) (fun _ => ?_)
 refine GC.skip ?_
 refine GE.thenN ?_
 refine GC.seq ?_
 refine GC.region ?_
 refine GL.val (Ex.move rfl) (by decide) ?_
 refine GL.val (v := (.int .u32 3217031168)) (Ex.ext (vs := [(.float .f32 3217031168)]) rfl rfl T.ext92 (fun _ => by first | rfl | kernel_rfl)) (by decide) ?_
 refine GL.val (Ex.assign rfl) (by decide) ?_
 refine GL.nil ?_
 refine GE.thenN ?_
 refine GC.ret ?_
 refine GC.ret1 rfl (Rv.tmp rfl) (fun wN HN => ?_)
 exact HN.ret () trivial rfl ulN rfl

set_option maxRecDepth 100000 in
set_option maxHeartbeats 1000000 in
theorem k70_12 (w : World) :
  Calls Try.prog 70 #[(.int .u64 13832806255468478464)] w (Ret w (fun _ : Unit => True) (fun rz => (.int .u32 3217031168)) (fun rz => [])) := by
 refine enter (M := None) (L := []) (n := 7) (l := [(0, (.int .u64 13832806255468478464))]) Try.func70 rfl rfl (Args.cons rfl (Args.nil _)) (Hp.start _ _) ?_
 refine GC.seq ?_
 refine GC.region ?_
 refine GL.val (Ex.assign rfl) (by decide) ?_
 refine GL.nil ?_
 refine GE.thenN ?_
 refine GC.seq ?_
 refine GC.region ?_
 refine GL.val (Ex.move rfl) (by decide) ?_
 refine GL.val (v := (.float .f64 13832806255468478464)) (Ex.ext (vs := [(.int .u64 13832806255468478464)]) rfl rfl T.ext85 (fun _ => by first | rfl | kernel_rfl)) (by decide) ?_
 refine GL.val (v := (.float .f32 3217031168)) (Ex.cff (r := 3217031168) rfl Try.underlying50 Try.underlying76 (by kernel_rfl)) (by decide) ?_
 refine GL.step (Stp.callR (vs := [(.float .f32 3217031168)]) rfl rfl T.own84 (by decide) (fun wc hw => k84_13  wc )) (fun xq1 hq2 => ?_)
 refine GL.val (Ex.assign rfl) (by decide) ?_
 refine GL.nil ?_
 refine GE.thenN ?_
 refine GC.ret ?_
 refine GC.ret1 rfl (Rv.tmp rfl) (fun wN HN => ?_)
 exact HN.ret () trivial rfl ulN rfl

set_option maxRecDepth 100000 in
set_option maxHeartbeats 1000000 in
theorem k40_11 (w : World) :
  Calls Try.prog 40 #[(.float .f64 13832806255468478464)] w (Ret w (fun _ : Unit => True) (fun rz => (.int .u32 3217031168)) (fun rz => [])) := by
 refine enter (M := None) (L := []) (n := 6) (l := [(0, (.float .f64 13832806255468478464))]) Try.func40 rfl rfl (Args.cons rfl (Args.nil _)) (Hp.start _ _) ?_
 refine GC.seq ?_
 refine GC.region ?_
 refine GL.val (Ex.assign rfl) (by decide) ?_
 refine GL.nil ?_
 refine GE.thenN ?_
 refine GC.seq ?_
 refine GC.region ?_
 refine GL.val (Ex.move rfl) (by decide) ?_
 refine GL.val (v := (.int .u64 13832806255468478464)) (Ex.ext (vs := [(.float .f64 13832806255468478464)]) rfl rfl T.ext71 (fun _ => by first | rfl | kernel_rfl)) (by decide) ?_
 refine GL.step (Stp.callR (vs := [(.int .u64 13832806255468478464)]) rfl rfl T.own70 (by decide) (fun wc hw => k70_12  wc )) (fun xq1 hq2 => ?_)
 refine GL.val (Ex.assign rfl) (by decide) ?_
 refine GL.nil ?_
 refine GE.thenN ?_
 refine GC.ret ?_
 refine GC.ret1 rfl (Rv.tmp rfl) (fun wN HN => ?_)
 exact HN.ret () trivial rfl ulN rfl

set_option maxRecDepth 100000 in
set_option maxHeartbeats 1000000 in
theorem k14_1 (w : World) :
  Calls Try.prog 14 #[(.int .u32 1065353216), (.int .u32 1073741824), (.int .u32 1082130432)] w (Ret w (fun _ : Unit => True) (fun rz => (.tuple #[(.int .u32 1074790400), (.int .u32 3196059648), (.int .u32 3217031168)])) (fun rz => [])) := by
 refine enter (M := None) (L := []) (n := 36) (l := [(0, (.int .u32 1065353216)), (1, (.int .u32 1073741824)), (2, (.int .u32 1082130432))]) Try.func14 rfl rfl (Args.cons rfl (Args.cons rfl (Args.cons rfl (Args.nil _)))) (Hp.start _ _) ?_
 refine GC.seq ?_
 refine GC.region ?_
 refine GL.val (Ex.assign rfl) (by decide) ?_
 refine GL.val (Ex.assign rfl) (by decide) ?_
 refine GL.val (Ex.assign rfl) (by decide) ?_
 refine GL.nil ?_
 refine GE.thenN ?_
 refine GC.seq ?_
 refine GC.region ?_
 refine GL.val (Ex.move rfl) (by decide) ?_
 refine GL.step (Stp.callR (vs := [(.int .u32 1065353216)]) rfl rfl T.own39 (by decide) (fun wc hw => k39_2  wc )) (fun xq1 hq2 => ?_)
 refine GL.val (Ex.move rfl) (by decide) ?_
 refine GL.step (Stp.callR (vs := [(.int .u32 1082130432)]) rfl rfl T.own39 (by decide) (fun wc hw => k39_3  wc )) (fun xq3 hq4 => ?_)
 refine GL.val (v := (.float .f64 4617315517961601024)) (Ex.farith (r := 4617315517961601024) rfl rfl (by kernel_rfl)) (by decide) ?_
 refine GL.val (Ex.move rfl) (by decide) ?_
 refine GL.step (Stp.callR (vs := [(.int .u32 1073741824)]) rfl rfl T.own39 (by decide) (fun wc hw => k39_4  wc )) (fun xq5 hq6 => ?_)
 refine GL.val (v := (.float .f64 4616189618054758400)) (Ex.farith (r := 4616189618054758400) rfl rfl (by kernel_rfl)) (by decide) ?_
 refine GL.val (Ex.assign rfl) (by decide) ?_
 refine GL.val (Ex.assign rfl) (by decide) ?_
 refine GL.nil ?_
 refine GE.thenN ?_
 refine GC.seq ?_
 refine GC.region ?_
 refine GL.val (Ex.move rfl) (by decide) ?_
 refine GL.val (Ex.move rfl) (by decide) ?_
 refine GL.val (v := (.float .f64 4621256167635550208)) (Ex.farith (r := 4621256167635550208) rfl rfl (by kernel_rfl)) (by decide) ?_
 refine GL.val (v := (.float .f64 4612248968380809216)) (Ex.farith (r := 4612248968380809216) rfl rfl (by kernel_rfl)) (by decide) ?_
 refine GL.step (Stp.callR (vs := [(.float .f64 4612248968380809216)]) rfl rfl T.own40 (by decide) (fun wc hw => k40_5  wc )) (fun xq7 hq8 => ?_)
 refine GL.val (Ex.move rfl) (by decide) ?_
 refine GL.val (Ex.move rfl) (by decide) ?_
 refine GL.val (v := (.float .f64 13830554455654793216)) (Ex.farith (r := 13830554455654793216) rfl rfl (by kernel_rfl)) (by decide) ?_
 refine GL.val (v := (.float .f64 13821547256400052224)) (Ex.farith (r := 13821547256400052224) rfl rfl (by kernel_rfl)) (by decide) ?_
 refine GL.step (Stp.callR (vs := [(.float .f64 13821547256400052224)]) rfl rfl T.own40 (by decide) (fun wc hw => k40_8  wc )) (fun xq9 hq10 => ?_)
 refine GL.val (Ex.move rfl) (by decide) ?_
 refine GL.step (Stp.callR (vs := [(.int .u32 1065353216)]) rfl rfl T.own39 (by decide) (fun wc hw => k39_2  wc )) (fun xq11 hq12 => ?_)
 refine GL.val (Ex.move rfl) (by decide) ?_
 refine GL.step (Stp.callR (vs := [(.int .u32 1082130432)]) rfl rfl T.own39 (by decide) (fun wc hw => k39_3  wc )) (fun xq13 hq14 => ?_)
 refine GL.val (v := (.float .f64 13837309855095848960)) (Ex.farith (r := 13837309855095848960) rfl rfl (by kernel_rfl)) (by decide) ?_
 refine GL.val (v := (.float .f64 13832806255468478464)) (Ex.farith (r := 13832806255468478464) rfl rfl (by kernel_rfl)) (by decide) ?_
 refine GL.step (Stp.callR (vs := [(.float .f64 13832806255468478464)]) rfl rfl T.own40 (by decide) (fun wc hw => k40_11  wc )) (fun xq15 hq16 => ?_)
 refine GL.val (Ex.assign rfl) (by decide) ?_
 refine GL.val (Ex.assign rfl) (by decide) ?_
 refine GL.val (Ex.assign rfl) (by decide) ?_
 refine GL.nil ?_
 refine GE.thenN ?_
 refine GC.ret ?_
 refine GC.ret3 rfl (Rv.tmp rfl) (Rv.tmp rfl) (Rv.tmp rfl) (fun wN HN => ?_)
 exact HN.ret () trivial rfl ulN rfl

set_option maxRecDepth 100000 in
set_option maxHeartbeats 1000000 in
theorem k39_15 (w : World) :
  Calls Try.prog 39 #[(.int .u32 1074790400)] w (Ret w (fun _ : Unit => True) (fun rz => (.float .f64 4612248968380809216)) (fun rz => [])) := by
 refine enter (M := None) (L := []) (n := 6) (l := [(0, (.int .u32 1074790400))]) Try.func39 rfl rfl (Args.cons rfl (Args.nil _)) (Hp.start _ _) ?_
 refine GC.seq ?_
 refine GC.region ?_
 refine GL.val (Ex.assign rfl) (by decide) ?_
 refine GL.nil ?_
 refine GE.thenN ?_
 refine GC.seq ?_
 refine GC.region ?_
 refine GL.val (Ex.move rfl) (by decide) ?_
 refine GL.val (v := (.float .f32 1074790400)) (Ex.ext (vs := [(.int .u32 1074790400)]) rfl rfl T.ext69 (fun _ => by first | rfl | kernel_rfl)) (by decide) ?_
 refine GL.val (v := (.float .f64 4612248968380809216)) (Ex.cff (r := 4612248968380809216) rfl Try.underlying76 Try.underlying50 (by kernel_rfl)) (by decide) ?_
 refine GL.val (Ex.assign rfl) (by decide) ?_
 refine GL.nil ?_
 refine GE.thenN ?_
 refine GC.ret ?_
 refine GC.ret1 rfl (Rv.tmp rfl) (fun wN HN => ?_)
 exact HN.ret () trivial rfl ulN rfl

set_option maxRecDepth 100000 in
set_option maxHeartbeats 1000000 in
theorem k39_16 (w : World) :
  Calls Try.prog 39 #[(.int .u32 3196059648)] w (Ret w (fun _ : Unit => True) (fun rz => (.float .f64 13821547256400052224)) (fun rz => [])) := by
 refine enter (M := None) (L := []) (n := 6) (l := [(0, (.int .u32 3196059648))]) Try.func39 rfl rfl (Args.cons rfl (Args.nil _)) (Hp.start _ _) ?_
 refine GC.seq ?_
 refine GC.region ?_
 refine GL.val (Ex.assign rfl) (by decide) ?_
 refine GL.nil ?_
 refine GE.thenN ?_
 refine GC.seq ?_
 refine GC.region ?_
 refine GL.val (Ex.move rfl) (by decide) ?_
 refine GL.val (v := (.float .f32 3196059648)) (Ex.ext (vs := [(.int .u32 3196059648)]) rfl rfl T.ext69 (fun _ => by first | rfl | kernel_rfl)) (by decide) ?_
 refine GL.val (v := (.float .f64 13821547256400052224)) (Ex.cff (r := 13821547256400052224) rfl Try.underlying76 Try.underlying50 (by kernel_rfl)) (by decide) ?_
 refine GL.val (Ex.assign rfl) (by decide) ?_
 refine GL.nil ?_
 refine GE.thenN ?_
 refine GC.ret ?_
 refine GC.ret1 rfl (Rv.tmp rfl) (fun wN HN => ?_)
 exact HN.ret () trivial rfl ulN rfl

set_option maxRecDepth 100000 in
set_option maxHeartbeats 1000000 in
theorem k39_17 (w : World) :
  Calls Try.prog 39 #[(.int .u32 3217031168)] w (Ret w (fun _ : Unit => True) (fun rz => (.float .f64 13832806255468478464)) (fun rz => [])) := by
 refine enter (M := None) (L := []) (n := 6) (l := [(0, (.int .u32 3217031168))]) Try.func39 rfl rfl (Args.cons rfl (Args.nil _)) (Hp.start _ _) ?_
 refine GC.seq ?_
 refine GC.region ?_
 refine GL.val (Ex.assign rfl) (by decide) ?_
 refine GL.nil ?_
 refine GE.thenN ?_
 refine GC.seq ?_
 refine GC.region ?_
 refine GL.val (Ex.move rfl) (by decide) ?_
 refine GL.val (v := (.float .f32 3217031168)) (Ex.ext (vs := [(.int .u32 3217031168)]) rfl rfl T.ext69 (fun _ => by first | rfl | kernel_rfl)) (by decide) ?_
 refine GL.val (v := (.float .f64 13832806255468478464)) (Ex.cff (r := 13832806255468478464) rfl Try.underlying76 Try.underlying50 (by kernel_rfl)) (by decide) ?_
 refine GL.val (Ex.assign rfl) (by decide) ?_
 refine GL.nil ?_
 refine GE.thenN ?_
 refine GC.ret ?_
 refine GC.ret1 rfl (Rv.tmp rfl) (fun wN HN => ?_)
 exact HN.ret () trivial rfl ulN rfl

set_option maxRecDepth 100000 in
set_option maxHeartbeats 1000000 in
theorem k84_20 (w : World) :
  Calls Try.prog 84 #[(.float .f32 1065353216)] w (Ret w (fun _ : Unit => True) (fun rz => (.int .u32 1065353216)) (fun rz => [])) := by
 refine enter (M := None) (L := []) (n := 8) (l := [(0, (.float .f32 1065353216))]) Try.func84 rfl rfl (Args.cons rfl (Args.nil _)) (Hp.start _ _) ?_
 refine GC.seq ?_
 refine GC.region ?_
 refine GL.val (Ex.assign rfl) (by decide) ?_
 refine GL.nil ?_
 refine GE.thenN ?_
 refine GC.seq ?_
 refine GC.seq ?_
 refine GC.region ?_
 refine GL.val (Ex.move rfl) (by decide) ?_
 refine GL.val (Ex.move rfl) (by decide) ?_
 refine GL.val (v := (.bool false)) (Ex.fneq (r := false) rfl rfl (by kernel_rfl)) (by decide) ?_
 refine GL.nil ?_
 refine GE.thenN ?_
 refine GC.cond rfl (fun hq1 => by cases hq1) (fun _ => ?_)
 refine GC.skip ?_
 refine GE.thenN ?_
 refine GC.seq ?_
 refine GC.region ?_
 refine GL.val (Ex.move rfl) (by decide) ?_
 refine GL.val (v := (.int .u32 1065353216)) (Ex.ext (vs := [(.float .f32 1065353216)]) rfl rfl T.ext92 (fun _ => by first | rfl | kernel_rfl)) (by decide) ?_
 refine GL.val (Ex.assign rfl) (by decide) ?_
 refine GL.nil ?_
 refine GE.thenN ?_
 refine GC.ret ?_
 refine GC.ret1 rfl (Rv.tmp rfl) (fun wN HN => ?_)
 exact HN.ret () trivial rfl ulN rfl

set_option maxRecDepth 100000 in
set_option maxHeartbeats 1000000 in
theorem k70_19 (w : World) :
  Calls Try.prog 70 #[(.int .u64 4607182418800017408)] w (Ret w (fun _ : Unit => True) (fun rz => (.int .u32 1065353216)) (fun rz => [])) := by
 refine enter (M := None) (L := []) (n := 7) (l := [(0, (.int .u64 4607182418800017408))]) Try.func70 rfl rfl (Args.cons rfl (Args.nil _)) (Hp.start _ _) ?_
 refine GC.seq ?_
 refine GC.region ?_
 refine GL.val (Ex.assign rfl) (by decide) ?_
 refine GL.nil ?_
 refine GE.thenN ?_
 refine GC.seq ?_
 refine GC.region ?_
 refine GL.val (Ex.move rfl) (by decide) ?_
 refine GL.val (v := (.float .f64 4607182418800017408)) (Ex.ext (vs := [(.int .u64 4607182418800017408)]) rfl rfl T.ext85 (fun _ => by first | rfl | kernel_rfl)) (by decide) ?_
 refine GL.val (v := (.float .f32 1065353216)) (Ex.cff (r := 1065353216) rfl Try.underlying50 Try.underlying76 (by kernel_rfl)) (by decide) ?_
 refine GL.step (Stp.callR (vs := [(.float .f32 1065353216)]) rfl rfl T.own84 (by decide) (fun wc hw => k84_20  wc )) (fun xq1 hq2 => ?_)
 refine GL.val (Ex.assign rfl) (by decide) ?_
 refine GL.nil ?_
 refine GE.thenN ?_
 refine GC.ret ?_
 refine GC.ret1 rfl (Rv.tmp rfl) (fun wN HN => ?_)
 exact HN.ret () trivial rfl ulN rfl

set_option maxRecDepth 100000 in
set_option maxHeartbeats 1000000 in
theorem k40_18 (w : World) :
  Calls Try.prog 40 #[(.float .f64 4607182418800017408)] w (Ret w (fun _ : Unit => True) (fun rz => (.int .u32 1065353216)) (fun rz => [])) := by
 refine enter (M := None) (L := []) (n := 6) (l := [(0, (.float .f64 4607182418800017408))]) Try.func40 rfl rfl (Args.cons rfl (Args.nil _)) (Hp.start _ _) ?_
 refine GC.seq ?_
 refine GC.region ?_
 refine GL.val (Ex.assign rfl) (by decide) ?_
 refine GL.nil ?_
 refine GE.thenN ?_
 refine GC.seq ?_
 refine GC.region ?_
 refine GL.val (Ex.move rfl) (by decide) ?_
 refine GL.val (v := (.int .u64 4607182418800017408)) (Ex.ext (vs := [(.float .f64 4607182418800017408)]) rfl rfl T.ext71 (fun _ => by first | rfl | kernel_rfl)) (by decide) ?_
 refine GL.step (Stp.callR (vs := [(.int .u64 4607182418800017408)]) rfl rfl T.own70 (by decide) (fun wc hw => k70_19  wc )) (fun xq1 hq2 => ?_)
 refine GL.val (Ex.assign rfl) (by decide) ?_
 refine GL.nil ?_
 refine GE.thenN ?_
 refine GC.ret ?_
 refine GC.ret1 rfl (Rv.tmp rfl) (fun wN HN => ?_)
 exact HN.ret () trivial rfl ulN rfl

set_option maxRecDepth 100000 in
set_option maxHeartbeats 1000000 in
theorem k84_23 (w : World) :
  Calls Try.prog 84 #[(.float .f32 1073741824)] w (Ret w (fun _ : Unit => True) (fun rz => (.int .u32 1073741824)) (fun rz => [])) := by
 refine enter (M := None) (L := []) (n := 8) (l := [(0, (.float .f32 1073741824))]) Try.func84 rfl rfl (Args.cons rfl (Args.nil _)) (Hp.start _ _) ?_
 refine GC.seq ?_
 refine GC.region ?_
 refine GL.val (Ex.assign rfl) (by decide) ?_
 refine GL.nil ?_
 refine GE.thenN ?_
 refine GC.seq ?_
 refine GC.seq ?_
 refine GC.region ?_
 refine GL.val (Ex.move rfl) (by decide) ?_
 refine GL.val (Ex.move rfl) (by decide) ?_
 refine GL.val (v := (.bool false)) (Ex.fneq (r := false) rfl rfl (by kernel_rfl)) (by decide) ?_
 refine GL.nil ?_
 refine GE.thenN ?_
 refine GC.cond rfl (fun hq1 => by cases hq1) (fun _ => ?_)
 refine GC.skip ?_
 refine GE.thenN ?_
 refine GC.seq ?_
 refine GC.region ?_
 refine GL.val (Ex.move rfl) (by decide) ?_
 refine GL.val (v := (.int .u32 1073741824)) (Ex.ext (vs := [(.float .f32 1073741824)]) rfl rfl T.ext92 (fun _ => by first | rfl | kernel_rfl)) (by decide) ?_
 refine GL.val (Ex.assign rfl) (by decide) ?_
 refine GL.nil ?_
 refine GE.thenN ?_
 refine GC.ret ?_
 refine GC.ret1 rfl (Rv.tmp rfl) (fun wN HN => ?_)
 exact HN.ret () trivial rfl ulN rfl

set_option maxRecDepth 100000 in
set_option maxHeartbeats 1000000 in
theorem k70_22 (w : World) :
  Calls Try.prog 70 #[(.int .u64 4611686018427387904)] w (Ret w (fun _ : Unit => True) (fun rz => (.int .u32 1073741824)) (fun rz => [])) := by
 refine enter (M := None) (L := []) (n := 7) (l := [(0, (.int .u64 4611686018427387904))]) Try.func70 rfl rfl (Args.cons rfl (Args.nil _)) (Hp.start _ _) ?_
 refine GC.seq ?_
 refine GC.region ?_
 refine GL.val (Ex.assign rfl) (by decide) ?_
 refine GL.nil ?_
 refine GE.thenN ?_
 refine GC.seq ?_
 refine GC.region ?_
 refine GL.val (Ex.move rfl) (by decide) ?_
 refine GL.val (v := (.float .f64 4611686018427387904)) (Ex.ext (vs := [(.int .u64 4611686018427387904)]) rfl rfl T.ext85 (fun _ => by first | rfl | kernel_rfl)) (by decide) ?_
 refine GL.val (v := (.float .f32 1073741824)) (Ex.cff (r := 1073741824) rfl Try.underlying50 Try.underlying76 (by kernel_rfl)) (by decide) ?_
 refine GL.step (Stp.callR (vs := [(.float .f32 1073741824)]) rfl rfl T.own84 (by decide) (fun wc hw => k84_23  wc )) (fun xq1 hq2 => ?_)
 refine GL.val (Ex.assign rfl) (by decide) ?_
 refine GL.nil ?_
 refine GE.thenN ?_
 refine GC.ret ?_
 refine GC.ret1 rfl (Rv.tmp rfl) (fun wN HN => ?_)
 exact HN.ret () trivial rfl ulN rfl

set_option maxRecDepth 100000 in
set_option maxHeartbeats 1000000 in
theorem k40_21 (w : World) :
  Calls Try.prog 40 #[(.float .f64 4611686018427387904)] w (Ret w (fun _ : Unit => True) (fun rz => (.int .u32 1073741824)) (fun rz => [])) := by
 refine enter (M := None) (L := []) (n := 6) (l := [(0, (.float .f64 4611686018427387904))]) Try.func40 rfl rfl (Args.cons rfl (Args.nil _)) (Hp.start _ _) ?_
 refine GC.seq ?_
 refine GC.region ?_
 refine GL.val (Ex.assign rfl) (by decide) ?_
 refine GL.nil ?_
 refine GE.thenN ?_
 refine GC.seq ?_
 refine GC.region ?_
 refine GL.val (Ex.move rfl) (by decide) ?_
 refine GL.val (v := (.int .u64 4611686018427387904)) (Ex.ext (vs := [(.float .f64 4611686018427387904)]) rfl rfl T.ext71 (fun _ => by first | rfl | kernel_rfl)) (by decide) ?_
 refine GL.step (Stp.callR (vs := [(.int .u64 4611686018427387904)]) rfl rfl T.own70 (by decide) (fun wc hw => k70_22  wc )) (fun xq1 hq2 => ?_)
 refine GL.val (Ex.assign rfl) (by decide) ?_
 refine GL.nil ?_
 refine GE.thenN ?_
 refine GC.ret ?_
 refine GC.ret1 rfl (Rv.tmp rfl) (fun wN HN => ?_)
 exact HN.ret () trivial rfl ulN rfl

set_option maxRecDepth 100000 in
set_option maxHeartbeats 1000000 in
theorem k84_26 (w : World) :
  Calls Try.prog 84 #[(.float .f32 1082130432)] w (Ret w (fun _ : Unit => True) (fun rz => (.int .u32 1082130432)) (fun rz => [])) := by
 refine enter (M := None) (L := []) (n := 8) (l := [(0, (.float .f32 1082130432))]) Try.func84 rfl rfl (Args.cons rfl (Args.nil _)) (Hp.start _ _) ?_
 refine GC.seq ?_
 refine GC.region ?_
 refine GL.val (Ex.assign rfl) (by decide) ?_
 refine GL.nil ?_
 refine GE.thenN ?_
 refine GC.seq ?_
 refine GC.seq ?_
 refine GC.region ?_
 refine GL.val (Ex.move rfl) (by decide) ?_
 refine GL.val (Ex.move rfl) (by decide) ?_
 refine GL.val (v := (.bool false)) (Ex.fneq (r := false) rfl rfl (by kernel_rfl)) (by decide) ?_
 refine GL.nil ?_
 refine GE.thenN ?_
 refine GC.cond rfl (fun hq1 => by cases hq1) (fun _ => ?_)
 refine GC.skip ?_
 refine GE.thenN ?_
 refine GC.seq ?_
 refine GC.region ?_
 refine GL.val (Ex.move rfl) (by decide) ?_
 refine GL.val (v := (.int .u32 1082130432)) (Ex.ext (vs := [(.float .f32 1082130432)]) rfl rfl T.ext92 (fun _ => by first | rfl | kernel_rfl)) (by decide) ?_
 refine GL.val (Ex.assign rfl) (by decide) ?_
 refine GL.nil ?_
 refine GE.thenN ?_
 refine GC.ret ?_
 refine GC.ret1 rfl (Rv.tmp rfl) (fun wN HN => ?_)
 exact HN.ret () trivial rfl ulN rfl

set_option maxRecDepth 100000 in
set_option maxHeartbeats 1000000 in
theorem k70_25 (w : World) :
  Calls Try.prog 70 #[(.int .u64 4616189618054758400)] w (Ret w (fun _ : Unit => True) (fun rz => (.int .u32 1082130432)) (fun rz => [])) := by
 refine enter (M := None) (L := []) (n := 7) (l := [(0, (.int .u64 4616189618054758400))]) Try.func70 rfl rfl (Args.cons rfl (Args.nil _)) (Hp.start _ _) ?_
 refine GC.seq ?_
 refine GC.region ?_
 refine GL.val (Ex.assign rfl) (by decide) ?_
 refine GL.nil ?_
 refine GE.thenN ?_
 refine GC.seq ?_
 refine GC.region ?_
 refine GL.val (Ex.move rfl) (by decide) ?_
 refine GL.val (v := (.float .f64 4616189618054758400)) (Ex.ext (vs := [(.int .u64 4616189618054758400)]) rfl rfl T.ext85 (fun _ => by first | rfl | kernel_rfl)) (by decide) ?_
 refine GL.val (v := (.float .f32 1082130432)) (Ex.cff (r := 1082130432) rfl Try.underlying50 Try.underlying76 (by kernel_rfl)) (by decide) ?_
 refine GL.step (Stp.callR (vs := [(.float .f32 1082130432)]) rfl rfl T.own84 (by decide) (fun wc hw => k84_26  wc )) (fun xq1 hq2 => ?_)
 refine GL.val (Ex.assign rfl) (by decide) ?_
 refine GL.nil ?_
 refine GE.thenN ?_
 refine GC.ret ?_
 refine GC.ret1 rfl (Rv.tmp rfl) (fun wN HN => ?_)
 exact HN.ret () trivial rfl ulN rfl

set_option maxRecDepth 100000 in
set_option maxHeartbeats 1000000 in
theorem k40_24 (w : World) :
  Calls Try.prog 40 #[(.float .f64 4616189618054758400)] w (Ret w (fun _ : Unit => True) (fun rz => (.int .u32 1082130432)) (fun rz => [])) := by
 refine enter (M := None) (L := []) (n := 6) (l := [(0, (.float .f64 4616189618054758400))]) Try.func40 rfl rfl (Args.cons rfl (Args.nil _)) (Hp.start _ _) ?_
 refine GC.seq ?_
 refine GC.region ?_
 refine GL.val (Ex.assign rfl) (by decide) ?_
 refine GL.nil ?_
 refine GE.thenN ?_
 refine GC.seq ?_
 refine GC.region ?_
 refine GL.val (Ex.move rfl) (by decide) ?_
 refine GL.val (v := (.int .u64 4616189618054758400)) (Ex.ext (vs := [(.float .f64 4616189618054758400)]) rfl rfl T.ext71 (fun _ => by first | rfl | kernel_rfl)) (by decide) ?_
 refine GL.step (Stp.callR (vs := [(.int .u64 4616189618054758400)]) rfl rfl T.own70 (by decide) (fun wc hw => k70_25  wc )) (fun xq1 hq2 => ?_)
 refine GL.val (Ex.assign rfl) (by decide) ?_
 refine GL.nil ?_
 refine GE.thenN ?_
 refine GC.ret ?_
 refine GC.ret1 rfl (Rv.tmp rfl) (fun wN HN => ?_)
 exact HN.ret () trivial rfl ulN rfl

set_option maxRecDepth 100000 in
set_option maxHeartbeats 1000000 in
theorem k16_14 (w : World) :
  Calls Try.prog 16 #[(.int .u32 1074790400), (.int .u32 3196059648), (.int .u32 3217031168)] w (Ret w (fun _ : Unit => True) (fun rz => (.tuple #[(.int .u32 1065353216), (.int .u32 1073741824), (.int .u32 1082130432)])) (fun rz => [])) := by
 refine enter (M := None) (L := []) (n := 31) (l := [(0, (.int .u32 1074790400)), (1, (.int .u32 3196059648)), (2, (.int .u32 3217031168))]) Try.func16 rfl rfl (Args.cons rfl (Args.cons rfl (Args.cons rfl (Args.nil _)))) (Hp.start _ _) ?_
 refine GC.seq ?_
 refine GC.region ?_
 refine GL.val (Ex.assign rfl) (by decide) ?_
 refine GL.val (Ex.assign rfl) (by decide) ?_
 refine GL.val (Ex.assign rfl) (by decide) ?_
 refine GL.nil ?_
 refine GE.thenN ?_
 refine GC.seq ?_
 refine GC.region ?_
 refine GL.val (Ex.move rfl) (by decide) ?_
 refine GL.step (Stp.callR (vs := [(.int .u32 1074790400)]) rfl rfl T.own39 (by decide) (fun wc hw => k39_15  wc )) (fun xq1 hq2 => ?_)
 refine GL.val (Ex.move rfl) (by decide) ?_
 refine GL.step (Stp.callR (vs := [(.int .u32 3196059648)]) rfl rfl T.own39 (by decide) (fun wc hw => k39_16  wc )) (fun xq3 hq4 => ?_)
 refine GL.val (v := (.float .f64 4612811918334230528)) (Ex.farith (r := 4612811918334230528) rfl rfl (by kernel_rfl)) (by decide) ?_
 refine GL.val (Ex.assign rfl) (by decide) ?_
 refine GL.nil ?_
 refine GE.thenN ?_
 refine GC.seq ?_
 refine GC.region ?_
 refine GL.val (Ex.move rfl) (by decide) ?_
 refine GL.val (Ex.move rfl) (by decide) ?_
 refine GL.step (Stp.callR (vs := [(.int .u32 3217031168)]) rfl rfl T.own39 (by decide) (fun wc hw => k39_17  wc )) (fun xq5 hq6 => ?_)
 refine GL.val (v := (.float .f64 4607182418800017408)) (Ex.farith (r := 4607182418800017408) rfl rfl (by kernel_rfl)) (by decide) ?_
 refine GL.step (Stp.callR (vs := [(.float .f64 4607182418800017408)]) rfl rfl T.own40 (by decide) (fun wc hw => k40_18  wc )) (fun xq7 hq8 => ?_)
 refine GL.val (Ex.move rfl) (by decide) ?_
 refine GL.step (Stp.callR (vs := [(.int .u32 1074790400)]) rfl rfl T.own39 (by decide) (fun wc hw => k39_15  wc )) (fun xq9 hq10 => ?_)
 refine GL.val (Ex.move rfl) (by decide) ?_
 refine GL.step (Stp.callR (vs := [(.int .u32 3196059648)]) rfl rfl T.own39 (by decide) (fun wc hw => k39_16  wc )) (fun xq11 hq12 => ?_)
 refine GL.val (v := (.float .f64 4611686018427387904)) (Ex.farith (r := 4611686018427387904) rfl rfl (by kernel_rfl)) (by decide) ?_
 refine GL.step (Stp.callR (vs := [(.float .f64 4611686018427387904)]) rfl rfl T.own40 (by decide) (fun wc hw => k40_21  wc )) (fun xq13 hq14 => ?_)
 refine GL.val (Ex.move rfl) (by decide) ?_
 refine GL.val (Ex.move rfl) (by decide) ?_
 refine GL.step (Stp.callR (vs := [(.int .u32 3217031168)]) rfl rfl T.own39 (by decide) (fun wc hw => k39_17  wc )) (fun xq15 hq16 => ?_)
 refine GL.val (v := (.float .f64 4616189618054758400)) (Ex.farith (r := 4616189618054758400) rfl rfl (by kernel_rfl)) (by decide) ?_
 refine GL.step (Stp.callR (vs := [(.float .f64 4616189618054758400)]) rfl rfl T.own40 (by decide) (fun wc hw => k40_24  wc )) (fun xq17 hq18 => ?_)
 refine GL.val (Ex.assign rfl) (by decide) ?_
 refine GL.val (Ex.assign rfl) (by decide) ?_
 refine GL.val (Ex.assign rfl) (by decide) ?_
 refine GL.nil ?_
 refine GE.thenN ?_
 refine GC.ret ?_
 refine GC.ret3 rfl (Rv.tmp rfl) (Rv.tmp rfl) (Rv.tmp rfl) (fun wN HN => ?_)
 exact HN.ret () trivial rfl ulN rfl

set_option maxRecDepth 100000 in
set_option maxHeartbeats 1000000 in
theorem k39_28 (w : World) :
  Calls Try.prog 39 #[(.int .u32 1090519040)] w (Ret w (fun _ : Unit => True) (fun rz => (.float .f64 4620693217682128896)) (fun rz => [])) := by
 refine enter (M := None) (L := []) (n := 6) (l := [(0, (.int .u32 1090519040))]) Try.func39 rfl rfl (Args.cons rfl (Args.nil _)) (Hp.start _ _) ?_
 refine GC.seq ?_
 refine GC.region ?_
 refine GL.val (Ex.assign rfl) (by decide) ?_
 refine GL.nil ?_
 refine GE.thenN ?_
 refine GC.seq ?_
 refine GC.region ?_
 refine GL.val (Ex.move rfl) (by decide) ?_
 refine GL.val (v := (.float .f32 1090519040)) (Ex.ext (vs := [(.int .u32 1090519040)]) rfl rfl T.ext69 (fun _ => by first | rfl | kernel_rfl)) (by decide) ?_
 refine GL.val (v := (.float .f64 4620693217682128896)) (Ex.cff (r := 4620693217682128896) rfl Try.underlying76 Try.underlying50 (by kernel_rfl)) (by decide) ?_
 refine GL.val (Ex.assign rfl) (by decide) ?_
 refine GL.nil ?_
 refine GE.thenN ?_
 refine GC.ret ?_
 refine GC.ret1 rfl (Rv.tmp rfl) (fun wN HN => ?_)
 exact HN.ret () trivial rfl ulN rfl

set_option maxRecDepth 100000 in
set_option maxHeartbeats 1000000 in
theorem k84_31 (w : World) :
  Calls Try.prog 84 #[(.float .f32 1077936128)] w (Ret w (fun _ : Unit => True) (fun rz => (.int .u32 1077936128)) (fun rz => [])) := by
 refine enter (M := None) (L := []) (n := 8) (l := [(0, (.float .f32 1077936128))]) Try.func84 rfl rfl (Args.cons rfl (Args.nil _)) (Hp.start _ _) ?_
 refine GC.seq ?_
 refine GC.region ?_
 refine GL.val (Ex.assign rfl) (by decide) ?_
 refine GL.nil ?_
 refine GE.thenN ?_
 refine GC.seq ?_
 refine GC.seq ?_
 refine GC.region ?_
 refine GL.val (Ex.move rfl) (by decide) ?_
 refine GL.val (Ex.move rfl) (by decide) ?_
 refine GL.val (v := (.bool false)) (Ex.fneq (r := false) rfl rfl (by kernel_rfl)) (by decide) ?_
 refine GL.nil ?_
 refine GE.thenN ?_
 refine GC.cond rfl (fun hq1 => by cases hq1) (fun _ => ?_)
 refine GC.skip ?_
 refine GE.thenN ?_
 refine GC.seq ?_
 refine GC.region ?_
 refine GL.val (Ex.move rfl) (by decide) ?_
 refine GL.val (v := (.int .u32 1077936128)) (Ex.ext (vs := [(.float .f32 1077936128)]) rfl rfl T.ext92 (fun _ => by first | rfl | kernel_rfl)) (by decide) ?_
 refine GL.val (Ex.assign rfl) (by decide) ?_
 refine GL.nil ?_
 refine GE.thenN ?_
 refine GC.ret ?_
 refine GC.ret1 rfl (Rv.tmp rfl) (fun wN HN => ?_)
 exact HN.ret () trivial rfl ulN rfl

set_option maxRecDepth 100000 in
set_option maxHeartbeats 1000000 in
theorem k70_30 (w : World) :
  Calls Try.prog 70 #[(.int .u64 4613937818241073152)] w (Ret w (fun _ : Unit => True) (fun rz => (.int .u32 1077936128)) (fun rz => [])) := by
 refine enter (M := None) (L := []) (n := 7) (l := [(0, (.int .u64 4613937818241073152))]) Try.func70 rfl rfl (Args.cons rfl (Args.nil _)) (Hp.start _ _) ?_
 refine GC.seq ?_
 refine GC.region ?_
 refine GL.val (Ex.assign rfl) (by decide) ?_
 refine GL.nil ?_
 refine GE.thenN ?_
 refine GC.seq ?_
 refine GC.region ?_
 refine GL.val (Ex.move rfl) (by decide) ?_
 refine GL.val (v := (.float .f64 4613937818241073152)) (Ex.ext (vs := [(.int .u64 4613937818241073152)]) rfl rfl T.ext85 (fun _ => by first | rfl | kernel_rfl)) (by decide) ?_
 refine GL.val (v := (.float .f32 1077936128)) (Ex.cff (r := 1077936128) rfl Try.underlying50 Try.underlying76 (by kernel_rfl)) (by decide) ?_
 refine GL.step (Stp.callR (vs := [(.float .f32 1077936128)]) rfl rfl T.own84 (by decide) (fun wc hw => k84_31  wc )) (fun xq1 hq2 => ?_)
 refine GL.val (Ex.assign rfl) (by decide) ?_
 refine GL.nil ?_
 refine GE.thenN ?_
 refine GC.ret ?_
 refine GC.ret1 rfl (Rv.tmp rfl) (fun wN HN => ?_)
 exact HN.ret () trivial rfl ulN rfl

set_option maxRecDepth 100000 in
set_option maxHeartbeats 1000000 in
theorem k40_29 (w : World) :
  Calls Try.prog 40 #[(.float .f64 4613937818241073152)] w (Ret w (fun _ : Unit => True) (fun rz => (.int .u32 1077936128)) (fun rz => [])) := by
 refine enter (M := None) (L := []) (n := 6) (l := [(0, (.float .f64 4613937818241073152))]) Try.func40 rfl rfl (Args.cons rfl (Args.nil _)) (Hp.start _ _) ?_
 refine GC.seq ?_
 refine GC.region ?_
 refine GL.val (Ex.assign rfl) (by decide) ?_
 refine GL.nil ?_
 refine GE.thenN ?_
 refine GC.seq ?_
 refine GC.region ?_
 refine GL.val (Ex.move rfl) (by decide) ?_
 refine GL.val (v := (.int .u64 4613937818241073152)) (Ex.ext (vs := [(.float .f64 4613937818241073152)]) rfl rfl T.ext71 (fun _ => by first | rfl | kernel_rfl)) (by decide) ?_
 refine GL.step (Stp.callR (vs := [(.int .u64 4613937818241073152)]) rfl rfl T.own70 (by decide) (fun wc hw => k70_30  wc )) (fun xq1 hq2 => ?_)
 refine GL.val (Ex.assign rfl) (by decide) ?_
 refine GL.nil ?_
 refine GE.thenN ?_
 refine GC.ret ?_
 refine GC.ret1 rfl (Rv.tmp rfl) (fun wN HN => ?_)
 exact HN.ret () trivial rfl ulN rfl

set_option maxRecDepth 100000 in
set_option maxHeartbeats 1000000 in
theorem k18_27 (w : World) :
  Calls Try.prog 18 #[(.int .u32 1090519040)] w (Ret w (fun _ : Unit => True) (fun rz => (.int .u32 1077936128)) (fun rz => [])) := by
 refine enter (M := None) (L := []) (n := 23) (l := [(0, (.int .u32 1090519040))]) Try.func18 rfl rfl (Args.cons rfl (Args.nil _)) (Hp.start _ _) ?_
 refine GC.seq ?_
 refine GC.region ?_
 refine GL.val (Ex.assign rfl) (by decide) ?_
 refine GL.nil ?_
 refine GE.thenN ?_
 refine GC.seq ?_
 refine GC.seq ?_
 refine GC.region ?_
 refine GL.val (Ex.move rfl) (by decide) ?_
 refine GL.step (Stp.callR (vs := [(.int .u32 1090519040)]) rfl rfl T.own39 (by decide) (fun wc hw => k39_28  wc )) (fun xq1 hq2 => ?_)
 refine GL.val (Ex.assign rfl) (by decide) ?_
 refine GL.nil ?_
 refine GE.thenN ?_
 refine GC.block ?_
 refine GC.seq ?_
 refine GC.region ?_
 refine GL.val (Ex.move rfl) (by decide) ?_
 refine GL.val (v := (.bool false)) (Ex.feql (r := false) rfl rfl (by kernel_rfl)) (by decide) ?_
 refine GL.val (Ex.assign rfl) (by decide) ?_
 refine GL.nil ?_
 refine GE.thenN ?_
 refine GC.cond rfl (fun hq3 => by cases hq3) (fun _ => ?_)
 refine GC.seq ?_
 refine GC.region ?_
 refine GL.val (Ex.move rfl) (by decide) ?_
 refine GL.val (v := (.bool true)) (Ex.fgtr (r := true) rfl rfl (by kernel_rfl)) (by decide) ?_
 refine GL.val (v := (.bool false)) (Ex.cast (Ex.not rfl) rfl) (by decide) ?_
 refine GL.val (Ex.assign rfl) (by decide) ?_
 refine GL.nil ?_
 refine GE.thenN ?_
 refine GC.cond rfl (fun hq4 => by cases hq4) (fun _ => ?_)
 refine GC.seq ?_
 refine GC.region ?_
 refine GL.val (Ex.move rfl) (by decide) ?_
 refine GL.val (v := (.bool false)) (Ex.cast (Ex.eql rfl rfl) rfl) (by decide) ?_
 refine GL.val (Ex.assign rfl) (by decide) ?_
 refine GL.nil ?_
 refine GE.thenN ?_
 refine GC.cond rfl (fun hq5 => by cases hq5) (fun _ => ?_)
 refine GC.skip ?_
 refine GE.blockN ?_
 refine GE.thenN ?_
 refine GC.seq ?_
 refine GC.region ?_
 refine GL.val (Ex.move rfl) (by decide) ?_
 refine GL.val (v := (.int .i64 1090519040)) (Ex.conv rfl Try.underlying23 Try.underlying3 (Z := 1090519040) (by decide)) (by decide) ?_
 refine GL.val (v := (.int .i64 25165824)) (Ex.sub' rfl rfl (Z := 25165824) (by decide)) (by decide) ?_
 refine GL.val (v := (.float .f64 4717520609670594560)) (Ex.cast (Ex.cif rfl Try.underlying3 Try.underlying50) (by kernel_rfl)) (by decide) ?_
 refine GL.val (v := (.float .f64 4613937818241073152)) (Ex.farith (r := 4613937818241073152) rfl rfl (by kernel_rfl)) (by decide) ?_
 refine GL.step (Stp.callR (vs := [(.float .f64 4613937818241073152)]) rfl rfl T.own40 (by decide) (fun wc hw => k40_29  wc )) (fun xq6 hq7 => ?_)
 refine GL.val (Ex.assign rfl) (by decide) ?_
 refine GL.nil ?_
 refine GE.thenN ?_
 refine GC.ret ?_
 refine GC.ret1 rfl (Rv.tmp rfl) (fun wN HN => ?_)
 exact HN.ret () trivial rfl ulN rfl

set_option maxRecDepth 100000 in
set_option maxHeartbeats 1000000 in
theorem k39_33 (w : World) :
  Calls Try.prog 39 #[(.int .u32 3212836864)] w (Ret w (fun _ : Unit => True) (fun rz => (.float .f64 13830554455654793216)) (fun rz => [])) := by
 refine enter (M := None) (L := []) (n := 6) (l := [(0, (.int .u32 3212836864))]) Try.func39 rfl rfl (Args.cons rfl (Args.nil _)) (Hp.start _ _) ?_
 refine GC.seq ?_
 refine GC.region ?_
 refine GL.val (Ex.assign rfl) (by decide) ?_
 refine GL.nil ?_
 refine GE.thenN ?_
 refine GC.seq ?_
 refine GC.region ?_
 refine GL.val (Ex.move rfl) (by decide) ?_
 refine GL.val (v := (.float .f32 3212836864)) (Ex.ext (vs := [(.int .u32 3212836864)]) rfl rfl T.ext69 (fun _ => by first | rfl | kernel_rfl)) (by decide) ?_
 refine GL.val (v := (.float .f64 13830554455654793216)) (Ex.cff (r := 13830554455654793216) rfl Try.underlying76 Try.underlying50 (by kernel_rfl)) (by decide) ?_
 refine GL.val (Ex.assign rfl) (by decide) ?_
 refine GL.nil ?_
 refine GE.thenN ?_
 refine GC.ret ?_
 refine GC.ret1 rfl (Rv.tmp rfl) (fun wN HN => ?_)
 exact HN.ret () trivial rfl ulN rfl

set_option maxRecDepth 100000 in
set_option maxHeartbeats 1000000 in
theorem k18_32 (w : World) :
  Calls Try.prog 18 #[(.int .u32 3212836864)] w (Ret w (fun _ : Unit => True) (fun rz => (.int .u32 2143289344)) (fun rz => [])) := by
 refine enter (M := None) (L := []) (n := 23) (l := [(0, (.int .u32 3212836864))]) Try.func18 rfl rfl (Args.cons rfl (Args.nil _)) (Hp.start _ _) ?_
 refine GC.seq ?_
 refine GC.region ?_
 refine GL.val (Ex.assign rfl) (by decide) ?_
 refine GL.nil ?_
 refine GE.thenN ?_
 refine GC.seq ?_
 refine GC.seq ?_
 refine GC.region ?_
 refine GL.val (Ex.move rfl) (by decide) ?_
 refine GL.step (Stp.callR (vs := [(.int .u32 3212836864)]) rfl rfl T.own39 (by decide) (fun wc hw => k39_33  wc )) (fun xq1 hq2 => ?_)
 refine GL.val (Ex.assign rfl) (by decide) ?_
 refine GL.nil ?_
 refine GE.thenN ?_
 refine GC.block ?_
 refine GC.seq ?_
 refine GC.region ?_
 refine GL.val (Ex.move rfl) (by decide) ?_
 refine GL.val (v := (.bool false)) (Ex.feql (r := false) rfl rfl (by kernel_rfl)) (by decide) ?_
 refine GL.val (Ex.assign rfl) (by decide) ?_
 refine GL.nil ?_
 refine GE.thenN ?_
 refine GC.cond rfl (fun hq3 => by cases hq3) (fun _ => ?_)
 refine GC.seq ?_
 refine GC.region ?_
 refine GL.val (Ex.move rfl) (by decide) ?_
 refine GL.val (v := (.bool false)) (Ex.fgtr (r := false) rfl rfl (by kernel_rfl)) (by decide) ?_
 refine GL.val (v := (.bool true)) (Ex.cast (Ex.not rfl) rfl) (by decide) ?_
 refine GL.val (Ex.assign rfl) (by decide) ?_
 refine GL.nil ?_
 refine GE.thenN ?_
 refine GC.cond rfl (fun _ => ?_) (fun hq4 => by cases hq4)
 refine GC.seq ?_
 refine GC.region ?_
 refine GL.val (Ex.assign rfl) (by decide) ?_
 refine GL.nil ?_
 refine GE.thenN ?_
 refine GC.ret ?_
 refine GE.blockR ?_
 refine GE.thenR ?_
 refine GC.ret1 rfl (Rv.tmp rfl) (fun wN HN => ?_)
 exact HN.ret () trivial rfl ulN rfl

set_option maxRecDepth 100000 in
set_option maxHeartbeats 1000000 in
theorem k39_35 (w : World) :
  Calls Try.prog 39 #[(.int .u32 2147483648)] w (Ret w (fun _ : Unit => True) (fun rz => (.float .f64 9223372036854775808)) (fun rz => [])) := by
 refine enter (M := None) (L := []) (n := 6) (l := [(0, (.int .u32 2147483648))]) Try.func39 rfl rfl (Args.cons rfl (Args.nil _)) (Hp.start _ _) ?_
 refine GC.seq ?_
 refine GC.region ?_
 refine GL.val (Ex.assign rfl) (by decide) ?_
 refine GL.nil ?_
 refine GE.thenN ?_
 refine GC.seq ?_
 refine GC.region ?_
 refine GL.val (Ex.move rfl) (by decide) ?_
 refine GL.val (v := (.float .f32 2147483648)) (Ex.ext (vs := [(.int .u32 2147483648)]) rfl rfl T.ext69 (fun _ => by first | rfl | kernel_rfl)) (by decide) ?_
 refine GL.val (v := (.float .f64 9223372036854775808)) (Ex.cff (r := 9223372036854775808) rfl Try.underlying76 Try.underlying50 (by kernel_rfl)) (by decide) ?_
 refine GL.val (Ex.assign rfl) (by decide) ?_
 refine GL.nil ?_
 refine GE.thenN ?_
 refine GC.ret ?_
 refine GC.ret1 rfl (Rv.tmp rfl) (fun wN HN => ?_)
 exact HN.ret () trivial rfl ulN rfl

set_option maxRecDepth 100000 in
set_option maxHeartbeats 1000000 in
theorem k18_34 (w : World) :
  Calls Try.prog 18 #[(.int .u32 2147483648)] w (Ret w (fun _ : Unit => True) (fun rz => (.int .u32 4286578688)) (fun rz => [])) := by
 refine enter (M := None) (L := []) (n := 23) (l := [(0, (.int .u32 2147483648))]) Try.func18 rfl rfl (Args.cons rfl (Args.nil _)) (Hp.start _ _) ?_
 refine GC.seq ?_
 refine GC.region ?_
 refine GL.val (Ex.assign rfl) (by decide) ?_
 refine GL.nil ?_
 refine GE.thenN ?_
 refine GC.seq ?_
 refine GC.seq ?_
 refine GC.region ?_
 refine GL.val (Ex.move rfl) (by decide) ?_
 refine GL.step (Stp.callR (vs := [(.int .u32 2147483648)]) rfl rfl T.own39 (by decide) (fun wc hw => k39_35  wc )) (fun xq1 hq2 => ?_)
 refine GL.val (Ex.assign rfl) (by decide) ?_
 refine GL.nil ?_
 refine GE.thenN ?_
 refine GC.block ?_
 refine GC.seq ?_
 refine GC.region ?_
 refine GL.val (Ex.move rfl) (by decide) ?_
 refine GL.val (v := (.bool true)) (Ex.feql (r := true) rfl rfl (by kernel_rfl)) (by decide) ?_
 refine GL.val (Ex.assign rfl) (by decide) ?_
 refine GL.nil ?_
 refine GE.thenN ?_
 refine GC.cond rfl (fun _ => ?_) (fun hq3 => by cases hq3)
 refine GC.seq ?_
 refine GC.region ?_
 refine GL.val (Ex.assign rfl) (by decide) ?_
 refine GL.nil ?_
 refine GE.thenN ?_
 refine GC.ret ?_
 refine GE.blockR ?_
 refine GE.thenR ?_
 refine GC.ret1 rfl (Rv.tmp rfl) (fun wN HN => ?_)
 exact HN.ret () trivial rfl ulN rfl

set_option maxRecDepth 100000 in
set_option maxHeartbeats 1000000 in
theorem k39_37 (w : World) :
  Calls Try.prog 39 #[(.int .u32 1056964608)] w (Ret w (fun _ : Unit => True) (fun rz => (.float .f64 4602678819172646912)) (fun rz => [])) := by
 refine enter (M := None) (L := []) (n := 6) (l := [(0, (.int .u32 1056964608))]) Try.func39 rfl rfl (Args.cons rfl (Args.nil _)) (Hp.start _ _) ?_
 refine GC.seq ?_
 refine GC.region ?_
 refine GL.val (Ex.assign rfl) (by decide) ?_
 refine GL.nil ?_
 refine GE.thenN ?_
 refine GC.seq ?_
 refine GC.region ?_
 refine GL.val (Ex.move rfl) (by decide) ?_
 refine GL.val (v := (.float .f32 1056964608)) (Ex.ext (vs := [(.int .u32 1056964608)]) rfl rfl T.ext69 (fun _ => by first | rfl | kernel_rfl)) (by decide) ?_
 refine GL.val (v := (.float .f64 4602678819172646912)) (Ex.cff (r := 4602678819172646912) rfl Try.underlying76 Try.underlying50 (by kernel_rfl)) (by decide) ?_
 refine GL.val (Ex.assign rfl) (by decide) ?_
 refine GL.nil ?_
 refine GE.thenN ?_
 refine GC.ret ?_
 refine GC.ret1 rfl (Rv.tmp rfl) (fun wN HN => ?_)
 exact HN.ret () trivial rfl ulN rfl

set_option maxRecDepth 100000 in
set_option maxHeartbeats 1000000 in
theorem k20_36 (w : World) :
  Calls Try.prog 20 #[(.int .u32 1056964608)] w (Ret w (fun _ : Unit => True) (fun rz => (.int .u32 1069547520)) (fun rz => [])) := by
 refine enter (M := None) (L := []) (n := 22) (l := [(0, (.int .u32 1056964608))]) Try.func20 rfl rfl (Args.cons rfl (Args.nil _)) (Hp.start _ _) ?_
 refine GC.seq ?_
 refine GC.region ?_
 refine GL.val (Ex.assign rfl) (by decide) ?_
 refine GL.nil ?_
 refine GE.thenN ?_
 refine GC.seq ?_
 refine GC.region ?_
 refine GL.val (Ex.move rfl) (by decide) ?_
 refine GL.step (Stp.callR (vs := [(.int .u32 1056964608)]) rfl rfl T.own39 (by decide) (fun wc hw => k39_37  wc )) (fun xq1 hq2 => ?_)
 refine GL.val (Ex.assign rfl) (by decide) ?_
 refine GL.nil ?_
 refine GE.thenN ?_
 refine GC.seq ?_
 refine GC.block ?_
 refine GC.seq ?_
 refine GC.region ?_
 refine GL.val (Ex.move rfl) (by decide) ?_
 refine GL.val (Ex.move rfl) (by decide) ?_
 refine GL.val (v := (.bool false)) (Ex.fneq (r := false) rfl rfl (by kernel_rfl)) (by decide) ?_
 refine GL.val (Ex.assign rfl) (by decide) ?_
 refine GL.nil ?_
 refine GE.thenN ?_
 refine GC.cond rfl (fun hq3 => by cases hq3) (fun _ => ?_)
 refine GC.seq ?_
 refine GC.region ?_
 refine GL.val (Ex.move rfl) (by decide) ?_
 refine GL.val (v := (.bool false)) (Ex.fgeq (r := false) rfl rfl (by kernel_rfl)) (by decide) ?_
 refine GL.val (Ex.assign rfl) (by decide) ?_
 refine GL.nil ?_
 refine GE.thenN ?_
 refine GC.cond rfl (fun hq4 => by cases hq4) (fun _ => ?_)
 refine GC.seq ?_
 refine GC.region ?_
 refine GL.val (Ex.move rfl) (by decide) ?_
 refine GL.val (v := (.bool false)) (Ex.flss (r := false) rfl rfl (by kernel_rfl)) (by decide) ?_
 refine GL.val (Ex.assign rfl) (by decide) ?_
 refine GL.nil ?_
 refine GE.thenN ?_
 refine GC.cond rfl (fun hq5 => by cases hq5) (fun _ => ?_)
 refine GC.skip ?_
 refine GE.blockN ?_
 refine GE.thenN ?_
 refine GC.seq ?_
 refine GC.region ?_
 refine GL.val (Ex.move rfl) (by decide) ?_
 refine GL.val (v := (.float .f64 4706261610602168320)) (Ex.farith (r := 4706261610602168320) rfl rfl (by kernel_rfl)) (by decide) ?_
 refine GL.val (v := (.float .f64 4706261610602168320)) (Ex.ext (vs := [(.float .f64 4706261610602168320)]) rfl rfl T.ext48 (fun _ => by first | rfl | kernel_rfl)) (by decide) ?_
 refine GL.val (v := (.int .i64 4194304)) (Ex.cfi (m := 4194304) rfl Try.underlying50 Try.underlying3 (by kernel_rfl)) (by decide) ?_
 refine GL.val (v := (.int .i64 1069547520)) (Ex.add rfl rfl (Z := 1069547520) (by decide)) (by decide) ?_
 refine GL.val (v := (.int .u32 1069547520)) (Ex.conv rfl Try.underlying3 Try.underlying23 (Z := 1069547520) (by decide)) (by decide) ?_
 refine GL.val (Ex.assign rfl) (by decide) ?_
 refine GL.nil ?_
 refine GE.thenN ?_
 refine GC.ret ?_
 refine GC.ret1 rfl (Rv.tmp rfl) (fun wN HN => ?_)
 exact HN.ret () trivial rfl ulN rfl

set_option maxRecDepth 100000 in
set_option maxHeartbeats 1000000 in
theorem k39_39 (w : World) :
  Calls Try.prog 39 #[(.int .u32 1124073472)] w (Ret w (fun _ : Unit => True) (fun rz => (.float .f64 4638707616191610880)) (fun rz => [])) := by
 refine enter (M := None) (L := []) (n := 6) (l := [(0, (.int .u32 1124073472))]) Try.func39 rfl rfl (Args.cons rfl (Args.nil _)) (Hp.start _ _) ?_
 refine GC.seq ?_
 refine GC.region ?_
 refine GL.val (Ex.assign rfl) (by decide) ?_
 refine GL.nil ?_
 refine GE.thenN ?_
 refine GC.seq ?_
 refine GC.region ?_
 refine GL.val (Ex.move rfl) (by decide) ?_
 refine GL.val (v := (.float .f32 1124073472)) (Ex.ext (vs := [(.int .u32 1124073472)]) rfl rfl T.ext69 (fun _ => by first | rfl | kernel_rfl)) (by decide) ?_
 refine GL.val (v := (.float .f64 4638707616191610880)) (Ex.cff (r := 4638707616191610880) rfl Try.underlying76 Try.underlying50 (by kernel_rfl)) (by decide) ?_
 refine GL.val (Ex.assign rfl) (by decide) ?_
 refine GL.nil ?_
 refine GE.thenN ?_
 refine GC.ret ?_
 refine GC.ret1 rfl (Rv.tmp rfl) (fun wN HN => ?_)
 exact HN.ret () trivial rfl ulN rfl

set_option maxRecDepth 100000 in
set_option maxHeartbeats 1000000 in
theorem k20_38 (w : World) :
  Calls Try.prog 20 #[(.int .u32 1124073472)] w (Ret w (fun _ : Unit => True) (fun rz => (.int .u32 2139095040)) (fun rz => [])) := by
 refine enter (M := None) (L := []) (n := 22) (l := [(0, (.int .u32 1124073472))]) Try.func20 rfl rfl (Args.cons rfl (Args.nil _)) (Hp.start _ _) ?_
 refine GC.seq ?_
 refine GC.region ?_
 refine GL.val (Ex.assign rfl) (by decide) ?_
 refine GL.nil ?_
 refine GE.thenN ?_
 refine GC.seq ?_
 refine GC.region ?_
 refine GL.val (Ex.move rfl) (by decide) ?_
 refine GL.step (Stp.callR (vs := [(.int .u32 1124073472)]) rfl rfl T.own39 (by decide) (fun wc hw => k39_39  wc )) (fun xq1 hq2 => ?_)
 refine GL.val (Ex.assign rfl) (by decide) ?_
 refine GL.nil ?_
 refine GE.thenN ?_
 refine GC.seq ?_
 refine GC.block ?_
 refine GC.seq ?_
 refine GC.region ?_
 refine GL.val (Ex.move rfl) (by decide) ?_
 refine GL.val (Ex.move rfl) (by decide) ?_
 refine GL.val (v := (.bool false)) (Ex.fneq (r := false) rfl rfl (by kernel_rfl)) (by decide) ?_
 refine GL.val (Ex.assign rfl) (by decide) ?_
 refine GL.nil ?_
 refine GE.thenN ?_
 refine GC.cond rfl (fun hq3 => by cases hq3) (fun _ => ?_)
 refine GC.seq ?_
 refine GC.region ?_
 refine GL.val (Ex.move rfl) (by decide) ?_
 refine GL.val (v := (.bool true)) (Ex.fgeq (r := true) rfl rfl (by kernel_rfl)) (by decide) ?_
 refine GL.val (Ex.assign rfl) (by decide) ?_
 refine GL.nil ?_
 refine GE.thenN ?_
 refine GC.cond rfl (fun _ => ?_) (fun hq4 => by cases hq4)
 refine GC.seq ?_
 refine GC.region ?_
 refine GL.val (Ex.assign rfl) (by decide) ?_
 refine GL.nil ?_
 refine GE.thenN ?_
 refine GC.ret ?_
 refine GE.blockR ?_
 refine GE.thenR ?_
 refine GC.ret1 rfl (Rv.tmp rfl) (fun wN HN => ?_)
 exact HN.ret () trivial rfl ulN rfl

set_option maxRecDepth 100000 in
set_option maxHeartbeats 1000000 in
theorem k39_41 (w : World) :
  Calls Try.prog 39 #[(.int .u32 2139095039)] w (Ret w (fun _ : Unit => True) (fun rz => (.float .f64 5183643170566569984)) (fun rz => [])) := by
 refine enter (M := None) (L := []) (n := 6) (l := [(0, (.int .u32 2139095039))]) Try.func39 rfl rfl (Args.cons rfl (Args.nil _)) (Hp.start _ _) ?_
 refine GC.seq ?_
 refine GC.region ?_
 refine GL.val (Ex.assign rfl) (by decide) ?_
 refine GL.nil ?_
 refine GE.thenN ?_
 refine GC.seq ?_
 refine GC.region ?_
 refine GL.val (Ex.move rfl) (by decide) ?_
 refine GL.val (v := (.float .f32 2139095039)) (Ex.ext (vs := [(.int .u32 2139095039)]) rfl rfl T.ext69 (fun _ => by first | rfl | kernel_rfl)) (by decide) ?_
 refine GL.val (v := (.float .f64 5183643170566569984)) (Ex.cff (r := 5183643170566569984) rfl Try.underlying76 Try.underlying50 (by kernel_rfl)) (by decide) ?_
 refine GL.val (Ex.assign rfl) (by decide) ?_
 refine GL.nil ?_
 refine GE.thenN ?_
 refine GC.ret ?_
 refine GC.ret1 rfl (Rv.tmp rfl) (fun wN HN => ?_)
 exact HN.ret () trivial rfl ulN rfl

set_option maxRecDepth 100000 in
set_option maxHeartbeats 1000000 in
theorem k84_44 (w : World) :
  Calls Try.prog 84 #[(.float .f32 1124073472)] w (Ret w (fun _ : Unit => True) (fun rz => (.int .u32 1124073472)) (fun rz => [])) := by
 refine enter (M := None) (L := []) (n := 8) (l := [(0, (.float .f32 1124073472))]) Try.func84 rfl rfl (Args.cons rfl (Args.nil _)) (Hp.start _ _) ?_
 refine GC.seq ?_
 refine GC.region ?_
 refine GL.val (Ex.assign rfl) (by decide) ?_
 refine GL.nil ?_
 refine GE.thenN ?_
 refine GC.seq ?_
 refine GC.seq ?_
 refine GC.region ?_
 refine GL.val (Ex.move rfl) (by decide) ?_
 refine GL.val (Ex.move rfl) (by decide) ?_
 refine GL.val (v := (.bool false)) (Ex.fneq (r := false) rfl rfl (by kernel_rfl)) (by decide) ?_
 refine GL.nil ?_
 refine GE.thenN ?_
 refine GC.cond rfl (fun hq1 => by cases hq1) (fun _ => ?_)
 refine GC.skip ?_
 refine GE.thenN ?_
 refine GC.seq ?_
 refine GC.region ?_
 refine GL.val (Ex.move rfl) (by decide) ?_
 refine GL.val (v := (.int .u32 1124073472)) (Ex.ext (vs := [(.float .f32 1124073472)]) rfl rfl T.ext92 (fun _ => by first | rfl | kernel_rfl)) (by decide) ?_
 refine GL.val (Ex.assign rfl) (by decide) ?_
 refine GL.nil ?_
 refine GE.thenN ?_
 refine GC.ret ?_
 refine GC.ret1 rfl (Rv.tmp rfl) (fun wN HN => ?_)
 exact HN.ret () trivial rfl ulN rfl

set_option maxRecDepth 100000 in
set_option maxHeartbeats 1000000 in
theorem k70_43 (w : World) :
  Calls Try.prog 70 #[(.int .u64 4638707616183222272)] w (Ret w (fun _ : Unit => True) (fun rz => (.int .u32 1124073472)) (fun rz => [])) := by
 refine enter (M := None) (L := []) (n := 7) (l := [(0, (.int .u64 4638707616183222272))]) Try.func70 rfl rfl (Args.cons rfl (Args.nil _)) (Hp.start _ _) ?_
 refine GC.seq ?_
 refine GC.region ?_
 refine GL.val (Ex.assign rfl) (by decide) ?_
 refine GL.nil ?_
 refine GE.thenN ?_
 refine GC.seq ?_
 refine GC.region ?_
 refine GL.val (Ex.move rfl) (by decide) ?_
 refine GL.val (v := (.float .f64 4638707616183222272)) (Ex.ext (vs := [(.int .u64 4638707616183222272)]) rfl rfl T.ext85 (fun _ => by first | rfl | kernel_rfl)) (by decide) ?_
 refine GL.val (v := (.float .f32 1124073472)) (Ex.cff (r := 1124073472) rfl Try.underlying50 Try.underlying76 (by kernel_rfl)) (by decide) ?_
 refine GL.step (Stp.callR (vs := [(.float .f32 1124073472)]) rfl rfl T.own84 (by decide) (fun wc hw => k84_44  wc )) (fun xq1 hq2 => ?_)
 refine GL.val (Ex.assign rfl) (by decide) ?_
 refine GL.nil ?_
 refine GE.thenN ?_
 refine GC.ret ?_
 refine GC.ret1 rfl (Rv.tmp rfl) (fun wN HN => ?_)
 exact HN.ret () trivial rfl ulN rfl

set_option maxRecDepth 100000 in
set_option maxHeartbeats 1000000 in
theorem k40_42 (w : World) :
  Calls Try.prog 40 #[(.float .f64 4638707616183222272)] w (Ret w (fun _ : Unit => True) (fun rz => (.int .u32 1124073472)) (fun rz => [])) := by
 refine enter (M := None) (L := []) (n := 6) (l := [(0, (.float .f64 4638707616183222272))]) Try.func40 rfl rfl (Args.cons rfl (Args.nil _)) (Hp.start _ _) ?_
 refine GC.seq ?_
 refine GC.region ?_
 refine GL.val (Ex.assign rfl) (by decide) ?_
 refine GL.nil ?_
 refine GE.thenN ?_
 refine GC.seq ?_
 refine GC.region ?_
 refine GL.val (Ex.move rfl) (by decide) ?_
 refine GL.val (v := (.int .u64 4638707616183222272)) (Ex.ext (vs := [(.float .f64 4638707616183222272)]) rfl rfl T.ext71 (fun _ => by first | rfl | kernel_rfl)) (by decide) ?_
 refine GL.step (Stp.callR (vs := [(.int .u64 4638707616183222272)]) rfl rfl T.own70 (by decide) (fun wc hw => k70_43  wc )) (fun xq1 hq2 => ?_)
 refine GL.val (Ex.assign rfl) (by decide) ?_
 refine GL.nil ?_
 refine GE.thenN ?_
 refine GC.ret ?_
 refine GC.ret1 rfl (Rv.tmp rfl) (fun wN HN => ?_)
 exact HN.ret () trivial rfl ulN rfl

set_option maxRecDepth 100000 in
set_option maxHeartbeats 1000000 in
theorem k18_40 (w : World) :
  Calls Try.prog 18 #[(.int .u32 2139095039)] w (Ret w (fun _ : Unit => True) (fun rz => (.int .u32 1124073472)) (fun rz => [])) := by
 refine enter (M := None) (L := []) (n := 23) (l := [(0, (.int .u32 2139095039))]) Try.func18 rfl rfl (Args.cons rfl (Args.nil _)) (Hp.start _ _) ?_
 refine GC.seq ?_
 refine GC.region ?_
 refine GL.val (Ex.assign rfl) (by decide) ?_
 refine GL.nil ?_
 refine GE.thenN ?_
 refine GC.seq ?_
 refine GC.seq ?_
 refine GC.region ?_
 refine GL.val (Ex.move rfl) (by decide) ?_
 refine GL.step (Stp.callR (vs := [(.int .u32 2139095039)]) rfl rfl T.own39 (by decide) (fun wc hw => k39_41  wc )) (fun xq1 hq2 => ?_)
 refine GL.val (Ex.assign rfl) (by decide) ?_
 refine GL.nil ?_
 refine GE.thenN ?_
 refine GC.block ?_
 refine GC.seq ?_
 refine GC.region ?_
 refine GL.val (Ex.move rfl) (by decide) ?_
 refine GL.val (v := (.bool false)) (Ex.feql (r := false) rfl rfl (by kernel_rfl)) (by decide) ?_
 refine GL.val (Ex.assign rfl) (by decide) ?_
 refine GL.nil ?_
 refine GE.thenN ?_
 refine GC.cond rfl (fun hq3 => by cases hq3) (fun _ => ?_)
 refine GC.seq ?_
 refine GC.region ?_
 refine GL.val (Ex.move rfl) (by decide) ?_
 refine GL.val (v := (.bool true)) (Ex.fgtr (r := true) rfl rfl (by kernel_rfl)) (by decide) ?_
 refine GL.val (v := (.bool false)) (Ex.cast (Ex.not rfl) rfl) (by decide) ?_
 refine GL.val (Ex.assign rfl) (by decide) ?_
 refine GL.nil ?_
 refine GE.thenN ?_
 refine GC.cond rfl (fun hq4 => by cases hq4) (fun _ => ?_)
 refine GC.seq ?_
 refine GC.region ?_
 refine GL.val (Ex.move rfl) (by decide) ?_
 refine GL.val (v := (.bool false)) (Ex.cast (Ex.eql rfl rfl) rfl) (by decide) ?_
 refine GL.val (Ex.assign rfl) (by decide) ?_
 refine GL.nil ?_
 refine GE.thenN ?_
 refine GC.cond rfl (fun hq5 => by cases hq5) (fun _ => ?_)
 refine GC.skip ?_
 refine GE.blockN ?_
 refine GE.thenN ?_
 refine GC.seq ?_
 refine GC.region ?_
 refine GL.val (Ex.move rfl) (by decide) ?_
 refine GL.val (v := (.int .i64 2139095039)) (Ex.conv rfl Try.underlying23 Try.underlying3 (Z := 2139095039) (by decide)) (by decide) ?_
 refine GL.val (v := (.int .i64 1073741823)) (Ex.sub' rfl rfl (Z := 1073741823) (by decide)) (by decide) ?_
 refine GL.val (v := (.float .f64 4742290407612743680)) (Ex.cast (Ex.cif rfl Try.underlying3 Try.underlying50) (by kernel_rfl)) (by decide) ?_
 refine GL.val (v := (.float .f64 4638707616183222272)) (Ex.farith (r := 4638707616183222272) rfl rfl (by kernel_rfl)) (by decide) ?_
 refine GL.step (Stp.callR (vs := [(.float .f64 4638707616183222272)]) rfl rfl T.own40 (by decide) (fun wc hw => k40_42  wc )) (fun xq6 hq7 => ?_)
 refine GL.val (Ex.assign rfl) (by decide) ?_
 refine GL.nil ?_
 refine GE.thenN ?_
 refine GC.ret ?_
 refine GC.ret1 rfl (Rv.tmp rfl) (fun wN HN => ?_)
 exact HN.ret () trivial rfl ulN rfl

set_option maxRecDepth 100000 in
set_option maxHeartbeats 1000000 in
theorem k50_46 (w : World) :
  Calls Try.prog 50 #[(.int .u32 3)] w (Ret w (fun _ : Unit => True) (fun rz => (.int .u32 2147483651)) (fun rz => [])) := by
 refine enter (M := None) (L := []) (n := 9) (l := [(0, (.int .u32 3))]) Try.func50 rfl rfl (Args.cons rfl (Args.nil _)) (Hp.start _ _) ?_
 refine GC.seq ?_
 refine GC.region ?_
 refine GL.val (Ex.assign rfl) (by decide) ?_
 refine GL.nil ?_
 refine GE.thenN ?_
 refine GC.seq ?_
 refine GC.seq ?_
 refine GC.region ?_
 refine GL.val (Ex.move rfl) (by decide) ?_
 refine GL.val (v := (.bool true)) (Ex.cast (Ex.lss rfl rfl) rfl) (by decide) ?_
 refine GL.nil ?_
 refine GE.thenN ?_
 refine GC.cond rfl (fun _ => ?_) (fun hq1 => by cases hq1)
 refine GC.seq ?_
 refine GC.region ?_
 refine GL.val (Ex.move rfl) (by decide) ?_
 refine GL.val (v := (.int .u32 2147483651)) (Ex.add rfl rfl (Z := 2147483651) (by decide)) (by decide) ?_
 refine GL.val (Ex.assign rfl) (by decide) ?_
 refine GL.nil ?_
 refine GE.thenN ?_
 refine GC.ret ?_
 refine GE.thenR ?_
 refine GC.ret1 rfl (Rv.tmp rfl) (fun wN HN => ?_)
 exact HN.ret () trivial rfl ulN rfl

set_option maxRecDepth 100000 in
set_option maxHeartbeats 1000000 in
theorem k50_47 (w : World) :
  Calls Try.prog 50 #[(.int .u32 0)] w (Ret w (fun _ : Unit => True) (fun rz => (.int .u32 2147483648)) (fun rz => [])) := by
 refine enter (M := None) (L := []) (n := 9) (l := [(0, (.int .u32 0))]) Try.func50 rfl rfl (Args.cons rfl (Args.nil _)) (Hp.start _ _) ?_
 refine GC.seq ?_
 refine GC.region ?_
 refine GL.val (Ex.assign rfl) (by decide) ?_
 refine GL.nil ?_
 refine GE.thenN ?_
 refine GC.seq ?_
 refine GC.seq ?_
 refine GC.region ?_
 refine GL.val (Ex.move rfl) (by decide) ?_
 refine GL.val (v := (.bool true)) (Ex.cast (Ex.lss rfl rfl) rfl) (by decide) ?_
 refine GL.nil ?_
 refine GE.thenN ?_
 refine GC.cond rfl (fun _ => ?_) (fun hq1 => by cases hq1)
 refine GC.seq ?_
 refine GC.region ?_
 refine GL.val (Ex.move rfl) (by decide) ?_
 refine GL.val (v := (.int .u32 2147483648)) (Ex.add rfl rfl (Z := 2147483648) (by decide)) (by decide) ?_
 refine GL.val (Ex.assign rfl) (by decide) ?_
 refine GL.nil ?_
 refine GE.thenN ?_
 refine GC.ret ?_
 refine GE.thenR ?_
 refine GC.ret1 rfl (Rv.tmp rfl) (fun wN HN => ?_)
 exact HN.ret () trivial rfl ulN rfl

set_option maxRecDepth 100000 in
set_option maxHeartbeats 1000000 in
theorem k51_48 (w : World) :
  Calls Try.prog 51 #[(.int .u32 3)] w (Ret w (fun _ : Unit => True) (fun rz => (.int .u32 1)) (fun rz => [])) := by
 refine enter (M := None) (L := []) (n := 7) (l := [(0, (.int .u32 3))]) Try.func51 rfl rfl (Args.cons rfl (Args.nil _)) (Hp.start _ _) ?_
 refine GC.seq ?_
 refine GC.region ?_
 refine GL.val (Ex.assign rfl) (by decide) ?_
 refine GL.nil ?_
 refine GE.thenN ?_
 refine GC.seq ?_
 refine GC.region ?_
 refine GL.val (Ex.move rfl) (by decide) ?_
 refine GL.val (v := (.int .i32 3)) (Ex.conv rfl Try.underlying23 Try.underlying21 (Z := 3) (by decide)) (by decide) ?_
 refine GL.val (v := (.int .i32 1)) (Ex.shr rfl (m := 1) rfl (by decide) (Z := 1) (by decide)) (by decide) ?_
 refine GL.val (v := (.int .u32 1)) (Ex.conv rfl Try.underlying21 Try.underlying23 (Z := 1) (by decide)) (by decide) ?_
 refine GL.val (Ex.assign rfl) (by decide) ?_
 refine GL.nil ?_
 refine GE.thenN ?_
 refine GC.ret ?_
 refine GC.ret1 rfl (Rv.tmp rfl) (fun wN HN => ?_)
 exact HN.ret () trivial rfl ulN rfl

set_option maxRecDepth 100000 in
set_option maxHeartbeats 1000000 in
theorem k50_49 (w : World) :
  Calls Try.prog 50 #[(.int .u32 2)] w (Ret w (fun _ : Unit => True) (fun rz => (.int .u32 2147483650)) (fun rz => [])) := by
 refine enter (M := None) (L := []) (n := 9) (l := [(0, (.int .u32 2))]) Try.func50 rfl rfl (Args.cons rfl (Args.nil _)) (Hp.start _ _) ?_
 refine GC.seq ?_
 refine GC.region ?_
 refine GL.val (Ex.assign rfl) (by decide) ?_
 refine GL.nil ?_
 refine GE.thenN ?_
 refine GC.seq ?_
 refine GC.seq ?_
 refine GC.region ?_
 refine GL.val (Ex.move rfl) (by decide) ?_
 refine GL.val (v := (.bool true)) (Ex.cast (Ex.lss rfl rfl) rfl) (by decide) ?_
 refine GL.nil ?_
 refine GE.thenN ?_
 refine GC.cond rfl (fun _ => ?_) (fun hq1 => by cases hq1)
 refine GC.seq ?_
 refine GC.region ?_
 refine GL.val (Ex.move rfl) (by decide) ?_
 refine GL.val (v := (.int .u32 2147483650)) (Ex.add rfl rfl (Z := 2147483650) (by decide)) (by decide) ?_
 refine GL.val (Ex.assign rfl) (by decide) ?_
 refine GL.nil ?_
 refine GE.thenN ?_
 refine GC.ret ?_
 refine GE.thenR ?_
 refine GC.ret1 rfl (Rv.tmp rfl) (fun wN HN => ?_)
 exact HN.ret () trivial rfl ulN rfl

set_option maxRecDepth 100000 in
set_option maxHeartbeats 1000000 in
theorem k51_50 (w : World) :
  Calls Try.prog 51 #[(.int .u32 1)] w (Ret w (fun _ : Unit => True) (fun rz => (.int .u32 0)) (fun rz => [])) := by
 refine enter (M := None) (L := []) (n := 7) (l := [(0, (.int .u32 1))]) Try.func51 rfl rfl (Args.cons rfl (Args.nil _)) (Hp.start _ _) ?_
 refine GC.seq ?_
 refine GC.region ?_
 refine GL.val (Ex.assign rfl) (by decide) ?_
 refine GL.nil ?_
 refine GE.thenN ?_
 refine GC.seq ?_
 refine GC.region ?_
 refine GL.val (Ex.move rfl) (by decide) ?_
 refine GL.val (v := (.int .i32 1)) (Ex.conv rfl Try.underlying23 Try.underlying21 (Z := 1) (by decide)) (by decide) ?_
 refine GL.val (v := (.int .i32 0)) (Ex.shr rfl (m := 1) rfl (by decide) (Z := 0) (by decide)) (by decide) ?_
 refine GL.val (v := (.int .u32 0)) (Ex.conv rfl Try.underlying21 Try.underlying23 (Z := 0) (by decide)) (by decide) ?_
 refine GL.val (Ex.assign rfl) (by decide) ?_
 refine GL.nil ?_
 refine GE.thenN ?_
 refine GC.ret ?_
 refine GC.ret1 rfl (Rv.tmp rfl) (fun wN HN => ?_)
 exact HN.ret () trivial rfl ulN rfl

set_option maxRecDepth 100000 in
set_option maxHeartbeats 1000000 in
theorem k52_51 (w : World) :
  Calls Try.prog 52 #[(.int .u32 2147483649)] w (Ret w (fun _ : Unit => True) (fun rz => (.int .u32 1)) (fun rz => [])) := by
 refine enter (M := None) (L := []) (n := 9) (l := [(0, (.int .u32 2147483649))]) Try.func52 rfl rfl (Args.cons rfl (Args.nil _)) (Hp.start _ _) ?_
 refine GC.seq ?_
 refine GC.region ?_
 refine GL.val (Ex.assign rfl) (by decide) ?_
 refine GL.nil ?_
 refine GE.thenN ?_
 refine GC.seq ?_
 refine GC.seq ?_
 refine GC.region ?_
 refine GL.val (Ex.move rfl) (by decide) ?_
 refine GL.val (v := (.bool true)) (Ex.cast (Ex.geq rfl rfl) rfl) (by decide) ?_
 refine GL.nil ?_
 refine GE.thenN ?_
 refine GC.cond rfl (fun _ => ?_) (fun hq1 => by cases hq1)
 refine GC.seq ?_
 refine GC.region ?_
 refine GL.val (Ex.move rfl) (by decide) ?_
 refine GL.val (v := (.int .u32 1)) (Ex.sub' rfl rfl (Z := 1) (by decide)) (by decide) ?_
 refine GL.val (Ex.assign rfl) (by decide) ?_
 refine GL.nil ?_
 refine GE.thenN ?_
 refine GC.ret ?_
 refine GE.thenR ?_
 refine GC.ret1 rfl (Rv.tmp rfl) (fun wN HN => ?_)
 exact HN.ret () trivial rfl ulN rfl

set_option maxRecDepth 100000 in
set_option maxHeartbeats 1000000 in
theorem k52_52 (w : World) :
  Calls Try.prog 52 #[(.int .u32 2147483651)] w (Ret w (fun _ : Unit => True) (fun rz => (.int .u32 3)) (fun rz => [])) := by
 refine enter (M := None) (L := []) (n := 9) (l := [(0, (.int .u32 2147483651))]) Try.func52 rfl rfl (Args.cons rfl (Args.nil _)) (Hp.start _ _) ?_
 refine GC.seq ?_
 refine GC.region ?_
 refine GL.val (Ex.assign rfl) (by decide) ?_
 refine GL.nil ?_
 refine GE.thenN ?_
 refine GC.seq ?_
 refine GC.seq ?_
 refine GC.region ?_
 refine GL.val (Ex.move rfl) (by decide) ?_
 refine GL.val (v := (.bool true)) (Ex.cast (Ex.geq rfl rfl) rfl) (by decide) ?_
 refine GL.nil ?_
 refine GE.thenN ?_
 refine GC.cond rfl (fun _ => ?_) (fun hq1 => by cases hq1)
 refine GC.seq ?_
 refine GC.region ?_
 refine GL.val (Ex.move rfl) (by decide) ?_
 refine GL.val (v := (.int .u32 3)) (Ex.sub' rfl rfl (Z := 3) (by decide)) (by decide) ?_
 refine GL.val (Ex.assign rfl) (by decide) ?_
 refine GL.nil ?_
 refine GE.thenN ?_
 refine GC.ret ?_
 refine GE.thenR ?_
 refine GC.ret1 rfl (Rv.tmp rfl) (fun wN HN => ?_)
 exact HN.ret () trivial rfl ulN rfl

set_option maxRecDepth 100000 in
set_option maxHeartbeats 1000000 in
theorem k22_45 (w : World) :
  Calls Try.prog 22 #[(.int .u32 3), (.int .u32 2), (.int .u32 0)] w (Ret w (fun _ : Unit => True) (fun rz => (.tuple #[(.int .u32 1), (.int .u32 1), (.int .u32 3)])) (fun rz => [])) := by
 refine enter (M := None) (L := []) (n := 37) (l := [(0, (.int .u32 3)), (1, (.int .u32 2)), (2, (.int .u32 0))]) Try.func22 rfl rfl (Args.cons rfl (Args.cons rfl (Args.cons rfl (Args.nil _)))) (Hp.start _ _) ?_
 refine GC.seq ?_
 refine GC.region ?_
 refine GL.val (Ex.assign rfl) (by decide) ?_
 refine GL.val (Ex.assign rfl) (by decide) ?_
 refine GL.val (Ex.assign rfl) (by decide) ?_
 refine GL.nil ?_
 refine GE.thenN ?_
 refine GC.seq ?_
 refine GC.region ?_
 refine GL.val (Ex.move rfl) (by decide) ?_
 refine GL.step (Stp.callR (vs := [(.int .u32 3)]) rfl rfl T.own50 (by decide) (fun wc hw => k50_46  wc )) (fun xq1 hq2 => ?_)
 refine GL.val (Ex.move rfl) (by decide) ?_
 refine GL.step (Stp.callR (vs := [(.int .u32 0)]) rfl rfl T.own50 (by decide) (fun wc hw => k50_47  wc )) (fun xq3 hq4 => ?_)
 refine GL.val (v := (.int .u32 3)) (Ex.sub' rfl rfl (Z := 3) (by decide)) (by decide) ?_
 refine GL.val (Ex.assign rfl) (by decide) ?_
 refine GL.nil ?_
 refine GE.thenN ?_
 refine GC.seq ?_
 refine GC.region ?_
 refine GL.val (Ex.move rfl) (by decide) ?_
 refine GL.step (Stp.callR (vs := [(.int .u32 0)]) rfl rfl T.own50 (by decide) (fun wc hw => k50_47  wc )) (fun xq5 hq6 => ?_)
 refine GL.val (Ex.move rfl) (by decide) ?_
 refine GL.step (Stp.callR (vs := [(.int .u32 3)]) rfl rfl T.own51 (by decide) (fun wc hw => k51_48  wc )) (fun xq7 hq8 => ?_)
 refine GL.val (v := (.int .u32 2147483649)) (Ex.add rfl rfl (Z := 2147483649) (by decide)) (by decide) ?_
 refine GL.val (Ex.assign rfl) (by decide) ?_
 refine GL.nil ?_
 refine GE.thenN ?_
 refine GC.seq ?_
 refine GC.region ?_
 refine GL.val (Ex.move rfl) (by decide) ?_
 refine GL.step (Stp.callR (vs := [(.int .u32 2)]) rfl rfl T.own50 (by decide) (fun wc hw => k50_49  wc )) (fun xq9 hq10 => ?_)
 refine GL.val (Ex.move rfl) (by decide) ?_
 refine GL.val (v := (.int .u32 1)) (Ex.sub' rfl rfl (Z := 1) (by decide)) (by decide) ?_
 refine GL.val (Ex.assign rfl) (by decide) ?_
 refine GL.nil ?_
 refine GE.thenN ?_
 refine GC.seq ?_
 refine GC.region ?_
 refine GL.val (Ex.move rfl) (by decide) ?_
 refine GL.val (Ex.move rfl) (by decide) ?_
 refine GL.step (Stp.callR (vs := [(.int .u32 1)]) rfl rfl T.own51 (by decide) (fun wc hw => k51_50  wc )) (fun xq11 hq12 => ?_)
 refine GL.val (v := (.int .u32 2147483649)) (Ex.add rfl rfl (Z := 2147483649) (by decide)) (by decide) ?_
 refine GL.step (Stp.callR (vs := [(.int .u32 2147483649)]) rfl rfl T.own52 (by decide) (fun wc hw => k52_51  wc )) (fun xq13 hq14 => ?_)
 refine GL.val (Ex.move rfl) (by decide) ?_
 refine GL.val (v := (.int .u32 2147483649)) (Ex.add rfl rfl (Z := 2147483649) (by decide)) (by decide) ?_
 refine GL.step (Stp.callR (vs := [(.int .u32 2147483649)]) rfl rfl T.own52 (by decide) (fun wc hw => k52_51  wc )) (fun xq15 hq16 => ?_)
 refine GL.val (Ex.move rfl) (by decide) ?_
 refine GL.val (v := (.int .u32 2147483651)) (Ex.add rfl rfl (Z := 2147483651) (by decide)) (by decide) ?_
 refine GL.step (Stp.callR (vs := [(.int .u32 2147483651)]) rfl rfl T.own52 (by decide) (fun wc hw => k52_52  wc )) (fun xq17 hq18 => ?_)
 refine GL.val (Ex.assign rfl) (by decide) ?_
 refine GL.val (Ex.assign rfl) (by decide) ?_
 refine GL.val (Ex.assign rfl) (by decide) ?_
 refine GL.nil ?_
 refine GE.thenN ?_
 refine GC.ret ?_
 refine GC.ret3 rfl (Rv.tmp rfl) (Rv.tmp rfl) (Rv.tmp rfl) (fun wN HN => ?_)
 exact HN.ret () trivial rfl ulN rfl

set_option maxRecDepth 100000 in
set_option maxHeartbeats 1000000 in
theorem k50_54 (w : World) :
  Calls Try.prog 50 #[(.int .u32 1)] w (Ret w (fun _ : Unit => True) (fun rz => (.int .u32 2147483649)) (fun rz => [])) := by
 refine enter (M := None) (L := []) (n := 9) (l := [(0, (.int .u32 1))]) Try.func50 rfl rfl (Args.cons rfl (Args.nil _)) (Hp.start _ _) ?_
 refine GC.seq ?_
 refine GC.region ?_
 refine GL.val (Ex.assign rfl) (by decide) ?_
 refine GL.nil ?_
 refine GE.thenN ?_
 refine GC.seq ?_
 refine GC.seq ?_
 refine GC.region ?_
 refine GL.val (Ex.move rfl) (by decide) ?_
 refine GL.val (v := (.bool true)) (Ex.cast (Ex.lss rfl rfl) rfl) (by decide) ?_
 refine GL.nil ?_
 refine GE.thenN ?_
 refine GC.cond rfl (fun _ => ?_) (fun hq1 => by cases hq1)
 refine GC.seq ?_
 refine GC.region ?_
 refine GL.val (Ex.move rfl) (by decide) ?_
 refine GL.val (v := (.int .u32 2147483649)) (Ex.add rfl rfl (Z := 2147483649) (by decide)) (by decide) ?_
 refine GL.val (Ex.assign rfl) (by decide) ?_
 refine GL.nil ?_
 refine GE.thenN ?_
 refine GC.ret ?_
 refine GE.thenR ?_
 refine GC.ret1 rfl (Rv.tmp rfl) (fun wN HN => ?_)
 exact HN.ret () trivial rfl ulN rfl

set_option maxRecDepth 100000 in
set_option maxHeartbeats 1000000 in
theorem k52_55 (w : World) :
  Calls Try.prog 52 #[(.int .u32 2147483650)] w (Ret w (fun _ : Unit => True) (fun rz => (.int .u32 2)) (fun rz => [])) := by
 refine enter (M := None) (L := []) (n := 9) (l := [(0, (.int .u32 2147483650))]) Try.func52 rfl rfl (Args.cons rfl (Args.nil _)) (Hp.start _ _) ?_
 refine GC.seq ?_
 refine GC.region ?_
 refine GL.val (Ex.assign rfl) (by decide) ?_
 refine GL.nil ?_
 refine GE.thenN ?_
 refine GC.seq ?_
 refine GC.seq ?_
 refine GC.region ?_
 refine GL.val (Ex.move rfl) (by decide) ?_
 refine GL.val (v := (.bool true)) (Ex.cast (Ex.geq rfl rfl) rfl) (by decide) ?_
 refine GL.nil ?_
 refine GE.thenN ?_
 refine GC.cond rfl (fun _ => ?_) (fun hq1 => by cases hq1)
 refine GC.seq ?_
 refine GC.region ?_
 refine GL.val (Ex.move rfl) (by decide) ?_
 refine GL.val (v := (.int .u32 2)) (Ex.sub' rfl rfl (Z := 2) (by decide)) (by decide) ?_
 refine GL.val (Ex.assign rfl) (by decide) ?_
 refine GL.nil ?_
 refine GE.thenN ?_
 refine GC.ret ?_
 refine GE.thenR ?_
 refine GC.ret1 rfl (Rv.tmp rfl) (fun wN HN => ?_)
 exact HN.ret () trivial rfl ulN rfl

set_option maxRecDepth 100000 in
set_option maxHeartbeats 1000000 in
theorem k52_56 (w : World) :
  Calls Try.prog 52 #[(.int .u32 2147483648)] w (Ret w (fun _ : Unit => True) (fun rz => (.int .u32 0)) (fun rz => [])) := by
 refine enter (M := None) (L := []) (n := 9) (l := [(0, (.int .u32 2147483648))]) Try.func52 rfl rfl (Args.cons rfl (Args.nil _)) (Hp.start _ _) ?_
 refine GC.seq ?_
 refine GC.region ?_
 refine GL.val (Ex.assign rfl) (by decide) ?_
 refine GL.nil ?_
 refine GE.thenN ?_
 refine GC.seq ?_
 refine GC.seq ?_
 refine GC.region ?_
 refine GL.val (Ex.move rfl) (by decide) ?_
 refine GL.val (v := (.bool true)) (Ex.cast (Ex.geq rfl rfl) rfl) (by decide) ?_
 refine GL.nil ?_
 refine GE.thenN ?_
 refine GC.cond rfl (fun _ => ?_) (fun hq1 => by cases hq1)
 refine GC.seq ?_
 refine GC.region ?_
 refine GL.val (Ex.move rfl) (by decide) ?_
 refine GL.val (v := (.int .u32 0)) (Ex.sub' rfl rfl (Z := 0) (by decide)) (by decide) ?_
 refine GL.val (Ex.assign rfl) (by decide) ?_
 refine GL.nil ?_
 refine GE.thenN ?_
 refine GC.ret ?_
 refine GE.thenR ?_
 refine GC.ret1 rfl (Rv.tmp rfl) (fun wN HN => ?_)
 exact HN.ret () trivial rfl ulN rfl

set_option maxRecDepth 100000 in
set_option maxHeartbeats 1000000 in
theorem k24_53 (w : World) :
  Calls Try.prog 24 #[(.int .u32 1), (.int .u32 1), (.int .u32 3)] w (Ret w (fun _ : Unit => True) (fun rz => (.tuple #[(.int .u32 3), (.int .u32 2), (.int .u32 0)])) (fun rz => [])) := by
 refine enter (M := None) (L := []) (n := 38) (l := [(0, (.int .u32 1)), (1, (.int .u32 1)), (2, (.int .u32 3))]) Try.func24 rfl rfl (Args.cons rfl (Args.cons rfl (Args.cons rfl (Args.nil _)))) (Hp.start _ _) ?_
 refine GC.seq ?_
 refine GC.region ?_
 refine GL.val (Ex.assign rfl) (by decide) ?_
 refine GL.val (Ex.assign rfl) (by decide) ?_
 refine GL.val (Ex.assign rfl) (by decide) ?_
 refine GL.nil ?_
 refine GE.thenN ?_
 refine GC.seq ?_
 refine GC.region ?_
 refine GL.val (Ex.move rfl) (by decide) ?_
 refine GL.step (Stp.callR (vs := [(.int .u32 1)]) rfl rfl T.own50 (by decide) (fun wc hw => k50_54  wc )) (fun xq1 hq2 => ?_)
 refine GL.val (v := (.int .u32 1)) (Ex.sub' rfl rfl (Z := 1) (by decide)) (by decide) ?_
 refine GL.val (Ex.move rfl) (by decide) ?_
 refine GL.step (Stp.callR (vs := [(.int .u32 3)]) rfl rfl T.own50 (by decide) (fun wc hw => k50_46  wc )) (fun xq3 hq4 => ?_)
 refine GL.val (v := (.int .u32 3)) (Ex.sub' rfl rfl (Z := 3) (by decide)) (by decide) ?_
 refine GL.val (Ex.assign rfl) (by decide) ?_
 refine GL.val (Ex.assign rfl) (by decide) ?_
 refine GL.nil ?_
 refine GE.thenN ?_
 refine GC.seq ?_
 refine GC.region ?_
 refine GL.val (Ex.move rfl) (by decide) ?_
 refine GL.step (Stp.callR (vs := [(.int .u32 1)]) rfl rfl T.own50 (by decide) (fun wc hw => k50_54  wc )) (fun xq5 hq6 => ?_)
 refine GL.val (Ex.move rfl) (by decide) ?_
 refine GL.step (Stp.callR (vs := [(.int .u32 1)]) rfl rfl T.own51 (by decide) (fun wc hw => k51_50  wc )) (fun xq7 hq8 => ?_)
 refine GL.val (v := (.int .u32 2147483649)) (Ex.sub' rfl rfl (Z := 2147483649) (by decide)) (by decide) ?_
 refine GL.val (Ex.assign rfl) (by decide) ?_
 refine GL.nil ?_
 refine GE.thenN ?_
 refine GC.seq ?_
 refine GC.region ?_
 refine GL.val (Ex.move rfl) (by decide) ?_
 refine GL.val (Ex.move rfl) (by decide) ?_
 refine GL.step (Stp.callR (vs := [(.int .u32 3)]) rfl rfl T.own51 (by decide) (fun wc hw => k51_48  wc )) (fun xq9 hq10 => ?_)
 refine GL.val (v := (.int .u32 2147483648)) (Ex.sub' rfl rfl (Z := 2147483648) (by decide)) (by decide) ?_
 refine GL.val (Ex.assign rfl) (by decide) ?_
 refine GL.nil ?_
 refine GE.thenN ?_
 refine GC.seq ?_
 refine GC.region ?_
 refine GL.val (Ex.move rfl) (by decide) ?_
 refine GL.val (Ex.move rfl) (by decide) ?_
 refine GL.val (v := (.int .u32 2147483651)) (Ex.add rfl rfl (Z := 2147483651) (by decide)) (by decide) ?_
 refine GL.step (Stp.callR (vs := [(.int .u32 2147483651)]) rfl rfl T.own52 (by decide) (fun wc hw => k52_52  wc )) (fun xq11 hq12 => ?_)
 refine GL.val (Ex.move rfl) (by decide) ?_
 refine GL.val (Ex.move rfl) (by decide) ?_
 refine GL.val (v := (.int .u32 2147483650)) (Ex.add rfl rfl (Z := 2147483650) (by decide)) (by decide) ?_
 refine GL.step (Stp.callR (vs := [(.int .u32 2147483650)]) rfl rfl T.own52 (by decide) (fun wc hw => k52_55  wc )) (fun xq13 hq14 => ?_)
 refine GL.val (Ex.move rfl) (by decide) ?_
 refine GL.step (Stp.callR (vs := [(.int .u32 2147483648)]) rfl rfl T.own52 (by decide) (fun wc hw => k52_56  wc )) (fun xq15 hq16 => ?_)
 refine GL.val (Ex.assign rfl) (by decide) ?_
 refine GL.val (Ex.assign rfl) (by decide) ?_
 refine GL.val (Ex.assign rfl) (by decide) ?_
 refine GL.nil ?_
 refine GE.thenN ?_
 refine GC.ret ?_
 refine GC.ret3 rfl (Rv.tmp rfl) (Rv.tmp rfl) (Rv.tmp rfl) (fun wN HN => ?_)
 exact HN.ret () trivial rfl ulN rfl

set_option maxRecDepth 100000 in
set_option maxHeartbeats 1000000 in
theorem k56_58 (w : World) :
  Calls Try.prog 56 #[(.int .i64 1)] w (Ret w (fun _ : Unit => True) (fun rz => (.bool true)) (fun rz => [])) := by
 refine enter (M := None) (L := []) (n := 9) (l := [(0, (.int .i64 1))]) Try.func56 rfl rfl (Args.cons rfl (Args.nil _)) (Hp.start _ _) ?_
 refine GC.seq ?_
 refine GC.region ?_
 refine GL.val (Ex.assign rfl) (by decide) ?_
 refine GL.nil ?_
 refine GE.thenN ?_
 refine GC.seq ?_
 refine GC.region ?_
 refine GL.val (Ex.move rfl) (by decide) ?_
 refine GL.val (v := (.bool true)) (Ex.cast (Ex.geq rfl rfl) rfl) (by decide) ?_
 refine GL.val (Ex.move rfl) (by decide) ?_
 refine GL.stepG (tj := 5) rfl rfl (Ex.wp (v := (.int .i64 1)) (Ex.move rfl) (by decide)) (fun _ _ => ?_)
 refine GL.stepG (tj := 5) rfl rfl (Ex.wp (v := (.bool true)) (Ex.cast (Ex.leq rfl rfl) rfl) (by decide)) (fun _ _ => ?_)
 refine GL.val (v := (.bool true)) (Ex.pickT rfl rfl) (by decide) ?_
 refine GL.val (Ex.assign rfl) (by decide) ?_
 refine GL.nil ?_
 refine GE.thenN ?_
 refine GC.ret ?_
 refine GC.ret1 rfl (Rv.tmp rfl) (fun wN HN => ?_)
 exact HN.ret () trivial rfl ulN rfl

set_option maxRecDepth 100000 in
set_option maxHeartbeats 1000000 in
theorem k56_59 (w : World) :
  Calls Try.prog 56 #[(.int .i64 2)] w (Ret w (fun _ : Unit => True) (fun rz => (.bool true)) (fun rz => [])) := by
 refine enter (M := None) (L := []) (n := 9) (l := [(0, (.int .i64 2))]) Try.func56 rfl rfl (Args.cons rfl (Args.nil _)) (Hp.start _ _) ?_
 refine GC.seq ?_
 refine GC.region ?_
 refine GL.val (Ex.assign rfl) (by decide) ?_
 refine GL.nil ?_
 refine GE.thenN ?_
 refine GC.seq ?_
 refine GC.region ?_
 refine GL.val (Ex.move rfl) (by decide) ?_
 refine GL.val (v := (.bool true)) (Ex.cast (Ex.geq rfl rfl) rfl) (by decide) ?_
 refine GL.val (Ex.move rfl) (by decide) ?_
 refine GL.stepG (tj := 5) rfl rfl (Ex.wp (v := (.int .i64 2)) (Ex.move rfl) (by decide)) (fun _ _ => ?_)
 refine GL.stepG (tj := 5) rfl rfl (Ex.wp (v := (.bool true)) (Ex.cast (Ex.leq rfl rfl) rfl) (by decide)) (fun _ _ => ?_)
 refine GL.val (v := (.bool true)) (Ex.pickT rfl rfl) (by decide) ?_
 refine GL.val (Ex.assign rfl) (by decide) ?_
 refine GL.nil ?_
 refine GE.thenN ?_
 refine GC.ret ?_
 refine GC.ret1 rfl (Rv.tmp rfl) (fun wN HN => ?_)
 exact HN.ret () trivial rfl ulN rfl

set_option maxRecDepth 100000 in
set_option maxHeartbeats 1000000 in
theorem k79_61 (w : World) :
  Calls Try.prog 79 #[(.func (.func 16) #[] #[])] w (Ret w (fun _ : Nat => True) (fun rz => (.func (.func 90) #[] #[(.pointer (some ⟨rz, 0, none⟩))])) (fun rz => [⟨rz, [(.func (.func 16) #[] #[])], 25, true⟩])) := by
 refine enter (M := None) (L := []) (n := 4) (l := [(0, (.func (.func 16) #[] #[]))]) Try.func79 rfl rfl (Args.cons rfl (Args.nil _)) (Hp.start _ _) ?_
 refine GC.seq ?_
 refine GC.region ?_
 refine GL.step (Stp.box (cs := [(.func (.func 16) #[] #[])]) rfl rfl (by decide)) (fun bq1 _ => ?_)
 refine GL.val (Ex.assign rfl) (by decide) ?_
 refine GL.nil ?_
 refine GE.thenN ?_
 refine GC.seq ?_
 refine GC.region ?_
 refine GL.val (v := (.func (.func 90) #[] #[(.pointer (some ⟨bq1, 0, none⟩))])) (Ex.func (cs := [(.pointer (some ⟨bq1, 0, none⟩))]) rfl (fun _ hF => hF.evals _ _ rfl)) (by decide) ?_
 refine GL.val (Ex.assign rfl) (by decide) ?_
 refine GL.nil ?_
 refine GE.thenN ?_
 refine GC.ret ?_
 refine GC.ret1 rfl (Rv.tmp rfl) (fun wN HN => ?_)
 exact HN.ret bq1 trivial rfl (ulC ulN) rfl

set_option maxRecDepth 100000 in
set_option maxHeartbeats 1000000 in
theorem k79_62 (w : World) :
  Calls Try.prog 79 #[(.func (.func 14) #[] #[])] w (Ret w (fun _ : Nat => True) (fun rz => (.func (.func 90) #[] #[(.pointer (some ⟨rz, 0, none⟩))])) (fun rz => [⟨rz, [(.func (.func 14) #[] #[])], 25, true⟩])) := by
 refine enter (M := None) (L := []) (n := 4) (l := [(0, (.func (.func 14) #[] #[]))]) Try.func79 rfl rfl (Args.cons rfl (Args.nil _)) (Hp.start _ _) ?_
 refine GC.seq ?_
 refine GC.region ?_
 refine GL.step (Stp.box (cs := [(.func (.func 14) #[] #[])]) rfl rfl (by decide)) (fun bq1 _ => ?_)
 refine GL.val (Ex.assign rfl) (by decide) ?_
 refine GL.nil ?_
 refine GE.thenN ?_
 refine GC.seq ?_
 refine GC.region ?_
 refine GL.val (v := (.func (.func 90) #[] #[(.pointer (some ⟨bq1, 0, none⟩))])) (Ex.func (cs := [(.pointer (some ⟨bq1, 0, none⟩))]) rfl (fun _ hF => hF.evals _ _ rfl)) (by decide) ?_
 refine GL.val (Ex.assign rfl) (by decide) ?_
 refine GL.nil ?_
 refine GE.thenN ?_
 refine GC.ret ?_
 refine GC.ret1 rfl (Rv.tmp rfl) (fun wN HN => ?_)
 exact HN.ret bq1 trivial rfl (ulC ulN) rfl

set_option maxRecDepth 100000 in
set_option maxHeartbeats 1000000 in
theorem k57_60 (w : World) :
  Calls Try.prog 57 #[(.int .i64 2)] w (Ret w (fun _ : Nat × Nat => True) (fun rz => (.agg #[(.func (.func 90) #[] #[(.pointer (some ⟨rz.2, 0, none⟩))]), (.func (.func 90) #[] #[(.pointer (some ⟨rz.1, 0, none⟩))])])) (fun rz => [⟨rz.1, [(.func (.func 14) #[] #[])], 25, true⟩, ⟨rz.2, [(.func (.func 16) #[] #[])], 25, true⟩])) := by
 refine enter (M := None) (L := []) (n := 23) (l := [(0, (.int .i64 2))]) Try.func57 rfl rfl (Args.cons rfl (Args.nil _)) (Hp.start _ _) ?_
 refine GC.seq ?_
 refine GC.region ?_
 refine GL.step (Stp.alloc T.zr64 (by decide)) (fun bq1 _ => ?_)
 refine GL.nil ?_
 refine GE.thenN ?_
 refine GC.seq ?_
 refine GC.seq ?_
 refine GC.region ?_
 refine GL.val (Ex.move rfl) (by decide) ?_
 refine GL.nil ?_
 refine GE.thenN ?_
 refine GC.block ?_
 refine GC.seq ?_
 refine GC.region ?_
 refine GL.val (v := (.bool true)) (Ex.cast (Ex.eql rfl rfl) rfl) (by decide) ?_
 refine GL.val (Ex.assign rfl) (by decide) ?_
 refine GL.nil ?_
 refine GE.thenN ?_
 refine GC.cond rfl (fun _ => ?_) (fun hq2 => by cases hq2)
 refine GC.seq ?_
 refine GC.region ?_
 refine GL.step (Stp.callR (vs := [(.func (.func 16) #[] #[])]) rfl rfl T.own79 (by decide) (fun wc hw => k79_61  wc )) (fun xq3 hq4 => ?_)
 refine GL.step (Stp.callR (vs := [(.func (.func 14) #[] #[])]) rfl rfl T.own79 (by decide) (fun wc hw => k79_62  wc )) (fun xq5 hq6 => ?_)
 refine GL.val (v := (.agg #[(.func (.func 90) #[] #[(.pointer (some ⟨xq3, 0, none⟩))]), (.func (.func 90) #[] #[(.pointer (some ⟨xq5, 0, none⟩))])])) (Ex.build (vs := [(0, (.func (.func 90) #[] #[(.pointer (some ⟨xq3, 0, none⟩))])), (1, (.func (.func 90) #[] #[(.pointer (some ⟨xq5, 0, none⟩))]))]) rfl (by first | rfl | kernel_rfl)) (by decide) ?_
 refine GL.step (Stp.st2 (cs' := [(.func (.func 90) #[] #[(.pointer (some ⟨xq3, 0, none⟩))]), (.func (.func 90) #[] #[(.pointer (some ⟨xq5, 0, none⟩))])]) rfl rfl rfl T.sz64 rfl rfl rfl) (fun _ _ => ?_)
 refine GL.nil ?_
 refine GE.thenN ?_
 refine GC.ret ?_
 refine GE.blockR ?_
 refine GE.thenR ?_
 refine GC.ret1 rfl (Rv.cellA rfl T.ag64 T.sz64 (L := _) (i := 2) rfl (vs := [(.func (.func 90) #[] #[(.pointer (some ⟨xq3, 0, none⟩))]), (.func (.func 90) #[] #[(.pointer (some ⟨xq5, 0, none⟩))])]) rfl rfl) (fun wN HN => ?_)
 exact HN.ret (xq5, xq3) trivial rfl (ulC (ulC (ulS ulN))) rfl

set_option maxRecDepth 100000 in
set_option maxHeartbeats 1000000 in
theorem k57_63 (w : World) :
  Calls Try.prog 57 #[(.int .i64 1)] w (Ret w (fun _ : Unit => True) (fun rz => (.agg #[(.func (.func 81) #[] #[]), (.func (.func 81) #[] #[])])) (fun rz => [])) := by
 refine enter (M := None) (L := []) (n := 23) (l := [(0, (.int .i64 1))]) Try.func57 rfl rfl (Args.cons rfl (Args.nil _)) (Hp.start _ _) ?_
 refine GC.seq ?_
 refine GC.region ?_
 refine GL.step (Stp.alloc T.zr64 (by decide)) (fun bq1 _ => ?_)
 refine GL.nil ?_
 refine GE.thenN ?_
 refine GC.seq ?_
 refine GC.seq ?_
 refine GC.region ?_
 refine GL.val (Ex.move rfl) (by decide) ?_
 refine GL.nil ?_
 refine GE.thenN ?_
 refine GC.block ?_
 refine GC.seq ?_
 refine GC.region ?_
 refine GL.val (v := (.bool false)) (Ex.cast (Ex.eql rfl rfl) rfl) (by decide) ?_
 refine GL.val (Ex.assign rfl) (by decide) ?_
 refine GL.nil ?_
 refine GE.thenN ?_
 refine GC.cond rfl (fun hq2 => by cases hq2) (fun _ => ?_)
 refine GC.seq ?_
 refine GC.region ?_
 refine GL.val (v := (.bool false)) (Ex.cast (Ex.eql rfl rfl) rfl) (by decide) ?_
 refine GL.val (Ex.assign rfl) (by decide) ?_
 refine GL.nil ?_
 refine GE.thenN ?_
 refine GC.cond rfl (fun hq3 => by cases hq3) (fun _ => ?_)
 refine GC.seq ?_
 refine GC.region ?_
 refine GL.val (v := (.bool false)) (Ex.cast (Ex.eql rfl rfl) rfl) (by decide) ?_
 refine GL.val (Ex.assign rfl) (by decide) ?_
 refine GL.nil ?_
 refine GE.thenN ?_
 refine GC.cond rfl (fun hq4 => by cases hq4) (fun _ => ?_)
 refine GC.skip ?_
 refine GE.blockN ?_
 refine GE.thenN ?_
 refine GC.seq ?_
 refine GC.region ?_
 refine GL.val (Ex.assign rfl) (by decide) ?_
 refine GL.nil ?_
 refine GE.thenN ?_
 refine GC.seq ?_
 refine GC.region ?_
 refine GL.val (Ex.move rfl) (by decide) ?_
 refine GL.val (Ex.move rfl) (by decide) ?_
 refine GL.val (v := (.agg #[(.func (.func 81) #[] #[]), (.func (.func 81) #[] #[])])) (Ex.build (vs := [(0, (.func (.func 81) #[] #[])), (1, (.func (.func 81) #[] #[]))]) rfl (by first | rfl | kernel_rfl)) (by decide) ?_
 refine GL.step (Stp.st0 (cs' := [(.func (.func 81) #[] #[]), (.func (.func 81) #[] #[])]) rfl rfl rfl T.sz64 rfl rfl rfl) (fun _ _ => ?_)
 refine GL.nil ?_
 refine GE.thenN ?_
 refine GC.ret ?_
 refine GC.ret1 rfl (Rv.cellA rfl T.ag64 T.sz64 (L := _) (i := 0) rfl (vs := [(.func (.func 81) #[] #[]), (.func (.func 81) #[] #[])]) rfl rfl) (fun wN HN => ?_)
 exact HN.ret () trivial rfl (ulS ulN) rfl

set_option maxRecDepth 100000 in
set_option maxHeartbeats 1000000 in
theorem k81_64 (w : World) :
  Calls Try.prog 81 #[(.agg #[(.int .u32 1065353216), (.int .u32 1073741824), (.int .u32 1082130432)])] w (Ret w (fun _ : Unit => True) (fun rz => (.agg #[(.int .u32 1065353216), (.int .u32 1073741824), (.int .u32 1082130432)])) (fun rz => [])) := by
 refine enter (M := None) (L := []) (n := 4) (l := [(0, (.agg #[(.int .u32 1065353216), (.int .u32 1073741824), (.int .u32 1082130432)]))]) Try.func81 rfl rfl (Args.cons rfl (Args.nil _)) (Hp.start _ _) ?_
 refine GC.seq ?_
 refine GC.region ?_
 refine GL.step (Stp.box (cs := [(.int .u32 1065353216), (.int .u32 1073741824), (.int .u32 1082130432)]) rfl rfl (by decide)) (fun bq1 _ => ?_)
 refine GL.step (Stp.alloc T.zr61 (by decide)) (fun bq2 _ => ?_)
 refine GL.nil ?_
 refine GE.thenN ?_
 refine GC.seq ?_
 refine GC.region ?_
 refine GL.val (v := (.agg #[(.int .u32 1065353216), (.int .u32 1073741824), (.int .u32 1082130432)])) (Ex.loadA rfl T.ag61 T.sz61 (i := 1) rfl (vs := [(.int .u32 1065353216), (.int .u32 1073741824), (.int .u32 1082130432)]) rfl rfl) (by decide) ?_
 refine GL.step (Stp.st0 (cs' := [(.int .u32 1065353216), (.int .u32 1073741824), (.int .u32 1082130432)]) rfl rfl rfl T.sz61 rfl rfl rfl) (fun _ _ => ?_)
 refine GL.nil ?_
 refine GE.thenN ?_
 refine GC.ret ?_
 refine GC.ret1 rfl (Rv.cellA rfl T.ag61 T.sz61 (L := _) (i := 0) rfl (vs := [(.int .u32 1065353216), (.int .u32 1073741824), (.int .u32 1082130432)]) rfl rfl) (fun wN HN => ?_)
 exact HN.ret () trivial rfl (ulS (ulS ulN)) rfl

set_option maxRecDepth 100000 in
set_option maxHeartbeats 1000000 in
theorem k90_65 (c0 : Nat) (w : World) (hh : Has w [⟨c0, [(.func (.func 14) #[] #[])], 25, false⟩]) :
  Calls Try.prog 90 #[(.agg #[(.int .u32 1065353216), (.int .u32 1073741824), (.int .u32 1082130432)]), (.pointer (some ⟨c0, 0, none⟩))] w (Ret w (fun _ : Unit => True) (fun rz => (.agg #[(.int .u32 1074790400), (.int .u32 3196059648), (.int .u32 3217031168)])) (fun rz => [])) := by
 refine enter (M := None) (L := [⟨c0, [(.func (.func 14) #[] #[])], 25, false⟩]) (n := 23) (l := [(0, (.agg #[(.int .u32 1065353216), (.int .u32 1073741824), (.int .u32 1082130432)])), (1, (.pointer (some ⟨c0, 0, none⟩)))]) Try.func90 rfl rfl (Args.cons rfl (Args.cons rfl (Args.nil _))) (Hp.reads hh rfl) ?_
 refine GC.seq ?_
 refine GC.region ?_
 refine GL.step (Stp.box (cs := [(.int .u32 1065353216), (.int .u32 1073741824), (.int .u32 1082130432)]) rfl rfl (by decide)) (fun bq1 _ => ?_)
 refine GL.step (Stp.alloc T.zr61 (by decide)) (fun bq2 _ => ?_)
 refine GL.nil ?_
 refine GE.thenN ?_
 refine GC.seq ?_
 refine GC.region ?_
 refine GL.val (Ex.load rfl T.ag25 (i := 2) rfl rfl) (by decide) ?_
 refine GL.val (v := (.pointer (some ⟨bq1, 0, none⟩))) (Ex.cast (Ex.indexArr (m := 3) rfl rfl Try.underlying61 T.sz23 (by decide) (by decide)) rfl) (by decide) ?_
 refine GL.val (Ex.load rfl T.ag23 (i := 1) rfl rfl) (by decide) ?_
 refine GL.val (v := (.pointer (some ⟨bq1, 1, none⟩))) (Ex.cast (Ex.indexArr (m := 3) rfl rfl Try.underlying61 T.sz23 (by decide) (by decide)) rfl) (by decide) ?_
 refine GL.val (Ex.load rfl T.ag23 (i := 1) rfl rfl) (by decide) ?_
 refine GL.val (v := (.pointer (some ⟨bq1, 2, none⟩))) (Ex.cast (Ex.indexArr (m := 3) rfl rfl Try.underlying61 T.sz23 (by decide) (by decide)) rfl) (by decide) ?_
 refine GL.val (Ex.load rfl T.ag23 (i := 1) rfl rfl) (by decide) ?_
 refine GL.step (Stp.callR (vs := [(.int .u32 1065353216), (.int .u32 1073741824), (.int .u32 1082130432)]) rfl rfl T.own14 (by decide) (fun wc hw => k14_1  wc )) (fun xq3 hq4 => ?_)
 refine GL.val (Ex.move rfl) (by decide) ?_
 refine GL.val (Ex.extract rfl rfl) (by decide) ?_
 refine GL.val (Ex.extract rfl rfl) (by decide) ?_
 refine GL.val (Ex.extract rfl rfl) (by decide) ?_
 refine GL.val (Ex.assign rfl) (by decide) ?_
 refine GL.val (Ex.assign rfl) (by decide) ?_
 refine GL.val (Ex.assign rfl) (by decide) ?_
 refine GL.nil ?_
 refine GE.thenN ?_
 refine GC.seq ?_
 refine GC.region ?_
 refine GL.val (Ex.move rfl) (by decide) ?_
 refine GL.val (Ex.move rfl) (by decide) ?_
 refine GL.val (Ex.move rfl) (by decide) ?_
 refine GL.val (v := (.agg #[(.int .u32 1074790400), (.int .u32 3196059648), (.int .u32 3217031168)])) (Ex.build (vs := [(0, (.int .u32 1074790400)), (1, (.int .u32 3196059648)), (2, (.int .u32 3217031168))]) rfl (by first | rfl | kernel_rfl)) (by decide) ?_
 refine GL.step (Stp.st0 (cs' := [(.int .u32 1074790400), (.int .u32 3196059648), (.int .u32 3217031168)]) rfl rfl rfl T.sz61 rfl rfl rfl) (fun _ _ => ?_)
 refine GL.nil ?_
 refine GE.thenN ?_
 refine GC.ret ?_
 refine GC.ret1 rfl (Rv.cellA rfl T.ag61 T.sz61 (L := _) (i := 0) rfl (vs := [(.int .u32 1074790400), (.int .u32 3196059648), (.int .u32 3217031168)]) rfl rfl) (fun wN HN => ?_)
 exact HN.ret () trivial rfl (ulS (ulS (ulS ulN))) rfl

set_option maxRecDepth 100000 in
set_option maxHeartbeats 1000000 in
theorem k26_57 (w : World) :
  Calls Try.prog 26 #[(.int .i64 1), (.int .i64 2), (.int .u32 1065353216), (.int .u32 1073741824), (.int .u32 1082130432)] w (Ret w (fun _ : Unit => True) (fun rz => (.tuple #[(.int .u32 1074790400), (.int .u32 3196059648), (.int .u32 3217031168), (.int .i64 0)])) (fun rz => [])) := by
 refine enter (M := None) (L := []) (n := 56) (l := [(0, (.int .i64 1)), (1, (.int .i64 2)), (2, (.int .u32 1065353216)), (3, (.int .u32 1073741824)), (4, (.int .u32 1082130432))]) Try.func26 rfl rfl (Args.cons rfl (Args.cons rfl (Args.cons rfl (Args.cons rfl (Args.cons rfl (Args.nil _)))))) (Hp.start _ _) ?_
 refine GC.seq ?_
 refine GC.region ?_
 refine GL.val (Ex.assign rfl) (by decide) ?_
 refine GL.val (Ex.assign rfl) (by decide) ?_
 refine GL.val (Ex.assign rfl) (by decide) ?_
 refine GL.val (Ex.assign rfl) (by decide) ?_
 refine GL.nil ?_
 refine GE.thenN ?_
 refine GC.seq ?_
 refine GC.block ?_
 refine GC.seq ?_
 refine GC.region ?_
 refine GL.val (Ex.move rfl) (by decide) ?_
 refine GL.step (Stp.callR (vs := [(.int .i64 1)]) rfl rfl T.own56 (by decide) (fun wc hw => k56_58  wc )) (fun xq1 hq2 => ?_)
 refine GL.val (v := (.bool false)) (Ex.cast (Ex.not rfl) rfl) (by decide) ?_
 refine GL.val (Ex.move rfl) (by decide) ?_
 refine GL.stepG (tj := 19) rfl rfl (Ex.wp (v := (.int .i64 2)) (Ex.move rfl) (by decide)) (fun _ _ => ?_)
 refine GL.stepG (tj := 19) rfl rfl (Stp.callR (vs := [(.int .i64 2)]) rfl rfl T.own56 (by decide) (fun wc hw => k56_59  wc )) (fun xq3 hq4 => ?_)
 refine GL.stepG (tj := 19) rfl rfl (Ex.wp (v := (.bool false)) (Ex.cast (Ex.not rfl) rfl) (by decide)) (fun _ _ => ?_)
 refine GL.val (v := (.bool false)) (Ex.pickF rfl rfl) (by decide) ?_
 refine GL.val (Ex.move rfl) (by decide) ?_
 refine GL.stepG (tj := 24) rfl rfl (Ex.wp (v := (.int .i64 1)) (Ex.move rfl) (by decide)) (fun _ _ => ?_)
 refine GL.stepG (tj := 24) rfl rfl (Ex.wp (v := (.bool false)) (Ex.cast (Ex.eql rfl rfl) rfl) (by decide)) (fun _ _ => ?_)
 refine GL.stepG (tj := 24) rfl rfl (Ex.wp (v := (.int .i64 2)) (Ex.move rfl) (by decide)) (fun _ _ => ?_)
 refine GL.stepG (tj := 24) rfl rfl (Ex.wp (v := (.bool false)) (Ex.cast (Ex.eql rfl rfl) rfl) (by decide)) (fun _ _ => ?_)
 refine GL.stepG (tj := 24) rfl rfl (Ex.wp (v := (.bool false)) (Ex.cast (Ex.neqB rfl rfl Try.underlying4) rfl) (by decide)) (fun _ _ => ?_)
 refine GL.val (v := (.bool false)) (Ex.pickF rfl rfl) (by decide) ?_
 refine GL.val (Ex.assign rfl) (by decide) ?_
 refine GL.nil ?_
 refine GE.thenN ?_
 refine GC.cond rfl (fun hq5 => by cases hq5) (fun _ => ?_)
 refine GC.seq ?_
 refine GC.region ?_
 refine GL.val (Ex.move rfl) (by decide) ?_
 refine GL.val (Ex.move rfl) (by decide) ?_
 refine GL.val (v := (.bool false)) (Ex.cast (Ex.eql rfl rfl) rfl) (by decide) ?_
 refine GL.val (Ex.assign rfl) (by decide) ?_
 refine GL.nil ?_
 refine GE.thenN ?_
 refine GC.cond rfl (fun hq6 => by cases hq6) (fun _ => ?_)
 refine GC.skip ?_
 refine GE.blockN ?_
 refine GE.thenN ?_
 refine GC.seq ?_
 refine GC.region ?_
 refine GL.val (Ex.move rfl) (by decide) ?_
 refine GL.step (Stp.callR (vs := [(.int .i64 2)]) rfl rfl T.own57 (by decide) (fun wc hw => k57_60  wc )) (fun xq7 hq8 => ?_)
 refine GL.val (v := (.func (.func 90) #[] #[(.pointer (some ⟨xq7.1, 0, none⟩))])) (Ex.field1 rfl Try.underlying64 rfl T.ag62 rfl) (by decide) ?_
 refine GL.val (Ex.move rfl) (by decide) ?_
 refine GL.step (Stp.callR (vs := [(.int .i64 1)]) rfl rfl T.own57 (by decide) (fun wc hw => k57_63  wc )) (fun xq9 hq10 => ?_)
 refine GL.val (v := (.func (.func 81) #[] #[])) (Ex.field1 rfl Try.underlying64 rfl T.ag62 rfl) (by decide) ?_
 refine GL.val (Ex.move rfl) (by decide) ?_
 refine GL.val (Ex.move rfl) (by decide) ?_
 refine GL.val (Ex.move rfl) (by decide) ?_
 refine GL.val (v := (.agg #[(.int .u32 1065353216), (.int .u32 1073741824), (.int .u32 1082130432)])) (Ex.build (vs := [(0, (.int .u32 1065353216)), (1, (.int .u32 1073741824)), (2, (.int .u32 1082130432))]) rfl (by first | rfl | kernel_rfl)) (by decide) ?_
 refine GL.step (Stp.callR (vs := [(.agg #[(.int .u32 1065353216), (.int .u32 1073741824), (.int .u32 1082130432)])]) rfl rfl T.own81 (by decide) (fun wc hw => k81_64  wc )) (fun xq11 hq12 => ?_)
 refine GL.step (Stp.callR (vs := [(.agg #[(.int .u32 1065353216), (.int .u32 1073741824), (.int .u32 1082130432)])]) rfl rfl T.own90 (by decide) (fun wc hw => k90_65 xq7.1 wc (Has.cons (hw.hasOf (i := 0) rfl) (Has.nil _)))) (fun xq13 hq14 => ?_)
 refine GL.step (Stp.alloc T.zr61 (by decide)) (fun bq15 _ => ?_)
 refine GL.step (Stp.st0 (cs' := [(.int .u32 1074790400), (.int .u32 3196059648), (.int .u32 3217031168)]) rfl rfl rfl T.sz61 rfl rfl rfl) (fun _ _ => ?_)
 refine GL.nil ?_
 refine GE.thenN ?_
 refine GC.seq ?_
 refine GC.drawP [⟨bq15, [(.int .u32 1074790400), (.int .u32 3196059648), (.int .u32 3217031168)], 61, true⟩, ⟨xq7.1, [(.func (.func 14) #[] #[])], 25, true⟩, ⟨xq7.2, [(.func (.func 16) #[] #[])], 25, true⟩] T.mixed (by kernel_rfl) (by kernel_rfl) (fuel := 9) rfl rfl ?_
 refine GH.take 0 (v := (.pointer (some ⟨bq15, 0, none⟩))) rfl (by kernel_rfl) (by kernel_rfl) (by kernel_rfl) (fun _ _ _ h => h) (Ex.cast (Ex.indexArr (m := 3) rfl rfl Try.underlying61 T.sz23 (by decide) (by decide)) rfl) (ulC (ulC (ulC ulN))) (by decide) ?_
 refine GH.take 1 (v := (.int .u32 1074790400)) rfl (by kernel_rfl) (by kernel_rfl) (by kernel_rfl) (fun _ _ _ h => h) (Ex.load rfl T.ag23 (i := 0) rfl rfl) (ulC (ulC (ulC ulN))) (by decide) ?_
 refine GH.take 2 (v := (.pointer (some ⟨bq15, 1, none⟩))) rfl (by kernel_rfl) (by kernel_rfl) (by kernel_rfl) (fun _ _ _ h => h) (Ex.cast (Ex.indexArr (m := 3) rfl rfl Try.underlying61 T.sz23 (by decide) (by decide)) rfl) (ulC (ulC (ulC ulN))) (by decide) ?_
 refine GH.take 3 (v := (.int .u32 3196059648)) rfl (by kernel_rfl) (by kernel_rfl) (by kernel_rfl) (fun _ _ _ h => h) (Ex.load rfl T.ag23 (i := 0) rfl rfl) (ulC (ulC (ulC ulN))) (by decide) ?_
 refine GH.take 4 (v := (.pointer (some ⟨bq15, 2, none⟩))) rfl (by kernel_rfl) (by kernel_rfl) (by kernel_rfl) (fun _ _ _ h => h) (Ex.cast (Ex.indexArr (m := 3) rfl rfl Try.underlying61 T.sz23 (by decide) (by decide)) rfl) (ulC (ulC (ulC ulN))) (by decide) ?_
 refine GH.take 5 (v := (.int .u32 3217031168)) rfl (by kernel_rfl) (by kernel_rfl) (by kernel_rfl) (fun _ _ _ h => h) (Ex.load rfl T.ag23 (i := 0) rfl rfl) (ulC (ulC (ulC ulN))) (by decide) ?_
 refine GH.take 6 (v := (.int .u32 1074790400)) rfl (by kernel_rfl) (by kernel_rfl) (by kernel_rfl) (fun _ _ _ h => h) (Ex.assign rfl) (ulC (ulC (ulC ulN))) (by decide) ?_
 refine GH.take 7 (v := (.int .u32 3196059648)) rfl (by kernel_rfl) (by kernel_rfl) (by kernel_rfl) (fun _ _ _ h => h) (Ex.assign rfl) (ulC (ulC (ulC ulN))) (by decide) ?_
 refine GH.take 8 (v := (.int .u32 3217031168)) rfl (by kernel_rfl) (by kernel_rfl) (by kernel_rfl) (fun _ _ _ h => h) (Ex.assign rfl) (ulC (ulC (ulC ulN))) (by decide) ?_
 refine GH.done (by kernel_rfl) ?_
 refine GE.thenN ?_
 refine GE.tail rfl (Ex.wp (v := (.int .i64 0)) (Ex.assign rfl) (by decide)) (fun _ _ => ?_)
 refine GE.thenN ?_
 refine GC.ret ?_
 refine GC.ret4 rfl (Rv.tmp rfl) (Rv.tmp rfl) (Rv.tmp rfl) (Rv.tmp rfl) (fun wN HN => ?_)
 exact HN.ret () trivial rfl (ulS (ulS (ulS ulN))) rfl

set_option maxRecDepth 100000 in
set_option maxHeartbeats 1000000 in
theorem k56_67 (w : World) :
  Calls Try.prog 56 #[(.int .i64 0)] w (Ret w (fun _ : Unit => True) (fun rz => (.bool true)) (fun rz => [])) := by
 refine enter (M := None) (L := []) (n := 9) (l := [(0, (.int .i64 0))]) Try.func56 rfl rfl (Args.cons rfl (Args.nil _)) (Hp.start _ _) ?_
 refine GC.seq ?_
 refine GC.region ?_
 refine GL.val (Ex.assign rfl) (by decide) ?_
 refine GL.nil ?_
 refine GE.thenN ?_
 refine GC.seq ?_
 refine GC.region ?_
 refine GL.val (Ex.move rfl) (by decide) ?_
 refine GL.val (v := (.bool true)) (Ex.cast (Ex.geq rfl rfl) rfl) (by decide) ?_
 refine GL.val (Ex.move rfl) (by decide) ?_
 refine GL.stepG (tj := 5) rfl rfl (Ex.wp (v := (.int .i64 0)) (Ex.move rfl) (by decide)) (fun _ _ => ?_)
 refine GL.stepG (tj := 5) rfl rfl (Ex.wp (v := (.bool true)) (Ex.cast (Ex.leq rfl rfl) rfl) (by decide)) (fun _ _ => ?_)
 refine GL.val (v := (.bool true)) (Ex.pickT rfl rfl) (by decide) ?_
 refine GL.val (Ex.assign rfl) (by decide) ?_
 refine GL.nil ?_
 refine GE.thenN ?_
 refine GC.ret ?_
 refine GC.ret1 rfl (Rv.tmp rfl) (fun wN HN => ?_)
 exact HN.ret () trivial rfl ulN rfl

set_option maxRecDepth 100000 in
set_option maxHeartbeats 1000000 in
theorem k26_66 (w : World) :
  Calls Try.prog 26 #[(.int .i64 0), (.int .i64 1), (.int .u32 0), (.int .u32 0), (.int .u32 0)] w (Ret w (fun _ : Unit => True) (fun rz => (.tuple #[(.int .u32 0), (.int .u32 0), (.int .u32 0), (.int .i64 70)])) (fun rz => [])) := by
 refine enter (M := None) (L := []) (n := 56) (l := [(0, (.int .i64 0)), (1, (.int .i64 1)), (2, (.int .u32 0)), (3, (.int .u32 0)), (4, (.int .u32 0))]) Try.func26 rfl rfl (Args.cons rfl (Args.cons rfl (Args.cons rfl (Args.cons rfl (Args.cons rfl (Args.nil _)))))) (Hp.start _ _) ?_
 refine GC.seq ?_
 refine GC.region ?_
 refine GL.val (Ex.assign rfl) (by decide) ?_
 refine GL.val (Ex.assign rfl) (by decide) ?_
 refine GL.val (Ex.assign rfl) (by decide) ?_
 refine GL.val (Ex.assign rfl) (by decide) ?_
 refine GL.nil ?_
 refine GE.thenN ?_
 refine GC.seq ?_
 refine GC.block ?_
 refine GC.seq ?_
 refine GC.region ?_
 refine GL.val (Ex.move rfl) (by decide) ?_
 refine GL.step (Stp.callR (vs := [(.int .i64 0)]) rfl rfl T.own56 (by decide) (fun wc hw => k56_67  wc )) (fun xq1 hq2 => ?_)
 refine GL.val (v := (.bool false)) (Ex.cast (Ex.not rfl) rfl) (by decide) ?_
 refine GL.val (Ex.move rfl) (by decide) ?_
 refine GL.stepG (tj := 19) rfl rfl (Ex.wp (v := (.int .i64 1)) (Ex.move rfl) (by decide)) (fun _ _ => ?_)
 refine GL.stepG (tj := 19) rfl rfl (Stp.callR (vs := [(.int .i64 1)]) rfl rfl T.own56 (by decide) (fun wc hw => k56_58  wc )) (fun xq3 hq4 => ?_)
 refine GL.stepG (tj := 19) rfl rfl (Ex.wp (v := (.bool false)) (Ex.cast (Ex.not rfl) rfl) (by decide)) (fun _ _ => ?_)
 refine GL.val (v := (.bool false)) (Ex.pickF rfl rfl) (by decide) ?_
 refine GL.val (Ex.move rfl) (by decide) ?_
 refine GL.stepG (tj := 24) rfl rfl (Ex.wp (v := (.int .i64 0)) (Ex.move rfl) (by decide)) (fun _ _ => ?_)
 refine GL.stepG (tj := 24) rfl rfl (Ex.wp (v := (.bool true)) (Ex.cast (Ex.eql rfl rfl) rfl) (by decide)) (fun _ _ => ?_)
 refine GL.stepG (tj := 24) rfl rfl (Ex.wp (v := (.int .i64 1)) (Ex.move rfl) (by decide)) (fun _ _ => ?_)
 refine GL.stepG (tj := 24) rfl rfl (Ex.wp (v := (.bool false)) (Ex.cast (Ex.eql rfl rfl) rfl) (by decide)) (fun _ _ => ?_)
 refine GL.stepG (tj := 24) rfl rfl (Ex.wp (v := (.bool true)) (Ex.cast (Ex.neqB rfl rfl Try.underlying4) rfl) (by decide)) (fun _ _ => ?_)
 refine GL.val (v := (.bool true)) (Ex.pickF rfl rfl) (by decide) ?_
 refine GL.val (Ex.assign rfl) (by decide) ?_
 refine GL.nil ?_
 refine GE.thenN ?_
 refine GC.cond rfl (fun _ => ?_) (fun hq5 => by cases hq5)
 refine GC.seq ?_
 refine GC.region ?_
 refine GL.val (Ex.assign rfl) (by decide) ?_
 refine GL.val (Ex.assign rfl) (by decide) ?_
 refine GL.val (Ex.assign rfl) (by decide) ?_
 refine GL.val (Ex.assign rfl) (by decide) ?_
 refine GL.nil ?_
 refine GE.thenN ?_
 refine GC.ret ?_
 refine GE.blockR ?_
 refine GE.thenR ?_
 refine GC.ret4 rfl (Rv.tmp rfl) (Rv.tmp rfl) (Rv.tmp rfl) (Rv.tmp rfl) (fun wN HN => ?_)
 exact HN.ret () trivial rfl ulN rfl

set_option maxRecDepth 100000 in
set_option maxHeartbeats 1000000 in
theorem known (w : World) :
  Calls Try.prog 13 #[] w (Ret w (fun _ : Unit => True) (fun _ => .bool true) (fun _ => [])) := by
 refine enter (M := None) (L := []) (n := 131) (l := []) Try.func13 rfl rfl (Args.nil _) (Hp.start _ _) ?_
 refine GC.seq ?_
 refine GC.region ?_
 refine GL.val (Ex.assign rfl) (by decide) ?_
 refine GL.nil ?_
 refine GE.thenN ?_
 refine GC.seq ?_
 refine GC.region ?_
 refine GL.step (Stp.callR (vs := [(.int .u32 1065353216), (.int .u32 1073741824), (.int .u32 1082130432)]) rfl rfl T.own14 (by decide) (fun wc hw => k14_1  wc )) (fun xq1 hq2 => ?_)
 refine GL.val (Ex.move rfl) (by decide) ?_
 refine GL.val (Ex.extract rfl rfl) (by decide) ?_
 refine GL.val (Ex.extract rfl rfl) (by decide) ?_
 refine GL.val (Ex.extract rfl rfl) (by decide) ?_
 refine GL.val (Ex.assign rfl) (by decide) ?_
 refine GL.val (Ex.assign rfl) (by decide) ?_
 refine GL.val (Ex.assign rfl) (by decide) ?_
 refine GL.nil ?_
 refine GE.thenN ?_
 refine GC.seq ?_
 refine GC.region ?_
 refine GL.val (Ex.move rfl) (by decide) ?_
 refine GL.val (Ex.move rfl) (by decide) ?_
 refine GL.val (Ex.move rfl) (by decide) ?_
 refine GL.step (Stp.callR (vs := [(.int .u32 1074790400), (.int .u32 3196059648), (.int .u32 3217031168)]) rfl rfl T.own16 (by decide) (fun wc hw => k16_14  wc )) (fun xq3 hq4 => ?_)
 refine GL.val (Ex.move rfl) (by decide) ?_
 refine GL.val (Ex.extract rfl rfl) (by decide) ?_
 refine GL.val (Ex.extract rfl rfl) (by decide) ?_
 refine GL.val (Ex.extract rfl rfl) (by decide) ?_
 refine GL.val (Ex.assign rfl) (by decide) ?_
 refine GL.val (Ex.assign rfl) (by decide) ?_
 refine GL.val (Ex.assign rfl) (by decide) ?_
 refine GL.nil ?_
 refine GE.thenN ?_
 refine GC.seq ?_
 refine GC.seq ?_
 refine GC.region ?_
 refine GL.val (Ex.move rfl) (by decide) ?_
 refine GL.val (v := (.bool false)) (Ex.cast (Ex.neq rfl rfl) rfl) (by decide) ?_
 refine GL.val (Ex.move rfl) (by decide) ?_
 refine GL.stepG (tj := 27) rfl rfl (Ex.wp (v := (.int .u32 3196059648)) (Ex.move rfl) (by decide)) (fun _ _ => ?_)
 refine GL.stepG (tj := 27) rfl rfl (Ex.wp (v := (.bool false)) (Ex.cast (Ex.neq rfl rfl) rfl) (by decide)) (fun _ _ => ?_)
 refine GL.val (v := (.bool false)) (Ex.pickF rfl rfl) (by decide) ?_
 refine GL.val (Ex.move rfl) (by decide) ?_
 refine GL.stepG (tj := 31) rfl rfl (Ex.wp (v := (.int .u32 3217031168)) (Ex.move rfl) (by decide)) (fun _ _ => ?_)
 refine GL.stepG (tj := 31) rfl rfl (Ex.wp (v := (.bool false)) (Ex.cast (Ex.neq rfl rfl) rfl) (by decide)) (fun _ _ => ?_)
 refine GL.val (v := (.bool false)) (Ex.pickF rfl rfl) (by decide) ?_
 refine GL.val (Ex.move rfl) (by decide) ?_
 refine GL.stepG (tj := 35) rfl rfl (Ex.wp (v := (.int .u32 1065353216)) (Ex.move rfl) (by decide)) (fun _ _ => ?_)
 refine GL.stepG (tj := 35) rfl rfl (Ex.wp (v := (.bool false)) (Ex.cast (Ex.neq rfl rfl) rfl) (by decide)) (fun _ _ => ?_)
 refine GL.val (v := (.bool false)) (Ex.pickF rfl rfl) (by decide) ?_
 refine GL.val (Ex.move rfl) (by decide) ?_
 refine GL.stepG (tj := 39) rfl rfl (Ex.wp (v := (.int .u32 1073741824)) (Ex.move rfl) (by decide)) (fun _ _ => ?_)
 refine GL.stepG (tj := 39) rfl rfl (Ex.wp (v := (.bool false)) (Ex.cast (Ex.neq rfl rfl) rfl) (by decide)) (fun _ _ => ?_)
 refine GL.val (v := (.bool false)) (Ex.pickF rfl rfl) (by decide) ?_
 refine GL.val (Ex.move rfl) (by decide) ?_
 refine GL.stepG (tj := 43) rfl rfl (Ex.wp (v := (.int .u32 1082130432)) (Ex.move rfl) (by decide)) (fun _ _ => ?_)
 refine GL.stepG (tj := 43) rfl rfl (Ex.wp (v := (.bool false)) (Ex.cast (Ex.neq rfl rfl) rfl) (by decide)) (fun _ _ => ?_)
 refine GL.val (v := (.bool false)) (Ex.pickF rfl rfl) (by decide) ?_
 refine GL.nil ?_
 refine GE.thenN ?_
 refine GC.cond rfl (fun hq5 => by cases hq5) (fun _ => ?_)
 refine GC.skip ?_
 refine GE.thenN ?_
 refine GC.seq ?_
 refine GC.seq ?_
 refine GC.region ?_
 refine GL.step (Stp.callR (vs := [(.int .u32 1090519040)]) rfl rfl T.own18 (by decide) (fun wc hw => k18_27  wc )) (fun xq6 hq7 => ?_)
 refine GL.val (v := (.bool false)) (Ex.cast (Ex.neq rfl rfl) rfl) (by decide) ?_
 refine GL.val (Ex.move rfl) (by decide) ?_
 refine GL.stepG (tj := 49) rfl rfl (Stp.callR (vs := [(.int .u32 3212836864)]) rfl rfl T.own18 (by decide) (fun wc hw => k18_32  wc )) (fun xq8 hq9 => ?_)
 refine GL.stepG (tj := 49) rfl rfl (Ex.wp (v := (.bool false)) (Ex.cast (Ex.neq rfl rfl) rfl) (by decide)) (fun _ _ => ?_)
 refine GL.val (v := (.bool false)) (Ex.pickF rfl rfl) (by decide) ?_
 refine GL.val (Ex.move rfl) (by decide) ?_
 refine GL.stepG (tj := 53) rfl rfl (Stp.callR (vs := [(.int .u32 2147483648)]) rfl rfl T.own18 (by decide) (fun wc hw => k18_34  wc )) (fun xq10 hq11 => ?_)
 refine GL.stepG (tj := 53) rfl rfl (Ex.wp (v := (.bool false)) (Ex.cast (Ex.neq rfl rfl) rfl) (by decide)) (fun _ _ => ?_)
 refine GL.val (v := (.bool false)) (Ex.pickF rfl rfl) (by decide) ?_
 refine GL.val (Ex.move rfl) (by decide) ?_
 refine GL.stepG (tj := 57) rfl rfl (Stp.callR (vs := [(.int .u32 1056964608)]) rfl rfl T.own20 (by decide) (fun wc hw => k20_36  wc )) (fun xq12 hq13 => ?_)
 refine GL.stepG (tj := 57) rfl rfl (Ex.wp (v := (.bool false)) (Ex.cast (Ex.neq rfl rfl) rfl) (by decide)) (fun _ _ => ?_)
 refine GL.val (v := (.bool false)) (Ex.pickF rfl rfl) (by decide) ?_
 refine GL.val (Ex.move rfl) (by decide) ?_
 refine GL.stepG (tj := 61) rfl rfl (Stp.callR (vs := [(.int .u32 1124073472)]) rfl rfl T.own20 (by decide) (fun wc hw => k20_38  wc )) (fun xq14 hq15 => ?_)
 refine GL.stepG (tj := 61) rfl rfl (Ex.wp (v := (.bool false)) (Ex.cast (Ex.neq rfl rfl) rfl) (by decide)) (fun _ _ => ?_)
 refine GL.val (v := (.bool false)) (Ex.pickF rfl rfl) (by decide) ?_
 refine GL.val (Ex.move rfl) (by decide) ?_
 refine GL.stepG (tj := 65) rfl rfl (Stp.callR (vs := [(.int .u32 2139095039)]) rfl rfl T.own18 (by decide) (fun wc hw => k18_40  wc )) (fun xq16 hq17 => ?_)
 refine GL.stepG (tj := 65) rfl rfl (Ex.wp (v := (.bool false)) (Ex.cast (Ex.neq rfl rfl) rfl) (by decide)) (fun _ _ => ?_)
 refine GL.val (v := (.bool false)) (Ex.pickF rfl rfl) (by decide) ?_
 refine GL.nil ?_
 refine GE.thenN ?_
 refine GC.cond rfl (fun hq18 => by cases hq18) (fun _ => ?_)
 refine GC.skip ?_
 refine GE.thenN ?_
 refine GC.seq ?_
 refine GC.region ?_
 refine GL.step (Stp.callR (vs := [(.int .u32 3), (.int .u32 2), (.int .u32 0)]) rfl rfl T.own22 (by decide) (fun wc hw => k22_45  wc )) (fun xq19 hq20 => ?_)
 refine GL.val (Ex.move rfl) (by decide) ?_
 refine GL.val (Ex.extract rfl rfl) (by decide) ?_
 refine GL.val (Ex.extract rfl rfl) (by decide) ?_
 refine GL.val (Ex.extract rfl rfl) (by decide) ?_
 refine GL.val (Ex.assign rfl) (by decide) ?_
 refine GL.val (Ex.assign rfl) (by decide) ?_
 refine GL.val (Ex.assign rfl) (by decide) ?_
 refine GL.nil ?_
 refine GE.thenN ?_
 refine GC.seq ?_
 refine GC.region ?_
 refine GL.step (Stp.callR (vs := [(.int .u32 1), (.int .u32 1), (.int .u32 3)]) rfl rfl T.own24 (by decide) (fun wc hw => k24_53  wc )) (fun xq21 hq22 => ?_)
 refine GL.val (Ex.move rfl) (by decide) ?_
 refine GL.val (Ex.extract rfl rfl) (by decide) ?_
 refine GL.val (Ex.extract rfl rfl) (by decide) ?_
 refine GL.val (Ex.extract rfl rfl) (by decide) ?_
 refine GL.val (Ex.assign rfl) (by decide) ?_
 refine GL.val (Ex.assign rfl) (by decide) ?_
 refine GL.val (Ex.assign rfl) (by decide) ?_
 refine GL.nil ?_
 refine GE.thenN ?_
 refine GC.seq ?_
 refine GC.seq ?_
 refine GC.region ?_
 refine GL.val (Ex.move rfl) (by decide) ?_
 refine GL.val (v := (.bool false)) (Ex.cast (Ex.neq rfl rfl) rfl) (by decide) ?_
 refine GL.val (Ex.move rfl) (by decide) ?_
 refine GL.stepG (tj := 81) rfl rfl (Ex.wp (v := (.int .u32 1)) (Ex.move rfl) (by decide)) (fun _ _ => ?_)
 refine GL.stepG (tj := 81) rfl rfl (Ex.wp (v := (.bool false)) (Ex.cast (Ex.neq rfl rfl) rfl) (by decide)) (fun _ _ => ?_)
 refine GL.val (v := (.bool false)) (Ex.pickF rfl rfl) (by decide) ?_
 refine GL.val (Ex.move rfl) (by decide) ?_
 refine GL.stepG (tj := 85) rfl rfl (Ex.wp (v := (.int .u32 3)) (Ex.move rfl) (by decide)) (fun _ _ => ?_)
 refine GL.stepG (tj := 85) rfl rfl (Ex.wp (v := (.bool false)) (Ex.cast (Ex.neq rfl rfl) rfl) (by decide)) (fun _ _ => ?_)
 refine GL.val (v := (.bool false)) (Ex.pickF rfl rfl) (by decide) ?_
 refine GL.val (Ex.move rfl) (by decide) ?_
 refine GL.stepG (tj := 89) rfl rfl (Ex.wp (v := (.int .u32 3)) (Ex.move rfl) (by decide)) (fun _ _ => ?_)
 refine GL.stepG (tj := 89) rfl rfl (Ex.wp (v := (.bool false)) (Ex.cast (Ex.neq rfl rfl) rfl) (by decide)) (fun _ _ => ?_)
 refine GL.val (v := (.bool false)) (Ex.pickF rfl rfl) (by decide) ?_
 refine GL.val (Ex.move rfl) (by decide) ?_
 refine GL.stepG (tj := 93) rfl rfl (Ex.wp (v := (.int .u32 2)) (Ex.move rfl) (by decide)) (fun _ _ => ?_)
 refine GL.stepG (tj := 93) rfl rfl (Ex.wp (v := (.bool false)) (Ex.cast (Ex.neq rfl rfl) rfl) (by decide)) (fun _ _ => ?_)
 refine GL.val (v := (.bool false)) (Ex.pickF rfl rfl) (by decide) ?_
 refine GL.val (Ex.move rfl) (by decide) ?_
 refine GL.stepG (tj := 97) rfl rfl (Ex.wp (v := (.int .u32 0)) (Ex.move rfl) (by decide)) (fun _ _ => ?_)
 refine GL.stepG (tj := 97) rfl rfl (Ex.wp (v := (.bool false)) (Ex.cast (Ex.neq rfl rfl) rfl) (by decide)) (fun _ _ => ?_)
 refine GL.val (v := (.bool false)) (Ex.pickF rfl rfl) (by decide) ?_
 refine GL.nil ?_
 refine GE.thenN ?_
 refine GC.cond rfl (fun hq23 => by cases hq23) (fun _ => ?_)
 refine GC.skip ?_
 refine GE.thenN ?_
 refine GC.seq ?_
 refine GC.region ?_
 refine GL.step (Stp.callR (vs := [(.int .i64 1), (.int .i64 2), (.int .u32 1065353216), (.int .u32 1073741824), (.int .u32 1082130432)]) rfl rfl T.own26 (by decide) (fun wc hw => k26_57  wc )) (fun xq24 hq25 => ?_)
 refine GL.val (Ex.move rfl) (by decide) ?_
 refine GL.val (Ex.extract rfl rfl) (by decide) ?_
 refine GL.val (Ex.extract rfl rfl) (by decide) ?_
 refine GL.val (Ex.extract rfl rfl) (by decide) ?_
 refine GL.val (Ex.extract rfl rfl) (by decide) ?_
 refine GL.val (Ex.assign rfl) (by decide) ?_
 refine GL.val (Ex.assign rfl) (by decide) ?_
 refine GL.val (Ex.assign rfl) (by decide) ?_
 refine GL.val (Ex.assign rfl) (by decide) ?_
 refine GL.nil ?_
 refine GE.thenN ?_
 refine GC.seq ?_
 refine GC.region ?_
 refine GL.step (Stp.callR (vs := [(.int .i64 0), (.int .i64 1), (.int .u32 0), (.int .u32 0), (.int .u32 0)]) rfl rfl T.own26 (by decide) (fun wc hw => k26_66  wc )) (fun xq26 hq27 => ?_)
 refine GL.val (Ex.move rfl) (by decide) ?_
 refine GL.val (Ex.extract rfl rfl) (by decide) ?_
 refine GL.val (Ex.extract rfl rfl) (by decide) ?_
 refine GL.val (Ex.extract rfl rfl) (by decide) ?_
 refine GL.val (Ex.extract rfl rfl) (by decide) ?_
 refine GL.val (Ex.assign rfl) (by decide) ?_
 refine GL.val (Ex.assign rfl) (by decide) ?_
 refine GL.val (Ex.assign rfl) (by decide) ?_
 refine GL.val (Ex.assign rfl) (by decide) ?_
 refine GL.nil ?_
 refine GE.thenN ?_
 refine GC.seq ?_
 refine GC.region ?_
 refine GL.val (Ex.move rfl) (by decide) ?_
 refine GL.val (v := (.bool true)) (Ex.cast (Ex.eql rfl rfl) rfl) (by decide) ?_
 refine GL.val (Ex.move rfl) (by decide) ?_
 refine GL.stepG (tj := 115) rfl rfl (Ex.wp (v := (.int .u32 3196059648)) (Ex.move rfl) (by decide)) (fun _ _ => ?_)
 refine GL.stepG (tj := 115) rfl rfl (Ex.wp (v := (.bool true)) (Ex.cast (Ex.eql rfl rfl) rfl) (by decide)) (fun _ _ => ?_)
 refine GL.val (v := (.bool true)) (Ex.pickT rfl rfl) (by decide) ?_
 refine GL.val (Ex.move rfl) (by decide) ?_
 refine GL.stepG (tj := 119) rfl rfl (Ex.wp (v := (.int .u32 3217031168)) (Ex.move rfl) (by decide)) (fun _ _ => ?_)
 refine GL.stepG (tj := 119) rfl rfl (Ex.wp (v := (.bool true)) (Ex.cast (Ex.eql rfl rfl) rfl) (by decide)) (fun _ _ => ?_)
 refine GL.val (v := (.bool true)) (Ex.pickT rfl rfl) (by decide) ?_
 refine GL.val (Ex.move rfl) (by decide) ?_
 refine GL.stepG (tj := 123) rfl rfl (Ex.wp (v := (.int .i64 0)) (Ex.move rfl) (by decide)) (fun _ _ => ?_)
 refine GL.stepG (tj := 123) rfl rfl (Ex.wp (v := (.bool true)) (Ex.cast (Ex.eql rfl rfl) rfl) (by decide)) (fun _ _ => ?_)
 refine GL.val (v := (.bool true)) (Ex.pickT rfl rfl) (by decide) ?_
 refine GL.val (Ex.move rfl) (by decide) ?_
 refine GL.stepG (tj := 127) rfl rfl (Ex.wp (v := (.int .i64 70)) (Ex.move rfl) (by decide)) (fun _ _ => ?_)
 refine GL.stepG (tj := 127) rfl rfl (Ex.wp (v := (.bool true)) (Ex.cast (Ex.eql rfl rfl) rfl) (by decide)) (fun _ _ => ?_)
 refine GL.val (v := (.bool true)) (Ex.pickT rfl rfl) (by decide) ?_
 refine GL.val (Ex.assign rfl) (by decide) ?_
 refine GL.nil ?_
 refine GE.thenN ?_
 refine GC.ret ?_
 refine GC.ret1 rfl (Rv.tmp rfl) (fun wN HN => ?_)
 exact HN.ret () trivial (by first | rfl | simp) (List.nil_sublist _) rfl

set_option maxRecDepth 100000 in
set_option maxHeartbeats 1000000 in
theorem j82_1 (w : World) :
  Calls Try.prog 82 #[(.agg #[(.int .i64 23), (.int .i64 8)])] w (Ret w (fun _ : Unit => True) (fun rz => (.int .u64 255)) (fun rz => [])) := by
 refine enter (M := None) (L := []) (n := 7) (l := [(0, (.agg #[(.int .i64 23), (.int .i64 8)]))]) Try.func82 rfl rfl (Args.cons rfl (Args.nil _)) (Hp.start _ _) ?_
 refine GC.seq ?_
 refine GC.region ?_
 refine GL.step (Stp.box (cs := [(.int .i64 23), (.int .i64 8)]) rfl rfl (by decide)) (fun bq1 _ => ?_)
 refine GL.val (Ex.assign rfl) (by decide) ?_
 refine GL.nil ?_
 refine GE.thenN ?_
 refine GC.seq ?_
 refine GC.region ?_
 refine GL.val (v := (.pointer (some ⟨bq1, 1, none⟩))) (Ex.cast (Ex.fieldAddr rfl Try.underlying67 rfl T.sz3 (by decide)) rfl) (by decide) ?_
 refine GL.val (Ex.load rfl T.ag3 (i := 0) rfl rfl) (by decide) ?_
 refine GL.val (v := (.int .u64 256)) (Ex.shl rfl (m := 8) rfl (by decide) (Z := 256) (by decide)) (by decide) ?_
 refine GL.val (v := (.int .u64 255)) (Ex.sub' rfl rfl (Z := 255) (by decide)) (by decide) ?_
 refine GL.val (Ex.assign rfl) (by decide) ?_
 refine GL.nil ?_
 refine GE.thenN ?_
 refine GC.ret ?_
 refine GC.ret1 rfl (Rv.tmp rfl) (fun wN HN => ?_)
 exact HN.ret () trivial rfl (ulS ulN) rfl

set_option maxRecDepth 100000 in
set_option maxHeartbeats 1000000 in
theorem j83_2 (w : World) :
  Calls Try.prog 83 #[(.agg #[(.int .i64 23), (.int .i64 8)])] w (Ret w (fun _ : Unit => True) (fun rz => (.int .i64 150)) (fun rz => [])) := by
 refine enter (M := None) (L := []) (n := 11) (l := [(0, (.agg #[(.int .i64 23), (.int .i64 8)]))]) Try.func83 rfl rfl (Args.cons rfl (Args.nil _)) (Hp.start _ _) ?_
 refine GC.seq ?_
 refine GC.region ?_
 refine GL.step (Stp.box (cs := [(.int .i64 23), (.int .i64 8)]) rfl rfl (by decide)) (fun bq1 _ => ?_)
 refine GL.val (Ex.assign rfl) (by decide) ?_
 refine GL.nil ?_
 refine GE.thenN ?_
 refine GC.seq ?_
 refine GC.drawP [⟨bq1, [(.int .i64 23), (.int .i64 8)], 67, true⟩] T.mixed (by kernel_rfl) (by kernel_rfl) (fuel := 8) rfl rfl ?_
 refine GH.take 0 (v := (.pointer (some ⟨bq1, 1, none⟩))) rfl (by kernel_rfl) (by kernel_rfl) (by kernel_rfl) (fun _ _ _ h => h) (Ex.cast (Ex.fieldAddr rfl Try.underlying67 rfl T.sz3 (by decide)) rfl) (ulC ulN) (by decide) ?_
 refine GH.take 1 (v := (.int .i64 8)) rfl (by kernel_rfl) (by kernel_rfl) (by kernel_rfl) (fun _ _ _ h => h) (Ex.load rfl T.ag3 (i := 0) rfl rfl) (ulC ulN) (by decide) ?_
 refine GH.take 2 (v := (.int .i64 7)) rfl (by kernel_rfl) (by kernel_rfl) (by kernel_rfl) (fun _ _ _ h => h) (Ex.sub' rfl rfl (Z := 7) (by decide)) (ulC ulN) (by decide) ?_
 refine GH.take 3 (v := (.int .i64 128)) rfl (by kernel_rfl) (by kernel_rfl) (by kernel_rfl) (fun _ _ _ h => h) (Ex.shl rfl (m := 7) rfl (by decide) (Z := 128) (by decide)) (ulC ulN) (by decide) ?_
 refine GH.take 4 (v := (.int .i64 127)) rfl (by kernel_rfl) (by kernel_rfl) (by kernel_rfl) (fun _ _ _ h => h) (Ex.sub' rfl rfl (Z := 127) (by decide)) (ulC ulN) (by decide) ?_
 refine GH.take 5 (v := (.pointer (some ⟨bq1, 0, none⟩))) rfl (by kernel_rfl) (by kernel_rfl) (by kernel_rfl) (fun _ _ _ h => h) (Ex.cast (Ex.fieldAddr rfl Try.underlying67 rfl T.sz3 (by decide)) rfl) (ulC ulN) (by decide) ?_
 refine GH.take 6 (v := (.int .i64 23)) rfl (by kernel_rfl) (by kernel_rfl) (by kernel_rfl) (fun _ _ _ h => h) (Ex.load rfl T.ag3 (i := 0) rfl rfl) (ulC ulN) (by decide) ?_
 refine GH.take 7 (v := (.int .i64 150)) rfl (by kernel_rfl) (by kernel_rfl) (by kernel_rfl) (fun _ _ _ h => h) (Ex.add rfl rfl (Z := 150) (by decide)) (ulC ulN) (by decide) ?_
 refine GH.done (by kernel_rfl) ?_
 refine GE.thenN ?_
 refine GE.tail rfl (Ex.wp (v := (.int .i64 150)) (Ex.assign rfl) (by decide)) (fun _ _ => ?_)
 refine GE.thenN ?_
 refine GC.ret ?_
 refine GC.ret1 rfl (Rv.tmp rfl) (fun wN HN => ?_)
 exact HN.ret () trivial rfl (ulS ulN) rfl

set_option maxRecDepth 100000 in
set_option maxHeartbeats 1000000 in
theorem j58_3 (w : World) :
  Calls Try.prog 58 #[] w (Ret w (fun _ : Unit => True) (fun rz => (.agg #[(.int .i64 23), (.int .i64 8)])) (fun rz => [])) := by
 refine enter (M := None) (L := []) (n := 2) (l := []) Try.func58 rfl rfl (Args.nil _) (Hp.start _ _) ?_
 refine GC.seq ?_
 refine GC.region ?_
 refine GL.step (Stp.alloc T.zr67 (by decide)) (fun bq1 _ => ?_)
 refine GL.nil ?_
 refine GE.thenN ?_
 refine GC.seq ?_
 refine GC.region ?_
 refine GL.val (v := (.agg #[(.int .i64 23), (.int .i64 8)])) (Ex.build (vs := [(0, (.int .i64 23)), (1, (.int .i64 8))]) rfl (by first | rfl | kernel_rfl)) (by decide) ?_
 refine GL.step (Stp.st0 (cs' := [(.int .i64 23), (.int .i64 8)]) rfl rfl rfl T.sz67 rfl rfl rfl) (fun _ _ => ?_)
 refine GL.nil ?_
 refine GE.thenN ?_
 refine GC.ret ?_
 refine GC.ret1 rfl (Rv.cellA rfl T.ag67 T.sz67 (L := _) (i := 0) rfl (vs := [(.int .i64 23), (.int .i64 8)]) rfl rfl) (fun wN HN => ?_)
 exact HN.ret () trivial rfl (ulS ulN) rfl

set_option maxRecDepth 100000 in
set_option maxHeartbeats 1000000 in
theorem value_p (a : Int) (w : World) :
  Calls Try.prog 39 #[(.int .u32 a)] w (Ret w (fun z : Nat => Fv.Is .f64 z (Fv.V a)) (fun z => .float .f64 z) (fun _ => [])) := by
 refine enter (M := None) (L := []) (n := 6) (l := [(0, (.int .u32 a))]) Try.func39 rfl rfl (Args.cons rfl (Args.nil _)) (Hp.start _ _) ?_
 refine GC.seq ?_
 refine GC.region ?_
 refine GL.val (Ex.assign rfl) (by decide) ?_
 refine GL.nil ?_
 refine GE.thenN ?_
 refine GC.seq ?_
 refine GC.region ?_
 refine GL.val (Ex.move rfl) (by decide) ?_
 refine GL.val (v := (.float .f32 a.toNat)) (Ex.ext (vs := [(.int .u32 a)]) rfl rfl T.ext69 (fun _ => rfl)) (by decide) ?_
 refine GL.step (Stp.fcv (fx := (Fv.rd .f32 a.toNat)) (by decide) rfl Try.underlying76 Try.underlying50 (Fv.Is.rd _ _) Fv.holds_up (by decide)) (fun xq1 hq2 => ?_)
 refine GL.val (Ex.assign rfl) (by decide) ?_
 refine GL.nil ?_
 refine GE.thenN ?_
 refine GC.ret ?_
 refine GC.ret1 rfl (Rv.tmp rfl) (fun wN HN => ?_)
 exact HN.ret xq1 hq2.1 rfl (List.nil_sublist _) rfl

set_option maxRecDepth 100000 in
set_option maxHeartbeats 1000000 in
theorem told_a (z : Nat) (fx : Option Nat) (w : World) (hz : Fv.Is .f32 z fx) :
  Calls Try.prog 84 #[(.float .f32 z)] w (Ret w (fun _ : Unit => True) (fun _ => (.int .u32 ((Fv.T32 fx)))) (fun _ => [])) := by
 refine enter (M := None) (L := []) (n := 8) (l := [(0, (.float .f32 z))]) Try.func84 rfl rfl (Args.cons rfl (Args.nil _)) (Hp.start _ _) ?_
 refine GC.seq ?_
 refine GC.region ?_
 refine GL.val (Ex.assign rfl) (by decide) ?_
 refine GL.nil ?_
 refine GE.thenN ?_
 refine GC.seq ?_
 refine GC.seq ?_
 refine GC.region ?_
 refine GL.val (Ex.move rfl) (by decide) ?_
 refine GL.val (Ex.move rfl) (by decide) ?_
 refine GL.val (v := (.bool fx.isNone)) (Ex.fneq (r := fx.isNone) rfl rfl (Eq.trans (congrArg (fun o : Option Ordering => (o != some .eq)) (Fv.ord_eq hz hz)) (Fv.neq_self hz))) (by decide) ?_
 refine GL.nil ?_
 refine GE.thenN ?_
 refine GC.cond rfl (fun hq1 => ?_) (fun hq1 => ?_)
 ·refine GC.seq ?_
  refine GC.region ?_
  refine GL.val (Ex.assign rfl) (by decide) ?_
  refine GL.nil ?_
  refine GE.thenN ?_
  refine GC.ret ?_
  refine GE.thenR ?_
  refine GC.ret1 rfl (Rv.tmp rfl) (fun wN HN => ?_)
  exact HN.ret () trivial (by rw [Fv.T32_none hq1]) (List.nil_sublist _) rfl
 ·refine GC.skip ?_
  refine GE.thenN ?_
  refine GC.seq ?_
  refine GC.region ?_
  refine GL.val (Ex.move rfl) (by decide) ?_
  refine GL.val (v := (.int .u32 (((z : Nat) : Int)))) (Ex.ext (vs := [(.float .f32 z)]) rfl rfl T.ext92 (fun _ => rfl)) (by decide) ?_
  refine GL.val (Ex.assign rfl) (by decide) ?_
  refine GL.nil ?_
  refine GE.thenN ?_
  refine GC.ret ?_
  refine GC.ret1 rfl (Rv.tmp rfl) (fun wN HN => ?_)
  exact HN.ret () trivial (by rw [Fv.T32_some hz hq1]) (List.nil_sublist _) rfl

set_option maxRecDepth 100000 in
set_option maxHeartbeats 1000000 in
theorem narrow_p (z : Nat) (fx : Option Nat) (w : World) (hz : Fv.Is .f64 z fx) (hH : Fv.Holds .f64 .f32 fx) :
  Calls Try.prog 70 #[(.int .u64 (((z : Nat) : Int)))] w (Ret w (fun _ : Unit => True) (fun _ => (.int .u32 ((Fv.T fx)))) (fun _ => [])) := by
 refine enter (M := None) (L := []) (n := 7) (l := [(0, (.int .u64 (((z : Nat) : Int))))]) Try.func70 rfl rfl (Args.cons rfl (Args.nil _)) (Hp.start _ _) ?_
 refine GC.seq ?_
 refine GC.region ?_
 refine GL.val (Ex.assign rfl) (by decide) ?_
 refine GL.nil ?_
 refine GE.thenN ?_
 refine GC.seq ?_
 refine GC.region ?_
 refine GL.val (Ex.move rfl) (by decide) ?_
 refine GL.val (v := (.float .f64 z)) (Ex.ext (vs := [(.int .u64 (((z : Nat) : Int)))]) rfl rfl T.ext85 (fun _ => rfl)) (by decide) ?_
 refine GL.step (Stp.fcv (fx := fx) (by decide) rfl Try.underlying50 Try.underlying76 hz hH (by decide)) (fun xq1 hq2 => ?_)
 refine GL.step (Stp.callR (vs := [(.float .f32 xq1)]) rfl rfl T.own84 (by decide) (fun wc hw => told_a xq1 (Fv.cv .f64 .f32 fx) wc hq2.1)) (fun xq3 hq4 => ?_)
 refine GL.val (Ex.assign rfl) (by decide) ?_
 refine GL.nil ?_
 refine GE.thenN ?_
 refine GC.ret ?_
 refine GC.ret1 rfl (Rv.tmp rfl) (fun wN HN => ?_)
 exact HN.ret () trivial (by rfl) (List.nil_sublist _) rfl

set_option maxRecDepth 100000 in
set_option maxHeartbeats 1000000 in
theorem told_p (z : Nat) (fx : Option Nat) (w : World) (hz : Fv.Is .f64 z fx) (hH : Fv.Holds .f64 .f32 fx) :
  Calls Try.prog 40 #[(.float .f64 z)] w (Ret w (fun _ : Unit => True) (fun _ => (.int .u32 ((Fv.T fx)))) (fun _ => [])) := by
 refine enter (M := None) (L := []) (n := 6) (l := [(0, (.float .f64 z))]) Try.func40 rfl rfl (Args.cons rfl (Args.nil _)) (Hp.start _ _) ?_
 refine GC.seq ?_
 refine GC.region ?_
 refine GL.val (Ex.assign rfl) (by decide) ?_
 refine GL.nil ?_
 refine GE.thenN ?_
 refine GC.seq ?_
 refine GC.region ?_
 refine GL.val (Ex.move rfl) (by decide) ?_
 refine GL.val (v := (.int .u64 (((z : Nat) : Int)))) (Ex.ext (vs := [(.float .f64 z)]) rfl rfl T.ext71 (fun _ => rfl)) (by decide) ?_
 refine GL.step (Stp.callR (vs := [(.int .u64 (((z : Nat) : Int)))]) rfl rfl T.own70 (by decide) (fun wc hw => narrow_p z fx wc hz hH)) (fun xq1 hq2 => ?_)
 refine GL.val (Ex.assign rfl) (by decide) ?_
 refine GL.nil ?_
 refine GE.thenN ?_
 refine GC.ret ?_
 refine GC.ret1 rfl (Rv.tmp rfl) (fun wN HN => ?_)
 exact HN.ret () trivial (by rfl) (List.nil_sublist _) rfl

set_option maxRecDepth 100000 in
set_option maxHeartbeats 1000000 in
theorem toycc_p (r g b : Int) (w : World) (hY : Fv.Holds .f64 .f32 (Sl.yy r g b)) (hG : Fv.Holds .f64 .f32 (Sl.yg r g b)) (hO : Fv.Holds .f64 .f32 (Sl.yo r g b)) :
  Calls Try.prog 14 #[(.int .u32 r), (.int .u32 g), (.int .u32 b)] w (Ret w (fun _ : Unit => True) (fun _ => (.tuple #[(.int .u32 ((Fv.T (Sl.yy r g b)))), (.int .u32 ((Fv.T (Sl.yg r g b)))), (.int .u32 ((Fv.T (Sl.yo r g b))))])) (fun _ => [])) := by
 refine enter (M := None) (L := []) (n := 36) (l := [(0, (.int .u32 r)), (1, (.int .u32 g)), (2, (.int .u32 b))]) Try.func14 rfl rfl (Args.cons rfl (Args.cons rfl (Args.cons rfl (Args.nil _)))) (Hp.start _ _) ?_
 refine GC.seq ?_
 refine GC.region ?_
 refine GL.val (Ex.assign rfl) (by decide) ?_
 refine GL.val (Ex.assign rfl) (by decide) ?_
 refine GL.val (Ex.assign rfl) (by decide) ?_
 refine GL.nil ?_
 refine GE.thenN ?_
 refine GC.seq ?_
 refine GC.region ?_
 refine GL.val (Ex.move rfl) (by decide) ?_
 refine GL.step (Stp.callR (vs := [(.int .u32 r)]) rfl rfl T.own39 (by decide) (fun wc hw => value_p r wc)) (fun xq1 hq2 => ?_)
 refine GL.val (Ex.move rfl) (by decide) ?_
 refine GL.step (Stp.callR (vs := [(.int .u32 b)]) rfl rfl T.own39 (by decide) (fun wc hw => value_p b wc)) (fun xq3 hq4 => ?_)
 refine GL.step (Stp.fop (fx := (Fv.V r)) (fy := (Fv.V b)) rfl rfl rfl hq2 hq4 (by decide)) (fun xq5 hq6 => ?_)
 refine GL.val (Ex.move rfl) (by decide) ?_
 refine GL.step (Stp.callR (vs := [(.int .u32 g)]) rfl rfl T.own39 (by decide) (fun wc hw => value_p g wc)) (fun xq7 hq8 => ?_)
 refine GL.step (Stp.fop (fx := (Fv.V g)) (fy := (some 4611686018427387904)) rfl rfl rfl hq8 (show Fv.Is .f64 4611686018427387904 (some 4611686018427387904) from ⟨rfl, by decide +kernel⟩) (by decide)) (fun xq9 hq10 => ?_)
 refine GL.val (Ex.assign rfl) (by decide) ?_
 refine GL.val (Ex.assign rfl) (by decide) ?_
 refine GL.nil ?_
 refine GE.thenN ?_
 refine GC.seq ?_
 refine GC.region ?_
 refine GL.val (Ex.move rfl) (by decide) ?_
 refine GL.val (Ex.move rfl) (by decide) ?_
 refine GL.step (Stp.fop (fx := (Fv.op .add .f64 (Fv.V r) (Fv.V b))) (fy := (Fv.op .mul .f64 (Fv.V g) (some 4611686018427387904))) rfl rfl rfl hq6 hq10 (by decide)) (fun xq11 hq12 => ?_)
 refine GL.step (Stp.fop (fx := (Fv.op .add .f64 (Fv.op .add .f64 (Fv.V r) (Fv.V b)) (Fv.op .mul .f64 (Fv.V g) (some 4611686018427387904)))) (fy := (some 4616189618054758400)) rfl rfl rfl hq12 (show Fv.Is .f64 4616189618054758400 (some 4616189618054758400) from ⟨rfl, by decide +kernel⟩) (by decide)) (fun xq13 hq14 => ?_)
 refine GL.step (Stp.callR (vs := [(.float .f64 xq13)]) rfl rfl T.own40 (by decide) (fun wc hw => told_p xq13 (Fv.op .quo .f64 (Fv.op .add .f64 (Fv.op .add .f64 (Fv.V r) (Fv.V b)) (Fv.op .mul .f64 (Fv.V g) (some 4611686018427387904))) (some 4616189618054758400)) wc hq14 hY)) (fun xq15 hq16 => ?_)
 refine GL.val (Ex.move rfl) (by decide) ?_
 refine GL.val (Ex.move rfl) (by decide) ?_
 refine GL.step (Stp.fop (fx := (Fv.op .mul .f64 (Fv.V g) (some 4611686018427387904))) (fy := (Fv.op .add .f64 (Fv.V r) (Fv.V b))) rfl rfl rfl hq10 hq6 (by decide)) (fun xq17 hq18 => ?_)
 refine GL.step (Stp.fop (fx := (Fv.op .sub .f64 (Fv.op .mul .f64 (Fv.V g) (some 4611686018427387904)) (Fv.op .add .f64 (Fv.V r) (Fv.V b)))) (fy := (some 4616189618054758400)) rfl rfl rfl hq18 (show Fv.Is .f64 4616189618054758400 (some 4616189618054758400) from ⟨rfl, by decide +kernel⟩) (by decide)) (fun xq19 hq20 => ?_)
 refine GL.step (Stp.callR (vs := [(.float .f64 xq19)]) rfl rfl T.own40 (by decide) (fun wc hw => told_p xq19 (Fv.op .quo .f64 (Fv.op .sub .f64 (Fv.op .mul .f64 (Fv.V g) (some 4611686018427387904)) (Fv.op .add .f64 (Fv.V r) (Fv.V b))) (some 4616189618054758400)) wc hq20 hG)) (fun xq21 hq22 => ?_)
 refine GL.val (Ex.move rfl) (by decide) ?_
 refine GL.step (Stp.callR (vs := [(.int .u32 r)]) rfl rfl T.own39 (by decide) (fun wc hw => value_p r wc)) (fun xq23 hq24 => ?_)
 refine GL.val (Ex.move rfl) (by decide) ?_
 refine GL.step (Stp.callR (vs := [(.int .u32 b)]) rfl rfl T.own39 (by decide) (fun wc hw => value_p b wc)) (fun xq25 hq26 => ?_)
 refine GL.step (Stp.fop (fx := (Fv.V r)) (fy := (Fv.V b)) rfl rfl rfl hq24 hq26 (by decide)) (fun xq27 hq28 => ?_)
 refine GL.step (Stp.fop (fx := (Fv.op .sub .f64 (Fv.V r) (Fv.V b))) (fy := (some 4611686018427387904)) rfl rfl rfl hq28 (show Fv.Is .f64 4611686018427387904 (some 4611686018427387904) from ⟨rfl, by decide +kernel⟩) (by decide)) (fun xq29 hq30 => ?_)
 refine GL.step (Stp.callR (vs := [(.float .f64 xq29)]) rfl rfl T.own40 (by decide) (fun wc hw => told_p xq29 (Fv.op .quo .f64 (Fv.op .sub .f64 (Fv.V r) (Fv.V b)) (some 4611686018427387904)) wc hq30 hO)) (fun xq31 hq32 => ?_)
 refine GL.val (Ex.assign rfl) (by decide) ?_
 refine GL.val (Ex.assign rfl) (by decide) ?_
 refine GL.val (Ex.assign rfl) (by decide) ?_
 refine GL.nil ?_
 refine GE.thenN ?_
 refine GC.ret ?_
 refine GC.ret3 rfl (Rv.tmp rfl) (Rv.tmp rfl) (Rv.tmp rfl) (fun wN HN => ?_)
 exact HN.ret () trivial (by rfl) (List.nil_sublist _) rfl

set_option maxRecDepth 100000 in
set_option maxHeartbeats 1000000 in
theorem finite_l (a : Int) (w : World) (ha : 0 ≤ a ∧ a < 4294967296) :
  Calls Try.prog 28 #[(.int .u32 a)] w (Ret w (fun _ : Unit => True) (fun _ => (.bool (decide (a % 2147483648 < 2139095040)))) (fun _ => [])) := by
 refine enter (M := None) (L := []) (n := 6) (l := [(0, (.int .u32 a))]) Try.func28 rfl rfl (Args.cons rfl (Args.nil _)) (Hp.start _ _) ?_
 refine GC.seq ?_
 refine GC.region ?_
 refine GL.val (Ex.assign rfl) (by decide) ?_
 refine GL.nil ?_
 refine GE.thenN ?_
 refine GC.seq ?_
 refine GC.region ?_
 refine GL.val (Ex.move rfl) (by decide) ?_
 refine GL.val (v := (.int .u32 (a % 2147483648))) (Ex.bits rfl rfl (by simp) (Z := a % 2147483648) (andm 31 (by omega) (by omega) (by decide) rfl rfl)) (by decide) ?_
 refine GL.val (v := (.bool (decide ((a % 2147483648) < 2139095040)))) (Ex.lss rfl rfl) (by decide) ?_
 refine GL.val (Ex.assign rfl) (by decide) ?_
 refine GL.nil ?_
 refine GE.thenN ?_
 refine GC.ret ?_
 refine GC.ret1 rfl (Rv.tmp rfl) (fun wN HN => ?_)
 exact HN.ret () trivial (by rfl) (List.nil_sublist _) rfl

set_option maxRecDepth 100000 in
set_option maxHeartbeats 1000000 in
theorem trim_r (c : Nat) (x : Int) (w : World) (hh : Has w [⟨c, [(.int .u32 x), (.int .u32 0)], 23, false⟩]) :
  Calls Try.prog 63 #[(.slice (some ⟨c, 0, none⟩) 2 2)] w (Ret w (fun _ : Unit => True) (fun _ => (.slice (some ⟨c, 0, none⟩) ((if x = 0 then 0 else 1)) 2)) (fun _ => [])) := by
 refine enter (M := None) (L := [⟨c, [(.int .u32 x), (.int .u32 0)], 23, false⟩]) (n := 21) (l := [(0, (.slice (some ⟨c, 0, none⟩) 2 2))]) Try.func63 rfl rfl (Args.cons rfl (Args.nil _)) (Hp.reads hh rfl) ?_
 refine GC.seq ?_
 refine GC.region ?_
 refine GL.val (Ex.assign rfl) (by decide) ?_
 refine GL.nil ?_
 refine GE.thenN ?_
 refine GC.seq ?_
 refine GC.region ?_
 refine GL.val (Ex.move rfl) (by decide) ?_
 refine GL.val (v := (.int .i64 2)) (Ex.len rfl Try.underlying36) (by decide) ?_
 refine GL.val (Ex.assign rfl) (by decide) ?_
 refine GL.nil ?_
 refine GE.thenN ?_
 refine GC.seq ?_
 refine GC.block ?_
 refine GC.unroll 3 ?_
 refine GE.round ?_
 refine GC.seq ?_
 refine GC.seq ?_
 refine GC.region ?_
 refine GL.val (Ex.move rfl) (by decide) ?_
 refine GL.val (v := (.bool true)) (Ex.cast (Ex.gtr rfl rfl) rfl) (by decide) ?_
 refine GL.val (Ex.move rfl) (by decide) ?_
 refine GL.stepG (tj := 8) rfl rfl (Ex.wp (v := (.slice (some ⟨c, 0, none⟩) 2 2)) (Ex.move rfl) (by decide)) (fun _ _ => ?_)
 refine GL.stepG (tj := 8) rfl rfl (Ex.wp (v := (.int .i64 2)) (Ex.move rfl) (by decide)) (fun _ _ => ?_)
 refine GL.stepG (tj := 8) rfl rfl (Ex.wp (v := (.int .i64 1)) (Ex.sub' rfl rfl (Z := 1) (by decide)) (by decide)) (fun _ _ => ?_)
 refine GL.stepG (tj := 8) rfl rfl (Ex.wp (v := (.pointer (some ⟨c, 1, none⟩))) (Ex.cast (Ex.indexAddr rfl rfl Try.underlying36 T.sz23 (by omega) (by omega)) rfl) (by decide)) (fun _ _ => ?_)
 refine GL.stepG (tj := 8) rfl rfl (Ex.wp (v := (.int .u32 0)) (Ex.load rfl T.ag23 (i := 0) rfl rfl) (by decide)) (fun _ _ => ?_)
 refine GL.stepG (tj := 8) rfl rfl (Ex.wp (v := (.bool true)) (Ex.cast (Ex.eql rfl rfl) rfl) (by decide)) (fun _ _ => ?_)
 refine GL.val (v := (.bool true)) (Ex.pickT rfl rfl) (by decide) ?_
 refine GL.nil ?_
 refine GE.thenN ?_
 refine GC.cond rfl (fun _ => ?_) (fun hq1 => by cases hq1)
 refine GC.skip ?_
 refine GE.thenN ?_
 refine GC.block ?_
 refine GC.region ?_
 refine GL.val (Ex.move rfl) (by decide) ?_
 refine GL.val (v := (.int .i64 1)) (Ex.sub' rfl rfl (Z := 1) (by decide)) (by decide) ?_
 refine GL.val (Ex.assign rfl) (by decide) ?_
 refine GL.nil ?_
 refine GE.blockN ?_
 refine GE.thenN ?_
 refine GE.round ?_
 refine GC.seq ?_
 refine GC.seq ?_
 refine GC.region ?_
 refine GL.val (Ex.move rfl) (by decide) ?_
 refine GL.val (v := (.bool true)) (Ex.cast (Ex.gtr rfl rfl) rfl) (by decide) ?_
 refine GL.val (Ex.move rfl) (by decide) ?_
 refine GL.stepG (tj := 8) rfl rfl (Ex.wp (v := (.slice (some ⟨c, 0, none⟩) 2 2)) (Ex.move rfl) (by decide)) (fun _ _ => ?_)
 refine GL.stepG (tj := 8) rfl rfl (Ex.wp (v := (.int .i64 1)) (Ex.move rfl) (by decide)) (fun _ _ => ?_)
 refine GL.stepG (tj := 8) rfl rfl (Ex.wp (v := (.int .i64 0)) (Ex.sub' rfl rfl (Z := 0) (by decide)) (by decide)) (fun _ _ => ?_)
 refine GL.stepG (tj := 8) rfl rfl (Ex.wp (v := (.pointer (some ⟨c, 0, none⟩))) (Ex.cast (Ex.indexAddr rfl rfl Try.underlying36 T.sz23 (by omega) (by omega)) rfl) (by decide)) (fun _ _ => ?_)
 refine GL.stepG (tj := 8) rfl rfl (Ex.wp (v := (.int .u32 x)) (Ex.load rfl T.ag23 (i := 0) rfl rfl) (by decide)) (fun _ _ => ?_)
 refine GL.stepG (tj := 8) rfl rfl (Ex.wp (v := (.bool (decide (x = 0)))) (Ex.eql rfl rfl) (by decide)) (fun _ _ => ?_)
 refine GL.val (v := (.bool (decide (x = 0)))) (Ex.pickT rfl rfl) (by decide) ?_
 refine GL.nil ?_
 refine GE.thenN ?_
 refine GC.cond rfl (fun hq2 => ?_) (fun hq2 => ?_)
 ·replace hq2 := of_decide_eq_true hq2
  refine GC.skip ?_
  refine GE.thenN ?_
  refine GC.block ?_
  refine GC.region ?_
  refine GL.val (Ex.move rfl) (by decide) ?_
  refine GL.val (v := (.int .i64 0)) (Ex.sub' rfl rfl (Z := 0) (by decide)) (by decide) ?_
  refine GL.val (Ex.assign rfl) (by decide) ?_
  refine GL.nil ?_
  refine GE.blockN ?_
  refine GE.thenN ?_
  refine GE.round ?_
  refine GC.seq ?_
  refine GC.seq ?_
  refine GC.region ?_
  refine GL.val (Ex.move rfl) (by decide) ?_
  refine GL.val (v := (.bool false)) (Ex.cast (Ex.gtr rfl rfl) rfl) (by decide) ?_
  refine GL.val (Ex.move rfl) (by decide) ?_
  refine GL.skipG (tj := 8) rfl rfl rfl (by decide) ?_
  refine GL.skipG (tj := 8) rfl rfl rfl (by decide) ?_
  refine GL.skipG (tj := 8) rfl rfl rfl (by decide) ?_
  refine GL.skipG (tj := 8) rfl rfl rfl (by decide) ?_
  refine GL.skipG (tj := 8) rfl rfl rfl (by decide) ?_
  refine GL.skipG (tj := 8) rfl rfl rfl (by decide) ?_
  refine GL.val (v := (.bool false)) (Ex.pickF rfl rfl) (by decide) ?_
  refine GL.nil ?_
  refine GE.thenN ?_
  refine GC.cond rfl (fun hq3 => by cases hq3) (fun _ => ?_)
  refine GC.exit ?_
  refine GE.thenE ?_
  refine GE.thenE ?_
  refine GE.blockE ?_
  refine GE.thenN ?_
  refine GC.seq ?_
  refine GC.region ?_
  refine GL.val (Ex.move rfl) (by decide) ?_
  refine GL.val (Ex.move rfl) (by decide) ?_
  refine GL.val (v := (.slice (some ⟨c, 0, none⟩) 0 2)) (Ex.sliceH (m := 0) rfl rfl Try.underlying36 T.sz23 rfl (by omega)) (by decide) ?_
  refine GL.val (Ex.assign rfl) (by decide) ?_
  refine GL.nil ?_
  refine GE.thenN ?_
  refine GC.ret ?_
  refine GC.ret1 rfl (Rv.tmp rfl) (fun wN HN => ?_)
  exact HN.ret () trivial (by rw [if_pos hq2]) (List.nil_sublist _) rfl
 ·replace hq2 := of_decide_eq_false hq2
  refine GC.exit ?_
  refine GE.thenE ?_
  refine GE.thenE ?_
  refine GE.blockE ?_
  refine GE.thenN ?_
  refine GC.seq ?_
  refine GC.region ?_
  refine GL.val (Ex.move rfl) (by decide) ?_
  refine GL.val (Ex.move rfl) (by decide) ?_
  refine GL.val (v := (.slice (some ⟨c, 0, none⟩) 1 2)) (Ex.sliceH (m := 1) rfl rfl Try.underlying36 T.sz23 rfl (by omega)) (by decide) ?_
  refine GL.val (Ex.assign rfl) (by decide) ?_
  refine GL.nil ?_
  refine GE.thenN ?_
  refine GC.ret ?_
  refine GC.ret1 rfl (Rv.tmp rfl) (fun wN HN => ?_)
  exact HN.ret () trivial (by rw [if_neg hq2]) (List.nil_sublist _) rfl

set_option maxRecDepth 100000 in
set_option maxHeartbeats 1000000 in
theorem natof_r (x : Int) (w : World) (hx : 0 ≤ x ∧ x < 4294967296) :
  Calls Try.prog 62 #[(.int .u64 x)] w (Ret w (fun _ : Nat => True) (fun z => (.slice (some ⟨z, 0, none⟩) ((if x = 0 then 0 else 1)) 2)) (fun z => [⟨z, [(.int .u32 x), (.int .u32 0)], 23, true⟩])) := by
 refine enter (M := None) (L := []) (n := 11) (l := [(0, (.int .u64 x))]) Try.func62 rfl rfl (Args.cons rfl (Args.nil _)) (Hp.start _ _) ?_
 refine GC.seq ?_
 refine GC.region ?_
 refine GL.val (Ex.assign rfl) (by decide) ?_
 refine GL.nil ?_
 refine GE.thenN ?_
 refine GC.seq ?_
 refine GC.region ?_
 refine GL.val (Ex.move rfl) (by decide) ?_
 refine GL.val (v := (.int .u64 x)) (Ex.bits rfl rfl (by simp) (Z := x) (andm64 32 (by omega) (by omega) (by omega) (by omega) rfl)) (by decide) ?_
 refine GL.val (v := (.int .u32 x)) (Ex.conv rfl Try.underlying70 Try.underlying23 (Z := x) (wu32b (by omega))) (by decide) ?_
 refine GL.val (Ex.move rfl) (by decide) ?_
 refine GL.val (v := (.int .u64 (x / 4294967296))) (Ex.shr rfl (m := 32) rfl (by decide) (Z := x / 4294967296) rfl) (by decide) ?_
 refine GL.val (v := (.int .u32 0)) (Ex.conv rfl Try.underlying70 Try.underlying23 (Z := 0) (by rw [wu32]; omega)) (by decide) ?_
 refine GL.step (Stp.buildSlice (cs := [(.int .u32 x), (.int .u32 0)]) (vs := [(0, (.int .u32 x)), (1, (.int .u32 0))]) Try.underlying36 T.zr23 T.sz23 rfl (by decide) (by decide) (by first | rfl | kernel_rfl) (by decide)) (fun bq1 _ => ?_)
 refine GL.step (Stp.callR (vs := [(.slice (some ⟨bq1, 0, none⟩) 2 2)]) rfl rfl T.own63 (by decide) (fun wc hw => trim_r bq1 x wc (Has.cons (hw.hasOf (i := 0) rfl) (Has.nil _)))) (fun xq2 hq3 => ?_)
 refine GL.val (Ex.assign rfl) (by decide) ?_
 refine GL.nil ?_
 refine GE.thenN ?_
 refine GC.ret ?_
 refine GC.ret1 rfl (Rv.tmp rfl) (fun wN HN => ?_)
 exact HN.ret bq1 trivial rfl (ulC ulN) rfl

set_option maxRecDepth 100000 in
set_option maxHeartbeats 1000000 in
theorem of_r (a : Int) (w : World) (ha : 0 ≤ a ∧ a < 4294967296) :
  Calls Try.prog 59 #[(.agg #[(.int .i64 23), (.int .i64 8)]), (.int .u64 a)] w (Ret w (fun x : Int × Bool × (Option Addr × Nat × Nat) × Int => (x.1 = 0 ↔ 2139095040 < a % 2147483648)) (fun x => (.agg #[(.int .i64 x.1), (.bool x.2.1), (.slice x.2.2.1.1 x.2.2.1.2.1 x.2.2.1.2.2), (.int .i64 x.2.2.2), (.bool false)])) (fun x => [])) := by
 refine enter (M := None) (L := []) (n := 61) (l := [(0, (.agg #[(.int .i64 23), (.int .i64 8)])), (1, (.int .u64 a))]) Try.func59 rfl rfl (Args.cons rfl (Args.cons rfl (Args.nil _))) (Hp.start _ _) ?_
 refine GC.seq ?_
 refine GC.region ?_
 refine GL.step (Stp.box (cs := [(.int .i64 23), (.int .i64 8)]) rfl rfl (by decide)) (fun bq1 _ => ?_)
 refine GL.step (Stp.alloc T.zr38 (by decide)) (fun bq2 _ => ?_)
 refine GL.nil ?_
 refine GE.thenN ?_
 refine GC.seq ?_
 refine GC.region ?_
 refine GL.val (Ex.move rfl) (by decide) ?_
 refine GL.val (v := (.pointer (some ⟨bq1, 0, none⟩))) (Ex.cast (Ex.fieldAddr rfl Try.underlying67 rfl T.sz3 (by decide)) rfl) (by decide) ?_
 refine GL.val (Ex.load rfl T.ag3 (i := 1) rfl rfl) (by decide) ?_
 refine GL.val (v := (.pointer (some ⟨bq1, 1, none⟩))) (Ex.cast (Ex.fieldAddr rfl Try.underlying67 rfl T.sz3 (by decide)) rfl) (by decide) ?_
 refine GL.val (Ex.load rfl T.ag3 (i := 1) rfl rfl) (by decide) ?_
 refine GL.val (v := (.int .i64 31)) (Ex.add rfl rfl (Z := 31) (by decide)) (by decide) ?_
 refine GL.val (v := (.int .u64 (a / 2147483648))) (Ex.shr rfl (m := 31) rfl (by decide) (Z := a / 2147483648) rfl) (by decide) ?_
 refine GL.val (v := (.int .u64 (a / 2147483648 % 2))) (Ex.bits rfl rfl (by simp) (Z := a / 2147483648 % 2) (andm64 1 (by omega) (by omega) (by omega) rfl rfl)) (by decide) ?_
 refine GL.val (v := (.bool (decide ((a / 2147483648 % 2) = 1)))) (Ex.eql rfl rfl) (by decide) ?_
 refine GL.val (Ex.assign rfl) (by decide) ?_
 refine GL.nil ?_
 refine GE.thenN ?_
 refine GC.seq ?_
 refine GC.drawP [⟨bq2, [(.int .i64 0), (.bool false), (.slice none 0 0), (.int .i64 0), (.bool false)], 38, true⟩, ⟨bq1, [(.int .i64 23), (.int .i64 8)], 67, true⟩] T.mixed (by kernel_rfl) (by kernel_rfl) (fuel := 7) rfl rfl ?_
 refine GH.take 0 (v := (.int .u64 a)) rfl (by kernel_rfl) (by kernel_rfl) (by kernel_rfl) (fun _ _ _ h => h) (Ex.move rfl) (ulC (ulC ulN)) (by decide) ?_
 refine GH.take 1 (v := (.pointer (some ⟨bq1, 0, none⟩))) rfl (by kernel_rfl) (by kernel_rfl) (by kernel_rfl) (fun _ _ _ h => h) (Ex.cast (Ex.fieldAddr rfl Try.underlying67 rfl T.sz3 (by decide)) rfl) (ulC (ulC ulN)) (by decide) ?_
 refine GH.take 2 (v := (.int .i64 23)) rfl (by kernel_rfl) (by kernel_rfl) (by kernel_rfl) (fun _ _ _ h => h) (Ex.load rfl T.ag3 (i := 1) rfl rfl) (ulC (ulC ulN)) (by decide) ?_
 refine GH.take 3 (v := (.int .u64 (a / 8388608))) rfl (by kernel_rfl) (by kernel_rfl) (by kernel_rfl) (fun _ _ _ h => h) (Ex.shr rfl (m := 23) rfl (by decide) (Z := a / 8388608) rfl) (ulC (ulC ulN)) (by decide) ?_
 refine GH.take 4 (v := (.agg #[(.int .i64 23), (.int .i64 8)])) rfl (by kernel_rfl) (by kernel_rfl) (by kernel_rfl) (fun _ _ _ h => h) (Ex.loadA rfl T.ag67 T.sz67 (i := 1) rfl (vs := [(.int .i64 23), (.int .i64 8)]) rfl rfl) (ulC (ulC ulN)) (by decide) ?_
 refine GH.one 5 rfl (by kernel_rfl) (Stp.callR (vs := [(.agg #[(.int .i64 23), (.int .i64 8)])]) rfl rfl T.own82 (by decide) (fun wc hw => j82_1  wc )) (fun _ => (ulC (ulC ulN))) (fun xq3 hq4 => ?_)
 refine GH.take 6 (v := (.int .u64 (a / 8388608 % 256))) rfl (by kernel_rfl) (by kernel_rfl) (by kernel_rfl) (fun _ _ _ h => h) (Ex.bits rfl rfl (by simp) (Z := a / 8388608 % 256) (andm64 8 (by omega) (by omega) (by omega) rfl rfl)) (ulC (ulC ulN)) (by decide) ?_
 refine GH.done (by kernel_rfl) ?_
 refine GE.thenN ?_
 refine GE.tail rfl (Ex.wp (v := (.int .u64 (a / 8388608 % 256))) (Ex.assign rfl) (by decide)) (fun _ _ => ?_)
 refine GE.thenN ?_
 refine GC.seq ?_
 refine GC.region ?_
 refine GL.val (Ex.move rfl) (by decide) ?_
 refine GL.val (v := (.pointer (some ⟨bq1, 0, none⟩))) (Ex.cast (Ex.fieldAddr rfl Try.underlying67 rfl T.sz3 (by decide)) rfl) (by decide) ?_
 refine GL.val (Ex.load rfl T.ag3 (i := 1) rfl rfl) (by decide) ?_
 refine GL.val (v := (.int .u64 8388608)) (Ex.shl rfl (m := 23) rfl (by decide) (Z := 8388608) (by decide)) (by decide) ?_
 refine GL.val (v := (.int .u64 8388607)) (Ex.sub' rfl rfl (Z := 8388607) (by decide)) (by decide) ?_
 refine GL.val (v := (.int .u64 (a % 8388608))) (Ex.bits rfl rfl (by simp) (Z := a % 8388608) (andm64 23 (by omega) (by omega) (by omega) rfl rfl)) (by decide) ?_
 refine GL.val (Ex.assign rfl) (by decide) ?_
 refine GL.nil ?_
 refine GE.thenN ?_
 refine GC.seq ?_
 refine GC.seq ?_
 refine GC.region ?_
 refine GL.val (Ex.move rfl) (by decide) ?_
 refine GL.val (v := (.agg #[(.int .i64 23), (.int .i64 8)])) (Ex.loadA rfl T.ag67 T.sz67 (i := 1) rfl (vs := [(.int .i64 23), (.int .i64 8)]) rfl rfl) (by decide) ?_
 refine GL.step (Stp.callR (vs := [(.agg #[(.int .i64 23), (.int .i64 8)])]) rfl rfl T.own82 (by decide) (fun wc hw => j82_1  wc )) (fun xq5 hq6 => ?_)
 refine GL.val (v := (.bool (decide ((a / 8388608 % 256) = 255)))) (Ex.eql rfl rfl) (by decide) ?_
 refine GL.nil ?_
 refine GE.thenN ?_
 refine GC.cond rfl (fun hq7 => ?_) (fun hq7 => ?_)
 ·replace hq7 := of_decide_eq_true hq7
  refine GC.seq ?_
  refine GC.seq ?_
  refine GC.region ?_
  refine GL.val (Ex.move rfl) (by decide) ?_
  refine GL.val (v := (.bool (decide ((a % 8388608) ≠ 0)))) (Ex.neq rfl rfl) (by decide) ?_
  refine GL.nil ?_
  refine GE.thenN ?_
  refine GC.cond rfl (fun hq8 => ?_) (fun hq8 => ?_)
  ·replace hq8 := of_decide_eq_true hq8
   refine GC.seq ?_
   refine GC.region ?_
   refine GL.val (v := (.agg #[(.int .i64 0), (.bool false), (.slice none 0 0), (.int .i64 0), (.bool false)])) (Ex.build (vs := [(0, (.int .i64 0))]) rfl (by first | rfl | kernel_rfl)) (by decide) ?_
   refine GL.step (Stp.st0 (cs' := [(.int .i64 0), (.bool false), (.slice none 0 0), (.int .i64 0), (.bool false)]) rfl rfl rfl T.sz38 rfl rfl rfl) (fun _ _ => ?_)
   refine GL.nil ?_
   refine GE.thenN ?_
   refine GC.ret ?_
   refine GE.thenR ?_
   refine GE.thenR ?_
   refine GC.ret1 rfl (Rv.cellA rfl T.ag38 T.sz38 (L := _) (i := 0) rfl (vs := [(.int .i64 0), (.bool false), (.slice none 0 0), (.int .i64 0), (.bool false)]) rfl rfl) (fun wN HN => ?_)
   exact HN.ret (0, false, (none, 0, 0), 0) (by constructor <;> intro _ <;> omega) rfl (List.nil_sublist _) rfl
  ·replace hq8 := of_decide_eq_false hq8
   refine GC.skip ?_
   refine GE.thenN ?_
   refine GC.seq ?_
   refine GC.region ?_
   refine GL.val (Ex.move rfl) (by decide) ?_
   refine GL.val (v := (.agg #[(.int .i64 1), (.bool (decide ((a / 2147483648 % 2) = 1))), (.slice none 0 0), (.int .i64 0), (.bool false)])) (Ex.build (vs := [(0, (.int .i64 1)), (1, (.bool (decide ((a / 2147483648 % 2) = 1))))]) rfl (by first | rfl | kernel_rfl)) (by decide) ?_
   refine GL.step (Stp.st0 (cs' := [(.int .i64 1), (.bool (decide ((a / 2147483648 % 2) = 1))), (.slice none 0 0), (.int .i64 0), (.bool false)]) rfl rfl rfl T.sz38 rfl rfl rfl) (fun _ _ => ?_)
   refine GL.nil ?_
   refine GE.thenN ?_
   refine GC.ret ?_
   refine GE.thenR ?_
   refine GC.ret1 rfl (Rv.cellA rfl T.ag38 T.sz38 (L := _) (i := 0) rfl (vs := [(.int .i64 1), (.bool (decide ((a / 2147483648 % 2) = 1))), (.slice none 0 0), (.int .i64 0), (.bool false)]) rfl rfl) (fun wN HN => ?_)
   exact HN.ret (1, decide ((a / 2147483648 % 2) = 1), (none, 0, 0), 0) (by constructor <;> intro _ <;> omega) rfl (List.nil_sublist _) rfl
 ·replace hq7 := of_decide_eq_false hq7
  refine GC.skip ?_
  refine GE.thenN ?_
  refine GC.seq ?_
  refine GC.seq ?_
  refine GC.region ?_
  refine GL.val (Ex.move rfl) (by decide) ?_
  refine GL.val (v := (.bool (decide ((a / 8388608 % 256) = 0)))) (Ex.eql rfl rfl) (by decide) ?_
  refine GL.nil ?_
  refine GE.thenN ?_
  refine GC.cond rfl (fun hq9 => ?_) (fun hq9 => ?_)
  ·replace hq9 := of_decide_eq_true hq9
   refine GC.seq ?_
   refine GC.drawP [⟨bq2, [(.int .i64 0), (.bool false), (.slice none 0 0), (.int .i64 0), (.bool false)], 38, true⟩, ⟨bq1, [(.int .i64 23), (.int .i64 8)], 67, true⟩] T.mixed (by kernel_rfl) (by kernel_rfl) (fuel := 7) rfl rfl ?_
   refine GH.take 0 (v := (.bool (decide ((a / 2147483648 % 2) = 1)))) rfl (by kernel_rfl) (by kernel_rfl) (by kernel_rfl) (fun _ _ _ h => h) (Ex.move rfl) (ulC (ulC ulN)) (by decide) ?_
   refine GH.take 1 (v := (.int .u64 (a % 8388608))) rfl (by kernel_rfl) (by kernel_rfl) (by kernel_rfl) (fun _ _ _ h => h) (Ex.move rfl) (ulC (ulC ulN)) (by decide) ?_
   refine GH.take 3 (v := (.agg #[(.int .i64 23), (.int .i64 8)])) rfl (by kernel_rfl) (by kernel_rfl) (by kernel_rfl) (fun _ _ _ h => h) (Ex.loadA rfl T.ag67 T.sz67 (i := 1) rfl (vs := [(.int .i64 23), (.int .i64 8)]) rfl rfl) (ulC (ulC ulN)) (by decide) ?_
   refine GH.one 2 rfl (by kernel_rfl) (Stp.callR (vs := [(.int .u64 (a % 8388608))]) rfl rfl T.own62 (by decide) (fun wc hw => natof_r (a % 8388608) wc (by omega))) (fun _ => (ulS (ulC (ulC ulN)))) (fun xq10 hq11 => ?_)
   refine GH.one 4 rfl (by kernel_rfl) (Stp.callR (vs := [(.agg #[(.int .i64 23), (.int .i64 8)])]) rfl rfl T.own83 (by decide) (fun wc hw => j83_2  wc )) (fun _ => (ulS (ulC (ulC ulN)))) (fun xq12 hq13 => ?_)
   refine GH.take 5 (v := (.int .i64 (-149))) rfl (by kernel_rfl) (by kernel_rfl) (by kernel_rfl) (fun _ _ _ h => h) (Ex.sub' rfl rfl (Z := -149) (by decide)) (ulS (ulC (ulC ulN))) (by decide) ?_
   refine GH.take 6 (v := (.agg #[(.int .i64 2), (.bool (decide ((a / 2147483648 % 2) = 1))), (.slice (some ⟨xq10, 0, none⟩) ((if a % 8388608 = 0 then 0 else 1)) 2), (.int .i64 (-149)), (.bool false)])) rfl (by kernel_rfl) (by kernel_rfl) (by kernel_rfl) (fun _ _ _ h => h) (Ex.build (vs := [(0, (.int .i64 2)), (1, (.bool (decide ((a / 2147483648 % 2) = 1)))), (2, (.slice (some ⟨xq10, 0, none⟩) ((if a % 8388608 = 0 then 0 else 1)) 2)), (3, (.int .i64 (-149)))]) rfl (by first | rfl | kernel_rfl)) (ulS (ulC (ulC ulN))) (by decide) ?_
   refine GH.done (by kernel_rfl) ?_
   refine GE.thenN ?_
   refine GE.tail rfl (Stp.st1 (cs' := [(.int .i64 2), (.bool (decide ((a / 2147483648 % 2) = 1))), (.slice (some ⟨xq10, 0, none⟩) ((if a % 8388608 = 0 then 0 else 1)) 2), (.int .i64 (-149)), (.bool false)]) rfl rfl rfl T.sz38 rfl rfl rfl) (fun _ _ => ?_)
   refine GE.thenN ?_
   refine GC.ret ?_
   refine GE.thenR ?_
   refine GC.ret1 rfl (Rv.cellA rfl T.ag38 T.sz38 (L := _) (i := 1) rfl (vs := [(.int .i64 2), (.bool (decide ((a / 2147483648 % 2) = 1))), (.slice (some ⟨xq10, 0, none⟩) ((if a % 8388608 = 0 then 0 else 1)) 2), (.int .i64 (-149)), (.bool false)]) rfl rfl) (fun wN HN => ?_)
   exact HN.ret (2, decide ((a / 2147483648 % 2) = 1), ((some ⟨xq10, 0, none⟩), (if a % 8388608 = 0 then 0 else 1), 2), -149) (by constructor <;> intro _ <;> omega) rfl (List.nil_sublist _) rfl
  ·replace hq9 := of_decide_eq_false hq9
   refine GC.skip ?_
   refine GE.thenN ?_
   refine GC.seq ?_
   refine GC.drawP [⟨bq2, [(.int .i64 0), (.bool false), (.slice none 0 0), (.int .i64 0), (.bool false)], 38, true⟩, ⟨bq1, [(.int .i64 23), (.int .i64 8)], 67, true⟩] T.mixed (by kernel_rfl) (by kernel_rfl) (fuel := 13) rfl rfl ?_
   refine GH.take 0 (v := (.bool (decide ((a / 2147483648 % 2) = 1)))) rfl (by kernel_rfl) (by kernel_rfl) (by kernel_rfl) (fun _ _ _ h => h) (Ex.move rfl) (ulC (ulC ulN)) (by decide) ?_
   refine GH.take 1 (v := (.int .u64 (a % 8388608))) rfl (by kernel_rfl) (by kernel_rfl) (by kernel_rfl) (fun _ _ _ h => h) (Ex.move rfl) (ulC (ulC ulN)) (by decide) ?_
   refine GH.take 2 (v := (.pointer (some ⟨bq1, 0, none⟩))) rfl (by kernel_rfl) (by kernel_rfl) (by kernel_rfl) (fun _ _ _ h => h) (Ex.cast (Ex.fieldAddr rfl Try.underlying67 rfl T.sz3 (by decide)) rfl) (ulC (ulC ulN)) (by decide) ?_
   refine GH.take 3 (v := (.int .i64 23)) rfl (by kernel_rfl) (by kernel_rfl) (by kernel_rfl) (fun _ _ _ h => h) (Ex.load rfl T.ag3 (i := 1) rfl rfl) (ulC (ulC ulN)) (by decide) ?_
   refine GH.take 4 (v := (.int .u64 8388608)) rfl (by kernel_rfl) (by kernel_rfl) (by kernel_rfl) (fun _ _ _ h => h) (Ex.shl rfl (m := 23) rfl (by decide) (Z := 8388608) (by decide)) (ulC (ulC ulN)) (by decide) ?_
   refine GH.take 5 (v := (.int .u64 (a % 8388608 + 8388608))) rfl (by kernel_rfl) (by kernel_rfl) (by kernel_rfl) (fun _ _ _ h => h) (Ex.bits rfl rfl (by simp) (Z := a % 8388608 + 8388608) (orm64 23 (by omega) (by omega) rfl rfl)) (ulC (ulC ulN)) (by decide) ?_
   refine GH.take 7 (v := (.int .u64 (a / 8388608 % 256))) rfl (by kernel_rfl) (by kernel_rfl) (by kernel_rfl) (fun _ _ _ h => h) (Ex.move rfl) (ulC (ulC ulN)) (by decide) ?_
   refine GH.take 8 (v := (.int .i64 (a / 8388608 % 256))) rfl (by kernel_rfl) (by kernel_rfl) (by kernel_rfl) (fun _ _ _ h => h) (Ex.conv rfl Try.underlying70 Try.underlying3 (Z := a / 8388608 % 256) (w64 (by omega))) (ulC (ulC ulN)) (by decide) ?_
   refine GH.take 9 (v := (.agg #[(.int .i64 23), (.int .i64 8)])) rfl (by kernel_rfl) (by kernel_rfl) (by kernel_rfl) (fun _ _ _ h => h) (Ex.loadA rfl T.ag67 T.sz67 (i := 1) rfl (vs := [(.int .i64 23), (.int .i64 8)]) rfl rfl) (ulC (ulC ulN)) (by decide) ?_
   refine GH.one 6 rfl (by kernel_rfl) (Stp.callR (vs := [(.int .u64 (a % 8388608 + 8388608))]) rfl rfl T.own62 (by decide) (fun wc hw => natof_r (a % 8388608 + 8388608) wc (by omega))) (fun _ => (ulS (ulC (ulC ulN)))) (fun xq14 hq15 => ?_)
   refine GH.one 10 rfl (by kernel_rfl) (Stp.callR (vs := [(.agg #[(.int .i64 23), (.int .i64 8)])]) rfl rfl T.own83 (by decide) (fun wc hw => j83_2  wc )) (fun _ => (ulS (ulC (ulC ulN)))) (fun xq16 hq17 => ?_)
   refine GH.take 11 (v := (.int .i64 ((a / 8388608 % 256) - 150))) rfl (by kernel_rfl) (by kernel_rfl) (by kernel_rfl) (fun _ _ _ h => h) (Ex.sub' rfl rfl (Z := (a / 8388608 % 256) - 150) (w64 (by omega))) (ulS (ulC (ulC ulN))) (by decide) ?_
   refine GH.take 12 (v := (.agg #[(.int .i64 2), (.bool (decide ((a / 2147483648 % 2) = 1))), (.slice (some ⟨xq14, 0, none⟩) ((if a % 8388608 + 8388608 = 0 then 0 else 1)) 2), (.int .i64 ((a / 8388608 % 256) - 150)), (.bool false)])) rfl (by kernel_rfl) (by kernel_rfl) (by kernel_rfl) (fun _ _ _ h => h) (Ex.build (vs := [(0, (.int .i64 2)), (1, (.bool (decide ((a / 2147483648 % 2) = 1)))), (2, (.slice (some ⟨xq14, 0, none⟩) ((if a % 8388608 + 8388608 = 0 then 0 else 1)) 2)), (3, (.int .i64 ((a / 8388608 % 256) - 150)))]) rfl (by first | rfl | kernel_rfl)) (ulS (ulC (ulC ulN))) (by decide) ?_
   refine GH.done (by kernel_rfl) ?_
   refine GE.thenN ?_
   refine GE.tail rfl (Stp.st1 (cs' := [(.int .i64 2), (.bool (decide ((a / 2147483648 % 2) = 1))), (.slice (some ⟨xq14, 0, none⟩) ((if a % 8388608 + 8388608 = 0 then 0 else 1)) 2), (.int .i64 ((a / 8388608 % 256) - 150)), (.bool false)]) rfl rfl rfl T.sz38 rfl rfl rfl) (fun _ _ => ?_)
   refine GE.thenN ?_
   refine GC.ret ?_
   refine GC.ret1 rfl (Rv.cellA rfl T.ag38 T.sz38 (L := _) (i := 1) rfl (vs := [(.int .i64 2), (.bool (decide ((a / 2147483648 % 2) = 1))), (.slice (some ⟨xq14, 0, none⟩) ((if a % 8388608 + 8388608 = 0 then 0 else 1)) 2), (.int .i64 ((a / 8388608 % 256) - 150)), (.bool false)]) rfl rfl) (fun wN HN => ?_)
   exact HN.ret (2, decide ((a / 2147483648 % 2) = 1), ((some ⟨xq14, 0, none⟩), (if a % 8388608 + 8388608 = 0 then 0 else 1), 2), (a / 8388608 % 256) - 150) (by constructor <;> intro _ <;> omega) rfl (List.nil_sublist _) rfl

set_option maxRecDepth 100000 in
set_option maxHeartbeats 1000000 in
theorem num_r (a : Int) (w : World) (ha : 0 ≤ a ∧ a < 4294967296) :
  Calls Try.prog 68 #[(.int .u32 a)] w (Ret w (fun x : Int × Bool × (Option Addr × Nat × Nat) × Int => (x.1 = 0 ↔ 2139095040 < a % 2147483648)) (fun x => (.agg #[(.int .i64 x.1), (.bool x.2.1), (.slice x.2.2.1.1 x.2.2.1.2.1 x.2.2.1.2.2), (.int .i64 x.2.2.2), (.bool false)])) (fun x => [])) := by
 refine enter (M := None) (L := []) (n := 7) (l := [(0, (.int .u32 a))]) Try.func68 rfl rfl (Args.cons rfl (Args.nil _)) (Hp.start _ _) ?_
 refine GC.seq ?_
 refine GC.region ?_
 refine GL.step (Stp.alloc T.zr38 (by decide)) (fun bq1 _ => ?_)
 refine GL.nil ?_
 refine GE.thenN ?_
 refine GC.seq ?_
 refine GC.region ?_
 refine GL.step (Stp.callR (vs := []) rfl rfl T.own58 (by decide) (fun wc hw => j58_3  wc )) (fun xq2 hq3 => ?_)
 refine GL.val (Ex.move rfl) (by decide) ?_
 refine GL.val (v := (.int .u64 a)) (Ex.conv rfl Try.underlying23 Try.underlying70 (Z := a) (wu64b (by omega))) (by decide) ?_
 refine GL.step (Stp.callR (vs := [(.agg #[(.int .i64 23), (.int .i64 8)]), (.int .u64 a)]) rfl rfl T.own59 (by decide) (fun wc hw => of_r a wc (by omega))) (fun xq4 hq5 => ?_)
 refine GL.step (Stp.st0 (cs' := [(.int .i64 xq4.1), (.bool xq4.2.1), (.slice xq4.2.2.1.1 xq4.2.2.1.2.1 xq4.2.2.1.2.2), (.int .i64 xq4.2.2.2), (.bool false)]) rfl rfl rfl T.sz38 rfl rfl rfl) (fun _ _ => ?_)
 refine GL.nil ?_
 refine GE.thenN ?_
 refine GC.ret ?_
 refine GC.ret1 rfl (Rv.cellA rfl T.ag38 T.sz38 (L := _) (i := 0) rfl (vs := [(.int .i64 xq4.1), (.bool xq4.2.1), (.slice xq4.2.2.1.1 xq4.2.2.1.2.1 xq4.2.2.1.2.2), (.int .i64 xq4.2.2.2), (.bool false)]) rfl rfl) (fun wN HN => ?_)
 exact HN.ret xq4 hq5 rfl (List.nil_sublist _) rfl

set_option maxRecDepth 100000 in
set_option maxHeartbeats 1000000 in
theorem isnan_r (a : Int) (w : World) (ha : 0 ≤ a ∧ a < 4294967296) :
  Calls Try.prog 38 #[(.int .u32 a)] w (Ret w (fun _ : Unit => True) (fun _ => (.bool (decide (2139095040 < a % 2147483648)))) (fun _ => [])) := by
 refine enter (M := None) (L := []) (n := 7) (l := [(0, (.int .u32 a))]) Try.func38 rfl rfl (Args.cons rfl (Args.nil _)) (Hp.start _ _) ?_
 refine GC.seq ?_
 refine GC.region ?_
 refine GL.val (Ex.assign rfl) (by decide) ?_
 refine GL.nil ?_
 refine GE.thenN ?_
 refine GC.seq ?_
 refine GC.region ?_
 refine GL.val (Ex.move rfl) (by decide) ?_
 refine GL.step (Stp.callR (vs := [(.int .u32 a)]) rfl rfl T.own68 (by decide) (fun wc hw => num_r a wc (by omega))) (fun xq1 hq2 => ?_)
 refine GL.val (v := (.int .i64 xq1.1)) (Ex.field1 rfl Try.underlying38 rfl T.ag3 rfl) (by decide) ?_
 refine GL.val (v := (.bool (decide (xq1.1 = 0)))) (Ex.eql rfl rfl) (by decide) ?_
 refine GL.val (Ex.assign rfl) (by decide) ?_
 refine GL.nil ?_
 refine GE.thenN ?_
 refine GC.ret ?_
 refine GC.ret1 rfl (Rv.tmp rfl) (fun wN HN => ?_)
 exact HN.ret () trivial (by first | rw [decide_eq_decide.2 hq2] | rw [decide_eq_decide.2 (Iff.symm hq2)]) (List.nil_sublist _) rfl

theorem natof_pos (v : Nat) (w : World) (hv : 0 < v ∧ v < 4294967296) : Calls Try.prog 62 #[.int .u64 ((v : Nat) : Int)] w (Ret w (fun _ : Nat => True) (fun z => .slice (some ⟨z, 0, none⟩) 1 2) (fun z => [⟨z, [.int .u32 ((v : Nat) : Int), .int .u32 0], 23, true⟩])) := by
 have h := natof_r ((v : Nat) : Int) w (by omega)
 rw [if_neg (by omega)] at h
 exact h
theorem natof_0 (w : World) : Calls Try.prog 62 #[.int .u64 0] w (Ret w (fun _ : Nat => True) (fun z => .slice (some ⟨z, 0, none⟩) 0 2) (fun z => [⟨z, [.int .u32 0, .int .u32 0], 23, true⟩])) := by
 have h := natof_r 0 w (by omega)
 rw [if_pos rfl] at h
 exact h

set_option maxRecDepth 100000 in
set_option maxHeartbeats 1000000 in
theorem up_0 (ad : Option Addr) (c n : Nat) (w : World) :
  Calls Try.prog 61 #[(.slice ad 0 c), (.int .i64 (((n : Nat) : Int)))] w (Ret w (fun _ : Unit => True) (fun _ => (.slice none 0 0)) (fun _ => [])) := by
 refine enter (M := None) (L := []) (n := 61) (l := [(0, (.slice ad 0 c)), (1, (.int .i64 (((n : Nat) : Int))))]) Try.func61 rfl rfl (Args.cons rfl (Args.cons rfl (Args.nil _))) (Hp.start _ _) ?_
 refine GC.seq ?_
 refine GC.region ?_
 refine GL.val (Ex.assign rfl) (by decide) ?_
 refine GL.nil ?_
 refine GE.thenN ?_
 refine GC.seq ?_
 refine GC.seq ?_
 refine GC.region ?_
 refine GL.val (Ex.move rfl) (by decide) ?_
 refine GL.val (v := (.int .i64 0)) (Ex.len rfl Try.underlying36) (by decide) ?_
 refine GL.val (v := (.bool true)) (Ex.cast (Ex.eql rfl rfl) rfl) (by decide) ?_
 refine GL.nil ?_
 refine GE.thenN ?_
 refine GC.cond rfl (fun _ => ?_) (fun hq1 => by cases hq1)
 refine GC.seq ?_
 refine GC.region ?_
 refine GL.val (Ex.assign rfl) (by decide) ?_
 refine GL.nil ?_
 refine GE.thenN ?_
 refine GC.ret ?_
 refine GE.thenR ?_
 refine GC.ret1 rfl (Rv.tmp rfl) (fun wN HN => ?_)
 exact HN.ret () trivial (by rfl) (List.nil_sublist _) rfl

set_option maxRecDepth 100000 in
set_option maxHeartbeats 1000000 in
theorem key_2 (a : Int) (w : World) (ha : 0 ≤ a ∧ a < 4294967296) :
  Calls Try.prog 66 #[(.int .u32 a)] w (Ret w (fun _ : Unit => True) (fun _ => (.int .i64 ((Fv.rk a)))) (fun _ => [])) := by
 refine enter (M := None) (L := []) (n := 12) (l := [(0, (.int .u32 a))]) Try.func66 rfl rfl (Args.cons rfl (Args.nil _)) (Hp.start _ _) ?_
 refine GC.seq ?_
 refine GC.region ?_
 refine GL.val (Ex.assign rfl) (by decide) ?_
 refine GL.nil ?_
 refine GE.thenN ?_
 refine GC.seq ?_
 refine GC.seq ?_
 refine GC.region ?_
 refine GL.val (Ex.move rfl) (by decide) ?_
 refine GL.val (v := (.int .u32 (a / 2147483648))) (Ex.shr rfl (m := 31) rfl (by decide) (Z := a / 2147483648) rfl) (by decide) ?_
 refine GL.val (v := (.bool (decide ((a / 2147483648) = 1)))) (Ex.eql rfl rfl) (by decide) ?_
 refine GL.nil ?_
 refine GE.thenN ?_
 refine GC.cond rfl (fun hq1 => ?_) (fun hq1 => ?_)
 ·replace hq1 := of_decide_eq_true hq1
  refine GC.seq ?_
  refine GC.region ?_
  refine GL.val (Ex.move rfl) (by decide) ?_
  refine GL.val (v := (.int .u32 (a % 2147483648))) (Ex.bits rfl rfl (by simp) (Z := a % 2147483648) (andm 31 (by omega) (by omega) (by decide) rfl rfl)) (by decide) ?_
  refine GL.val (v := (.int .i64 (a % 2147483648))) (Ex.conv rfl Try.underlying23 Try.underlying3 (Z := a % 2147483648) (w64 (by omega))) (by decide) ?_
  refine GL.val (v := (.int .i64 (-(a % 2147483648)))) (Ex.neg rfl (Z := -(a % 2147483648)) (by rw [w64 (by omega)]; omega)) (by decide) ?_
  refine GL.val (Ex.assign rfl) (by decide) ?_
  refine GL.nil ?_
  refine GE.thenN ?_
  refine GC.ret ?_
  refine GE.thenR ?_
  refine GC.ret1 rfl (Rv.tmp rfl) (fun wN HN => ?_)
  exact HN.ret () trivial (by unfold Fv.rk; first | rw [if_pos (by omega)] | (rw [if_neg (by omega)]; refine congrArg (Value.int .i64) ?_; omega)) (List.nil_sublist _) rfl
 ·replace hq1 := of_decide_eq_false hq1
  refine GC.skip ?_
  refine GE.thenN ?_
  refine GC.seq ?_
  refine GC.region ?_
  refine GL.val (Ex.move rfl) (by decide) ?_
  refine GL.val (v := (.int .i64 a)) (Ex.conv rfl Try.underlying23 Try.underlying3 (Z := a) (w64 (by omega))) (by decide) ?_
  refine GL.val (Ex.assign rfl) (by decide) ?_
  refine GL.nil ?_
  refine GE.thenN ?_
  refine GC.ret ?_
  refine GC.ret1 rfl (Rv.tmp rfl) (fun wN HN => ?_)
  exact HN.ret () trivial (by unfold Fv.rk; first | rw [if_pos (by omega)] | (rw [if_neg (by omega)]; refine congrArg (Value.int .i64) ?_; omega)) (List.nil_sublist _) rfl

set_option maxRecDepth 100000 in
set_option maxHeartbeats 1000000 in
theorem equal_2 (a b : Int) (w : World) (ha : 0 ≤ a ∧ a < 4294967296) (hb : 0 ≤ b ∧ b < 4294967296) :
  Calls Try.prog 35 #[(.int .u32 a), (.int .u32 b)] w (Ret w (fun _ : Unit => True) (fun _ => (.bool (decide (a % 2147483648 ≤ 2139095040 ∧ b % 2147483648 ≤ 2139095040 ∧ Fv.rk a = Fv.rk b)))) (fun _ => [])) := by
 refine enter (M := None) (L := []) (n := 20) (l := [(0, (.int .u32 a)), (1, (.int .u32 b))]) Try.func35 rfl rfl (Args.cons rfl (Args.cons rfl (Args.nil _))) (Hp.start _ _) ?_
 refine GC.seq ?_
 refine GC.region ?_
 refine GL.val (Ex.assign rfl) (by decide) ?_
 refine GL.nil ?_
 refine GE.thenN ?_
 refine GC.seq ?_
 refine GC.region ?_
 refine GL.val (Ex.move rfl) (by decide) ?_
 refine GL.step (Stp.callR (vs := [(.int .u32 a)]) rfl rfl T.own38 (by decide) (fun wc hw => isnan_r a wc (by omega))) (fun xq1 hq2 => ?_)
 by_cases hq3 : (2139095040 < a % 2147483648)
 ·refine GL.val (v := (.bool false)) (Ex.cast (Ex.not rfl) (congrArg Value.bool (congrArg (fun z => !z) (decide_eq_true hq3)))) (by decide) ?_
  refine GL.val (Ex.move rfl) (by decide) ?_
  refine GL.skipG (tj := 8) rfl rfl rfl (by decide) ?_
  refine GL.skipG (tj := 8) rfl rfl rfl (by decide) ?_
  refine GL.skipG (tj := 8) rfl rfl rfl (by decide) ?_
  refine GL.val (v := (.bool false)) (Ex.pickF rfl rfl) (by decide) ?_
  refine GL.val (Ex.move rfl) (by decide) ?_
  refine GL.skipG (tj := 13) rfl rfl rfl (by decide) ?_
  refine GL.skipG (tj := 13) rfl rfl rfl (by decide) ?_
  refine GL.skipG (tj := 13) rfl rfl rfl (by decide) ?_
  refine GL.skipG (tj := 13) rfl rfl rfl (by decide) ?_
  refine GL.skipG (tj := 13) rfl rfl rfl (by decide) ?_
  refine GL.val (v := (.bool false)) (Ex.pickF rfl rfl) (by decide) ?_
  refine GL.val (Ex.assign rfl) (by decide) ?_
  refine GL.nil ?_
  refine GE.thenN ?_
  refine GC.ret ?_
  refine GC.ret1 rfl (Rv.tmp rfl) (fun wN HN => ?_)
  exact HN.ret () trivial (congrArg Value.bool (by exact (decide_eq_false (by omega)).symm)) (List.nil_sublist _) rfl
 ·refine GL.val (v := (.bool true)) (Ex.cast (Ex.not rfl) (congrArg Value.bool (congrArg (fun z => !z) (decide_eq_false hq3)))) (by decide) ?_
  refine GL.val (Ex.move rfl) (by decide) ?_
  refine GL.stepG (tj := 8) rfl rfl (Ex.wp (v := (.int .u32 b)) (Ex.move rfl) (by decide)) (fun _ _ => ?_)
  refine GL.stepG (tj := 8) rfl rfl (Stp.callR (vs := [(.int .u32 b)]) rfl rfl T.own38 (by decide) (fun wc hw => isnan_r b wc (by omega))) (fun xq4 hq5 => ?_)
  by_cases hq6 : (2139095040 < b % 2147483648)
  ·refine GL.stepG (tj := 8) rfl rfl (Ex.wp (v := (.bool false)) (Ex.cast (Ex.not rfl) (congrArg Value.bool (congrArg (fun z => !z) (decide_eq_true hq6)))) (by decide)) (fun _ _ => ?_)
   refine GL.val (v := (.bool false)) (Ex.pickT rfl rfl) (by decide) ?_
   refine GL.val (Ex.move rfl) (by decide) ?_
   refine GL.skipG (tj := 13) rfl rfl rfl (by decide) ?_
   refine GL.skipG (tj := 13) rfl rfl rfl (by decide) ?_
   refine GL.skipG (tj := 13) rfl rfl rfl (by decide) ?_
   refine GL.skipG (tj := 13) rfl rfl rfl (by decide) ?_
   refine GL.skipG (tj := 13) rfl rfl rfl (by decide) ?_
   refine GL.val (v := (.bool false)) (Ex.pickF rfl rfl) (by decide) ?_
   refine GL.val (Ex.assign rfl) (by decide) ?_
   refine GL.nil ?_
   refine GE.thenN ?_
   refine GC.ret ?_
   refine GC.ret1 rfl (Rv.tmp rfl) (fun wN HN => ?_)
   exact HN.ret () trivial (congrArg Value.bool (by exact (decide_eq_false (by omega)).symm)) (List.nil_sublist _) rfl
  ·refine GL.stepG (tj := 8) rfl rfl (Ex.wp (v := (.bool true)) (Ex.cast (Ex.not rfl) (congrArg Value.bool (congrArg (fun z => !z) (decide_eq_false hq6)))) (by decide)) (fun _ _ => ?_)
   refine GL.val (v := (.bool true)) (Ex.pickT rfl rfl) (by decide) ?_
   refine GL.val (Ex.move rfl) (by decide) ?_
   refine GL.stepG (tj := 13) rfl rfl (Ex.wp (v := (.int .u32 a)) (Ex.move rfl) (by decide)) (fun _ _ => ?_)
   refine GL.stepG (tj := 13) rfl rfl (Stp.callR (vs := [(.int .u32 a)]) rfl rfl T.own66 (by decide) (fun wc hw => key_2 a wc (by first | assumption | omega | exact Bt.lst_bd (by assumption) (by assumption) | exact Bt.gst_bd (by assumption) (by assumption) | exact Bt.key_bd (by assumption) | exact Bt.unkey_bd (by assumption) | exact Bt.nxt_bd (by assumption) | exact Bt.lst_bd (Bt.gst_bd (by assumption) (by assumption)) (by assumption) | exact Bt.btw_bd (by assumption) (Bt.lst_bd (by assumption) (by assumption)) (Bt.gst_bd (by assumption) (by assumption))))) (fun xq7 hq8 => ?_)
   refine GL.stepG (tj := 13) rfl rfl (Ex.wp (v := (.int .u32 b)) (Ex.move rfl) (by decide)) (fun _ _ => ?_)
   refine GL.stepG (tj := 13) rfl rfl (Stp.callR (vs := [(.int .u32 b)]) rfl rfl T.own66 (by decide) (fun wc hw => key_2 b wc (by first | assumption | omega | exact Bt.lst_bd (by assumption) (by assumption) | exact Bt.gst_bd (by assumption) (by assumption) | exact Bt.key_bd (by assumption) | exact Bt.unkey_bd (by assumption) | exact Bt.nxt_bd (by assumption) | exact Bt.lst_bd (Bt.gst_bd (by assumption) (by assumption)) (by assumption) | exact Bt.btw_bd (by assumption) (Bt.lst_bd (by assumption) (by assumption)) (Bt.gst_bd (by assumption) (by assumption))))) (fun xq9 hq10 => ?_)
   refine GL.stepG (tj := 13) rfl rfl (Ex.wp (v := (.bool (decide (((Fv.rk a)) = ((Fv.rk b)))))) (Ex.eql rfl rfl) (by decide)) (fun _ _ => ?_)
   refine GL.val (v := (.bool (decide (((Fv.rk a)) = ((Fv.rk b)))))) (Ex.pickT rfl rfl) (by decide) ?_
   refine GL.val (Ex.assign rfl) (by decide) ?_
   refine GL.nil ?_
   refine GE.thenN ?_
   refine GC.ret ?_
   refine GC.ret1 rfl (Rv.tmp rfl) (fun wN HN => ?_)
   exact HN.ret () trivial (congrArg Value.bool (by exact decide_eq_decide.2 (by omega))) (List.nil_sublist _) rfl

set_option maxRecDepth 100000 in
set_option maxHeartbeats 1000000 in
theorem of_pos (a : Int) (v : Nat) (w : World) (ha : 0 ≤ a ∧ a < 4294967296) (hf : a % 2147483648 < 2139095040) (hm : Bt.mant a = ((v : Nat) : Int)) (hv : 0 < v) :
  Calls Try.prog 59 #[(.agg #[(.int .i64 23), (.int .i64 8)]), (.int .u64 a)] w (Ret w (fun _ : Nat => True) (fun z => (.agg #[(.int .i64 2), (.bool ((decide (a / 2147483648 % 2 = 1)))), (.slice (some ⟨z, 0, none⟩) 1 2), (.int .i64 ((Bt.expo a))), (.bool false)])) (fun z => [⟨z, [(.int .u32 (((v : Nat) : Int))), (.int .u32 0)], 23, true⟩])) := by
 refine enter (M := None) (L := []) (n := 61) (l := [(0, (.agg #[(.int .i64 23), (.int .i64 8)])), (1, (.int .u64 a))]) Try.func59 rfl rfl (Args.cons rfl (Args.cons rfl (Args.nil _))) (Hp.start _ _) ?_
 refine GC.seq ?_
 refine GC.region ?_
 refine GL.step (Stp.box (cs := [(.int .i64 23), (.int .i64 8)]) rfl rfl (by decide)) (fun bq1 _ => ?_)
 refine GL.step (Stp.alloc T.zr38 (by decide)) (fun bq2 _ => ?_)
 refine GL.nil ?_
 refine GE.thenN ?_
 refine GC.seq ?_
 refine GC.region ?_
 refine GL.val (Ex.move rfl) (by decide) ?_
 refine GL.val (v := (.pointer (some ⟨bq1, 0, none⟩))) (Ex.cast (Ex.fieldAddr rfl Try.underlying67 rfl T.sz3 (by decide)) rfl) (by decide) ?_
 refine GL.val (Ex.load rfl T.ag3 (i := 1) rfl rfl) (by decide) ?_
 refine GL.val (v := (.pointer (some ⟨bq1, 1, none⟩))) (Ex.cast (Ex.fieldAddr rfl Try.underlying67 rfl T.sz3 (by decide)) rfl) (by decide) ?_
 refine GL.val (Ex.load rfl T.ag3 (i := 1) rfl rfl) (by decide) ?_
 refine GL.val (v := (.int .i64 31)) (Ex.add rfl rfl (Z := 31) (by decide)) (by decide) ?_
 refine GL.val (v := (.int .u64 (a / 2147483648))) (Ex.shr rfl (m := 31) rfl (by decide) (Z := a / 2147483648) rfl) (by decide) ?_
 refine GL.val (v := (.int .u64 (a / 2147483648 % 2))) (Ex.bits rfl rfl (by simp) (Z := a / 2147483648 % 2) (andm64 1 (by omega) (by omega) (by omega) rfl rfl)) (by decide) ?_
 refine GL.val (v := (.bool (decide ((a / 2147483648 % 2) = 1)))) (Ex.eql rfl rfl) (by decide) ?_
 refine GL.val (Ex.assign rfl) (by decide) ?_
 refine GL.nil ?_
 refine GE.thenN ?_
 refine GC.seq ?_
 refine GC.drawP [⟨bq2, [(.int .i64 0), (.bool false), (.slice none 0 0), (.int .i64 0), (.bool false)], 38, true⟩, ⟨bq1, [(.int .i64 23), (.int .i64 8)], 67, true⟩] T.mixed (by kernel_rfl) (by kernel_rfl) (fuel := 7) rfl rfl ?_
 refine GH.take 0 (v := (.int .u64 a)) rfl (by kernel_rfl) (by kernel_rfl) (by kernel_rfl) (fun _ _ _ h => h) (Ex.move rfl) (ulC (ulC ulN)) (by decide) ?_
 refine GH.take 1 (v := (.pointer (some ⟨bq1, 0, none⟩))) rfl (by kernel_rfl) (by kernel_rfl) (by kernel_rfl) (fun _ _ _ h => h) (Ex.cast (Ex.fieldAddr rfl Try.underlying67 rfl T.sz3 (by decide)) rfl) (ulC (ulC ulN)) (by decide) ?_
 refine GH.take 2 (v := (.int .i64 23)) rfl (by kernel_rfl) (by kernel_rfl) (by kernel_rfl) (fun _ _ _ h => h) (Ex.load rfl T.ag3 (i := 1) rfl rfl) (ulC (ulC ulN)) (by decide) ?_
 refine GH.take 3 (v := (.int .u64 (a / 8388608))) rfl (by kernel_rfl) (by kernel_rfl) (by kernel_rfl) (fun _ _ _ h => h) (Ex.shr rfl (m := 23) rfl (by decide) (Z := a / 8388608) rfl) (ulC (ulC ulN)) (by decide) ?_
 refine GH.take 4 (v := (.agg #[(.int .i64 23), (.int .i64 8)])) rfl (by kernel_rfl) (by kernel_rfl) (by kernel_rfl) (fun _ _ _ h => h) (Ex.loadA rfl T.ag67 T.sz67 (i := 1) rfl (vs := [(.int .i64 23), (.int .i64 8)]) rfl rfl) (ulC (ulC ulN)) (by decide) ?_
 refine GH.one 5 rfl (by kernel_rfl) (Stp.callR (vs := [(.agg #[(.int .i64 23), (.int .i64 8)])]) rfl rfl T.own82 (by decide) (fun wc hw => j82_1  wc )) (fun _ => (ulC (ulC ulN))) (fun xq3 hq4 => ?_)
 refine GH.take 6 (v := (.int .u64 (a / 8388608 % 256))) rfl (by kernel_rfl) (by kernel_rfl) (by kernel_rfl) (fun _ _ _ h => h) (Ex.bits rfl rfl (by simp) (Z := a / 8388608 % 256) (andm64 8 (by omega) (by omega) (by omega) rfl rfl)) (ulC (ulC ulN)) (by decide) ?_
 refine GH.done (by kernel_rfl) ?_
 refine GE.thenN ?_
 refine GE.tail rfl (Ex.wp (v := (.int .u64 (a / 8388608 % 256))) (Ex.assign rfl) (by decide)) (fun _ _ => ?_)
 refine GE.thenN ?_
 refine GC.seq ?_
 refine GC.region ?_
 refine GL.val (Ex.move rfl) (by decide) ?_
 refine GL.val (v := (.pointer (some ⟨bq1, 0, none⟩))) (Ex.cast (Ex.fieldAddr rfl Try.underlying67 rfl T.sz3 (by decide)) rfl) (by decide) ?_
 refine GL.val (Ex.load rfl T.ag3 (i := 1) rfl rfl) (by decide) ?_
 refine GL.val (v := (.int .u64 8388608)) (Ex.shl rfl (m := 23) rfl (by decide) (Z := 8388608) (by decide)) (by decide) ?_
 refine GL.val (v := (.int .u64 8388607)) (Ex.sub' rfl rfl (Z := 8388607) (by decide)) (by decide) ?_
 refine GL.val (v := (.int .u64 (a % 8388608))) (Ex.bits rfl rfl (by simp) (Z := a % 8388608) (andm64 23 (by omega) (by omega) (by omega) rfl rfl)) (by decide) ?_
 refine GL.val (Ex.assign rfl) (by decide) ?_
 refine GL.nil ?_
 refine GE.thenN ?_
 refine GC.seq ?_
 refine GC.seq ?_
 refine GC.region ?_
 refine GL.val (Ex.move rfl) (by decide) ?_
 refine GL.val (v := (.agg #[(.int .i64 23), (.int .i64 8)])) (Ex.loadA rfl T.ag67 T.sz67 (i := 1) rfl (vs := [(.int .i64 23), (.int .i64 8)]) rfl rfl) (by decide) ?_
 refine GL.step (Stp.callR (vs := [(.agg #[(.int .i64 23), (.int .i64 8)])]) rfl rfl T.own82 (by decide) (fun wc hw => j82_1  wc )) (fun xq5 hq6 => ?_)
 refine GL.val (v := (.bool (decide ((a / 8388608 % 256) = 255)))) (Ex.eql rfl rfl) (by decide) ?_
 refine GL.nil ?_
 refine GE.thenN ?_
 refine GC.cond rfl (fun hq7 => ?_) (fun hq7 => ?_)
 ·replace hq7 := of_decide_eq_true hq7
  exfalso; omega
 ·replace hq7 := of_decide_eq_false hq7
  refine GC.skip ?_
  refine GE.thenN ?_
  refine GC.seq ?_
  refine GC.seq ?_
  refine GC.region ?_
  refine GL.val (Ex.move rfl) (by decide) ?_
  refine GL.val (v := (.bool (decide ((a / 8388608 % 256) = 0)))) (Ex.eql rfl rfl) (by decide) ?_
  refine GL.nil ?_
  refine GE.thenN ?_
  refine GC.cond rfl (fun hq8 => ?_) (fun hq8 => ?_)
  ·replace hq8 := of_decide_eq_true hq8
   refine GC.seq ?_
   refine GC.drawP [⟨bq2, [(.int .i64 0), (.bool false), (.slice none 0 0), (.int .i64 0), (.bool false)], 38, true⟩, ⟨bq1, [(.int .i64 23), (.int .i64 8)], 67, true⟩] T.mixed (by kernel_rfl) (by kernel_rfl) (fuel := 7) rfl rfl ?_
   refine GH.take 0 (v := (.bool (decide ((a / 2147483648 % 2) = 1)))) rfl (by kernel_rfl) (by kernel_rfl) (by kernel_rfl) (fun _ _ _ h => h) (Ex.move rfl) (ulC (ulC ulN)) (by decide) ?_
   refine GH.take 1 (v := (.int .u64 (a % 8388608))) rfl (by kernel_rfl) (by kernel_rfl) (by kernel_rfl) (fun _ _ _ h => h) (Ex.move rfl) (ulC (ulC ulN)) (by decide) ?_
   refine GH.take 3 (v := (.agg #[(.int .i64 23), (.int .i64 8)])) rfl (by kernel_rfl) (by kernel_rfl) (by kernel_rfl) (fun _ _ _ h => h) (Ex.loadA rfl T.ag67 T.sz67 (i := 1) rfl (vs := [(.int .i64 23), (.int .i64 8)]) rfl rfl) (ulC (ulC ulN)) (by decide) ?_
   refine GH.one 2 rfl (by kernel_rfl) (Stp.callR (vs := [(.int .u64 (a % 8388608))]) rfl rfl T.own62 (by decide) (fun wc hw => natof_r (a % 8388608) wc (by omega))) (fun _ => (ulS (ulC (ulC ulN)))) (fun xq9 hq10 => ?_)
   refine GH.one 4 rfl (by kernel_rfl) (Stp.callR (vs := [(.agg #[(.int .i64 23), (.int .i64 8)])]) rfl rfl T.own83 (by decide) (fun wc hw => j83_2  wc )) (fun _ => (ulS (ulC (ulC ulN)))) (fun xq11 hq12 => ?_)
   refine GH.take 5 (v := (.int .i64 (-149))) rfl (by kernel_rfl) (by kernel_rfl) (by kernel_rfl) (fun _ _ _ h => h) (Ex.sub' rfl rfl (Z := -149) (by decide)) (ulS (ulC (ulC ulN))) (by decide) ?_
   refine GH.take 6 (v := (.agg #[(.int .i64 2), (.bool (decide ((a / 2147483648 % 2) = 1))), (.slice (some ⟨xq9, 0, none⟩) ((if a % 8388608 = 0 then 0 else 1)) 2), (.int .i64 (-149)), (.bool false)])) rfl (by kernel_rfl) (by kernel_rfl) (by kernel_rfl) (fun _ _ _ h => h) (Ex.build (vs := [(0, (.int .i64 2)), (1, (.bool (decide ((a / 2147483648 % 2) = 1)))), (2, (.slice (some ⟨xq9, 0, none⟩) ((if a % 8388608 = 0 then 0 else 1)) 2)), (3, (.int .i64 (-149)))]) rfl (by first | rfl | kernel_rfl)) (ulS (ulC (ulC ulN))) (by decide) ?_
   refine GH.done (by kernel_rfl) ?_
   refine GE.thenN ?_
   refine GE.tail rfl (Stp.st1 (cs' := [(.int .i64 2), (.bool (decide ((a / 2147483648 % 2) = 1))), (.slice (some ⟨xq9, 0, none⟩) ((if a % 8388608 = 0 then 0 else 1)) 2), (.int .i64 (-149)), (.bool false)]) rfl rfl rfl T.sz38 rfl rfl rfl) (fun _ _ => ?_)
   refine GE.thenN ?_
   refine GC.ret ?_
   refine GE.thenR ?_
   refine GC.ret1 rfl (Rv.cellA rfl T.ag38 T.sz38 (L := _) (i := 1) rfl (vs := [(.int .i64 2), (.bool (decide ((a / 2147483648 % 2) = 1))), (.slice (some ⟨xq9, 0, none⟩) ((if a % 8388608 = 0 then 0 else 1)) 2), (.int .i64 (-149)), (.bool false)]) rfl rfl) (fun wN HN => ?_)
   have ex : a % 8388608 = ((v : Nat) : Int) := by rw [← hm]; unfold Bt.mant; first | rw [if_pos (by omega)] | rw [if_neg (by omega)]
   have ee : -149 = Bt.expo a := by unfold Bt.expo; first | rw [if_pos (by omega)] | rw [if_neg (by omega)]
   rw [ex] at HN
   exact HN.ret xq9 trivial (by rw [ex, ← ee, if_neg (by omega)]) (ulC (ulS (ulS ulN))) rfl
  ·replace hq8 := of_decide_eq_false hq8
   refine GC.skip ?_
   refine GE.thenN ?_
   refine GC.seq ?_
   refine GC.drawP [⟨bq2, [(.int .i64 0), (.bool false), (.slice none 0 0), (.int .i64 0), (.bool false)], 38, true⟩, ⟨bq1, [(.int .i64 23), (.int .i64 8)], 67, true⟩] T.mixed (by kernel_rfl) (by kernel_rfl) (fuel := 13) rfl rfl ?_
   refine GH.take 0 (v := (.bool (decide ((a / 2147483648 % 2) = 1)))) rfl (by kernel_rfl) (by kernel_rfl) (by kernel_rfl) (fun _ _ _ h => h) (Ex.move rfl) (ulC (ulC ulN)) (by decide) ?_
   refine GH.take 1 (v := (.int .u64 (a % 8388608))) rfl (by kernel_rfl) (by kernel_rfl) (by kernel_rfl) (fun _ _ _ h => h) (Ex.move rfl) (ulC (ulC ulN)) (by decide) ?_
   refine GH.take 2 (v := (.pointer (some ⟨bq1, 0, none⟩))) rfl (by kernel_rfl) (by kernel_rfl) (by kernel_rfl) (fun _ _ _ h => h) (Ex.cast (Ex.fieldAddr rfl Try.underlying67 rfl T.sz3 (by decide)) rfl) (ulC (ulC ulN)) (by decide) ?_
   refine GH.take 3 (v := (.int .i64 23)) rfl (by kernel_rfl) (by kernel_rfl) (by kernel_rfl) (fun _ _ _ h => h) (Ex.load rfl T.ag3 (i := 1) rfl rfl) (ulC (ulC ulN)) (by decide) ?_
   refine GH.take 4 (v := (.int .u64 8388608)) rfl (by kernel_rfl) (by kernel_rfl) (by kernel_rfl) (fun _ _ _ h => h) (Ex.shl rfl (m := 23) rfl (by decide) (Z := 8388608) (by decide)) (ulC (ulC ulN)) (by decide) ?_
   refine GH.take 5 (v := (.int .u64 (a % 8388608 + 8388608))) rfl (by kernel_rfl) (by kernel_rfl) (by kernel_rfl) (fun _ _ _ h => h) (Ex.bits rfl rfl (by simp) (Z := a % 8388608 + 8388608) (orm64 23 (by omega) (by omega) rfl rfl)) (ulC (ulC ulN)) (by decide) ?_
   refine GH.take 7 (v := (.int .u64 (a / 8388608 % 256))) rfl (by kernel_rfl) (by kernel_rfl) (by kernel_rfl) (fun _ _ _ h => h) (Ex.move rfl) (ulC (ulC ulN)) (by decide) ?_
   refine GH.take 8 (v := (.int .i64 (a / 8388608 % 256))) rfl (by kernel_rfl) (by kernel_rfl) (by kernel_rfl) (fun _ _ _ h => h) (Ex.conv rfl Try.underlying70 Try.underlying3 (Z := a / 8388608 % 256) (w64 (by omega))) (ulC (ulC ulN)) (by decide) ?_
   refine GH.take 9 (v := (.agg #[(.int .i64 23), (.int .i64 8)])) rfl (by kernel_rfl) (by kernel_rfl) (by kernel_rfl) (fun _ _ _ h => h) (Ex.loadA rfl T.ag67 T.sz67 (i := 1) rfl (vs := [(.int .i64 23), (.int .i64 8)]) rfl rfl) (ulC (ulC ulN)) (by decide) ?_
   refine GH.one 6 rfl (by kernel_rfl) (Stp.callR (vs := [(.int .u64 (a % 8388608 + 8388608))]) rfl rfl T.own62 (by decide) (fun wc hw => natof_r (a % 8388608 + 8388608) wc (by omega))) (fun _ => (ulS (ulC (ulC ulN)))) (fun xq13 hq14 => ?_)
   refine GH.one 10 rfl (by kernel_rfl) (Stp.callR (vs := [(.agg #[(.int .i64 23), (.int .i64 8)])]) rfl rfl T.own83 (by decide) (fun wc hw => j83_2  wc )) (fun _ => (ulS (ulC (ulC ulN)))) (fun xq15 hq16 => ?_)
   refine GH.take 11 (v := (.int .i64 ((a / 8388608 % 256) - 150))) rfl (by kernel_rfl) (by kernel_rfl) (by kernel_rfl) (fun _ _ _ h => h) (Ex.sub' rfl rfl (Z := (a / 8388608 % 256) - 150) (w64 (by omega))) (ulS (ulC (ulC ulN))) (by decide) ?_
   refine GH.take 12 (v := (.agg #[(.int .i64 2), (.bool (decide ((a / 2147483648 % 2) = 1))), (.slice (some ⟨xq13, 0, none⟩) ((if a % 8388608 + 8388608 = 0 then 0 else 1)) 2), (.int .i64 ((a / 8388608 % 256) - 150)), (.bool false)])) rfl (by kernel_rfl) (by kernel_rfl) (by kernel_rfl) (fun _ _ _ h => h) (Ex.build (vs := [(0, (.int .i64 2)), (1, (.bool (decide ((a / 2147483648 % 2) = 1)))), (2, (.slice (some ⟨xq13, 0, none⟩) ((if a % 8388608 + 8388608 = 0 then 0 else 1)) 2)), (3, (.int .i64 ((a / 8388608 % 256) - 150)))]) rfl (by first | rfl | kernel_rfl)) (ulS (ulC (ulC ulN))) (by decide) ?_
   refine GH.done (by kernel_rfl) ?_
   refine GE.thenN ?_
   refine GE.tail rfl (Stp.st1 (cs' := [(.int .i64 2), (.bool (decide ((a / 2147483648 % 2) = 1))), (.slice (some ⟨xq13, 0, none⟩) ((if a % 8388608 + 8388608 = 0 then 0 else 1)) 2), (.int .i64 ((a / 8388608 % 256) - 150)), (.bool false)]) rfl rfl rfl T.sz38 rfl rfl rfl) (fun _ _ => ?_)
   refine GE.thenN ?_
   refine GC.ret ?_
   refine GC.ret1 rfl (Rv.cellA rfl T.ag38 T.sz38 (L := _) (i := 1) rfl (vs := [(.int .i64 2), (.bool (decide ((a / 2147483648 % 2) = 1))), (.slice (some ⟨xq13, 0, none⟩) ((if a % 8388608 + 8388608 = 0 then 0 else 1)) 2), (.int .i64 ((a / 8388608 % 256) - 150)), (.bool false)]) rfl rfl) (fun wN HN => ?_)
   have ex : a % 8388608 + 8388608 = ((v : Nat) : Int) := by rw [← hm]; unfold Bt.mant; first | rw [if_pos (by omega)] | rw [if_neg (by omega)]
   have ee : (a / 8388608 % 256) - 150 = Bt.expo a := by unfold Bt.expo; first | rw [if_pos (by omega)] | rw [if_neg (by omega)]
   rw [ex] at HN
   exact HN.ret xq13 trivial (by rw [ex, ← ee, if_neg (by omega)]) (ulC (ulS (ulS ulN))) rfl

set_option maxRecDepth 100000 in
set_option maxHeartbeats 1000000 in
theorem of_zero (a : Int) (w : World) (ha : 0 ≤ a ∧ a < 4294967296) (hf : a % 2147483648 < 2139095040) (hm : a % 2147483648 = 0) :
  Calls Try.prog 59 #[(.agg #[(.int .i64 23), (.int .i64 8)]), (.int .u64 a)] w (Ret w (fun _ : Nat => True) (fun z => (.agg #[(.int .i64 2), (.bool ((decide (a / 2147483648 % 2 = 1)))), (.slice (some ⟨z, 0, none⟩) 0 2), (.int .i64 ((-149))), (.bool false)])) (fun z => [⟨z, [(.int .u32 0), (.int .u32 0)], 23, true⟩])) := by
 refine enter (M := None) (L := []) (n := 61) (l := [(0, (.agg #[(.int .i64 23), (.int .i64 8)])), (1, (.int .u64 a))]) Try.func59 rfl rfl (Args.cons rfl (Args.cons rfl (Args.nil _))) (Hp.start _ _) ?_
 refine GC.seq ?_
 refine GC.region ?_
 refine GL.step (Stp.box (cs := [(.int .i64 23), (.int .i64 8)]) rfl rfl (by decide)) (fun bq1 _ => ?_)
 refine GL.step (Stp.alloc T.zr38 (by decide)) (fun bq2 _ => ?_)
 refine GL.nil ?_
 refine GE.thenN ?_
 refine GC.seq ?_
 refine GC.region ?_
 refine GL.val (Ex.move rfl) (by decide) ?_
 refine GL.val (v := (.pointer (some ⟨bq1, 0, none⟩))) (Ex.cast (Ex.fieldAddr rfl Try.underlying67 rfl T.sz3 (by decide)) rfl) (by decide) ?_
 refine GL.val (Ex.load rfl T.ag3 (i := 1) rfl rfl) (by decide) ?_
 refine GL.val (v := (.pointer (some ⟨bq1, 1, none⟩))) (Ex.cast (Ex.fieldAddr rfl Try.underlying67 rfl T.sz3 (by decide)) rfl) (by decide) ?_
 refine GL.val (Ex.load rfl T.ag3 (i := 1) rfl rfl) (by decide) ?_
 refine GL.val (v := (.int .i64 31)) (Ex.add rfl rfl (Z := 31) (by decide)) (by decide) ?_
 refine GL.val (v := (.int .u64 (a / 2147483648))) (Ex.shr rfl (m := 31) rfl (by decide) (Z := a / 2147483648) rfl) (by decide) ?_
 refine GL.val (v := (.int .u64 (a / 2147483648 % 2))) (Ex.bits rfl rfl (by simp) (Z := a / 2147483648 % 2) (andm64 1 (by omega) (by omega) (by omega) rfl rfl)) (by decide) ?_
 refine GL.val (v := (.bool (decide ((a / 2147483648 % 2) = 1)))) (Ex.eql rfl rfl) (by decide) ?_
 refine GL.val (Ex.assign rfl) (by decide) ?_
 refine GL.nil ?_
 refine GE.thenN ?_
 refine GC.seq ?_
 refine GC.drawP [⟨bq2, [(.int .i64 0), (.bool false), (.slice none 0 0), (.int .i64 0), (.bool false)], 38, true⟩, ⟨bq1, [(.int .i64 23), (.int .i64 8)], 67, true⟩] T.mixed (by kernel_rfl) (by kernel_rfl) (fuel := 7) rfl rfl ?_
 refine GH.take 0 (v := (.int .u64 a)) rfl (by kernel_rfl) (by kernel_rfl) (by kernel_rfl) (fun _ _ _ h => h) (Ex.move rfl) (ulC (ulC ulN)) (by decide) ?_
 refine GH.take 1 (v := (.pointer (some ⟨bq1, 0, none⟩))) rfl (by kernel_rfl) (by kernel_rfl) (by kernel_rfl) (fun _ _ _ h => h) (Ex.cast (Ex.fieldAddr rfl Try.underlying67 rfl T.sz3 (by decide)) rfl) (ulC (ulC ulN)) (by decide) ?_
 refine GH.take 2 (v := (.int .i64 23)) rfl (by kernel_rfl) (by kernel_rfl) (by kernel_rfl) (fun _ _ _ h => h) (Ex.load rfl T.ag3 (i := 1) rfl rfl) (ulC (ulC ulN)) (by decide) ?_
 refine GH.take 3 (v := (.int .u64 (a / 8388608))) rfl (by kernel_rfl) (by kernel_rfl) (by kernel_rfl) (fun _ _ _ h => h) (Ex.shr rfl (m := 23) rfl (by decide) (Z := a / 8388608) rfl) (ulC (ulC ulN)) (by decide) ?_
 refine GH.take 4 (v := (.agg #[(.int .i64 23), (.int .i64 8)])) rfl (by kernel_rfl) (by kernel_rfl) (by kernel_rfl) (fun _ _ _ h => h) (Ex.loadA rfl T.ag67 T.sz67 (i := 1) rfl (vs := [(.int .i64 23), (.int .i64 8)]) rfl rfl) (ulC (ulC ulN)) (by decide) ?_
 refine GH.one 5 rfl (by kernel_rfl) (Stp.callR (vs := [(.agg #[(.int .i64 23), (.int .i64 8)])]) rfl rfl T.own82 (by decide) (fun wc hw => j82_1  wc )) (fun _ => (ulC (ulC ulN))) (fun xq3 hq4 => ?_)
 refine GH.take 6 (v := (.int .u64 (a / 8388608 % 256))) rfl (by kernel_rfl) (by kernel_rfl) (by kernel_rfl) (fun _ _ _ h => h) (Ex.bits rfl rfl (by simp) (Z := a / 8388608 % 256) (andm64 8 (by omega) (by omega) (by omega) rfl rfl)) (ulC (ulC ulN)) (by decide) ?_
 refine GH.done (by kernel_rfl) ?_
 refine GE.thenN ?_
 refine GE.tail rfl (Ex.wp (v := (.int .u64 (a / 8388608 % 256))) (Ex.assign rfl) (by decide)) (fun _ _ => ?_)
 refine GE.thenN ?_
 refine GC.seq ?_
 refine GC.region ?_
 refine GL.val (Ex.move rfl) (by decide) ?_
 refine GL.val (v := (.pointer (some ⟨bq1, 0, none⟩))) (Ex.cast (Ex.fieldAddr rfl Try.underlying67 rfl T.sz3 (by decide)) rfl) (by decide) ?_
 refine GL.val (Ex.load rfl T.ag3 (i := 1) rfl rfl) (by decide) ?_
 refine GL.val (v := (.int .u64 8388608)) (Ex.shl rfl (m := 23) rfl (by decide) (Z := 8388608) (by decide)) (by decide) ?_
 refine GL.val (v := (.int .u64 8388607)) (Ex.sub' rfl rfl (Z := 8388607) (by decide)) (by decide) ?_
 refine GL.val (v := (.int .u64 (a % 8388608))) (Ex.bits rfl rfl (by simp) (Z := a % 8388608) (andm64 23 (by omega) (by omega) (by omega) rfl rfl)) (by decide) ?_
 refine GL.val (Ex.assign rfl) (by decide) ?_
 refine GL.nil ?_
 refine GE.thenN ?_
 refine GC.seq ?_
 refine GC.seq ?_
 refine GC.region ?_
 refine GL.val (Ex.move rfl) (by decide) ?_
 refine GL.val (v := (.agg #[(.int .i64 23), (.int .i64 8)])) (Ex.loadA rfl T.ag67 T.sz67 (i := 1) rfl (vs := [(.int .i64 23), (.int .i64 8)]) rfl rfl) (by decide) ?_
 refine GL.step (Stp.callR (vs := [(.agg #[(.int .i64 23), (.int .i64 8)])]) rfl rfl T.own82 (by decide) (fun wc hw => j82_1  wc )) (fun xq5 hq6 => ?_)
 refine GL.val (v := (.bool (decide ((a / 8388608 % 256) = 255)))) (Ex.eql rfl rfl) (by decide) ?_
 refine GL.nil ?_
 refine GE.thenN ?_
 refine GC.cond rfl (fun hq7 => ?_) (fun hq7 => ?_)
 ·replace hq7 := of_decide_eq_true hq7
  exfalso; omega
 ·replace hq7 := of_decide_eq_false hq7
  refine GC.skip ?_
  refine GE.thenN ?_
  refine GC.seq ?_
  refine GC.seq ?_
  refine GC.region ?_
  refine GL.val (Ex.move rfl) (by decide) ?_
  refine GL.val (v := (.bool (decide ((a / 8388608 % 256) = 0)))) (Ex.eql rfl rfl) (by decide) ?_
  refine GL.nil ?_
  refine GE.thenN ?_
  refine GC.cond rfl (fun hq8 => ?_) (fun hq8 => ?_)
  ·replace hq8 := of_decide_eq_true hq8
   refine GC.seq ?_
   refine GC.drawP [⟨bq2, [(.int .i64 0), (.bool false), (.slice none 0 0), (.int .i64 0), (.bool false)], 38, true⟩, ⟨bq1, [(.int .i64 23), (.int .i64 8)], 67, true⟩] T.mixed (by kernel_rfl) (by kernel_rfl) (fuel := 7) rfl rfl ?_
   refine GH.take 0 (v := (.bool (decide ((a / 2147483648 % 2) = 1)))) rfl (by kernel_rfl) (by kernel_rfl) (by kernel_rfl) (fun _ _ _ h => h) (Ex.move rfl) (ulC (ulC ulN)) (by decide) ?_
   refine GH.take 1 (v := (.int .u64 (a % 8388608))) rfl (by kernel_rfl) (by kernel_rfl) (by kernel_rfl) (fun _ _ _ h => h) (Ex.move rfl) (ulC (ulC ulN)) (by decide) ?_
   refine GH.take 3 (v := (.agg #[(.int .i64 23), (.int .i64 8)])) rfl (by kernel_rfl) (by kernel_rfl) (by kernel_rfl) (fun _ _ _ h => h) (Ex.loadA rfl T.ag67 T.sz67 (i := 1) rfl (vs := [(.int .i64 23), (.int .i64 8)]) rfl rfl) (ulC (ulC ulN)) (by decide) ?_
   refine GH.one 2 rfl (by kernel_rfl) (Stp.callR (vs := [(.int .u64 (a % 8388608))]) rfl rfl T.own62 (by decide) (fun wc hw => natof_r (a % 8388608) wc (by omega))) (fun _ => (ulS (ulC (ulC ulN)))) (fun xq9 hq10 => ?_)
   refine GH.one 4 rfl (by kernel_rfl) (Stp.callR (vs := [(.agg #[(.int .i64 23), (.int .i64 8)])]) rfl rfl T.own83 (by decide) (fun wc hw => j83_2  wc )) (fun _ => (ulS (ulC (ulC ulN)))) (fun xq11 hq12 => ?_)
   refine GH.take 5 (v := (.int .i64 (-149))) rfl (by kernel_rfl) (by kernel_rfl) (by kernel_rfl) (fun _ _ _ h => h) (Ex.sub' rfl rfl (Z := -149) (by decide)) (ulS (ulC (ulC ulN))) (by decide) ?_
   refine GH.take 6 (v := (.agg #[(.int .i64 2), (.bool (decide ((a / 2147483648 % 2) = 1))), (.slice (some ⟨xq9, 0, none⟩) ((if a % 8388608 = 0 then 0 else 1)) 2), (.int .i64 (-149)), (.bool false)])) rfl (by kernel_rfl) (by kernel_rfl) (by kernel_rfl) (fun _ _ _ h => h) (Ex.build (vs := [(0, (.int .i64 2)), (1, (.bool (decide ((a / 2147483648 % 2) = 1)))), (2, (.slice (some ⟨xq9, 0, none⟩) ((if a % 8388608 = 0 then 0 else 1)) 2)), (3, (.int .i64 (-149)))]) rfl (by first | rfl | kernel_rfl)) (ulS (ulC (ulC ulN))) (by decide) ?_
   refine GH.done (by kernel_rfl) ?_
   refine GE.thenN ?_
   refine GE.tail rfl (Stp.st1 (cs' := [(.int .i64 2), (.bool (decide ((a / 2147483648 % 2) = 1))), (.slice (some ⟨xq9, 0, none⟩) ((if a % 8388608 = 0 then 0 else 1)) 2), (.int .i64 (-149)), (.bool false)]) rfl rfl rfl T.sz38 rfl rfl rfl) (fun _ _ => ?_)
   refine GE.thenN ?_
   refine GC.ret ?_
   refine GE.thenR ?_
   refine GC.ret1 rfl (Rv.cellA rfl T.ag38 T.sz38 (L := _) (i := 1) rfl (vs := [(.int .i64 2), (.bool (decide ((a / 2147483648 % 2) = 1))), (.slice (some ⟨xq9, 0, none⟩) ((if a % 8388608 = 0 then 0 else 1)) 2), (.int .i64 (-149)), (.bool false)]) rfl rfl) (fun wN HN => ?_)
   have ex : a % 8388608 = 0 := by omega
   rw [ex] at HN
   exact HN.ret xq9 trivial (by rw [ex]; rfl) (ulC (ulS (ulS ulN))) rfl
  ·replace hq8 := of_decide_eq_false hq8
   exfalso; omega

set_option maxRecDepth 100000 in
set_option maxHeartbeats 1000000 in
theorem trim_g (b L V : Nat) (w : World) (hL : L ≤ 1000000) (hV : V < Nd.Bs ^ L) (hh : Has w [⟨b, (Nd.dl L V).map u32, 23, false⟩]) :
  Calls Try.prog 63 #[(.slice (some ⟨b, 0, none⟩) L L)] w (Ret w (fun _ : Unit => True) (fun _ => (.slice (some ⟨b, 0, none⟩) ((Nd.nd V)) L)) (fun _ => [])) := by
 refine enter (M := None) (L := [⟨b, (Nd.dl L V).map u32, 23, false⟩]) (n := 21) (l := [(0, (.slice (some ⟨b, 0, none⟩) L L))]) Try.func63 rfl rfl (Args.cons rfl (Args.nil _)) (Hp.reads hh rfl) ?_
 refine GC.seq ?_
 refine GC.region ?_
 refine GL.val (Ex.assign rfl) (by decide) ?_
 refine GL.nil ?_
 refine GE.thenN ?_
 refine GC.seq ?_
 refine GC.region ?_
 refine GL.val (Ex.move rfl) (by decide) ?_
 refine GL.val (v := (.int .i64 ((L : Int)))) (Ex.len rfl Try.underlying36) (by decide) ?_
 refine GL.val (Ex.assign rfl) (by decide) ?_
 refine GL.nil ?_
 refine GE.thenN ?_
 refine GC.seq ?_
 refine GC.block ?_
 refine GC.loop (σ := Nat) (fun n => n ≤ L ∧ V < Nd.Bs ^ n) (fun n => [(0, (.slice (some ⟨b, 0, none⟩) L L)), (2, (.slice none 0 0)), (3, (.int .i64 (((n : Nat) : Int))))]) (fun n => [⟨b, (Nd.dl L V).map u32, 23, false⟩]) (fun n => n) (L) ⟨Nat.le_refl _, hV⟩ ((sub_cons rfl ((sub_cons rfl ((sub_cons rfl ((sub_nil _)))))))) (ulC ulN) (fun n hp => ?_)
 have hpn : n ≤ L ∧ V < Nd.Bs ^ n := hp
 refine GC.seq ?_
 refine GC.seq ?_
 refine GC.region ?_
 refine GL.val (Ex.move rfl) (by decide) ?_
 by_cases hq1 : 0 < (((n : Nat) : Int))
 ·refine GL.val (v := (.bool true)) (Ex.cast (Ex.gtr rfl rfl) (congrArg Value.bool (decide_eq_true hq1))) (by decide) ?_
  refine GL.val (Ex.move rfl) (by decide) ?_
  refine GL.stepG (tj := 8) rfl rfl (Ex.wp (v := (.slice (some ⟨b, 0, none⟩) L L)) (Ex.move rfl) (by decide)) (fun _ _ => ?_)
  refine GL.stepG (tj := 8) rfl rfl (Ex.wp (v := (.int .i64 (((n : Nat) : Int)))) (Ex.move rfl) (by decide)) (fun _ _ => ?_)
  refine GL.stepG (tj := 8) rfl rfl (Ex.wp (v := (.int .i64 (((n - 1 : Nat) : Int)))) (Ex.sub' rfl rfl (Z := ((n - 1 : Nat) : Int)) (subN (b := 1) (by omega) (by omega))) (by decide)) (fun _ _ => ?_)
  refine GL.stepG (tj := 8) rfl rfl (Ex.wp (v := (.pointer (some ⟨b, n - 1, none⟩))) (Ex.cast (Ex.indexAddr rfl rfl Try.underlying36 T.sz23 (by omega) (by omega)) (by simp only [Int.toNat_natCast, Nat.mul_one, Nat.zero_add])) (by decide)) (fun _ _ => ?_)
  refine GL.stepG (tj := 8) rfl rfl (Ex.wp (v := (.int .u32 (((Nd.D V (n - 1) : Nat) : Int)))) (Ex.load rfl T.ag23 (i := 0) rfl (Nd.dl_cell' (by omega))) (by decide)) (fun _ _ => ?_)
  refine GL.stepG (tj := 8) rfl rfl (Ex.wp (v := (.bool (decide ((((Nd.D V (n - 1) : Nat) : Int)) = 0)))) (Ex.eql rfl rfl) (by decide)) (fun _ _ => ?_)
  refine GL.val (v := (.bool (decide ((((Nd.D V (n - 1) : Nat) : Int)) = 0)))) (Ex.pickT rfl rfl) (by decide) ?_
  refine GL.nil ?_
  refine GE.thenN ?_
  refine GC.cond rfl (fun hq2 => ?_) (fun hq2 => ?_)
  ·replace hq2 := of_decide_eq_true hq2
   refine GC.skip ?_
   refine GE.thenN ?_
   refine GC.block ?_
   refine GC.region ?_
   refine GL.val (Ex.move rfl) (by decide) ?_
   refine GL.val (v := (.int .i64 (((n - 1 : Nat) : Int)))) (Ex.sub' rfl rfl (Z := ((n - 1 : Nat) : Int)) (subN (b := 1) (by omega) (by omega))) (by decide) ?_
   refine GL.val (Ex.assign rfl) (by decide) ?_
   refine GL.nil ?_
   refine GE.blockN ?_
   refine GE.thenN ?_
   exact Head.mk (n - 1) ⟨(by omega), Nd.shrink' (by omega) hpn.2 (by omega)⟩ (by omega) ((sub_cons rfl ((sub_cons rfl ((sub_cons rfl ((sub_nil _)))))))) (ulC ulN)
  ·replace hq2 := of_decide_eq_false hq2
   refine GC.exit ?_
   refine GE.thenE ?_
   refine GE.thenE ?_
   refine GE.blockE ?_
   refine GE.thenN ?_
   refine GC.seq ?_
   refine GC.region ?_
   refine GL.val (Ex.move rfl) (by decide) ?_
   refine GL.val (Ex.move rfl) (by decide) ?_
   refine GL.val (v := (.slice (some ⟨b, 0, none⟩) n L)) (Ex.sliceH (m := n) rfl rfl Try.underlying36 T.sz23 rfl (by omega)) (by decide) ?_
   refine GL.val (Ex.assign rfl) (by decide) ?_
   refine GL.nil ?_
   refine GE.thenN ?_
   refine GC.ret ?_
   refine GC.ret1 rfl (Rv.tmp rfl) (fun wN HN => ?_)
   exact HN.ret () trivial (by rw [show Nd.nd V = n from Nd.nd_is hpn.2 (by omega)]) (List.nil_sublist _) rfl
 ·refine GL.val (v := (.bool false)) (Ex.cast (Ex.gtr rfl rfl) (congrArg Value.bool (decide_eq_false hq1))) (by decide) ?_
  refine GL.val (Ex.move rfl) (by decide) ?_
  refine GL.skipG (tj := 8) rfl rfl rfl (by decide) ?_
  refine GL.skipG (tj := 8) rfl rfl rfl (by decide) ?_
  refine GL.skipG (tj := 8) rfl rfl rfl (by decide) ?_
  refine GL.skipG (tj := 8) rfl rfl rfl (by decide) ?_
  refine GL.skipG (tj := 8) rfl rfl rfl (by decide) ?_
  refine GL.skipG (tj := 8) rfl rfl rfl (by decide) ?_
  refine GL.val (v := (.bool false)) (Ex.pickF rfl rfl) (by decide) ?_
  refine GL.nil ?_
  refine GE.thenN ?_
  refine GC.cond rfl (fun hq3 => by cases hq3) (fun _ => ?_)
  refine GC.exit ?_
  refine GE.thenE ?_
  refine GE.thenE ?_
  refine GE.blockE ?_
  refine GE.thenN ?_
  refine GC.seq ?_
  refine GC.region ?_
  refine GL.val (Ex.move rfl) (by decide) ?_
  refine GL.val (Ex.move rfl) (by decide) ?_
  refine GL.val (v := (.slice (some ⟨b, 0, none⟩) n L)) (Ex.sliceH (m := n) rfl rfl Try.underlying36 T.sz23 rfl (by omega)) (by decide) ?_
  refine GL.val (Ex.assign rfl) (by decide) ?_
  refine GL.nil ?_
  refine GE.thenN ?_
  refine GC.ret ?_
  refine GC.ret1 rfl (Rv.tmp rfl) (fun wN HN => ?_)
  exact HN.ret () trivial (by rw [show Nd.nd V = n from Nd.nd_is hpn.2 (by omega)]) (List.nil_sublist _) rfl

set_option maxRecDepth 100000 in
set_option maxHeartbeats 1000000 in
theorem cmp_bb (x bx cx : Nat) (z bz cz : Nat) (w : World) (hrx : Nd.Nb w bx x) (hnx : Nd.nd x ≤ 1000) (hrz : Nd.Nb w bz z) (hnz : Nd.nd z ≤ 1000) :
  Calls Try.prog 60 #[(.slice (some ⟨bx, 0, none⟩) ((Nd.nd x)) cx), (.slice (some ⟨bz, 0, none⟩) ((Nd.nd z)) cz)] w (Ret w (fun _ : Unit => True) (fun _ => (.int .i64 ((if x < z then (-1 : Int) else if x = z then 0 else 1)))) (fun _ => [])) := by
 have h00 : Nd.nd 0 = 0 := rfl
 refine enter (M := None) (L := []) (n := 41) (l := [(0, (.slice (some ⟨bx, 0, none⟩) ((Nd.nd x)) cx)), (1, (.slice (some ⟨bz, 0, none⟩) ((Nd.nd z)) cz))]) Try.func60 rfl rfl (Args.cons rfl (Args.cons rfl (Args.nil _))) (Hp.start _ _) ?_
 refine GC.seq ?_
 refine GC.region ?_
 refine GL.val (Ex.assign rfl) (by decide) ?_
 refine GL.nil ?_
 refine GE.thenN ?_
 refine GC.seq ?_
 refine GC.seq ?_
 refine GC.region ?_
 refine GL.val (Ex.move rfl) (by decide) ?_
 refine GL.val (v := (.int .i64 ((((Nd.nd x)) : Int)))) (Ex.len rfl Try.underlying36) (by decide) ?_
 refine GL.val (Ex.move rfl) (by decide) ?_
 refine GL.val (v := (.int .i64 ((((Nd.nd z)) : Int)))) (Ex.len rfl Try.underlying36) (by decide) ?_
 refine GL.val (v := (.bool (decide (((((Nd.nd x)) : Int)) ≠ ((((Nd.nd z)) : Int)))))) (Ex.neq rfl rfl) (by decide) ?_
 refine GL.nil ?_
 refine GE.thenN ?_
 refine GC.cond rfl (fun hq1 => ?_) (fun hq1 => ?_)
 ·replace hq1 := of_decide_eq_true hq1
  refine GC.seq ?_
  refine GC.seq ?_
  refine GC.region ?_
  refine GL.val (Ex.move rfl) (by decide) ?_
  refine GL.val (v := (.int .i64 ((((Nd.nd x)) : Int)))) (Ex.len rfl Try.underlying36) (by decide) ?_
  refine GL.val (Ex.move rfl) (by decide) ?_
  refine GL.val (v := (.int .i64 ((((Nd.nd z)) : Int)))) (Ex.len rfl Try.underlying36) (by decide) ?_
  refine GL.val (v := (.bool (decide (((((Nd.nd x)) : Int)) < ((((Nd.nd z)) : Int)))))) (Ex.lss rfl rfl) (by decide) ?_
  refine GL.nil ?_
  refine GE.thenN ?_
  refine GC.cond rfl (fun hq2 => ?_) (fun hq2 => ?_)
  ·replace hq2 := of_decide_eq_true hq2
   refine GC.seq ?_
   refine GC.region ?_
   refine GL.val (Ex.assign rfl) (by decide) ?_
   refine GL.nil ?_
   refine GE.thenN ?_
   refine GC.ret ?_
   refine GE.thenR ?_
   refine GE.thenR ?_
   refine GC.ret1 rfl (Rv.tmp rfl) (fun wN HN => ?_)
   exact HN.ret () trivial (congrArg (Value.int .i64) (Nd.cmp_lens1 (by omega))) (List.nil_sublist _) rfl
  ·replace hq2 := of_decide_eq_false hq2
   refine GC.skip ?_
   refine GE.thenN ?_
   refine GC.seq ?_
   refine GC.region ?_
   refine GL.val (Ex.assign rfl) (by decide) ?_
   refine GL.nil ?_
   refine GE.thenN ?_
   refine GC.ret ?_
   refine GE.thenR ?_
   refine GC.ret1 rfl (Rv.tmp rfl) (fun wN HN => ?_)
   exact HN.ret () trivial (congrArg (Value.int .i64) (Nd.cmp_lens2 (by omega))) (List.nil_sublist _) rfl
 ·replace hq1 := of_decide_eq_false hq1
  have hlen : (Nd.nd x) = (Nd.nd z) := by omega
  refine GC.skip ?_
  refine GE.thenN ?_
  refine GC.seq ?_
  refine GC.seq ?_
  refine GC.region ?_
  refine GL.val (Ex.move rfl) (by decide) ?_
  refine GL.val (v := (.int .i64 ((((Nd.nd x)) : Int)))) (Ex.len rfl Try.underlying36) (by decide) ?_
  refine GL.val (v := (.int .i64 (((((Nd.nd x) : Nat) : Int) - 1)))) (Ex.sub' rfl rfl (Z := ((((Nd.nd x) : Nat) : Int) - 1)) (w64 (by omega))) (by decide) ?_
  refine GL.val (Ex.assign rfl) (by decide) ?_
  refine GL.nil ?_
  refine GE.thenN ?_
  refine GC.block ?_
  refine GC.loop (σ := Nat) (fun q => q ≤ (Nd.nd x) ∧ x / Nd.Bs ^ q = z / Nd.Bs ^ q) (fun q => [(0, (.slice (some ⟨bx, 0, none⟩) ((Nd.nd x)) cx)), (1, (.slice (some ⟨bz, 0, none⟩) ((Nd.nd z)) cz)), (4, (.int .i64 0)), (5, (.int .i64 ((((q : Nat) : Int) - 1))))]) (fun q => []) (fun q => q) ((Nd.nd x)) ⟨Nat.le_refl _, Nd.top_eq hlen⟩ ((sub_cons rfl ((sub_cons rfl ((sub_cons rfl ((sub_cons rfl ((sub_nil _)))))))))) ulN (fun q hp => ?_)
  have hpq : q ≤ (Nd.nd x) ∧ x / Nd.Bs ^ q = z / Nd.Bs ^ q := hp
  refine GC.seq ?_
  refine GC.seq ?_
  refine GC.region ?_
  refine GL.val (Ex.move rfl) (by decide) ?_
  refine GL.val (v := (.bool (decide (0 ≤ ((((q : Nat) : Int) - 1)))))) (Ex.geq rfl rfl) (by decide) ?_
  refine GL.nil ?_
  refine GE.thenN ?_
  refine GC.cond rfl (fun hq3 => ?_) (fun hq3 => ?_)
  ·replace hq3 := of_decide_eq_true hq3
   obtain ⟨i, hi⟩ : ∃ i, q = i + 1 := ⟨q - 1, by omega⟩
   have hq1 : x / Nd.Bs ^ (i + 1) = z / Nd.Bs ^ (i + 1) := by rw [← hi]; exact hpq.2
   rw [show ((q : Nat) : Int) - 1 = ((i : Nat) : Int) by omega]
   refine GC.skip ?_
   refine GE.thenN ?_
   refine GC.seq ?_
   refine GC.block ?_
   refine GC.seq ?_
   refine GC.draw [] T.mixed (fuel := 9) rfl rfl ?_
   refine GH.take 0 (v := (.slice (some ⟨bx, 0, none⟩) ((Nd.nd x)) cx)) rfl (by kernel_rfl) (by kernel_rfl) (by kernel_rfl) (fun _ _ _ h => h) (Ex.move rfl) ulN (by decide) ?_
   refine GH.take 1 (v := (.int .i64 (((i : Nat) : Int)))) rfl (by kernel_rfl) (by kernel_rfl) (by kernel_rfl) (fun _ _ _ h => h) (Ex.move rfl) ulN (by decide) ?_
   refine GH.take 2 (v := (.pointer (some ⟨bx, i, none⟩))) rfl (by kernel_rfl) (by kernel_rfl) (by kernel_rfl) (fun _ _ _ h => h) (Ex.cast (Ex.indexAddr rfl rfl Try.underlying36 T.sz23 (by omega) (by omega)) (by simp)) ulN (by decide) ?_
   refine GH.take 3 (v := (.int .u32 (((Nd.D x i : Nat) : Int)))) rfl (by kernel_rfl) (by kernel_rfl) (by kernel_rfl) (fun _ _ _ h => h) (Ex.loadO rfl T.ag23 (Nd.Nb.dig hrx (by omega)) (fun x => x)) ulN (by decide) ?_
   refine GH.take 4 (v := (.slice (some ⟨bz, 0, none⟩) ((Nd.nd z)) cz)) rfl (by kernel_rfl) (by kernel_rfl) (by kernel_rfl) (fun _ _ _ h => h) (Ex.move rfl) ulN (by decide) ?_
   refine GH.take 5 (v := (.int .i64 (((i : Nat) : Int)))) rfl (by kernel_rfl) (by kernel_rfl) (by kernel_rfl) (fun _ _ _ h => h) (Ex.move rfl) ulN (by decide) ?_
   refine GH.take 6 (v := (.pointer (some ⟨bz, i, none⟩))) rfl (by kernel_rfl) (by kernel_rfl) (by kernel_rfl) (fun _ _ _ h => h) (Ex.cast (Ex.indexAddr rfl rfl Try.underlying36 T.sz23 (by omega) (by omega)) (by simp)) ulN (by decide) ?_
   refine GH.take 7 (v := (.int .u32 (((Nd.D z i : Nat) : Int)))) rfl (by kernel_rfl) (by kernel_rfl) (by kernel_rfl) (fun _ _ _ h => h) (Ex.loadO rfl T.ag23 (Nd.Nb.dig hrz (by omega)) (fun x => x)) ulN (by decide) ?_
   refine GH.take 8 (v := (.bool (decide ((((Nd.D x i : Nat) : Int)) ≠ (((Nd.D z i : Nat) : Int)))))) rfl (by kernel_rfl) (by kernel_rfl) (by kernel_rfl) (fun _ _ _ h => h) (Ex.neq rfl rfl) ulN (by decide) ?_
   refine GH.done (by kernel_rfl) ?_
   refine GE.thenN ?_
   refine GC.cond rfl (fun hq4 => ?_) (fun hq4 => ?_)
   ·replace hq4 := of_decide_eq_true hq4
    refine GC.seq ?_
    refine GC.seq ?_
    refine GC.draw [] T.mixed (fuel := 9) rfl rfl ?_
    refine GH.take 0 (v := (.slice (some ⟨bx, 0, none⟩) ((Nd.nd x)) cx)) rfl (by kernel_rfl) (by kernel_rfl) (by kernel_rfl) (fun _ _ _ h => h) (Ex.move rfl) ulN (by decide) ?_
    refine GH.take 1 (v := (.int .i64 (((i : Nat) : Int)))) rfl (by kernel_rfl) (by kernel_rfl) (by kernel_rfl) (fun _ _ _ h => h) (Ex.move rfl) ulN (by decide) ?_
    refine GH.take 2 (v := (.pointer (some ⟨bx, i, none⟩))) rfl (by kernel_rfl) (by kernel_rfl) (by kernel_rfl) (fun _ _ _ h => h) (Ex.cast (Ex.indexAddr rfl rfl Try.underlying36 T.sz23 (by omega) (by omega)) (by simp)) ulN (by decide) ?_
    refine GH.take 3 (v := (.int .u32 (((Nd.D x i : Nat) : Int)))) rfl (by kernel_rfl) (by kernel_rfl) (by kernel_rfl) (fun _ _ _ h => h) (Ex.loadO rfl T.ag23 (Nd.Nb.dig hrx (by omega)) (fun x => x)) ulN (by decide) ?_
    refine GH.take 4 (v := (.slice (some ⟨bz, 0, none⟩) ((Nd.nd z)) cz)) rfl (by kernel_rfl) (by kernel_rfl) (by kernel_rfl) (fun _ _ _ h => h) (Ex.move rfl) ulN (by decide) ?_
    refine GH.take 5 (v := (.int .i64 (((i : Nat) : Int)))) rfl (by kernel_rfl) (by kernel_rfl) (by kernel_rfl) (fun _ _ _ h => h) (Ex.move rfl) ulN (by decide) ?_
    refine GH.take 6 (v := (.pointer (some ⟨bz, i, none⟩))) rfl (by kernel_rfl) (by kernel_rfl) (by kernel_rfl) (fun _ _ _ h => h) (Ex.cast (Ex.indexAddr rfl rfl Try.underlying36 T.sz23 (by omega) (by omega)) (by simp)) ulN (by decide) ?_
    refine GH.take 7 (v := (.int .u32 (((Nd.D z i : Nat) : Int)))) rfl (by kernel_rfl) (by kernel_rfl) (by kernel_rfl) (fun _ _ _ h => h) (Ex.loadO rfl T.ag23 (Nd.Nb.dig hrz (by omega)) (fun x => x)) ulN (by decide) ?_
    refine GH.take 8 (v := (.bool (decide ((((Nd.D x i : Nat) : Int)) < (((Nd.D z i : Nat) : Int)))))) rfl (by kernel_rfl) (by kernel_rfl) (by kernel_rfl) (fun _ _ _ h => h) (Ex.lss rfl rfl) ulN (by decide) ?_
    refine GH.done (by kernel_rfl) ?_
    refine GE.thenN ?_
    refine GC.cond rfl (fun hq5 => ?_) (fun hq5 => ?_)
    ·replace hq5 := of_decide_eq_true hq5
     refine GC.seq ?_
     refine GC.region ?_
     refine GL.val (Ex.assign rfl) (by decide) ?_
     refine GL.nil ?_
     refine GE.thenN ?_
     refine GC.ret ?_
     refine GE.thenR ?_
     refine GE.blockR ?_
     refine GE.thenR ?_
     refine GE.thenR ?_
     refine GE.blockR ?_
     refine GE.thenR ?_
     refine GC.ret1 rfl (Rv.tmp rfl) (fun wN HN => ?_)
     exact HN.ret () trivial (congrArg (Value.int .i64) (Nd.cmp_lt (Nd.cmp_dig hq1 (by omega)))) (List.nil_sublist _) rfl
    ·replace hq5 := of_decide_eq_false hq5
     refine GC.skip ?_
     refine GE.thenN ?_
     refine GC.seq ?_
     refine GC.region ?_
     refine GL.val (Ex.assign rfl) (by decide) ?_
     refine GL.nil ?_
     refine GE.thenN ?_
     refine GC.ret ?_
     refine GE.blockR ?_
     refine GE.thenR ?_
     refine GE.thenR ?_
     refine GE.blockR ?_
     refine GE.thenR ?_
     refine GC.ret1 rfl (Rv.tmp rfl) (fun wN HN => ?_)
     exact HN.ret () trivial (congrArg (Value.int .i64) (Nd.cmp_gt (Nd.cmp_dig hq1.symm (by omega)))) (List.nil_sublist _) rfl
   ·replace hq4 := of_decide_eq_false hq4
    refine GC.skip ?_
    refine GE.blockN ?_
    refine GE.thenN ?_
    refine GC.region ?_
    refine GL.val (Ex.move rfl) (by decide) ?_
    refine GL.val (v := (.int .i64 ((((i : Nat) : Int) - 1)))) (Ex.sub' rfl rfl (Z := (((i : Nat) : Int) - 1)) (w64 (by omega))) (by decide) ?_
    refine GL.val (Ex.assign rfl) (by decide) ?_
    refine GL.nil ?_
    refine GE.thenN ?_
    exact Head.mk (i) ⟨(by omega), Nd.cmp_step hq1 (by omega)⟩ (by omega) ((sub_cons rfl ((sub_cons rfl ((sub_cons rfl ((sub_cons rfl ((sub_nil _)))))))))) ulN
  ·replace hq3 := of_decide_eq_false hq3
   refine GC.exit ?_
   refine GE.thenE ?_
   refine GE.thenE ?_
   refine GE.blockE ?_
   refine GE.thenN ?_
   refine GC.seq ?_
   refine GC.region ?_
   refine GL.val (Ex.assign rfl) (by decide) ?_
   refine GL.nil ?_
   refine GE.thenN ?_
   refine GC.ret ?_
   refine GC.ret1 rfl (Rv.tmp rfl) (fun wN HN => ?_)
   exact HN.ret () trivial (congrArg (Value.int .i64) (Nd.cmp_same (show x = z by have := hpq.2; rw [show q = 0 by omega] at this; simpa using this))) (List.nil_sublist _) rfl

set_option maxRecDepth 100000 in
set_option maxHeartbeats 1000000 in
theorem cmp_nb (adx : Option Addr) (cx : Nat) (z bz cz : Nat) (w : World)  (hrz : Nd.Nb w bz z) (hnz : Nd.nd z ≤ 1000) :
  Calls Try.prog 60 #[(.slice adx 0 cx), (.slice (some ⟨bz, 0, none⟩) ((Nd.nd z)) cz)] w (Ret w (fun _ : Unit => True) (fun _ => (.int .i64 ((if 0 < z then (-1 : Int) else if 0 = z then 0 else 1)))) (fun _ => [])) := by
 have h00 : Nd.nd 0 = 0 := rfl
 refine enter (M := None) (L := []) (n := 41) (l := [(0, (.slice adx 0 cx)), (1, (.slice (some ⟨bz, 0, none⟩) ((Nd.nd z)) cz))]) Try.func60 rfl rfl (Args.cons rfl (Args.cons rfl (Args.nil _))) (Hp.start _ _) ?_
 refine GC.seq ?_
 refine GC.region ?_
 refine GL.val (Ex.assign rfl) (by decide) ?_
 refine GL.nil ?_
 refine GE.thenN ?_
 refine GC.seq ?_
 refine GC.seq ?_
 refine GC.region ?_
 refine GL.val (Ex.move rfl) (by decide) ?_
 refine GL.val (v := (.int .i64 0)) (Ex.len rfl Try.underlying36) (by decide) ?_
 refine GL.val (Ex.move rfl) (by decide) ?_
 refine GL.val (v := (.int .i64 ((((Nd.nd z)) : Int)))) (Ex.len rfl Try.underlying36) (by decide) ?_
 refine GL.val (v := (.bool (decide (0 ≠ ((((Nd.nd z)) : Int)))))) (Ex.neq rfl rfl) (by decide) ?_
 refine GL.nil ?_
 refine GE.thenN ?_
 refine GC.cond rfl (fun hq1 => ?_) (fun hq1 => ?_)
 ·replace hq1 := of_decide_eq_true hq1
  refine GC.seq ?_
  refine GC.seq ?_
  refine GC.region ?_
  refine GL.val (Ex.move rfl) (by decide) ?_
  refine GL.val (v := (.int .i64 0)) (Ex.len rfl Try.underlying36) (by decide) ?_
  refine GL.val (Ex.move rfl) (by decide) ?_
  refine GL.val (v := (.int .i64 ((((Nd.nd z)) : Int)))) (Ex.len rfl Try.underlying36) (by decide) ?_
  refine GL.val (v := (.bool (decide (0 < ((((Nd.nd z)) : Int)))))) (Ex.lss rfl rfl) (by decide) ?_
  refine GL.nil ?_
  refine GE.thenN ?_
  refine GC.cond rfl (fun hq2 => ?_) (fun hq2 => ?_)
  ·replace hq2 := of_decide_eq_true hq2
   refine GC.seq ?_
   refine GC.region ?_
   refine GL.val (Ex.assign rfl) (by decide) ?_
   refine GL.nil ?_
   refine GE.thenN ?_
   refine GC.ret ?_
   refine GE.thenR ?_
   refine GE.thenR ?_
   refine GC.ret1 rfl (Rv.tmp rfl) (fun wN HN => ?_)
   exact HN.ret () trivial (congrArg (Value.int .i64) (Nd.cmp_lens1 (by omega))) (List.nil_sublist _) rfl
  ·replace hq2 := of_decide_eq_false hq2
   refine GC.skip ?_
   refine GE.thenN ?_
   refine GC.seq ?_
   refine GC.region ?_
   refine GL.val (Ex.assign rfl) (by decide) ?_
   refine GL.nil ?_
   refine GE.thenN ?_
   refine GC.ret ?_
   refine GE.thenR ?_
   refine GC.ret1 rfl (Rv.tmp rfl) (fun wN HN => ?_)
   exact HN.ret () trivial (congrArg (Value.int .i64) (Nd.cmp_lens2 (by omega))) (List.nil_sublist _) rfl
 ·replace hq1 := of_decide_eq_false hq1
  have hlen : (Nd.nd 0) = (Nd.nd z) := by omega
  refine GC.skip ?_
  refine GE.thenN ?_
  refine GC.seq ?_
  refine GC.seq ?_
  refine GC.region ?_
  refine GL.val (Ex.move rfl) (by decide) ?_
  refine GL.val (v := (.int .i64 0)) (Ex.len rfl Try.underlying36) (by decide) ?_
  refine GL.val (v := (.int .i64 (((((Nd.nd 0) : Nat) : Int) - 1)))) (Ex.sub' rfl rfl (Z := ((((Nd.nd 0) : Nat) : Int) - 1)) (w64 (by omega))) (by decide) ?_
  refine GL.val (Ex.assign rfl) (by decide) ?_
  refine GL.nil ?_
  refine GE.thenN ?_
  refine GC.block ?_
  refine GC.loop (σ := Nat) (fun q => q ≤ (Nd.nd 0) ∧ 0 / Nd.Bs ^ q = z / Nd.Bs ^ q) (fun q => [(0, (.slice adx 0 cx)), (1, (.slice (some ⟨bz, 0, none⟩) ((Nd.nd z)) cz)), (4, (.int .i64 0)), (5, (.int .i64 ((((q : Nat) : Int) - 1))))]) (fun q => []) (fun q => q) ((Nd.nd 0)) ⟨Nat.le_refl _, Nd.top_eq hlen⟩ ((sub_cons rfl ((sub_cons rfl ((sub_cons rfl ((sub_cons rfl ((sub_nil _)))))))))) ulN (fun q hp => ?_)
  have hpq : q ≤ (Nd.nd 0) ∧ 0 / Nd.Bs ^ q = z / Nd.Bs ^ q := hp
  refine GC.seq ?_
  refine GC.seq ?_
  refine GC.region ?_
  refine GL.val (Ex.move rfl) (by decide) ?_
  refine GL.val (v := (.bool (decide (0 ≤ ((((q : Nat) : Int) - 1)))))) (Ex.geq rfl rfl) (by decide) ?_
  refine GL.nil ?_
  refine GE.thenN ?_
  refine GC.cond rfl (fun hq3 => ?_) (fun hq3 => ?_)
  ·replace hq3 := of_decide_eq_true hq3
   exfalso; omega
  ·replace hq3 := of_decide_eq_false hq3
   refine GC.exit ?_
   refine GE.thenE ?_
   refine GE.thenE ?_
   refine GE.blockE ?_
   refine GE.thenN ?_
   refine GC.seq ?_
   refine GC.region ?_
   refine GL.val (Ex.assign rfl) (by decide) ?_
   refine GL.nil ?_
   refine GE.thenN ?_
   refine GC.ret ?_
   refine GC.ret1 rfl (Rv.tmp rfl) (fun wN HN => ?_)
   exact HN.ret () trivial (congrArg (Value.int .i64) (Nd.cmp_same (show 0 = z by have := hpq.2; rw [show q = 0 by omega] at this; simpa using this))) (List.nil_sublist _) rfl

set_option maxRecDepth 100000 in
set_option maxHeartbeats 1000000 in
theorem cmp_bn (x bx cx : Nat) (adz : Option Addr) (cz : Nat) (w : World) (hrx : Nd.Nb w bx x) (hnx : Nd.nd x ≤ 1000)  :
  Calls Try.prog 60 #[(.slice (some ⟨bx, 0, none⟩) ((Nd.nd x)) cx), (.slice adz 0 cz)] w (Ret w (fun _ : Unit => True) (fun _ => (.int .i64 ((if x < 0 then (-1 : Int) else if x = 0 then 0 else 1)))) (fun _ => [])) := by
 have h00 : Nd.nd 0 = 0 := rfl
 refine enter (M := None) (L := []) (n := 41) (l := [(0, (.slice (some ⟨bx, 0, none⟩) ((Nd.nd x)) cx)), (1, (.slice adz 0 cz))]) Try.func60 rfl rfl (Args.cons rfl (Args.cons rfl (Args.nil _))) (Hp.start _ _) ?_
 refine GC.seq ?_
 refine GC.region ?_
 refine GL.val (Ex.assign rfl) (by decide) ?_
 refine GL.nil ?_
 refine GE.thenN ?_
 refine GC.seq ?_
 refine GC.seq ?_
 refine GC.region ?_
 refine GL.val (Ex.move rfl) (by decide) ?_
 refine GL.val (v := (.int .i64 ((((Nd.nd x)) : Int)))) (Ex.len rfl Try.underlying36) (by decide) ?_
 refine GL.val (Ex.move rfl) (by decide) ?_
 refine GL.val (v := (.int .i64 0)) (Ex.len rfl Try.underlying36) (by decide) ?_
 refine GL.val (v := (.bool (decide (((((Nd.nd x)) : Int)) ≠ 0)))) (Ex.neq rfl rfl) (by decide) ?_
 refine GL.nil ?_
 refine GE.thenN ?_
 refine GC.cond rfl (fun hq1 => ?_) (fun hq1 => ?_)
 ·replace hq1 := of_decide_eq_true hq1
  refine GC.seq ?_
  refine GC.seq ?_
  refine GC.region ?_
  refine GL.val (Ex.move rfl) (by decide) ?_
  refine GL.val (v := (.int .i64 ((((Nd.nd x)) : Int)))) (Ex.len rfl Try.underlying36) (by decide) ?_
  refine GL.val (Ex.move rfl) (by decide) ?_
  refine GL.val (v := (.int .i64 0)) (Ex.len rfl Try.underlying36) (by decide) ?_
  refine GL.val (v := (.bool (decide (((((Nd.nd x)) : Int)) < 0)))) (Ex.lss rfl rfl) (by decide) ?_
  refine GL.nil ?_
  refine GE.thenN ?_
  refine GC.cond rfl (fun hq2 => ?_) (fun hq2 => ?_)
  ·replace hq2 := of_decide_eq_true hq2
   refine GC.seq ?_
   refine GC.region ?_
   refine GL.val (Ex.assign rfl) (by decide) ?_
   refine GL.nil ?_
   refine GE.thenN ?_
   refine GC.ret ?_
   refine GE.thenR ?_
   refine GE.thenR ?_
   refine GC.ret1 rfl (Rv.tmp rfl) (fun wN HN => ?_)
   exact HN.ret () trivial (congrArg (Value.int .i64) (Nd.cmp_lens1 (by omega))) (List.nil_sublist _) rfl
  ·replace hq2 := of_decide_eq_false hq2
   refine GC.skip ?_
   refine GE.thenN ?_
   refine GC.seq ?_
   refine GC.region ?_
   refine GL.val (Ex.assign rfl) (by decide) ?_
   refine GL.nil ?_
   refine GE.thenN ?_
   refine GC.ret ?_
   refine GE.thenR ?_
   refine GC.ret1 rfl (Rv.tmp rfl) (fun wN HN => ?_)
   exact HN.ret () trivial (congrArg (Value.int .i64) (Nd.cmp_lens2 (by omega))) (List.nil_sublist _) rfl
 ·replace hq1 := of_decide_eq_false hq1
  have hlen : (Nd.nd x) = (Nd.nd 0) := by omega
  refine GC.skip ?_
  refine GE.thenN ?_
  refine GC.seq ?_
  refine GC.seq ?_
  refine GC.region ?_
  refine GL.val (Ex.move rfl) (by decide) ?_
  refine GL.val (v := (.int .i64 ((((Nd.nd x)) : Int)))) (Ex.len rfl Try.underlying36) (by decide) ?_
  refine GL.val (v := (.int .i64 (((((Nd.nd x) : Nat) : Int) - 1)))) (Ex.sub' rfl rfl (Z := ((((Nd.nd x) : Nat) : Int) - 1)) (w64 (by omega))) (by decide) ?_
  refine GL.val (Ex.assign rfl) (by decide) ?_
  refine GL.nil ?_
  refine GE.thenN ?_
  refine GC.block ?_
  refine GC.loop (σ := Nat) (fun q => q ≤ (Nd.nd x) ∧ x / Nd.Bs ^ q = 0 / Nd.Bs ^ q) (fun q => [(0, (.slice (some ⟨bx, 0, none⟩) ((Nd.nd x)) cx)), (1, (.slice adz 0 cz)), (4, (.int .i64 0)), (5, (.int .i64 ((((q : Nat) : Int) - 1))))]) (fun q => []) (fun q => q) ((Nd.nd x)) ⟨Nat.le_refl _, Nd.top_eq hlen⟩ ((sub_cons rfl ((sub_cons rfl ((sub_cons rfl ((sub_cons rfl ((sub_nil _)))))))))) ulN (fun q hp => ?_)
  have hpq : q ≤ (Nd.nd x) ∧ x / Nd.Bs ^ q = 0 / Nd.Bs ^ q := hp
  refine GC.seq ?_
  refine GC.seq ?_
  refine GC.region ?_
  refine GL.val (Ex.move rfl) (by decide) ?_
  refine GL.val (v := (.bool (decide (0 ≤ ((((q : Nat) : Int) - 1)))))) (Ex.geq rfl rfl) (by decide) ?_
  refine GL.nil ?_
  refine GE.thenN ?_
  refine GC.cond rfl (fun hq3 => ?_) (fun hq3 => ?_)
  ·replace hq3 := of_decide_eq_true hq3
   exfalso; omega
  ·replace hq3 := of_decide_eq_false hq3
   refine GC.exit ?_
   refine GE.thenE ?_
   refine GE.thenE ?_
   refine GE.blockE ?_
   refine GE.thenN ?_
   refine GC.seq ?_
   refine GC.region ?_
   refine GL.val (Ex.assign rfl) (by decide) ?_
   refine GL.nil ?_
   refine GE.thenN ?_
   refine GC.ret ?_
   refine GC.ret1 rfl (Rv.tmp rfl) (fun wN HN => ?_)
   exact HN.ret () trivial (congrArg (Value.int .i64) (Nd.cmp_same (show x = 0 by have := hpq.2; rw [show q = 0 by omega] at this; simpa using this))) (List.nil_sublist _) rfl

set_option maxRecDepth 100000 in
set_option maxHeartbeats 1000000 in
theorem cmp_nn (adx : Option Addr) (cx : Nat) (adz : Option Addr) (cz : Nat) (w : World) :
  Calls Try.prog 60 #[(.slice adx 0 cx), (.slice adz 0 cz)] w (Ret w (fun _ : Unit => True) (fun _ => (.int .i64 0)) (fun _ => [])) := by
 refine enter (M := None) (L := []) (n := 41) (l := [(0, (.slice adx 0 cx)), (1, (.slice adz 0 cz))]) Try.func60 rfl rfl (Args.cons rfl (Args.cons rfl (Args.nil _))) (Hp.start _ _) ?_
 refine GC.seq ?_
 refine GC.region ?_
 refine GL.val (Ex.assign rfl) (by decide) ?_
 refine GL.nil ?_
 refine GE.thenN ?_
 refine GC.seq ?_
 refine GC.seq ?_
 refine GC.region ?_
 refine GL.val (Ex.move rfl) (by decide) ?_
 refine GL.val (v := (.int .i64 0)) (Ex.len rfl Try.underlying36) (by decide) ?_
 refine GL.val (Ex.move rfl) (by decide) ?_
 refine GL.val (v := (.int .i64 0)) (Ex.len rfl Try.underlying36) (by decide) ?_
 refine GL.val (v := (.bool false)) (Ex.cast (Ex.neq rfl rfl) rfl) (by decide) ?_
 refine GL.nil ?_
 refine GE.thenN ?_
 refine GC.cond rfl (fun hq1 => by cases hq1) (fun _ => ?_)
 refine GC.skip ?_
 refine GE.thenN ?_
 refine GC.seq ?_
 refine GC.seq ?_
 refine GC.region ?_
 refine GL.val (Ex.move rfl) (by decide) ?_
 refine GL.val (v := (.int .i64 0)) (Ex.len rfl Try.underlying36) (by decide) ?_
 refine GL.val (v := (.int .i64 (-1))) (Ex.sub' rfl rfl (Z := -1) (by decide)) (by decide) ?_
 refine GL.val (Ex.assign rfl) (by decide) ?_
 refine GL.nil ?_
 refine GE.thenN ?_
 refine GC.block ?_
 refine GC.unroll 1 ?_
 refine GE.round ?_
 refine GC.seq ?_
 refine GC.seq ?_
 refine GC.region ?_
 refine GL.val (Ex.move rfl) (by decide) ?_
 refine GL.val (v := (.bool false)) (Ex.cast (Ex.geq rfl rfl) rfl) (by decide) ?_
 refine GL.nil ?_
 refine GE.thenN ?_
 refine GC.cond rfl (fun hq2 => by cases hq2) (fun _ => ?_)
 refine GC.exit ?_
 refine GE.thenE ?_
 refine GE.thenE ?_
 refine GE.blockE ?_
 refine GE.thenN ?_
 refine GC.seq ?_
 refine GC.region ?_
 refine GL.val (Ex.assign rfl) (by decide) ?_
 refine GL.nil ?_
 refine GE.thenN ?_
 refine GC.ret ?_
 refine GC.ret1 rfl (Rv.tmp rfl) (fun wN HN => ?_)
 exact HN.ret () trivial rfl (List.nil_sublist _) rfl

end Go.Proofs.Ytbhjadkgeadpiaa.C
