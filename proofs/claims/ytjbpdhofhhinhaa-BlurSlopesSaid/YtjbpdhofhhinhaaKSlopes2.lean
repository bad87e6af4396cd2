/- BlurSlopes: what its code does, walked. -/
import Derived.Test.YtjbpdhofhhinhaaKSlopes1
namespace Go.Proofs.Ytjbpdhofhhinhaa.C
open Go Go.RowKit Sx
set_option linter.unusedVariables false
set_option maxRecDepth 100000 in
set_option maxHeartbeats 1000000 in
theorem k49_32 (c0 : Nat) (c1 : Nat) (w : World) (hh : Has w [⟨c0, [(.int .u32 0), (.int .u32 1048576000), (.int .u32 1056964608), (.int .u32 1048576000), (.int .u32 0)], 63, false⟩, ⟨c1, [(.int .i64 1), (.int .i64 2), (.int .i64 1)], 3, false⟩]) :
    Calls Try.prog 49 #[(.iface 108 (.agg #[(.int .i64 5), (.int .i64 1), (.slice (some ⟨c0, 0, none⟩) 5 5), (.int .i64 1), (.int .i64 0), (.int .i64 0), (.bool true)])), (.slice (some ⟨c1, 0, none⟩) 3 3)] w (Ret w (fun _ : Unit => True) (fun rz => (.int .u32 0)) (fun rz => [])) := by
  refine enter (M := None) (L := [⟨c0, [(.int .u32 0), (.int .u32 1048576000), (.int .u32 1056964608), (.int .u32 1048576000), (.int .u32 0)], 63, false⟩, ⟨c1, [(.int .i64 1), (.int .i64 2), (.int .i64 1)], 3, false⟩]) (n := 43) (l := [(0, (.iface 108 (.agg #[(.int .i64 5), (.int .i64 1), (.slice (some ⟨c0, 0, none⟩) 5 5), (.int .i64 1), (.int .i64 0), (.int .i64 0), (.bool true)]))), (1, (.slice (some ⟨c1, 0, none⟩) 3 3))]) Try.func49 rfl rfl (Args.cons rfl (Args.cons rfl (Args.nil _))) (Hp.reads hh rfl) ?_
  refine GC.seq ?_
  refine GC.region ?_
  refine GL.val (Ex.assign rfl) (by decide) ?_
  refine GL.nil ?_
  refine GE.thenN ?_
  refine GC.seq ?_
  refine GC.region ?_
  refine GL.val (Ex.assign rfl) (by decide) ?_
  refine GL.val (Ex.assign rfl) (by decide) ?_
  refine GL.nil ?_
  refine GE.thenN ?_
  refine GC.seq ?_
  refine GC.seq ?_
  refine GC.region ?_
  refine GL.val (Ex.move rfl) (by decide) ?_
  refine GL.val (v := (.int .i64 3)) (Ex.len rfl Try.underlying28) (by decide) ?_
  refine GL.val (Ex.move rfl) (by decide) ?_
  refine GL.nil ?_
  refine GE.thenN ?_
  refine GC.block ?_
  refine GC.unroll 60 ?_
  refine GE.round ?_
  refine GC.seq ?_
  refine GC.region ?_
  refine GL.val (v := (.bool true)) (Ex.cast (Ex.lss rfl rfl) rfl) (by decide) ?_
  refine GL.nil ?_
  refine GE.thenN ?_
  refine GC.seq ?_
  refine GC.cond rfl (fun _ => ?_) (fun hq1 => by cases hq1)
  refine GC.skip ?_
  refine GE.thenN ?_
  refine GC.seq ?_
  refine GC.block ?_
  refine GC.seq ?_
  refine GC.region ?_
  refine GL.val (Ex.move rfl) (by decide) ?_
  refine GL.val (v := (.pointer (some ⟨c1, 0, none⟩))) (Ex.cast (Ex.indexAddr rfl rfl Try.underlying28 T.sz3 (by omega) (by omega)) rfl) (by decide) ?_
  refine GL.val (Ex.load rfl T.ag3 (i := 1) rfl rfl) (by decide) ?_
  refine GL.val (Ex.assign rfl) (by decide) ?_
  refine GL.val (Ex.assign rfl) (by decide) ?_
  refine GL.nil ?_
  refine GE.thenN ?_
  refine GC.seq ?_
  refine GC.region ?_
  refine GL.val (Ex.move rfl) (by decide) ?_
  refine GL.val (v := (.float .f64 4607182418800017408)) (Ex.cast (Ex.cif rfl Try.underlying3 Try.underlying61) (by kernel_rfl)) (by decide) ?_
  refine GL.val (Ex.move rfl) (by decide) ?_
  refine GL.val (Ex.move rfl) (by decide) ?_
  refine GL.val (Ex.move rfl) (by decide) ?_
  refine GL.val (v := (.int .i64 3)) (Ex.len rfl Try.underlying28) (by decide) ?_
  refine GL.val (v := (.int .i64 1)) (Ex.quo rfl rfl (Z := 1) (by decide) (by decide)) (by decide) ?_
  refine GL.val (v := (.int .i64 (-1))) (Ex.sub' rfl rfl (Z := -1) (by decide)) (by decide) ?_
  refine GL.step (Stp.invokeR (σ := Unit) (p := fun rz => True) (v := fun rz => (.int .u32 0)) (N := fun rz => []) (vs := [(.int .i64 (-1))]) rfl rfl (fun w => T.mth88 _ _ w) (by decide) (fun wc hw => (by have h := at_y 5 5 5 c0 0 1 0 [0, 1048576000, 1056964608, 1048576000, 0] 1 (-1) 0 wc (by decide) (by decide) (by decide) (by decide +kernel) (by decide) rfl (hw.rdOf (i := 0) rfl 0); rw [show smp [0, 1048576000, 1056964608, 1048576000, 0] 5 0 (bord 1 ((1 : Nat) : Int) (0 + (-1))).1.toNat = 0 from by decide +kernel] at h; exact h))) (fun xq2 hq3 => ?_)
  refine GL.step (Stp.callR (vs := [(.int .u32 0)]) rfl rfl T.own58 (by decide) (fun wc hw => k58_11  wc )) (fun xq4 hq5 => ?_)
  refine GL.val (v := (.float .f64 0)) (Ex.farith (r := 0) rfl rfl (by kernel_rfl)) (by decide) ?_
  refine GL.val (Ex.assign rfl) (by decide) ?_
  refine GL.nil ?_
  refine GE.thenN ?_
  refine GC.seq ?_
  refine GC.region ?_
  refine GL.val (Ex.move rfl) (by decide) ?_
  refine GL.val (Ex.move rfl) (by decide) ?_
  refine GL.val (v := (.int .i64 1)) (Ex.add rfl rfl (Z := 1) (by decide)) (by decide) ?_
  refine GL.val (Ex.assign rfl) (by decide) ?_
  refine GL.nil ?_
  refine GE.thenN ?_
  refine GC.seq ?_
  refine GC.seq ?_
  refine GC.region ?_
  refine GL.val (Ex.move rfl) (by decide) ?_
  refine GL.val (v := (.bool true)) (Ex.cast (Ex.eql rfl rfl) rfl) (by decide) ?_
  refine GL.nil ?_
  refine GE.thenN ?_
  refine GC.cond rfl (fun _ => ?_) (fun hq6 => by cases hq6)
  refine GC.seq ?_
  refine GC.region ?_
  refine GL.val (Ex.move rfl) (by decide) ?_
  refine GL.val (Ex.assign rfl) (by decide) ?_
  refine GL.nil ?_
  refine GE.thenN ?_
  refine GC.exit ?_
  refine GE.thenE ?_
  refine GE.blockE ?_
  refine GE.thenN ?_
  refine GC.region ?_
  refine GL.val (v := (.int .i64 1)) (Ex.add rfl rfl (Z := 1) (by decide)) (by decide) ?_
  refine GL.val (Ex.move rfl) (by decide) ?_
  refine GL.nil ?_
  refine GE.thenN ?_
  refine GE.round ?_
  refine GC.seq ?_
  refine GC.region ?_
  refine GL.val (v := (.bool true)) (Ex.cast (Ex.lss rfl rfl) rfl) (by decide) ?_
  refine GL.nil ?_
  refine GE.thenN ?_
  refine GC.seq ?_
  refine GC.cond rfl (fun _ => ?_) (fun hq7 => by cases hq7)
  refine GC.skip ?_
  refine GE.thenN ?_
  refine GC.seq ?_
  refine GC.block ?_
  refine GC.seq ?_
  refine GC.region ?_
  refine GL.val (Ex.move rfl) (by decide) ?_
  refine GL.val (v := (.pointer (some ⟨c1, 1, none⟩))) (Ex.cast (Ex.indexAddr rfl rfl Try.underlying28 T.sz3 (by omega) (by omega)) rfl) (by decide) ?_
  refine GL.val (Ex.load rfl T.ag3 (i := 1) rfl rfl) (by decide) ?_
  refine GL.val (Ex.assign rfl) (by decide) ?_
  refine GL.val (Ex.assign rfl) (by decide) ?_
  refine GL.nil ?_
  refine GE.thenN ?_
  refine GC.seq ?_
  refine GC.region ?_
  refine GL.val (Ex.move rfl) (by decide) ?_
  refine GL.val (v := (.float .f64 4611686018427387904)) (Ex.cast (Ex.cif rfl Try.underlying3 Try.underlying61) (by kernel_rfl)) (by decide) ?_
  refine GL.val (Ex.move rfl) (by decide) ?_
  refine GL.val (Ex.move rfl) (by decide) ?_
  refine GL.val (Ex.move rfl) (by decide) ?_
  refine GL.val (v := (.int .i64 3)) (Ex.len rfl Try.underlying28) (by decide) ?_
  refine GL.val (v := (.int .i64 1)) (Ex.quo rfl rfl (Z := 1) (by decide) (by decide)) (by decide) ?_
  refine GL.val (v := (.int .i64 0)) (Ex.sub' rfl rfl (Z := 0) (by decide)) (by decide) ?_
  refine GL.step (Stp.invokeR (σ := Unit) (p := fun rz => True) (v := fun rz => (.int .u32 0)) (N := fun rz => []) (vs := [(.int .i64 0)]) rfl rfl (fun w => T.mth88 _ _ w) (by decide) (fun wc hw => (by have h := at_y 5 5 5 c0 0 1 0 [0, 1048576000, 1056964608, 1048576000, 0] 1 0 0 wc (by decide) (by decide) (by decide) (by decide +kernel) (by decide) rfl (hw.rdOf (i := 0) rfl 0); rw [show smp [0, 1048576000, 1056964608, 1048576000, 0] 5 0 (bord 1 ((1 : Nat) : Int) (0 + 0)).1.toNat = 0 from by decide +kernel] at h; exact h))) (fun xq8 hq9 => ?_)
  refine GL.step (Stp.callR (vs := [(.int .u32 0)]) rfl rfl T.own58 (by decide) (fun wc hw => k58_11  wc )) (fun xq10 hq11 => ?_)
  refine GL.val (v := (.float .f64 0)) (Ex.farith (r := 0) rfl rfl (by kernel_rfl)) (by decide) ?_
  refine GL.val (Ex.assign rfl) (by decide) ?_
  refine GL.nil ?_
  refine GE.thenN ?_
  refine GC.seq ?_
  refine GC.region ?_
  refine GL.val (Ex.move rfl) (by decide) ?_
  refine GL.val (Ex.move rfl) (by decide) ?_
  refine GL.val (v := (.int .i64 3)) (Ex.add rfl rfl (Z := 3) (by decide)) (by decide) ?_
  refine GL.val (Ex.assign rfl) (by decide) ?_
  refine GL.nil ?_
  refine GE.thenN ?_
  refine GC.seq ?_
  refine GC.seq ?_
  refine GC.region ?_
  refine GL.val (Ex.move rfl) (by decide) ?_
  refine GL.val (v := (.bool false)) (Ex.cast (Ex.eql rfl rfl) rfl) (by decide) ?_
  refine GL.nil ?_
  refine GE.thenN ?_
  refine GC.cond rfl (fun hq12 => by cases hq12) (fun _ => ?_)
  refine GC.skip ?_
  refine GE.thenN ?_
  refine GC.region ?_
  refine GL.val (Ex.move rfl) (by decide) ?_
  refine GL.val (Ex.move rfl) (by decide) ?_
  refine GL.val (v := (.float .f64 0)) (Ex.farith (r := 0) rfl rfl (by kernel_rfl)) (by decide) ?_
  refine GL.val (Ex.assign rfl) (by decide) ?_
  refine GL.nil ?_
  refine GE.blockN ?_
  refine GE.thenN ?_
  refine GC.region ?_
  refine GL.val (v := (.int .i64 2)) (Ex.add rfl rfl (Z := 2) (by decide)) (by decide) ?_
  refine GL.val (Ex.move rfl) (by decide) ?_
  refine GL.nil ?_
  refine GE.thenN ?_
  refine GE.round ?_
  refine GC.seq ?_
  refine GC.region ?_
  refine GL.val (v := (.bool true)) (Ex.cast (Ex.lss rfl rfl) rfl) (by decide) ?_
  refine GL.nil ?_
  refine GE.thenN ?_
  refine GC.seq ?_
  refine GC.cond rfl (fun _ => ?_) (fun hq13 => by cases hq13)
  refine GC.skip ?_
  refine GE.thenN ?_
  refine GC.seq ?_
  refine GC.block ?_
  refine GC.seq ?_
  refine GC.region ?_
  refine GL.val (Ex.move rfl) (by decide) ?_
  refine GL.val (v := (.pointer (some ⟨c1, 2, none⟩))) (Ex.cast (Ex.indexAddr rfl rfl Try.underlying28 T.sz3 (by omega) (by omega)) rfl) (by decide) ?_
  refine GL.val (Ex.load rfl T.ag3 (i := 1) rfl rfl) (by decide) ?_
  refine GL.val (Ex.assign rfl) (by decide) ?_
  refine GL.val (Ex.assign rfl) (by decide) ?_
  refine GL.nil ?_
  refine GE.thenN ?_
  refine GC.seq ?_
  refine GC.region ?_
  refine GL.val (Ex.move rfl) (by decide) ?_
  refine GL.val (v := (.float .f64 4607182418800017408)) (Ex.cast (Ex.cif rfl Try.underlying3 Try.underlying61) (by kernel_rfl)) (by decide) ?_
  refine GL.val (Ex.move rfl) (by decide) ?_
  refine GL.val (Ex.move rfl) (by decide) ?_
  refine GL.val (Ex.move rfl) (by decide) ?_
  refine GL.val (v := (.int .i64 3)) (Ex.len rfl Try.underlying28) (by decide) ?_
  refine GL.val (v := (.int .i64 1)) (Ex.quo rfl rfl (Z := 1) (by decide) (by decide)) (by decide) ?_
  refine GL.val (v := (.int .i64 1)) (Ex.sub' rfl rfl (Z := 1) (by decide)) (by decide) ?_
  refine GL.step (Stp.invokeR (σ := Unit) (p := fun rz => True) (v := fun rz => (.int .u32 0)) (N := fun rz => []) (vs := [(.int .i64 1)]) rfl rfl (fun w => T.mth88 _ _ w) (by decide) (fun wc hw => (by have h := at_y 5 5 5 c0 0 1 0 [0, 1048576000, 1056964608, 1048576000, 0] 1 1 0 wc (by decide) (by decide) (by decide) (by decide +kernel) (by decide) rfl (hw.rdOf (i := 0) rfl 0); rw [show smp [0, 1048576000, 1056964608, 1048576000, 0] 5 0 (bord 1 ((1 : Nat) : Int) (0 + 1)).1.toNat = 0 from by decide +kernel] at h; exact h))) (fun xq14 hq15 => ?_)
  refine GL.step (Stp.callR (vs := [(.int .u32 0)]) rfl rfl T.own58 (by decide) (fun wc hw => k58_11  wc )) (fun xq16 hq17 => ?_)
  refine GL.val (v := (.float .f64 0)) (Ex.farith (r := 0) rfl rfl (by kernel_rfl)) (by decide) ?_
  refine GL.val (Ex.assign rfl) (by decide) ?_
  refine GL.nil ?_
  refine GE.thenN ?_
  refine GC.seq ?_
  refine GC.region ?_
  refine GL.val (Ex.move rfl) (by decide) ?_
  refine GL.val (Ex.move rfl) (by decide) ?_
  refine GL.val (v := (.int .i64 4)) (Ex.add rfl rfl (Z := 4) (by decide)) (by decide) ?_
  refine GL.val (Ex.assign rfl) (by decide) ?_
  refine GL.nil ?_
  refine GE.thenN ?_
  refine GC.seq ?_
  refine GC.seq ?_
  refine GC.region ?_
  refine GL.val (Ex.move rfl) (by decide) ?_
  refine GL.val (v := (.bool false)) (Ex.cast (Ex.eql rfl rfl) rfl) (by decide) ?_
  refine GL.nil ?_
  refine GE.thenN ?_
  refine GC.cond rfl (fun hq18 => by cases hq18) (fun _ => ?_)
  refine GC.skip ?_
  refine GE.thenN ?_
  refine GC.region ?_
  refine GL.val (Ex.move rfl) (by decide) ?_
  refine GL.val (Ex.move rfl) (by decide) ?_
  refine GL.val (v := (.float .f64 0)) (Ex.farith (r := 0) rfl rfl (by kernel_rfl)) (by decide) ?_
  refine GL.val (Ex.assign rfl) (by decide) ?_
  refine GL.nil ?_
  refine GE.blockN ?_
  refine GE.thenN ?_
  refine GC.region ?_
  refine GL.val (v := (.int .i64 3)) (Ex.add rfl rfl (Z := 3) (by decide)) (by decide) ?_
  refine GL.val (Ex.move rfl) (by decide) ?_
  refine GL.nil ?_
  refine GE.thenN ?_
  refine GE.round ?_
  refine GC.seq ?_
  refine GC.region ?_
  refine GL.val (v := (.bool false)) (Ex.cast (Ex.lss rfl rfl) rfl) (by decide) ?_
  refine GL.nil ?_
  refine GE.thenN ?_
  refine GC.seq ?_
  refine GC.cond rfl (fun hq19 => by cases hq19) (fun _ => ?_)
  refine GC.exit ?_
  refine GE.thenE ?_
  refine GE.thenE ?_
  refine GE.blockE ?_
  refine GE.thenN ?_
  refine GC.seq ?_
  refine GC.region ?_
  refine GL.val (Ex.move rfl) (by decide) ?_
  refine GL.val (Ex.move rfl) (by decide) ?_
  refine GL.val (v := (.float .f64 4616189618054758400)) (Ex.cast (Ex.cif rfl Try.underlying3 Try.underlying61) (by kernel_rfl)) (by decide) ?_
  refine GL.val (v := (.float .f64 0)) (Ex.farith (r := 0) rfl rfl (by kernel_rfl)) (by decide) ?_
  refine GL.step (Stp.callR (vs := [(.float .f64 0)]) rfl rfl T.own59 (by decide) (fun wc hw => k59_12  wc )) (fun xq20 hq21 => ?_)
  refine GL.val (Ex.assign rfl) (by decide) ?_
  refine GL.nil ?_
  refine GE.thenN ?_
  refine GC.ret ?_
  refine GC.ret1 rfl (Rv.tmp rfl) (fun wN HN => ?_)
  exact HN.ret () trivial rfl (ulS (ulS ulN)) rfl

set_option maxRecDepth 100000 in
set_option maxHeartbeats 1000000 in
theorem k58_34 (w : World) :
    Calls Try.prog 58 #[(.int .u32 1048576000)] w (Ret w (fun _ : Unit => True) (fun rz => (.float .f64 4598175219545276416)) (fun rz => [])) := by
  refine enter (M := None) (L := []) (n := 6) (l := [(0, (.int .u32 1048576000))]) Try.func58 rfl rfl (Args.cons rfl (Args.nil _)) (Hp.start _ _) ?_
  refine GC.seq ?_
  refine GC.region ?_
  refine GL.val (Ex.assign rfl) (by decide) ?_
  refine GL.nil ?_
  refine GE.thenN ?_
  refine GC.seq ?_
  refine GC.region ?_
  refine GL.val (Ex.move rfl) (by decide) ?_
  refine GL.val (v := (.float .f32 1048576000)) (Ex.ext (vs := [(.int .u32 1048576000)]) rfl rfl T.ext55 (fun _ => by first | rfl | kernel_rfl)) (by decide) ?_
  refine GL.val (v := (.float .f64 4598175219545276416)) (Ex.cff (r := 4598175219545276416) rfl Try.underlying98 Try.underlying61 (by kernel_rfl)) (by decide) ?_
  refine GL.val (Ex.assign rfl) (by decide) ?_
  refine GL.nil ?_
  refine GE.thenN ?_
  refine GC.ret ?_
  refine GC.ret1 rfl (Rv.tmp rfl) (fun wN HN => ?_)
  exact HN.ret () trivial rfl ulN rfl

set_option maxRecDepth 100000 in
set_option maxHeartbeats 1000000 in
theorem k49_33 (c0 : Nat) (c1 : Nat) (w : World) (hh : Has w [⟨c0, [(.int .u32 0), (.int .u32 1048576000), (.int .u32 1056964608), (.int .u32 1048576000), (.int .u32 0)], 63, false⟩, ⟨c1, [(.int .i64 1), (.int .i64 2), (.int .i64 1)], 3, false⟩]) :
    Calls Try.prog 49 #[(.iface 108 (.agg #[(.int .i64 5), (.int .i64 1), (.slice (some ⟨c0, 0, none⟩) 5 5), (.int .i64 1), (.int .i64 1), (.int .i64 0), (.bool true)])), (.slice (some ⟨c1, 0, none⟩) 3 3)] w (Ret w (fun _ : Unit => True) (fun rz => (.int .u32 1048576000)) (fun rz => [])) := by
  refine enter (M := None) (L := [⟨c0, [(.int .u32 0), (.int .u32 1048576000), (.int .u32 1056964608), (.int .u32 1048576000), (.int .u32 0)], 63, false⟩, ⟨c1, [(.int .i64 1), (.int .i64 2), (.int .i64 1)], 3, false⟩]) (n := 43) (l := [(0, (.iface 108 (.agg #[(.int .i64 5), (.int .i64 1), (.slice (some ⟨c0, 0, none⟩) 5 5), (.int .i64 1), (.int .i64 1), (.int .i64 0), (.bool true)]))), (1, (.slice (some ⟨c1, 0, none⟩) 3 3))]) Try.func49 rfl rfl (Args.cons rfl (Args.cons rfl (Args.nil _))) (Hp.reads hh rfl) ?_
  refine GC.seq ?_
  refine GC.region ?_
  refine GL.val (Ex.assign rfl) (by decide) ?_
  refine GL.nil ?_
  refine GE.thenN ?_
  refine GC.seq ?_
  refine GC.region ?_
  refine GL.val (Ex.assign rfl) (by decide) ?_
  refine GL.val (Ex.assign rfl) (by decide) ?_
  refine GL.nil ?_
  refine GE.thenN ?_
  refine GC.seq ?_
  refine GC.seq ?_
  refine GC.region ?_
  refine GL.val (Ex.move rfl) (by decide) ?_
  refine GL.val (v := (.int .i64 3)) (Ex.len rfl Try.underlying28) (by decide) ?_
  refine GL.val (Ex.move rfl) (by decide) ?_
  refine GL.nil ?_
  refine GE.thenN ?_
  refine GC.block ?_
  refine GC.unroll 60 ?_
  refine GE.round ?_
  refine GC.seq ?_
  refine GC.region ?_
  refine GL.val (v := (.bool true)) (Ex.cast (Ex.lss rfl rfl) rfl) (by decide) ?_
  refine GL.nil ?_
  refine GE.thenN ?_
  refine GC.seq ?_
  refine GC.cond rfl (fun _ => ?_) (fun hq1 => by cases hq1)
  refine GC.skip ?_
  refine GE.thenN ?_
  refine GC.seq ?_
  refine GC.block ?_
  refine GC.seq ?_
  refine GC.region ?_
  refine GL.val (Ex.move rfl) (by decide) ?_
  refine GL.val (v := (.pointer (some ⟨c1, 0, none⟩))) (Ex.cast (Ex.indexAddr rfl rfl Try.underlying28 T.sz3 (by omega) (by omega)) rfl) (by decide) ?_
  refine GL.val (Ex.load rfl T.ag3 (i := 1) rfl rfl) (by decide) ?_
  refine GL.val (Ex.assign rfl) (by decide) ?_
  refine GL.val (Ex.assign rfl) (by decide) ?_
  refine GL.nil ?_
  refine GE.thenN ?_
  refine GC.seq ?_
  refine GC.region ?_
  refine GL.val (Ex.move rfl) (by decide) ?_
  refine GL.val (v := (.float .f64 4607182418800017408)) (Ex.cast (Ex.cif rfl Try.underlying3 Try.underlying61) (by kernel_rfl)) (by decide) ?_
  refine GL.val (Ex.move rfl) (by decide) ?_
  refine GL.val (Ex.move rfl) (by decide) ?_
  refine GL.val (Ex.move rfl) (by decide) ?_
  refine GL.val (v := (.int .i64 3)) (Ex.len rfl Try.underlying28) (by decide) ?_
  refine GL.val (v := (.int .i64 1)) (Ex.quo rfl rfl (Z := 1) (by decide) (by decide)) (by decide) ?_
  refine GL.val (v := (.int .i64 (-1))) (Ex.sub' rfl rfl (Z := -1) (by decide)) (by decide) ?_
  refine GL.step (Stp.invokeR (σ := Unit) (p := fun rz => True) (v := fun rz => (.int .u32 1048576000)) (N := fun rz => []) (vs := [(.int .i64 (-1))]) rfl rfl (fun w => T.mth88 _ _ w) (by decide) (fun wc hw => (by have h := at_y 5 5 5 c0 0 1 1 [0, 1048576000, 1056964608, 1048576000, 0] 1 (-1) 0 wc (by decide) (by decide) (by decide) (by decide +kernel) (by decide) rfl (hw.rdOf (i := 0) rfl 0); rw [show smp [0, 1048576000, 1056964608, 1048576000, 0] 5 1 (bord 1 ((1 : Nat) : Int) (0 + (-1))).1.toNat = 1048576000 from by decide +kernel] at h; exact h))) (fun xq2 hq3 => ?_)
  refine GL.step (Stp.callR (vs := [(.int .u32 1048576000)]) rfl rfl T.own58 (by decide) (fun wc hw => k58_34  wc )) (fun xq4 hq5 => ?_)
  refine GL.val (v := (.float .f64 4598175219545276416)) (Ex.farith (r := 4598175219545276416) rfl rfl (by kernel_rfl)) (by decide) ?_
  refine GL.val (Ex.assign rfl) (by decide) ?_
  refine GL.nil ?_
  refine GE.thenN ?_
  refine GC.seq ?_
  refine GC.region ?_
  refine GL.val (Ex.move rfl) (by decide) ?_
  refine GL.val (Ex.move rfl) (by decide) ?_
  refine GL.val (v := (.int .i64 1)) (Ex.add rfl rfl (Z := 1) (by decide)) (by decide) ?_
  refine GL.val (Ex.assign rfl) (by decide) ?_
  refine GL.nil ?_
  refine GE.thenN ?_
  refine GC.seq ?_
  refine GC.seq ?_
  refine GC.region ?_
  refine GL.val (Ex.move rfl) (by decide) ?_
  refine GL.val (v := (.bool true)) (Ex.cast (Ex.eql rfl rfl) rfl) (by decide) ?_
  refine GL.nil ?_
  refine GE.thenN ?_
  refine GC.cond rfl (fun _ => ?_) (fun hq6 => by cases hq6)
  refine GC.seq ?_
  refine GC.region ?_
  refine GL.val (Ex.move rfl) (by decide) ?_
  refine GL.val (Ex.assign rfl) (by decide) ?_
  refine GL.nil ?_
  refine GE.thenN ?_
  refine GC.exit ?_
  refine GE.thenE ?_
  refine GE.blockE ?_
  refine GE.thenN ?_
  refine GC.region ?_
  refine GL.val (v := (.int .i64 1)) (Ex.add rfl rfl (Z := 1) (by decide)) (by decide) ?_
  refine GL.val (Ex.move rfl) (by decide) ?_
  refine GL.nil ?_
  refine GE.thenN ?_
  refine GE.round ?_
  refine GC.seq ?_
  refine GC.region ?_
  refine GL.val (v := (.bool true)) (Ex.cast (Ex.lss rfl rfl) rfl) (by decide) ?_
  refine GL.nil ?_
  refine GE.thenN ?_
  refine GC.seq ?_
  refine GC.cond rfl (fun _ => ?_) (fun hq7 => by cases hq7)
  refine GC.skip ?_
  refine GE.thenN ?_
  refine GC.seq ?_
  refine GC.block ?_
  refine GC.seq ?_
  refine GC.region ?_
  refine GL.val (Ex.move rfl) (by decide) ?_
  refine GL.val (v := (.pointer (some ⟨c1, 1, none⟩))) (Ex.cast (Ex.indexAddr rfl rfl Try.underlying28 T.sz3 (by omega) (by omega)) rfl) (by decide) ?_
  refine GL.val (Ex.load rfl T.ag3 (i := 1) rfl rfl) (by decide) ?_
  refine GL.val (Ex.assign rfl) (by decide) ?_
  refine GL.val (Ex.assign rfl) (by decide) ?_
  refine GL.nil ?_
  refine GE.thenN ?_
  refine GC.seq ?_
  refine GC.region ?_
  refine GL.val (Ex.move rfl) (by decide) ?_
  refine GL.val (v := (.float .f64 4611686018427387904)) (Ex.cast (Ex.cif rfl Try.underlying3 Try.underlying61) (by kernel_rfl)) (by decide) ?_
  refine GL.val (Ex.move rfl) (by decide) ?_
  refine GL.val (Ex.move rfl) (by decide) ?_
  refine GL.val (Ex.move rfl) (by decide) ?_
  refine GL.val (v := (.int .i64 3)) (Ex.len rfl Try.underlying28) (by decide) ?_
  refine GL.val (v := (.int .i64 1)) (Ex.quo rfl rfl (Z := 1) (by decide) (by decide)) (by decide) ?_
  refine GL.val (v := (.int .i64 0)) (Ex.sub' rfl rfl (Z := 0) (by decide)) (by decide) ?_
  refine GL.step (Stp.invokeR (σ := Unit) (p := fun rz => True) (v := fun rz => (.int .u32 1048576000)) (N := fun rz => []) (vs := [(.int .i64 0)]) rfl rfl (fun w => T.mth88 _ _ w) (by decide) (fun wc hw => (by have h := at_y 5 5 5 c0 0 1 1 [0, 1048576000, 1056964608, 1048576000, 0] 1 0 0 wc (by decide) (by decide) (by decide) (by decide +kernel) (by decide) rfl (hw.rdOf (i := 0) rfl 0); rw [show smp [0, 1048576000, 1056964608, 1048576000, 0] 5 1 (bord 1 ((1 : Nat) : Int) (0 + 0)).1.toNat = 1048576000 from by decide +kernel] at h; exact h))) (fun xq8 hq9 => ?_)
  refine GL.step (Stp.callR (vs := [(.int .u32 1048576000)]) rfl rfl T.own58 (by decide) (fun wc hw => k58_34  wc )) (fun xq10 hq11 => ?_)
  refine GL.val (v := (.float .f64 4602678819172646912)) (Ex.farith (r := 4602678819172646912) rfl rfl (by kernel_rfl)) (by decide) ?_
  refine GL.val (Ex.assign rfl) (by decide) ?_
  refine GL.nil ?_
  refine GE.thenN ?_
  refine GC.seq ?_
  refine GC.region ?_
  refine GL.val (Ex.move rfl) (by decide) ?_
  refine GL.val (Ex.move rfl) (by decide) ?_
  refine GL.val (v := (.int .i64 3)) (Ex.add rfl rfl (Z := 3) (by decide)) (by decide) ?_
  refine GL.val (Ex.assign rfl) (by decide) ?_
  refine GL.nil ?_
  refine GE.thenN ?_
  refine GC.seq ?_
  refine GC.seq ?_
  refine GC.region ?_
  refine GL.val (Ex.move rfl) (by decide) ?_
  refine GL.val (v := (.bool false)) (Ex.cast (Ex.eql rfl rfl) rfl) (by decide) ?_
  refine GL.nil ?_
  refine GE.thenN ?_
  refine GC.cond rfl (fun hq12 => by cases hq12) (fun _ => ?_)
  refine GC.skip ?_
  refine GE.thenN ?_
  refine GC.region ?_
  refine GL.val (Ex.move rfl) (by decide) ?_
  refine GL.val (Ex.move rfl) (by decide) ?_
  refine GL.val (v := (.float .f64 4604930618986332160)) (Ex.farith (r := 4604930618986332160) rfl rfl (by kernel_rfl)) (by decide) ?_
  refine GL.val (Ex.assign rfl) (by decide) ?_
  refine GL.nil ?_
  refine GE.blockN ?_
  refine GE.thenN ?_
  refine GC.region ?_
  refine GL.val (v := (.int .i64 2)) (Ex.add rfl rfl (Z := 2) (by decide)) (by decide) ?_
  refine GL.val (Ex.move rfl) (by decide) ?_
  refine GL.nil ?_
  refine GE.thenN ?_
  refine GE.round ?_
  refine GC.seq ?_
  refine GC.region ?_
  refine GL.val (v := (.bool true)) (Ex.cast (Ex.lss rfl rfl) rfl) (by decide) ?_
  refine GL.nil ?_
  refine GE.thenN ?_
  refine GC.seq ?_
  refine GC.cond rfl (fun _ => ?_) (fun hq13 => by cases hq13)
  refine GC.skip ?_
  refine GE.thenN ?_
  refine GC.seq ?_
  refine GC.block ?_
  refine GC.seq ?_
  refine GC.region ?_
  refine GL.val (Ex.move rfl) (by decide) ?_
  refine GL.val (v := (.pointer (some ⟨c1, 2, none⟩))) (Ex.cast (Ex.indexAddr rfl rfl Try.underlying28 T.sz3 (by omega) (by omega)) rfl) (by decide) ?_
  refine GL.val (Ex.load rfl T.ag3 (i := 1) rfl rfl) (by decide) ?_
  refine GL.val (Ex.assign rfl) (by decide) ?_
  refine GL.val (Ex.assign rfl) (by decide) ?_
  refine GL.nil ?_
  refine GE.thenN ?_
  refine GC.seq ?_
  refine GC.region ?_
  refine GL.val (Ex.move rfl) (by decide) ?_
  refine GL.val (v := (.float .f64 4607182418800017408)) (Ex.cast (Ex.cif rfl Try.underlying3 Try.underlying61) (by kernel_rfl)) (by decide) ?_
  refine GL.val (Ex.move rfl) (by decide) ?_
  refine GL.val (Ex.move rfl) (by decide) ?_
  refine GL.val (Ex.move rfl) (by decide) ?_
  refine GL.val (v := (.int .i64 3)) (Ex.len rfl Try.underlying28) (by decide) ?_
  refine GL.val (v := (.int .i64 1)) (Ex.quo rfl rfl (Z := 1) (by decide) (by decide)) (by decide) ?_
  refine GL.val (v := (.int .i64 1)) (Ex.sub' rfl rfl (Z := 1) (by decide)) (by decide) ?_
  refine GL.step (Stp.invokeR (σ := Unit) (p := fun rz => True) (v := fun rz => (.int .u32 1048576000)) (N := fun rz => []) (vs := [(.int .i64 1)]) rfl rfl (fun w => T.mth88 _ _ w) (by decide) (fun wc hw => (by have h := at_y 5 5 5 c0 0 1 1 [0, 1048576000, 1056964608, 1048576000, 0] 1 1 0 wc (by decide) (by decide) (by decide) (by decide +kernel) (by decide) rfl (hw.rdOf (i := 0) rfl 0); rw [show smp [0, 1048576000, 1056964608, 1048576000, 0] 5 1 (bord 1 ((1 : Nat) : Int) (0 + 1)).1.toNat = 1048576000 from by decide +kernel] at h; exact h))) (fun xq14 hq15 => ?_)
  refine GL.step (Stp.callR (vs := [(.int .u32 1048576000)]) rfl rfl T.own58 (by decide) (fun wc hw => k58_34  wc )) (fun xq16 hq17 => ?_)
  refine GL.val (v := (.float .f64 4598175219545276416)) (Ex.farith (r := 4598175219545276416) rfl rfl (by kernel_rfl)) (by decide) ?_
  refine GL.val (Ex.assign rfl) (by decide) ?_
  refine GL.nil ?_
  refine GE.thenN ?_
  refine GC.seq ?_
  refine GC.region ?_
  refine GL.val (Ex.move rfl) (by decide) ?_
  refine GL.val (Ex.move rfl) (by decide) ?_
  refine GL.val (v := (.int .i64 4)) (Ex.add rfl rfl (Z := 4) (by decide)) (by decide) ?_
  refine GL.val (Ex.assign rfl) (by decide) ?_
  refine GL.nil ?_
  refine GE.thenN ?_
  refine GC.seq ?_
  refine GC.seq ?_
  refine GC.region ?_
  refine GL.val (Ex.move rfl) (by decide) ?_
  refine GL.val (v := (.bool false)) (Ex.cast (Ex.eql rfl rfl) rfl) (by decide) ?_
  refine GL.nil ?_
  refine GE.thenN ?_
  refine GC.cond rfl (fun hq18 => by cases hq18) (fun _ => ?_)
  refine GC.skip ?_
  refine GE.thenN ?_
  refine GC.region ?_
  refine GL.val (Ex.move rfl) (by decide) ?_
  refine GL.val (Ex.move rfl) (by decide) ?_
  refine GL.val (v := (.float .f64 4607182418800017408)) (Ex.farith (r := 4607182418800017408) rfl rfl (by kernel_rfl)) (by decide) ?_
  refine GL.val (Ex.assign rfl) (by decide) ?_
  refine GL.nil ?_
  refine GE.blockN ?_
  refine GE.thenN ?_
  refine GC.region ?_
  refine GL.val (v := (.int .i64 3)) (Ex.add rfl rfl (Z := 3) (by decide)) (by decide) ?_
  refine GL.val (Ex.move rfl) (by decide) ?_
  refine GL.nil ?_
  refine GE.thenN ?_
  refine GE.round ?_
  refine GC.seq ?_
  refine GC.region ?_
  refine GL.val (v := (.bool false)) (Ex.cast (Ex.lss rfl rfl) rfl) (by decide) ?_
  refine GL.nil ?_
  refine GE.thenN ?_
  refine GC.seq ?_
  refine GC.cond rfl (fun hq19 => by cases hq19) (fun _ => ?_)
  refine GC.exit ?_
  refine GE.thenE ?_
  refine GE.thenE ?_
  refine GE.blockE ?_
  refine GE.thenN ?_
  refine GC.seq ?_
  refine GC.region ?_
  refine GL.val (Ex.move rfl) (by decide) ?_
  refine GL.val (Ex.move rfl) (by decide) ?_
  refine GL.val (v := (.float .f64 4616189618054758400)) (Ex.cast (Ex.cif rfl Try.underlying3 Try.underlying61) (by kernel_rfl)) (by decide) ?_
  refine GL.val (v := (.float .f64 4598175219545276416)) (Ex.farith (r := 4598175219545276416) rfl rfl (by kernel_rfl)) (by decide) ?_
  refine GL.step (Stp.callR (vs := [(.float .f64 4598175219545276416)]) rfl rfl T.own59 (by decide) (fun wc hw => k59_19  wc )) (fun xq20 hq21 => ?_)
  refine GL.val (Ex.assign rfl) (by decide) ?_
  refine GL.nil ?_
  refine GE.thenN ?_
  refine GC.ret ?_
  refine GC.ret1 rfl (Rv.tmp rfl) (fun wN HN => ?_)
  exact HN.ret () trivial rfl (ulS (ulS ulN)) rfl

set_option maxRecDepth 100000 in
set_option maxHeartbeats 1000000 in
theorem k58_36 (w : World) :
    Calls Try.prog 58 #[(.int .u32 1056964608)] w (Ret w (fun _ : Unit => True) (fun rz => (.float .f64 4602678819172646912)) (fun rz => [])) := by
  refine enter (M := None) (L := []) (n := 6) (l := [(0, (.int .u32 1056964608))]) Try.func58 rfl rfl (Args.cons rfl (Args.nil _)) (Hp.start _ _) ?_
  refine GC.seq ?_
  refine GC.region ?_
  refine GL.val (Ex.assign rfl) (by decide) ?_
  refine GL.nil ?_
  refine GE.thenN ?_
  refine GC.seq ?_
  refine GC.region ?_
  refine GL.val (Ex.move rfl) (by decide) ?_
  refine GL.val (v := (.float .f32 1056964608)) (Ex.ext (vs := [(.int .u32 1056964608)]) rfl rfl T.ext55 (fun _ => by first | rfl | kernel_rfl)) (by decide) ?_
  refine GL.val (v := (.float .f64 4602678819172646912)) (Ex.cff (r := 4602678819172646912) rfl Try.underlying98 Try.underlying61 (by kernel_rfl)) (by decide) ?_
  refine GL.val (Ex.assign rfl) (by decide) ?_
  refine GL.nil ?_
  refine GE.thenN ?_
  refine GC.ret ?_
  refine GC.ret1 rfl (Rv.tmp rfl) (fun wN HN => ?_)
  exact HN.ret () trivial rfl ulN rfl

set_option maxRecDepth 100000 in
set_option maxHeartbeats 1000000 in
theorem k49_35 (c0 : Nat) (c1 : Nat) (w : World) (hh : Has w [⟨c0, [(.int .u32 0), (.int .u32 1048576000), (.int .u32 1056964608), (.int .u32 1048576000), (.int .u32 0)], 63, false⟩, ⟨c1, [(.int .i64 1), (.int .i64 2), (.int .i64 1)], 3, false⟩]) :
    Calls Try.prog 49 #[(.iface 108 (.agg #[(.int .i64 5), (.int .i64 1), (.slice (some ⟨c0, 0, none⟩) 5 5), (.int .i64 1), (.int .i64 2), (.int .i64 0), (.bool true)])), (.slice (some ⟨c1, 0, none⟩) 3 3)] w (Ret w (fun _ : Unit => True) (fun rz => (.int .u32 1056964608)) (fun rz => [])) := by
  refine enter (M := None) (L := [⟨c0, [(.int .u32 0), (.int .u32 1048576000), (.int .u32 1056964608), (.int .u32 1048576000), (.int .u32 0)], 63, false⟩, ⟨c1, [(.int .i64 1), (.int .i64 2), (.int .i64 1)], 3, false⟩]) (n := 43) (l := [(0, (.iface 108 (.agg #[(.int .i64 5), (.int .i64 1), (.slice (some ⟨c0, 0, none⟩) 5 5), (.int .i64 1), (.int .i64 2), (.int .i64 0), (.bool true)]))), (1, (.slice (some ⟨c1, 0, none⟩) 3 3))]) Try.func49 rfl rfl (Args.cons rfl (Args.cons rfl (Args.nil _))) (Hp.reads hh rfl) ?_
  refine GC.seq ?_
  refine GC.region ?_
  refine GL.val (Ex.assign rfl) (by decide) ?_
  refine GL.nil ?_
  refine GE.thenN ?_
  refine GC.seq ?_
  refine GC.region ?_
  refine GL.val (Ex.assign rfl) (by decide) ?_
  refine GL.val (Ex.assign rfl) (by decide) ?_
  refine GL.nil ?_
  refine GE.thenN ?_
  refine GC.seq ?_
  refine GC.seq ?_
  refine GC.region ?_
  refine GL.val (Ex.move rfl) (by decide) ?_
  refine GL.val (v := (.int .i64 3)) (Ex.len rfl Try.underlying28) (by decide) ?_
  refine GL.val (Ex.move rfl) (by decide) ?_
  refine GL.nil ?_
  refine GE.thenN ?_
  refine GC.block ?_
  refine GC.unroll 60 ?_
  refine GE.round ?_
  refine GC.seq ?_
  refine GC.region ?_
  refine GL.val (v := (.bool true)) (Ex.cast (Ex.lss rfl rfl) rfl) (by decide) ?_
  refine GL.nil ?_
  refine GE.thenN ?_
  refine GC.seq ?_
  refine GC.cond rfl (fun _ => ?_) (fun hq1 => by cases hq1)
  refine GC.skip ?_
  refine GE.thenN ?_
  refine GC.seq ?_
  refine GC.block ?_
  refine GC.seq ?_
  refine GC.region ?_
  refine GL.val (Ex.move rfl) (by decide) ?_
  refine GL.val (v := (.pointer (some ⟨c1, 0, none⟩))) (Ex.cast (Ex.indexAddr rfl rfl Try.underlying28 T.sz3 (by omega) (by omega)) rfl) (by decide) ?_
  refine GL.val (Ex.load rfl T.ag3 (i := 1) rfl rfl) (by decide) ?_
  refine GL.val (Ex.assign rfl) (by decide) ?_
  refine GL.val (Ex.assign rfl) (by decide) ?_
  refine GL.nil ?_
  refine GE.thenN ?_
  refine GC.seq ?_
  refine GC.region ?_
  refine GL.val (Ex.move rfl) (by decide) ?_
  refine GL.val (v := (.float .f64 4607182418800017408)) (Ex.cast (Ex.cif rfl Try.underlying3 Try.underlying61) (by kernel_rfl)) (by decide) ?_
  refine GL.val (Ex.move rfl) (by decide) ?_
  refine GL.val (Ex.move rfl) (by decide) ?_
  refine GL.val (Ex.move rfl) (by decide) ?_
  refine GL.val (v := (.int .i64 3)) (Ex.len rfl Try.underlying28) (by decide) ?_
  refine GL.val (v := (.int .i64 1)) (Ex.quo rfl rfl (Z := 1) (by decide) (by decide)) (by decide) ?_
  refine GL.val (v := (.int .i64 (-1))) (Ex.sub' rfl rfl (Z := -1) (by decide)) (by decide) ?_
  refine GL.step (Stp.invokeR (σ := Unit) (p := fun rz => True) (v := fun rz => (.int .u32 1056964608)) (N := fun rz => []) (vs := [(.int .i64 (-1))]) rfl rfl (fun w => T.mth88 _ _ w) (by decide) (fun wc hw => (by have h := at_y 5 5 5 c0 0 1 2 [0, 1048576000, 1056964608, 1048576000, 0] 1 (-1) 0 wc (by decide) (by decide) (by decide) (by decide +kernel) (by decide) rfl (hw.rdOf (i := 0) rfl 0); rw [show smp [0, 1048576000, 1056964608, 1048576000, 0] 5 2 (bord 1 ((1 : Nat) : Int) (0 + (-1))).1.toNat = 1056964608 from by decide +kernel] at h; exact h))) (fun xq2 hq3 => ?_)
  refine GL.step (Stp.callR (vs := [(.int .u32 1056964608)]) rfl rfl T.own58 (by decide) (fun wc hw => k58_36  wc )) (fun xq4 hq5 => ?_)
  refine GL.val (v := (.float .f64 4602678819172646912)) (Ex.farith (r := 4602678819172646912) rfl rfl (by kernel_rfl)) (by decide) ?_
  refine GL.val (Ex.assign rfl) (by decide) ?_
  refine GL.nil ?_
  refine GE.thenN ?_
  refine GC.seq ?_
  refine GC.region ?_
  refine GL.val (Ex.move rfl) (by decide) ?_
  refine GL.val (Ex.move rfl) (by decide) ?_
  refine GL.val (v := (.int .i64 1)) (Ex.add rfl rfl (Z := 1) (by decide)) (by decide) ?_
  refine GL.val (Ex.assign rfl) (by decide) ?_
  refine GL.nil ?_
  refine GE.thenN ?_
  refine GC.seq ?_
  refine GC.seq ?_
  refine GC.region ?_
  refine GL.val (Ex.move rfl) (by decide) ?_
  refine GL.val (v := (.bool true)) (Ex.cast (Ex.eql rfl rfl) rfl) (by decide) ?_
  refine GL.nil ?_
  refine GE.thenN ?_
  refine GC.cond rfl (fun _ => ?_) (fun hq6 => by cases hq6)
  refine GC.seq ?_
  refine GC.region ?_
  refine GL.val (Ex.move rfl) (by decide) ?_
  refine GL.val (Ex.assign rfl) (by decide) ?_
  refine GL.nil ?_
  refine GE.thenN ?_
  refine GC.exit ?_
  refine GE.thenE ?_
  refine GE.blockE ?_
  refine GE.thenN ?_
  refine GC.region ?_
  refine GL.val (v := (.int .i64 1)) (Ex.add rfl rfl (Z := 1) (by decide)) (by decide) ?_
  refine GL.val (Ex.move rfl) (by decide) ?_
  refine GL.nil ?_
  refine GE.thenN ?_
  refine GE.round ?_
  refine GC.seq ?_
  refine GC.region ?_
  refine GL.val (v := (.bool true)) (Ex.cast (Ex.lss rfl rfl) rfl) (by decide) ?_
  refine GL.nil ?_
  refine GE.thenN ?_
  refine GC.seq ?_
  refine GC.cond rfl (fun _ => ?_) (fun hq7 => by cases hq7)
  refine GC.skip ?_
  refine GE.thenN ?_
  refine GC.seq ?_
  refine GC.block ?_
  refine GC.seq ?_
  refine GC.region ?_
  refine GL.val (Ex.move rfl) (by decide) ?_
  refine GL.val (v := (.pointer (some ⟨c1, 1, none⟩))) (Ex.cast (Ex.indexAddr rfl rfl Try.underlying28 T.sz3 (by omega) (by omega)) rfl) (by decide) ?_
  refine GL.val (Ex.load rfl T.ag3 (i := 1) rfl rfl) (by decide) ?_
  refine GL.val (Ex.assign rfl) (by decide) ?_
  refine GL.val (Ex.assign rfl) (by decide) ?_
  refine GL.nil ?_
  refine GE.thenN ?_
  refine GC.seq ?_
  refine GC.region ?_
  refine GL.val (Ex.move rfl) (by decide) ?_
  refine GL.val (v := (.float .f64 4611686018427387904)) (Ex.cast (Ex.cif rfl Try.underlying3 Try.underlying61) (by kernel_rfl)) (by decide) ?_
  refine GL.val (Ex.move rfl) (by decide) ?_
  refine GL.val (Ex.move rfl) (by decide) ?_
  refine GL.val (Ex.move rfl) (by decide) ?_
  refine GL.val (v := (.int .i64 3)) (Ex.len rfl Try.underlying28) (by decide) ?_
  refine GL.val (v := (.int .i64 1)) (Ex.quo rfl rfl (Z := 1) (by decide) (by decide)) (by decide) ?_
  refine GL.val (v := (.int .i64 0)) (Ex.sub' rfl rfl (Z := 0) (by decide)) (by decide) ?_
  refine GL.step (Stp.invokeR (σ := Unit) (p := fun rz => True) (v := fun rz => (.int .u32 1056964608)) (N := fun rz => []) (vs := [(.int .i64 0)]) rfl rfl (fun w => T.mth88 _ _ w) (by decide) (fun wc hw => (by have h := at_y 5 5 5 c0 0 1 2 [0, 1048576000, 1056964608, 1048576000, 0] 1 0 0 wc (by decide) (by decide) (by decide) (by decide +kernel) (by decide) rfl (hw.rdOf (i := 0) rfl 0); rw [show smp [0, 1048576000, 1056964608, 1048576000, 0] 5 2 (bord 1 ((1 : Nat) : Int) (0 + 0)).1.toNat = 1056964608 from by decide +kernel] at h; exact h))) (fun xq8 hq9 => ?_)
  refine GL.step (Stp.callR (vs := [(.int .u32 1056964608)]) rfl rfl T.own58 (by decide) (fun wc hw => k58_36  wc )) (fun xq10 hq11 => ?_)
  refine GL.val (v := (.float .f64 4607182418800017408)) (Ex.farith (r := 4607182418800017408) rfl rfl (by kernel_rfl)) (by decide) ?_
  refine GL.val (Ex.assign rfl) (by decide) ?_
  refine GL.nil ?_
  refine GE.thenN ?_
  refine GC.seq ?_
  refine GC.region ?_
  refine GL.val (Ex.move rfl) (by decide) ?_
  refine GL.val (Ex.move rfl) (by decide) ?_
  refine GL.val (v := (.int .i64 3)) (Ex.add rfl rfl (Z := 3) (by decide)) (by decide) ?_
  refine GL.val (Ex.assign rfl) (by decide) ?_
  refine GL.nil ?_
  refine GE.thenN ?_
  refine GC.seq ?_
  refine GC.seq ?_
  refine GC.region ?_
  refine GL.val (Ex.move rfl) (by decide) ?_
  refine GL.val (v := (.bool false)) (Ex.cast (Ex.eql rfl rfl) rfl) (by decide) ?_
  refine GL.nil ?_
  refine GE.thenN ?_
  refine GC.cond rfl (fun hq12 => by cases hq12) (fun _ => ?_)
  refine GC.skip ?_
  refine GE.thenN ?_
  refine GC.region ?_
  refine GL.val (Ex.move rfl) (by decide) ?_
  refine GL.val (Ex.move rfl) (by decide) ?_
  refine GL.val (v := (.float .f64 4609434218613702656)) (Ex.farith (r := 4609434218613702656) rfl rfl (by kernel_rfl)) (by decide) ?_
  refine GL.val (Ex.assign rfl) (by decide) ?_
  refine GL.nil ?_
  refine GE.blockN ?_
  refine GE.thenN ?_
  refine GC.region ?_
  refine GL.val (v := (.int .i64 2)) (Ex.add rfl rfl (Z := 2) (by decide)) (by decide) ?_
  refine GL.val (Ex.move rfl) (by decide) ?_
  refine GL.nil ?_
  refine GE.thenN ?_
  refine GE.round ?_
  refine GC.seq ?_
  refine GC.region ?_
  refine GL.val (v := (.bool true)) (Ex.cast (Ex.lss rfl rfl) rfl) (by decide) ?_
  refine GL.nil ?_
  refine GE.thenN ?_
  refine GC.seq ?_
  refine GC.cond rfl (fun _ => ?_) (fun hq13 => by cases hq13)
  refine GC.skip ?_
  refine GE.thenN ?_
  refine GC.seq ?_
  refine GC.block ?_
  refine GC.seq ?_
  refine GC.region ?_
  refine GL.val (Ex.move rfl) (by decide) ?_
  refine GL.val (v := (.pointer (some ⟨c1, 2, none⟩))) (Ex.cast (Ex.indexAddr rfl rfl Try.underlying28 T.sz3 (by omega) (by omega)) rfl) (by decide) ?_
  refine GL.val (Ex.load rfl T.ag3 (i := 1) rfl rfl) (by decide) ?_
  refine GL.val (Ex.assign rfl) (by decide) ?_
  refine GL.val (Ex.assign rfl) (by decide) ?_
  refine GL.nil ?_
  refine GE.thenN ?_
  refine GC.seq ?_
  refine GC.region ?_
  refine GL.val (Ex.move rfl) (by decide) ?_
  refine GL.val (v := (.float .f64 4607182418800017408)) (Ex.cast (Ex.cif rfl Try.underlying3 Try.underlying61) (by kernel_rfl)) (by decide) ?_
  refine GL.val (Ex.move rfl) (by decide) ?_
  refine GL.val (Ex.move rfl) (by decide) ?_
  refine GL.val (Ex.move rfl) (by decide) ?_
  refine GL.val (v := (.int .i64 3)) (Ex.len rfl Try.underlying28) (by decide) ?_
  refine GL.val (v := (.int .i64 1)) (Ex.quo rfl rfl (Z := 1) (by decide) (by decide)) (by decide) ?_
  refine GL.val (v := (.int .i64 1)) (Ex.sub' rfl rfl (Z := 1) (by decide)) (by decide) ?_
  refine GL.step (Stp.invokeR (σ := Unit) (p := fun rz => True) (v := fun rz => (.int .u32 1056964608)) (N := fun rz => []) (vs := [(.int .i64 1)]) rfl rfl (fun w => T.mth88 _ _ w) (by decide) (fun wc hw => (by have h := at_y 5 5 5 c0 0 1 2 [0, 1048576000, 1056964608, 1048576000, 0] 1 1 0 wc (by decide) (by decide) (by decide) (by decide +kernel) (by decide) rfl (hw.rdOf (i := 0) rfl 0); rw [show smp [0, 1048576000, 1056964608, 1048576000, 0] 5 2 (bord 1 ((1 : Nat) : Int) (0 + 1)).1.toNat = 1056964608 from by decide +kernel] at h; exact h))) (fun xq14 hq15 => ?_)
  refine GL.step (Stp.callR (vs := [(.int .u32 1056964608)]) rfl rfl T.own58 (by decide) (fun wc hw => k58_36  wc )) (fun xq16 hq17 => ?_)
  refine GL.val (v := (.float .f64 4602678819172646912)) (Ex.farith (r := 4602678819172646912) rfl rfl (by kernel_rfl)) (by decide) ?_
  refine GL.val (Ex.assign rfl) (by decide) ?_
  refine GL.nil ?_
  refine GE.thenN ?_
  refine GC.seq ?_
  refine GC.region ?_
  refine GL.val (Ex.move rfl) (by decide) ?_
  refine GL.val (Ex.move rfl) (by decide) ?_
  refine GL.val (v := (.int .i64 4)) (Ex.add rfl rfl (Z := 4) (by decide)) (by decide) ?_
  refine GL.val (Ex.assign rfl) (by decide) ?_
  refine GL.nil ?_
  refine GE.thenN ?_
  refine GC.seq ?_
  refine GC.seq ?_
  refine GC.region ?_
  refine GL.val (Ex.move rfl) (by decide) ?_
  refine GL.val (v := (.bool false)) (Ex.cast (Ex.eql rfl rfl) rfl) (by decide) ?_
  refine GL.nil ?_
  refine GE.thenN ?_
  refine GC.cond rfl (fun hq18 => by cases hq18) (fun _ => ?_)
  refine GC.skip ?_
  refine GE.thenN ?_
  refine GC.region ?_
  refine GL.val (Ex.move rfl) (by decide) ?_
  refine GL.val (Ex.move rfl) (by decide) ?_
  refine GL.val (v := (.float .f64 4611686018427387904)) (Ex.farith (r := 4611686018427387904) rfl rfl (by kernel_rfl)) (by decide) ?_
  refine GL.val (Ex.assign rfl) (by decide) ?_
  refine GL.nil ?_
  refine GE.blockN ?_
  refine GE.thenN ?_
  refine GC.region ?_
  refine GL.val (v := (.int .i64 3)) (Ex.add rfl rfl (Z := 3) (by decide)) (by decide) ?_
  refine GL.val (Ex.move rfl) (by decide) ?_
  refine GL.nil ?_
  refine GE.thenN ?_
  refine GE.round ?_
  refine GC.seq ?_
  refine GC.region ?_
  refine GL.val (v := (.bool false)) (Ex.cast (Ex.lss rfl rfl) rfl) (by decide) ?_
  refine GL.nil ?_
  refine GE.thenN ?_
  refine GC.seq ?_
  refine GC.cond rfl (fun hq19 => by cases hq19) (fun _ => ?_)
  refine GC.exit ?_
  refine GE.thenE ?_
  refine GE.thenE ?_
  refine GE.blockE ?_
  refine GE.thenN ?_
  refine GC.seq ?_
  refine GC.region ?_
  refine GL.val (Ex.move rfl) (by decide) ?_
  refine GL.val (Ex.move rfl) (by decide) ?_
  refine GL.val (v := (.float .f64 4616189618054758400)) (Ex.cast (Ex.cif rfl Try.underlying3 Try.underlying61) (by kernel_rfl)) (by decide) ?_
  refine GL.val (v := (.float .f64 4602678819172646912)) (Ex.farith (r := 4602678819172646912) rfl rfl (by kernel_rfl)) (by decide) ?_
  refine GL.step (Stp.callR (vs := [(.float .f64 4602678819172646912)]) rfl rfl T.own59 (by decide) (fun wc hw => k59_25  wc )) (fun xq20 hq21 => ?_)
  refine GL.val (Ex.assign rfl) (by decide) ?_
  refine GL.nil ?_
  refine GE.thenN ?_
  refine GC.ret ?_
  refine GC.ret1 rfl (Rv.tmp rfl) (fun wN HN => ?_)
  exact HN.ret () trivial rfl (ulS (ulS ulN)) rfl

set_option maxRecDepth 100000 in
set_option maxHeartbeats 1000000 in
theorem k49_37 (c0 : Nat) (c1 : Nat) (w : World) (hh : Has w [⟨c0, [(.int .u32 0), (.int .u32 1048576000), (.int .u32 1056964608), (.int .u32 1048576000), (.int .u32 0)], 63, false⟩, ⟨c1, [(.int .i64 1), (.int .i64 2), (.int .i64 1)], 3, false⟩]) :
    Calls Try.prog 49 #[(.iface 108 (.agg #[(.int .i64 5), (.int .i64 1), (.slice (some ⟨c0, 0, none⟩) 5 5), (.int .i64 1), (.int .i64 3), (.int .i64 0), (.bool true)])), (.slice (some ⟨c1, 0, none⟩) 3 3)] w (Ret w (fun _ : Unit => True) (fun rz => (.int .u32 1048576000)) (fun rz => [])) := by
  refine enter (M := None) (L := [⟨c0, [(.int .u32 0), (.int .u32 1048576000), (.int .u32 1056964608), (.int .u32 1048576000), (.int .u32 0)], 63, false⟩, ⟨c1, [(.int .i64 1), (.int .i64 2), (.int .i64 1)], 3, false⟩]) (n := 43) (l := [(0, (.iface 108 (.agg #[(.int .i64 5), (.int .i64 1), (.slice (some ⟨c0, 0, none⟩) 5 5), (.int .i64 1), (.int .i64 3), (.int .i64 0), (.bool true)]))), (1, (.slice (some ⟨c1, 0, none⟩) 3 3))]) Try.func49 rfl rfl (Args.cons rfl (Args.cons rfl (Args.nil _))) (Hp.reads hh rfl) ?_
  refine GC.seq ?_
  refine GC.region ?_
  refine GL.val (Ex.assign rfl) (by decide) ?_
  refine GL.nil ?_
  refine GE.thenN ?_
  refine GC.seq ?_
  refine GC.region ?_
  refine GL.val (Ex.assign rfl) (by decide) ?_
  refine GL.val (Ex.assign rfl) (by decide) ?_
  refine GL.nil ?_
  refine GE.thenN ?_
  refine GC.seq ?_
  refine GC.seq ?_
  refine GC.region ?_
  refine GL.val (Ex.move rfl) (by decide) ?_
  refine GL.val (v := (.int .i64 3)) (Ex.len rfl Try.underlying28) (by decide) ?_
  refine GL.val (Ex.move rfl) (by decide) ?_
  refine GL.nil ?_
  refine GE.thenN ?_
  refine GC.block ?_
  refine GC.unroll 60 ?_
  refine GE.round ?_
  refine GC.seq ?_
  refine GC.region ?_
  refine GL.val (v := (.bool true)) (Ex.cast (Ex.lss rfl rfl) rfl) (by decide) ?_
  refine GL.nil ?_
  refine GE.thenN ?_
  refine GC.seq ?_
  refine GC.cond rfl (fun _ => ?_) (fun hq1 => by cases hq1)
  refine GC.skip ?_
  refine GE.thenN ?_
  refine GC.seq ?_
  refine GC.block ?_
  refine GC.seq ?_
  refine GC.region ?_
  refine GL.val (Ex.move rfl) (by decide) ?_
  refine GL.val (v := (.pointer (some ⟨c1, 0, none⟩))) (Ex.cast (Ex.indexAddr rfl rfl Try.underlying28 T.sz3 (by omega) (by omega)) rfl) (by decide) ?_
  refine GL.val (Ex.load rfl T.ag3 (i := 1) rfl rfl) (by decide) ?_
  refine GL.val (Ex.assign rfl) (by decide) ?_
  refine GL.val (Ex.assign rfl) (by decide) ?_
  refine GL.nil ?_
  refine GE.thenN ?_
  refine GC.seq ?_
  refine GC.region ?_
  refine GL.val (Ex.move rfl) (by decide) ?_
  refine GL.val (v := (.float .f64 4607182418800017408)) (Ex.cast (Ex.cif rfl Try.underlying3 Try.underlying61) (by kernel_rfl)) (by decide) ?_
  refine GL.val (Ex.move rfl) (by decide) ?_
  refine GL.val (Ex.move rfl) (by decide) ?_
  refine GL.val (Ex.move rfl) (by decide) ?_
  refine GL.val (v := (.int .i64 3)) (Ex.len rfl Try.underlying28) (by decide) ?_
  refine GL.val (v := (.int .i64 1)) (Ex.quo rfl rfl (Z := 1) (by decide) (by decide)) (by decide) ?_
  refine GL.val (v := (.int .i64 (-1))) (Ex.sub' rfl rfl (Z := -1) (by decide)) (by decide) ?_
  refine GL.step (Stp.invokeR (σ := Unit) (p := fun rz => True) (v := fun rz => (.int .u32 1048576000)) (N := fun rz => []) (vs := [(.int .i64 (-1))]) rfl rfl (fun w => T.mth88 _ _ w) (by decide) (fun wc hw => (by have h := at_y 5 5 5 c0 0 1 3 [0, 1048576000, 1056964608, 1048576000, 0] 1 (-1) 0 wc (by decide) (by decide) (by decide) (by decide +kernel) (by decide) rfl (hw.rdOf (i := 0) rfl 0); rw [show smp [0, 1048576000, 1056964608, 1048576000, 0] 5 3 (bord 1 ((1 : Nat) : Int) (0 + (-1))).1.toNat = 1048576000 from by decide +kernel] at h; exact h))) (fun xq2 hq3 => ?_)
  refine GL.step (Stp.callR (vs := [(.int .u32 1048576000)]) rfl rfl T.own58 (by decide) (fun wc hw => k58_34  wc )) (fun xq4 hq5 => ?_)
  refine GL.val (v := (.float .f64 4598175219545276416)) (Ex.farith (r := 4598175219545276416) rfl rfl (by kernel_rfl)) (by decide) ?_
  refine GL.val (Ex.assign rfl) (by decide) ?_
  refine GL.nil ?_
  refine GE.thenN ?_
  refine GC.seq ?_
  refine GC.region ?_
  refine GL.val (Ex.move rfl) (by decide) ?_
  refine GL.val (Ex.move rfl) (by decide) ?_
  refine GL.val (v := (.int .i64 1)) (Ex.add rfl rfl (Z := 1) (by decide)) (by decide) ?_
  refine GL.val (Ex.assign rfl) (by decide) ?_
  refine GL.nil ?_
  refine GE.thenN ?_
  refine GC.seq ?_
  refine GC.seq ?_
  refine GC.region ?_
  refine GL.val (Ex.move rfl) (by decide) ?_
  refine GL.val (v := (.bool true)) (Ex.cast (Ex.eql rfl rfl) rfl) (by decide) ?_
  refine GL.nil ?_
  refine GE.thenN ?_
  refine GC.cond rfl (fun _ => ?_) (fun hq6 => by cases hq6)
  refine GC.seq ?_
  refine GC.region ?_
  refine GL.val (Ex.move rfl) (by decide) ?_
  refine GL.val (Ex.assign rfl) (by decide) ?_
  refine GL.nil ?_
  refine GE.thenN ?_
  refine GC.exit ?_
  refine GE.thenE ?_
  refine GE.blockE ?_
  refine GE.thenN ?_
  refine GC.region ?_
  refine GL.val (v := (.int .i64 1)) (Ex.add rfl rfl (Z := 1) (by decide)) (by decide) ?_
  refine GL.val (Ex.move rfl) (by decide) ?_
  refine GL.nil ?_
  refine GE.thenN ?_
  refine GE.round ?_
  refine GC.seq ?_
  refine GC.region ?_
  refine GL.val (v := (.bool true)) (Ex.cast (Ex.lss rfl rfl) rfl) (by decide) ?_
  refine GL.nil ?_
  refine GE.thenN ?_
  refine GC.seq ?_
  refine GC.cond rfl (fun _ => ?_) (fun hq7 => by cases hq7)
  refine GC.skip ?_
  refine GE.thenN ?_
  refine GC.seq ?_
  refine GC.block ?_
  refine GC.seq ?_
  refine GC.region ?_
  refine GL.val (Ex.move rfl) (by decide) ?_
  refine GL.val (v := (.pointer (some ⟨c1, 1, none⟩))) (Ex.cast (Ex.indexAddr rfl rfl Try.underlying28 T.sz3 (by omega) (by omega)) rfl) (by decide) ?_
  refine GL.val (Ex.load rfl T.ag3 (i := 1) rfl rfl) (by decide) ?_
  refine GL.val (Ex.assign rfl) (by decide) ?_
  refine GL.val (Ex.assign rfl) (by decide) ?_
  refine GL.nil ?_
  refine GE.thenN ?_
  refine GC.seq ?_
  refine GC.region ?_
  refine GL.val (Ex.move rfl) (by decide) ?_
  refine GL.val (v := (.float .f64 4611686018427387904)) (Ex.cast (Ex.cif rfl Try.underlying3 Try.underlying61) (by kernel_rfl)) (by decide) ?_
  refine GL.val (Ex.move rfl) (by decide) ?_
  refine GL.val (Ex.move rfl) (by decide) ?_
  refine GL.val (Ex.move rfl) (by decide) ?_
  refine GL.val (v := (.int .i64 3)) (Ex.len rfl Try.underlying28) (by decide) ?_
  refine GL.val (v := (.int .i64 1)) (Ex.quo rfl rfl (Z := 1) (by decide) (by decide)) (by decide) ?_
  refine GL.val (v := (.int .i64 0)) (Ex.sub' rfl rfl (Z := 0) (by decide)) (by decide) ?_
  refine GL.step (Stp.invokeR (σ := Unit) (p := fun rz => True) (v := fun rz => (.int .u32 1048576000)) (N := fun rz => []) (vs := [(.int .i64 0)]) rfl rfl (fun w => T.mth88 _ _ w) (by decide) (fun wc hw => (by have h := at_y 5 5 5 c0 0 1 3 [0, 1048576000, 1056964608, 1048576000, 0] 1 0 0 wc (by decide) (by decide) (by decide) (by decide +kernel) (by decide) rfl (hw.rdOf (i := 0) rfl 0); rw [show smp [0, 1048576000, 1056964608, 1048576000, 0] 5 3 (bord 1 ((1 : Nat) : Int) (0 + 0)).1.toNat = 1048576000 from by decide +kernel] at h; exact h))) (fun xq8 hq9 => ?_)
  refine GL.step (Stp.callR (vs := [(.int .u32 1048576000)]) rfl rfl T.own58 (by decide) (fun wc hw => k58_34  wc )) (fun xq10 hq11 => ?_)
  refine GL.val (v := (.float .f64 4602678819172646912)) (Ex.farith (r := 4602678819172646912) rfl rfl (by kernel_rfl)) (by decide) ?_
  refine GL.val (Ex.assign rfl) (by decide) ?_
  refine GL.nil ?_
  refine GE.thenN ?_
  refine GC.seq ?_
  refine GC.region ?_
  refine GL.val (Ex.move rfl) (by decide) ?_
  refine GL.val (Ex.move rfl) (by decide) ?_
  refine GL.val (v := (.int .i64 3)) (Ex.add rfl rfl (Z := 3) (by decide)) (by decide) ?_
  refine GL.val (Ex.assign rfl) (by decide) ?_
  refine GL.nil ?_
  refine GE.thenN ?_
  refine GC.seq ?_
  refine GC.seq ?_
  refine GC.region ?_
  refine GL.val (Ex.move rfl) (by decide) ?_
  refine GL.val (v := (.bool false)) (Ex.cast (Ex.eql rfl rfl) rfl) (by decide) ?_
  refine GL.nil ?_
  refine GE.thenN ?_
  refine GC.cond rfl (fun hq12 => by cases hq12) (fun _ => ?_)
  refine GC.skip ?_
  refine GE.thenN ?_
  refine GC.region ?_
  refine GL.val (Ex.move rfl) (by decide) ?_
  refine GL.val (Ex.move rfl) (by decide) ?_
  refine GL.val (v := (.float .f64 4604930618986332160)) (Ex.farith (r := 4604930618986332160) rfl rfl (by kernel_rfl)) (by decide) ?_
  refine GL.val (Ex.assign rfl) (by decide) ?_
  refine GL.nil ?_
  refine GE.blockN ?_
  refine GE.thenN ?_
  refine GC.region ?_
  refine GL.val (v := (.int .i64 2)) (Ex.add rfl rfl (Z := 2) (by decide)) (by decide) ?_
  refine GL.val (Ex.move rfl) (by decide) ?_
  refine GL.nil ?_
  refine GE.thenN ?_
  refine GE.round ?_
  refine GC.seq ?_
  refine GC.region ?_
  refine GL.val (v := (.bool true)) (Ex.cast (Ex.lss rfl rfl) rfl) (by decide) ?_
  refine GL.nil ?_
  refine GE.thenN ?_
  refine GC.seq ?_
  refine GC.cond rfl (fun _ => ?_) (fun hq13 => by cases hq13)
  refine GC.skip ?_
  refine GE.thenN ?_
  refine GC.seq ?_
  refine GC.block ?_
  refine GC.seq ?_
  refine GC.region ?_
  refine GL.val (Ex.move rfl) (by decide) ?_
  refine GL.val (v := (.pointer (some ⟨c1, 2, none⟩))) (Ex.cast (Ex.indexAddr rfl rfl Try.underlying28 T.sz3 (by omega) (by omega)) rfl) (by decide) ?_
  refine GL.val (Ex.load rfl T.ag3 (i := 1) rfl rfl) (by decide) ?_
  refine GL.val (Ex.assign rfl) (by decide) ?_
  refine GL.val (Ex.assign rfl) (by decide) ?_
  refine GL.nil ?_
  refine GE.thenN ?_
  refine GC.seq ?_
  refine GC.region ?_
  refine GL.val (Ex.move rfl) (by decide) ?_
  refine GL.val (v := (.float .f64 4607182418800017408)) (Ex.cast (Ex.cif rfl Try.underlying3 Try.underlying61) (by kernel_rfl)) (by decide) ?_
  refine GL.val (Ex.move rfl) (by decide) ?_
  refine GL.val (Ex.move rfl) (by decide) ?_
  refine GL.val (Ex.move rfl) (by decide) ?_
  refine GL.val (v := (.int .i64 3)) (Ex.len rfl Try.underlying28) (by decide) ?_
  refine GL.val (v := (.int .i64 1)) (Ex.quo rfl rfl (Z := 1) (by decide) (by decide)) (by decide) ?_
  refine GL.val (v := (.int .i64 1)) (Ex.sub' rfl rfl (Z := 1) (by decide)) (by decide) ?_
  refine GL.step (Stp.invokeR (σ := Unit) (p := fun rz => True) (v := fun rz => (.int .u32 1048576000)) (N := fun rz => []) (vs := [(.int .i64 1)]) rfl rfl (fun w => T.mth88 _ _ w) (by decide) (fun wc hw => (by have h := at_y 5 5 5 c0 0 1 3 [0, 1048576000, 1056964608, 1048576000, 0] 1 1 0 wc (by decide) (by decide) (by decide) (by decide +kernel) (by decide) rfl (hw.rdOf (i := 0) rfl 0); rw [show smp [0, 1048576000, 1056964608, 1048576000, 0] 5 3 (bord 1 ((1 : Nat) : Int) (0 + 1)).1.toNat = 1048576000 from by decide +kernel] at h; exact h))) (fun xq14 hq15 => ?_)
  refine GL.step (Stp.callR (vs := [(.int .u32 1048576000)]) rfl rfl T.own58 (by decide) (fun wc hw => k58_34  wc )) (fun xq16 hq17 => ?_)
  refine GL.val (v := (.float .f64 4598175219545276416)) (Ex.farith (r := 4598175219545276416) rfl rfl (by kernel_rfl)) (by decide) ?_
  refine GL.val (Ex.assign rfl) (by decide) ?_
  refine GL.nil ?_
  refine GE.thenN ?_
  refine GC.seq ?_
  refine GC.region ?_
  refine GL.val (Ex.move rfl) (by decide) ?_
  refine GL.val (Ex.move rfl) (by decide) ?_
  refine GL.val (v := (.int .i64 4)) (Ex.add rfl rfl (Z := 4) (by decide)) (by decide) ?_
  refine GL.val (Ex.assign rfl) (by decide) ?_
  refine GL.nil ?_
  refine GE.thenN ?_
  refine GC.seq ?_
  refine GC.seq ?_
  refine GC.region ?_
  refine GL.val (Ex.move rfl) (by decide) ?_
  refine GL.val (v := (.bool false)) (Ex.cast (Ex.eql rfl rfl) rfl) (by decide) ?_
  refine GL.nil ?_
  refine GE.thenN ?_
  refine GC.cond rfl (fun hq18 => by cases hq18) (fun _ => ?_)
  refine GC.skip ?_
  refine GE.thenN ?_
  refine GC.region ?_
  refine GL.val (Ex.move rfl) (by decide) ?_
  refine GL.val (Ex.move rfl) (by decide) ?_
  refine GL.val (v := (.float .f64 4607182418800017408)) (Ex.farith (r := 4607182418800017408) rfl rfl (by kernel_rfl)) (by decide) ?_
  refine GL.val (Ex.assign rfl) (by decide) ?_
  refine GL.nil ?_
  refine GE.blockN ?_
  refine GE.thenN ?_
  refine GC.region ?_
  refine GL.val (v := (.int .i64 3)) (Ex.add rfl rfl (Z := 3) (by decide)) (by decide) ?_
  refine GL.val (Ex.move rfl) (by decide) ?_
  refine GL.nil ?_
  refine GE.thenN ?_
  refine GE.round ?_
  refine GC.seq ?_
  refine GC.region ?_
  refine GL.val (v := (.bool false)) (Ex.cast (Ex.lss rfl rfl) rfl) (by decide) ?_
  refine GL.nil ?_
  refine GE.thenN ?_
  refine GC.seq ?_
  refine GC.cond rfl (fun hq19 => by cases hq19) (fun _ => ?_)
  refine GC.exit ?_
  refine GE.thenE ?_
  refine GE.thenE ?_
  refine GE.blockE ?_
  refine GE.thenN ?_
  refine GC.seq ?_
  refine GC.region ?_
  refine GL.val (Ex.move rfl) (by decide) ?_
  refine GL.val (Ex.move rfl) (by decide) ?_
  refine GL.val (v := (.float .f64 4616189618054758400)) (Ex.cast (Ex.cif rfl Try.underlying3 Try.underlying61) (by kernel_rfl)) (by decide) ?_
  refine GL.val (v := (.float .f64 4598175219545276416)) (Ex.farith (r := 4598175219545276416) rfl rfl (by kernel_rfl)) (by decide) ?_
  refine GL.step (Stp.callR (vs := [(.float .f64 4598175219545276416)]) rfl rfl T.own59 (by decide) (fun wc hw => k59_19  wc )) (fun xq20 hq21 => ?_)
  refine GL.val (Ex.assign rfl) (by decide) ?_
  refine GL.nil ?_
  refine GE.thenN ?_
  refine GC.ret ?_
  refine GC.ret1 rfl (Rv.tmp rfl) (fun wN HN => ?_)
  exact HN.ret () trivial rfl (ulS (ulS ulN)) rfl

set_option maxRecDepth 100000 in
set_option maxHeartbeats 1000000 in
theorem k49_38 (c0 : Nat) (c1 : Nat) (w : World) (hh : Has w [⟨c0, [(.int .u32 0), (.int .u32 1048576000), (.int .u32 1056964608), (.int .u32 1048576000), (.int .u32 0)], 63, false⟩, ⟨c1, [(.int .i64 1), (.int .i64 2), (.int .i64 1)], 3, false⟩]) :
    Calls Try.prog 49 #[(.iface 108 (.agg #[(.int .i64 5), (.int .i64 1), (.slice (some ⟨c0, 0, none⟩) 5 5), (.int .i64 1), (.int .i64 4), (.int .i64 0), (.bool true)])), (.slice (some ⟨c1, 0, none⟩) 3 3)] w (Ret w (fun _ : Unit => True) (fun rz => (.int .u32 0)) (fun rz => [])) := by
  refine enter (M := None) (L := [⟨c0, [(.int .u32 0), (.int .u32 1048576000), (.int .u32 1056964608), (.int .u32 1048576000), (.int .u32 0)], 63, false⟩, ⟨c1, [(.int .i64 1), (.int .i64 2), (.int .i64 1)], 3, false⟩]) (n := 43) (l := [(0, (.iface 108 (.agg #[(.int .i64 5), (.int .i64 1), (.slice (some ⟨c0, 0, none⟩) 5 5), (.int .i64 1), (.int .i64 4), (.int .i64 0), (.bool true)]))), (1, (.slice (some ⟨c1, 0, none⟩) 3 3))]) Try.func49 rfl rfl (Args.cons rfl (Args.cons rfl (Args.nil _))) (Hp.reads hh rfl) ?_
  refine GC.seq ?_
  refine GC.region ?_
  refine GL.val (Ex.assign rfl) (by decide) ?_
  refine GL.nil ?_
  refine GE.thenN ?_
  refine GC.seq ?_
  refine GC.region ?_
  refine GL.val (Ex.assign rfl) (by decide) ?_
  refine GL.val (Ex.assign rfl) (by decide) ?_
  refine GL.nil ?_
  refine GE.thenN ?_
  refine GC.seq ?_
  refine GC.seq ?_
  refine GC.region ?_
  refine GL.val (Ex.move rfl) (by decide) ?_
  refine GL.val (v := (.int .i64 3)) (Ex.len rfl Try.underlying28) (by decide) ?_
  refine GL.val (Ex.move rfl) (by decide) ?_
  refine GL.nil ?_
  refine GE.thenN ?_
  refine GC.block ?_
  refine GC.unroll 60 ?_
  refine GE.round ?_
  refine GC.seq ?_
  refine GC.region ?_
  refine GL.val (v := (.bool true)) (Ex.cast (Ex.lss rfl rfl) rfl) (by decide) ?_
  refine GL.nil ?_
  refine GE.thenN ?_
  refine GC.seq ?_
  refine GC.cond rfl (fun _ => ?_) (fun hq1 => by cases hq1)
  refine GC.skip ?_
  refine GE.thenN ?_
  refine GC.seq ?_
  refine GC.block ?_
  refine GC.seq ?_
  refine GC.region ?_
  refine GL.val (Ex.move rfl) (by decide) ?_
  refine GL.val (v := (.pointer (some ⟨c1, 0, none⟩))) (Ex.cast (Ex.indexAddr rfl rfl Try.underlying28 T.sz3 (by omega) (by omega)) rfl) (by decide) ?_
  refine GL.val (Ex.load rfl T.ag3 (i := 1) rfl rfl) (by decide) ?_
  refine GL.val (Ex.assign rfl) (by decide) ?_
  refine GL.val (Ex.assign rfl) (by decide) ?_
  refine GL.nil ?_
  refine GE.thenN ?_
  refine GC.seq ?_
  refine GC.region ?_
  refine GL.val (Ex.move rfl) (by decide) ?_
  refine GL.val (v := (.float .f64 4607182418800017408)) (Ex.cast (Ex.cif rfl Try.underlying3 Try.underlying61) (by kernel_rfl)) (by decide) ?_
  refine GL.val (Ex.move rfl) (by decide) ?_
  refine GL.val (Ex.move rfl) (by decide) ?_
  refine GL.val (Ex.move rfl) (by decide) ?_
  refine GL.val (v := (.int .i64 3)) (Ex.len rfl Try.underlying28) (by decide) ?_
  refine GL.val (v := (.int .i64 1)) (Ex.quo rfl rfl (Z := 1) (by decide) (by decide)) (by decide) ?_
  refine GL.val (v := (.int .i64 (-1))) (Ex.sub' rfl rfl (Z := -1) (by decide)) (by decide) ?_
  refine GL.step (Stp.invokeR (σ := Unit) (p := fun rz => True) (v := fun rz => (.int .u32 0)) (N := fun rz => []) (vs := [(.int .i64 (-1))]) rfl rfl (fun w => T.mth88 _ _ w) (by decide) (fun wc hw => (by have h := at_y 5 5 5 c0 0 1 4 [0, 1048576000, 1056964608, 1048576000, 0] 1 (-1) 0 wc (by decide) (by decide) (by decide) (by decide +kernel) (by decide) rfl (hw.rdOf (i := 0) rfl 0); rw [show smp [0, 1048576000, 1056964608, 1048576000, 0] 5 4 (bord 1 ((1 : Nat) : Int) (0 + (-1))).1.toNat = 0 from by decide +kernel] at h; exact h))) (fun xq2 hq3 => ?_)
  refine GL.step (Stp.callR (vs := [(.int .u32 0)]) rfl rfl T.own58 (by decide) (fun wc hw => k58_11  wc )) (fun xq4 hq5 => ?_)
  refine GL.val (v := (.float .f64 0)) (Ex.farith (r := 0) rfl rfl (by kernel_rfl)) (by decide) ?_
  refine GL.val (Ex.assign rfl) (by decide) ?_
  refine GL.nil ?_
  refine GE.thenN ?_
  refine GC.seq ?_
  refine GC.region ?_
  refine GL.val (Ex.move rfl) (by decide) ?_
  refine GL.val (Ex.move rfl) (by decide) ?_
  refine GL.val (v := (.int .i64 1)) (Ex.add rfl rfl (Z := 1) (by decide)) (by decide) ?_
  refine GL.val (Ex.assign rfl) (by decide) ?_
  refine GL.nil ?_
  refine GE.thenN ?_
  refine GC.seq ?_
  refine GC.seq ?_
  refine GC.region ?_
  refine GL.val (Ex.move rfl) (by decide) ?_
  refine GL.val (v := (.bool true)) (Ex.cast (Ex.eql rfl rfl) rfl) (by decide) ?_
  refine GL.nil ?_
  refine GE.thenN ?_
  refine GC.cond rfl (fun _ => ?_) (fun hq6 => by cases hq6)
  refine GC.seq ?_
  refine GC.region ?_
  refine GL.val (Ex.move rfl) (by decide) ?_
  refine GL.val (Ex.assign rfl) (by decide) ?_
  refine GL.nil ?_
  refine GE.thenN ?_
  refine GC.exit ?_
  refine GE.thenE ?_
  refine GE.blockE ?_
  refine GE.thenN ?_
  refine GC.region ?_
  refine GL.val (v := (.int .i64 1)) (Ex.add rfl rfl (Z := 1) (by decide)) (by decide) ?_
  refine GL.val (Ex.move rfl) (by decide) ?_
  refine GL.nil ?_
  refine GE.thenN ?_
  refine GE.round ?_
  refine GC.seq ?_
  refine GC.region ?_
  refine GL.val (v := (.bool true)) (Ex.cast (Ex.lss rfl rfl) rfl) (by decide) ?_
  refine GL.nil ?_
  refine GE.thenN ?_
  refine GC.seq ?_
  refine GC.cond rfl (fun _ => ?_) (fun hq7 => by cases hq7)
  refine GC.skip ?_
  refine GE.thenN ?_
  refine GC.seq ?_
  refine GC.block ?_
  refine GC.seq ?_
  refine GC.region ?_
  refine GL.val (Ex.move rfl) (by decide) ?_
  refine GL.val (v := (.pointer (some ⟨c1, 1, none⟩))) (Ex.cast (Ex.indexAddr rfl rfl Try.underlying28 T.sz3 (by omega) (by omega)) rfl) (by decide) ?_
  refine GL.val (Ex.load rfl T.ag3 (i := 1) rfl rfl) (by decide) ?_
  refine GL.val (Ex.assign rfl) (by decide) ?_
  refine GL.val (Ex.assign rfl) (by decide) ?_
  refine GL.nil ?_
  refine GE.thenN ?_
  refine GC.seq ?_
  refine GC.region ?_
  refine GL.val (Ex.move rfl) (by decide) ?_
  refine GL.val (v := (.float .f64 4611686018427387904)) (Ex.cast (Ex.cif rfl Try.underlying3 Try.underlying61) (by kernel_rfl)) (by decide) ?_
  refine GL.val (Ex.move rfl) (by decide) ?_
  refine GL.val (Ex.move rfl) (by decide) ?_
  refine GL.val (Ex.move rfl) (by decide) ?_
  refine GL.val (v := (.int .i64 3)) (Ex.len rfl Try.underlying28) (by decide) ?_
  refine GL.val (v := (.int .i64 1)) (Ex.quo rfl rfl (Z := 1) (by decide) (by decide)) (by decide) ?_
  refine GL.val (v := (.int .i64 0)) (Ex.sub' rfl rfl (Z := 0) (by decide)) (by decide) ?_
  refine GL.step (Stp.invokeR (σ := Unit) (p := fun rz => True) (v := fun rz => (.int .u32 0)) (N := fun rz => []) (vs := [(.int .i64 0)]) rfl rfl (fun w => T.mth88 _ _ w) (by decide) (fun wc hw => (by have h := at_y 5 5 5 c0 0 1 4 [0, 1048576000, 1056964608, 1048576000, 0] 1 0 0 wc (by decide) (by decide) (by decide) (by decide +kernel) (by decide) rfl (hw.rdOf (i := 0) rfl 0); rw [show smp [0, 1048576000, 1056964608, 1048576000, 0] 5 4 (bord 1 ((1 : Nat) : Int) (0 + 0)).1.toNat = 0 from by decide +kernel] at h; exact h))) (fun xq8 hq9 => ?_)
  refine GL.step (Stp.callR (vs := [(.int .u32 0)]) rfl rfl T.own58 (by decide) (fun wc hw => k58_11  wc )) (fun xq10 hq11 => ?_)
  refine GL.val (v := (.float .f64 0)) (Ex.farith (r := 0) rfl rfl (by kernel_rfl)) (by decide) ?_
  refine GL.val (Ex.assign rfl) (by decide) ?_
  refine GL.nil ?_
  refine GE.thenN ?_
  refine GC.seq ?_
  refine GC.region ?_
  refine GL.val (Ex.move rfl) (by decide) ?_
  refine GL.val (Ex.move rfl) (by decide) ?_
  refine GL.val (v := (.int .i64 3)) (Ex.add rfl rfl (Z := 3) (by decide)) (by decide) ?_
  refine GL.val (Ex.assign rfl) (by decide) ?_
  refine GL.nil ?_
  refine GE.thenN ?_
  refine GC.seq ?_
  refine GC.seq ?_
  refine GC.region ?_
  refine GL.val (Ex.move rfl) (by decide) ?_
  refine GL.val (v := (.bool false)) (Ex.cast (Ex.eql rfl rfl) rfl) (by decide) ?_
  refine GL.nil ?_
  refine GE.thenN ?_
  refine GC.cond rfl (fun hq12 => by cases hq12) (fun _ => ?_)
  refine GC.skip ?_
  refine GE.thenN ?_
  refine GC.region ?_
  refine GL.val (Ex.move rfl) (by decide) ?_
  refine GL.val (Ex.move rfl) (by decide) ?_
  refine GL.val (v := (.float .f64 0)) (Ex.farith (r := 0) rfl rfl (by kernel_rfl)) (by decide) ?_
  refine GL.val (Ex.assign rfl) (by decide) ?_
  refine GL.nil ?_
  refine GE.blockN ?_
  refine GE.thenN ?_
  refine GC.region ?_
  refine GL.val (v := (.int .i64 2)) (Ex.add rfl rfl (Z := 2) (by decide)) (by decide) ?_
  refine GL.val (Ex.move rfl) (by decide) ?_
  refine GL.nil ?_
  refine GE.thenN ?_
  refine GE.round ?_
  refine GC.seq ?_
  refine GC.region ?_
  refine GL.val (v := (.bool true)) (Ex.cast (Ex.lss rfl rfl) rfl) (by decide) ?_
  refine GL.nil ?_
  refine GE.thenN ?_
  refine GC.seq ?_
  refine GC.cond rfl (fun _ => ?_) (fun hq13 => by cases hq13)
  refine GC.skip ?_
  refine GE.thenN ?_
  refine GC.seq ?_
  refine GC.block ?_
  refine GC.seq ?_
  refine GC.region ?_
  refine GL.val (Ex.move rfl) (by decide) ?_
  refine GL.val (v := (.pointer (some ⟨c1, 2, none⟩))) (Ex.cast (Ex.indexAddr rfl rfl Try.underlying28 T.sz3 (by omega) (by omega)) rfl) (by decide) ?_
  refine GL.val (Ex.load rfl T.ag3 (i := 1) rfl rfl) (by decide) ?_
  refine GL.val (Ex.assign rfl) (by decide) ?_
  refine GL.val (Ex.assign rfl) (by decide) ?_
  refine GL.nil ?_
  refine GE.thenN ?_
  refine GC.seq ?_
  refine GC.region ?_
  refine GL.val (Ex.move rfl) (by decide) ?_
  refine GL.val (v := (.float .f64 4607182418800017408)) (Ex.cast (Ex.cif rfl Try.underlying3 Try.underlying61) (by kernel_rfl)) (by decide) ?_
  refine GL.val (Ex.move rfl) (by decide) ?_
  refine GL.val (Ex.move rfl) (by decide) ?_
  refine GL.val (Ex.move rfl) (by decide) ?_
  refine GL.val (v := (.int .i64 3)) (Ex.len rfl Try.underlying28) (by decide) ?_
  refine GL.val (v := (.int .i64 1)) (Ex.quo rfl rfl (Z := 1) (by decide) (by decide)) (by decide) ?_
  refine GL.val (v := (.int .i64 1)) (Ex.sub' rfl rfl (Z := 1) (by decide)) (by decide) ?_
  refine GL.step (Stp.invokeR (σ := Unit) (p := fun rz => True) (v := fun rz => (.int .u32 0)) (N := fun rz => []) (vs := [(.int .i64 1)]) rfl rfl (fun w => T.mth88 _ _ w) (by decide) (fun wc hw => (by have h := at_y 5 5 5 c0 0 1 4 [0, 1048576000, 1056964608, 1048576000, 0] 1 1 0 wc (by decide) (by decide) (by decide) (by decide +kernel) (by decide) rfl (hw.rdOf (i := 0) rfl 0); rw [show smp [0, 1048576000, 1056964608, 1048576000, 0] 5 4 (bord 1 ((1 : Nat) : Int) (0 + 1)).1.toNat = 0 from by decide +kernel] at h; exact h))) (fun xq14 hq15 => ?_)
  refine GL.step (Stp.callR (vs := [(.int .u32 0)]) rfl rfl T.own58 (by decide) (fun wc hw => k58_11  wc )) (fun xq16 hq17 => ?_)
  refine GL.val (v := (.float .f64 0)) (Ex.farith (r := 0) rfl rfl (by kernel_rfl)) (by decide) ?_
  refine GL.val (Ex.assign rfl) (by decide) ?_
  refine GL.nil ?_
  refine GE.thenN ?_
  refine GC.seq ?_
  refine GC.region ?_
  refine GL.val (Ex.move rfl) (by decide) ?_
  refine GL.val (Ex.move rfl) (by decide) ?_
  refine GL.val (v := (.int .i64 4)) (Ex.add rfl rfl (Z := 4) (by decide)) (by decide) ?_
  refine GL.val (Ex.assign rfl) (by decide) ?_
  refine GL.nil ?_
  refine GE.thenN ?_
  refine GC.seq ?_
  refine GC.seq ?_
  refine GC.region ?_
  refine GL.val (Ex.move rfl) (by decide) ?_
  refine GL.val (v := (.bool false)) (Ex.cast (Ex.eql rfl rfl) rfl) (by decide) ?_
  refine GL.nil ?_
  refine GE.thenN ?_
  refine GC.cond rfl (fun hq18 => by cases hq18) (fun _ => ?_)
  refine GC.skip ?_
  refine GE.thenN ?_
  refine GC.region ?_
  refine GL.val (Ex.move rfl) (by decide) ?_
  refine GL.val (Ex.move rfl) (by decide) ?_
  refine GL.val (v := (.float .f64 0)) (Ex.farith (r := 0) rfl rfl (by kernel_rfl)) (by decide) ?_
  refine GL.val (Ex.assign rfl) (by decide) ?_
  refine GL.nil ?_
  refine GE.blockN ?_
  refine GE.thenN ?_
  refine GC.region ?_
  refine GL.val (v := (.int .i64 3)) (Ex.add rfl rfl (Z := 3) (by decide)) (by decide) ?_
  refine GL.val (Ex.move rfl) (by decide) ?_
  refine GL.nil ?_
  refine GE.thenN ?_
  refine GE.round ?_
  refine GC.seq ?_
  refine GC.region ?_
  refine GL.val (v := (.bool false)) (Ex.cast (Ex.lss rfl rfl) rfl) (by decide) ?_
  refine GL.nil ?_
  refine GE.thenN ?_
  refine GC.seq ?_
  refine GC.cond rfl (fun hq19 => by cases hq19) (fun _ => ?_)
  refine GC.exit ?_
  refine GE.thenE ?_
  refine GE.thenE ?_
  refine GE.blockE ?_
  refine GE.thenN ?_
  refine GC.seq ?_
  refine GC.region ?_
  refine GL.val (Ex.move rfl) (by decide) ?_
  refine GL.val (Ex.move rfl) (by decide) ?_
  refine GL.val (v := (.float .f64 4616189618054758400)) (Ex.cast (Ex.cif rfl Try.underlying3 Try.underlying61) (by kernel_rfl)) (by decide) ?_
  refine GL.val (v := (.float .f64 0)) (Ex.farith (r := 0) rfl rfl (by kernel_rfl)) (by decide) ?_
  refine GL.step (Stp.callR (vs := [(.float .f64 0)]) rfl rfl T.own59 (by decide) (fun wc hw => k59_12  wc )) (fun xq20 hq21 => ?_)
  refine GL.val (Ex.assign rfl) (by decide) ?_
  refine GL.nil ?_
  refine GE.thenN ?_
  refine GC.ret ?_
  refine GC.ret1 rfl (Rv.tmp rfl) (fun wN HN => ?_)
  exact HN.ret () trivial rfl (ulS (ulS ulN)) rfl

set_option maxRecDepth 100000 in
set_option maxHeartbeats 1000000 in
theorem k21_4 (c0 : Nat) (w : World) (hh : Has w [⟨c0, [(.int .u32 0), (.int .u32 0), (.int .u32 1065353216), (.int .u32 0), (.int .u32 0)], 63, false⟩]) :
    Calls Try.prog 21 #[(.agg #[(.int .i64 5), (.int .i64 1), (.slice (some ⟨c0, 0, none⟩) 5 5)]), (.int .i64 1), (.int .i64 1), (.int .i64 1)] w (Ret w (fun _ : Nat => True) (fun rz => (.tuple #[(.agg #[(.int .i64 5), (.int .i64 1), (.slice (some ⟨rz, 0, none⟩) 5 5)]), (.int .i64 0)])) (fun rz => [⟨rz, [(.int .u32 0), (.int .u32 1048576000), (.int .u32 1056964608), (.int .u32 1048576000), (.int .u32 0)], 63, true⟩])) := by
  refine enter (M := None) (L := [⟨c0, [(.int .u32 0), (.int .u32 0), (.int .u32 1065353216), (.int .u32 0), (.int .u32 0)], 63, false⟩]) (n := 45) (l := [(0, (.agg #[(.int .i64 5), (.int .i64 1), (.slice (some ⟨c0, 0, none⟩) 5 5)])), (1, (.int .i64 1)), (2, (.int .i64 1)), (3, (.int .i64 1))]) Try.func21 rfl rfl (Args.cons rfl (Args.cons rfl (Args.cons rfl (Args.cons rfl (Args.nil _))))) (Hp.reads hh rfl) ?_
  refine GC.seq ?_
  refine GC.region ?_
  refine GL.step (Stp.box (cs := [(.int .i64 5), (.int .i64 1), (.slice (some ⟨c0, 0, none⟩) 5 5)]) rfl rfl (by decide)) (fun bq1 _ => ?_)
  refine GL.step (Stp.alloc T.zr43 (by decide)) (fun bq2 _ => ?_)
  refine GL.val (Ex.assign rfl) (by decide) ?_
  refine GL.nil ?_
  refine GE.thenN ?_
  refine GC.seq ?_
  refine GC.seq ?_
  refine GC.region ?_
  refine GL.val (v := (.agg #[(.int .i64 5), (.int .i64 1), (.slice (some ⟨c0, 0, none⟩) 5 5)])) (Ex.loadA rfl T.ag43 T.sz43 (i := 1) rfl (vs := [(.int .i64 5), (.int .i64 1), (.slice (some ⟨c0, 0, none⟩) 5 5)]) rfl rfl) (by decide) ?_
  refine GL.step (Stp.callR (vs := [(.agg #[(.int .i64 5), (.int .i64 1), (.slice (some ⟨c0, 0, none⟩) 5 5)])]) rfl rfl T.own46 (by decide) (fun wc hw => k46_5 c0 wc (Has.cons (hw.hasOf (i := 2) rfl) (Has.nil _)))) (fun xq3 hq4 => ?_)
  refine GL.val (Ex.assign rfl) (by decide) ?_
  refine GL.nil ?_
  refine GE.thenN ?_
  refine GC.seq ?_
  refine GC.region ?_
  refine GL.val (Ex.move rfl) (by decide) ?_
  refine GL.val (v := (.bool false)) (Ex.cast (Ex.neq rfl rfl) rfl) (by decide) ?_
  refine GL.nil ?_
  refine GE.thenN ?_
  refine GC.cond rfl (fun hq5 => by cases hq5) (fun _ => ?_)
  refine GC.skip ?_
  refine GE.thenN ?_
  refine GC.seq ?_
  refine GC.region ?_
  refine GL.val (Ex.move rfl) (by decide) ?_
  refine GL.val (Ex.move rfl) (by decide) ?_
  refine GL.step (Stp.callR (vs := [(.int .i64 1), (.int .i64 1)]) rfl rfl T.own14 (by decide) (fun wc hw => k14_7  wc )) (fun xq6 hq7 => ?_)
  refine GL.val (Ex.move rfl) (by decide) ?_
  refine GL.val (Ex.extract rfl rfl) (by decide) ?_
  refine GL.val (Ex.extract rfl rfl) (by decide) ?_
  refine GL.val (Ex.assign rfl) (by decide) ?_
  refine GL.val (Ex.assign rfl) (by decide) ?_
  refine GL.nil ?_
  refine GE.thenN ?_
  refine GC.seq ?_
  refine GC.seq ?_
  refine GC.region ?_
  refine GL.val (Ex.move rfl) (by decide) ?_
  refine GL.val (v := (.bool false)) (Ex.cast (Ex.neq rfl rfl) rfl) (by decide) ?_
  refine GL.nil ?_
  refine GE.thenN ?_
  refine GC.cond rfl (fun hq8 => by cases hq8) (fun _ => ?_)
  refine GC.skip ?_
  refine GE.thenN ?_
  refine GC.seq ?_
  refine GC.seq ?_
  refine GC.region ?_
  refine GL.val (Ex.move rfl) (by decide) ?_
  refine GL.step (Stp.callR (vs := [(.int .i64 1)]) rfl rfl T.own47 (by decide) (fun wc hw => k47_8  wc )) (fun xq9 hq10 => ?_)
  refine GL.val (Ex.assign rfl) (by decide) ?_
  refine GL.nil ?_
  refine GE.thenN ?_
  refine GC.seq ?_
  refine GC.region ?_
  refine GL.val (Ex.move rfl) (by decide) ?_
  refine GL.val (v := (.bool false)) (Ex.cast (Ex.neq rfl rfl) rfl) (by decide) ?_
  refine GL.nil ?_
  refine GE.thenN ?_
  refine GC.cond rfl (fun hq11 => by cases hq11) (fun _ => ?_)
  refine GC.skip ?_
  refine GE.thenN ?_
  refine GC.seq ?_
  refine GC.region ?_
  refine GL.val (v := (.agg #[(.int .i64 5), (.int .i64 1), (.slice (some ⟨c0, 0, none⟩) 5 5)])) (Ex.loadA rfl T.ag43 T.sz43 (i := 2) rfl (vs := [(.int .i64 5), (.int .i64 1), (.slice (some ⟨c0, 0, none⟩) 5 5)]) rfl rfl) (by decide) ?_
  refine GL.val (Ex.move rfl) (by decide) ?_
  refine GL.val (Ex.move rfl) (by decide) ?_
  refine GL.step (Stp.callR (σ := Nat) (p := fun rz => True) (v := fun rz => (.agg #[(.int .i64 5), (.int .i64 1), (.slice (some ⟨rz, 0, none⟩) 5 5)])) (N := fun rz => [⟨rz, [(.int .u32 0), (.int .u32 1048576000), (.int .u32 1056964608), (.int .u32 1048576000), (.int .u32 0)], 63, true⟩]) (vs := [(.agg #[(.int .i64 5), (.int .i64 1), (.slice (some ⟨c0, 0, none⟩) 5 5)]), (.int .i64 1), (.bool false), (.slice (some ⟨xq6, 0, none⟩) 3 3), (.func (.func 49) #[] #[])]) rfl rfl T.own48 (by decide) (fun wc hw => (by
    have h := sweepW 5 1 5 5 (some ⟨c0, 0, none⟩) 1 false 49 (.slice (some ⟨xq6, 0, none⟩) 3 3) (fun x y => smp [0, 1048576000, 1056964608, 1048576000, 0] 5 x y) wc rfl ⟨T.own49, fun x y w' hx hy hk => by
      have hc : (x = 0 ∧ y = 0) ∨ (x = 1 ∧ y = 0) ∨ (x = 2 ∧ y = 0) ∨ (x = 3 ∧ y = 0) ∨ (x = 4 ∧ y = 0) := by omega
      rcases hc with ⟨rfl, rfl⟩ | ⟨rfl, rfl⟩ | ⟨rfl, rfl⟩ | ⟨rfl, rfl⟩ | ⟨rfl, rfl⟩
      · exact k49_10 c0 xq6 w' (Has.later (Has.cons (hw.hasOf (i := 3) rfl) (Has.cons (hw.hasOf (i := 0) rfl) (Has.nil _))) hk)
      · exact k49_17 c0 xq6 w' (Has.later (Has.cons (hw.hasOf (i := 3) rfl) (Has.cons (hw.hasOf (i := 0) rfl) (Has.nil _))) hk)
      · exact k49_24 c0 xq6 w' (Has.later (Has.cons (hw.hasOf (i := 3) rfl) (Has.cons (hw.hasOf (i := 0) rfl) (Has.nil _))) hk)
      · exact k49_30 c0 xq6 w' (Has.later (Has.cons (hw.hasOf (i := 3) rfl) (Has.cons (hw.hasOf (i := 0) rfl) (Has.nil _))) hk)
      · exact k49_31 c0 xq6 w' (Has.later (Has.cons (hw.hasOf (i := 3) rfl) (Has.cons (hw.hasOf (i := 0) rfl) (Has.nil _))) hk)⟩ (by decide) (by decide) (by decide)
    rw [show tab 5 (fun x y => smp [0, 1048576000, 1056964608, 1048576000, 0] 5 x y) (5 * 1) = [0, 1048576000, 1056964608, 1048576000, 0] from by decide +kernel] at h
    exact h))) (fun xq12 hq13 => ?_)
  refine GL.step (Stp.alloc T.zr43 (by decide)) (fun bq14 _ => ?_)
  refine GL.step (Stp.st0 (cs' := [(.int .i64 5), (.int .i64 1), (.slice (some ⟨xq12, 0, none⟩) 5 5)]) rfl rfl rfl T.sz43 rfl rfl rfl) (fun _ _ => ?_)
  refine GL.nil ?_
  refine GE.thenN ?_
  refine GC.seq ?_
  refine GC.region ?_
  refine GL.val (v := (.agg #[(.int .i64 5), (.int .i64 1), (.slice (some ⟨xq12, 0, none⟩) 5 5)])) (Ex.loadA rfl T.ag43 T.sz43 (i := 0) rfl (vs := [(.int .i64 5), (.int .i64 1), (.slice (some ⟨xq12, 0, none⟩) 5 5)]) rfl rfl) (by decide) ?_
  refine GL.val (Ex.move rfl) (by decide) ?_
  refine GL.val (Ex.move rfl) (by decide) ?_
  refine GL.step (Stp.callR (σ := Nat) (p := fun rz => True) (v := fun rz => (.agg #[(.int .i64 5), (.int .i64 1), (.slice (some ⟨rz, 0, none⟩) 5 5)])) (N := fun rz => [⟨rz, [(.int .u32 0), (.int .u32 1048576000), (.int .u32 1056964608), (.int .u32 1048576000), (.int .u32 0)], 63, true⟩]) (vs := [(.agg #[(.int .i64 5), (.int .i64 1), (.slice (some ⟨xq12, 0, none⟩) 5 5)]), (.int .i64 1), (.bool true), (.slice (some ⟨xq6, 0, none⟩) 3 3), (.func (.func 49) #[] #[])]) rfl rfl T.own48 (by decide) (fun wc hw => (by
    have h := sweepW 5 1 5 5 (some ⟨xq12, 0, none⟩) 1 true 49 (.slice (some ⟨xq6, 0, none⟩) 3 3) (fun x y => smp [0, 1048576000, 1056964608, 1048576000, 0] 5 x y) wc rfl ⟨T.own49, fun x y w' hx hy hk => by
      have hc : (x = 0 ∧ y = 0) ∨ (x = 1 ∧ y = 0) ∨ (x = 2 ∧ y = 0) ∨ (x = 3 ∧ y = 0) ∨ (x = 4 ∧ y = 0) := by omega
      rcases hc with ⟨rfl, rfl⟩ | ⟨rfl, rfl⟩ | ⟨rfl, rfl⟩ | ⟨rfl, rfl⟩ | ⟨rfl, rfl⟩
      · exact k49_32 xq12 xq6 w' (Has.later (Has.cons (hw.hasOf (i := 1) rfl) (Has.cons (hw.hasOf (i := 2) rfl) (Has.nil _))) hk)
      · exact k49_33 xq12 xq6 w' (Has.later (Has.cons (hw.hasOf (i := 1) rfl) (Has.cons (hw.hasOf (i := 2) rfl) (Has.nil _))) hk)
      · exact k49_35 xq12 xq6 w' (Has.later (Has.cons (hw.hasOf (i := 1) rfl) (Has.cons (hw.hasOf (i := 2) rfl) (Has.nil _))) hk)
      · exact k49_37 xq12 xq6 w' (Has.later (Has.cons (hw.hasOf (i := 1) rfl) (Has.cons (hw.hasOf (i := 2) rfl) (Has.nil _))) hk)
      · exact k49_38 xq12 xq6 w' (Has.later (Has.cons (hw.hasOf (i := 1) rfl) (Has.cons (hw.hasOf (i := 2) rfl) (Has.nil _))) hk)⟩ (by decide) (by decide) (by decide)
    rw [show tab 5 (fun x y => smp [0, 1048576000, 1056964608, 1048576000, 0] 5 x y) (5 * 1) = [0, 1048576000, 1056964608, 1048576000, 0] from by decide +kernel] at h
    exact h))) (fun xq15 hq16 => ?_)
  refine GL.step (Stp.st4 (cs' := [(.int .i64 5), (.int .i64 1), (.slice (some ⟨xq15, 0, none⟩) 5 5)]) rfl rfl rfl T.sz43 rfl rfl rfl) (fun _ _ => ?_)
  refine GL.val (Ex.assign rfl) (by decide) ?_
  refine GL.nil ?_
  refine GE.thenN ?_
  refine GC.ret ?_
  refine GC.ret2 rfl (Rv.cellA rfl T.ag43 T.sz43 (L := _) (i := 4) rfl (vs := [(.int .i64 5), (.int .i64 1), (.slice (some ⟨xq15, 0, none⟩) 5 5)]) rfl rfl) (Rv.tmp rfl) (fun wN HN => ?_)
  exact HN.ret xq15 trivial rfl (ulC (ulS (ulS (ulS (ulS (ulS (ulS ulN))))))) rfl

set_option maxRecDepth 100000 in
set_option maxHeartbeats 1000000 in
theorem k38_39 (c0 : Nat) (w : World) (hh : Has w [⟨c0, [(.int .u32 1077936128), (.int .u32 0), (.int .u32 0)], 63, false⟩]) :
    Calls Try.prog 38 #[(.slice (some ⟨c0, 0, none⟩) 3 3)] w (Ret w (fun _ : Unit => True) (fun rz => (.agg #[(.int .i64 3), (.int .i64 1), (.slice (some ⟨c0, 0, none⟩) 3 3)])) (fun rz => [])) := by
  refine enter (M := None) (L := [⟨c0, [(.int .u32 1077936128), (.int .u32 0), (.int .u32 0)], 63, false⟩]) (n := 7) (l := [(0, (.slice (some ⟨c0, 0, none⟩) 3 3))]) Try.func38 rfl rfl (Args.cons rfl (Args.nil _)) (Hp.reads hh rfl) ?_
  refine GC.seq ?_
  refine GC.region ?_
  refine GL.step (Stp.alloc T.zr43 (by decide)) (fun bq1 _ => ?_)
  refine GL.nil ?_
  refine GE.thenN ?_
  refine GC.seq ?_
  refine GC.region ?_
  refine GL.val (Ex.move rfl) (by decide) ?_
  refine GL.val (v := (.int .i64 3)) (Ex.len rfl Try.underlying41) (by decide) ?_
  refine GL.val (Ex.move rfl) (by decide) ?_
  refine GL.val (v := (.agg #[(.int .i64 3), (.int .i64 1), (.slice (some ⟨c0, 0, none⟩) 3 3)])) (Ex.build (vs := [(0, (.int .i64 3)), (1, (.int .i64 1)), (2, (.slice (some ⟨c0, 0, none⟩) 3 3))]) rfl (by first | rfl | kernel_rfl)) (by decide) ?_
  refine GL.step (Stp.st0 (cs' := [(.int .i64 3), (.int .i64 1), (.slice (some ⟨c0, 0, none⟩) 3 3)]) rfl rfl rfl T.sz43 rfl rfl rfl) (fun _ _ => ?_)
  refine GL.nil ?_
  refine GE.thenN ?_
  refine GC.ret ?_
  refine GC.ret1 rfl (Rv.cellA rfl T.ag43 T.sz43 (L := _) (i := 0) rfl (vs := [(.int .i64 3), (.int .i64 1), (.slice (some ⟨c0, 0, none⟩) 3 3)]) rfl rfl) (fun wN HN => ?_)
  exact HN.ret () trivial rfl (ulS (ulS ulN)) rfl

set_option maxRecDepth 100000 in
set_option maxHeartbeats 1000000 in
theorem k60_42 (w : World) :
    Calls Try.prog 60 #[(.int .i64 3), (.int .i64 1)] w (Ret w (fun _ : Unit => True) (fun rz => (.bool true)) (fun rz => [])) := by
  refine enter (M := None) (L := []) (n := 25) (l := [(0, (.int .i64 3)), (1, (.int .i64 1))]) Try.func60 rfl rfl (Args.cons rfl (Args.cons rfl (Args.nil _))) (Hp.start _ _) ?_
  refine GC.seq ?_
  refine GC.region ?_
  refine GL.val (Ex.assign rfl) (by decide) ?_
  refine GL.nil ?_
  refine GE.thenN ?_
  refine GC.seq ?_
  refine GC.region ?_
  refine GL.val (Ex.move rfl) (by decide) ?_
  refine GL.val (v := (.bool true)) (Ex.cast (Ex.geq rfl rfl) rfl) (by decide) ?_
  refine GL.val (Ex.move rfl) (by decide) ?_
  refine GL.stepG (tj := 7) rfl rfl (Ex.wp (v := (.int .i64 1)) (Ex.move rfl) (by decide)) (fun _ _ => ?_)
  refine GL.stepG (tj := 7) rfl rfl (Ex.wp (v := (.bool true)) (Ex.cast (Ex.geq rfl rfl) rfl) (by decide)) (fun _ _ => ?_)
  refine GL.val (v := (.bool true)) (Ex.pickT rfl rfl) (by decide) ?_
  refine GL.val (Ex.move rfl) (by decide) ?_
  refine GL.stepG (tj := 11) rfl rfl (Ex.wp (v := (.int .i64 3)) (Ex.move rfl) (by decide)) (fun _ _ => ?_)
  refine GL.stepG (tj := 11) rfl rfl (Ex.wp (v := (.bool true)) (Ex.cast (Ex.leq rfl rfl) rfl) (by decide)) (fun _ _ => ?_)
  refine GL.val (v := (.bool true)) (Ex.pickT rfl rfl) (by decide) ?_
  refine GL.val (Ex.move rfl) (by decide) ?_
  refine GL.stepG (tj := 15) rfl rfl (Ex.wp (v := (.int .i64 1)) (Ex.move rfl) (by decide)) (fun _ _ => ?_)
  refine GL.stepG (tj := 15) rfl rfl (Ex.wp (v := (.bool true)) (Ex.cast (Ex.leq rfl rfl) rfl) (by decide)) (fun _ _ => ?_)
  refine GL.val (v := (.bool true)) (Ex.pickT rfl rfl) (by decide) ?_
  refine GL.val (Ex.move rfl) (by decide) ?_
  refine GL.stepG (tj := 19) rfl rfl (Ex.wp (v := (.int .i64 3)) (Ex.move rfl) (by decide)) (fun _ _ => ?_)
  refine GL.stepG (tj := 19) rfl rfl (Ex.wp (v := (.int .i64 1)) (Ex.move rfl) (by decide)) (fun _ _ => ?_)
  refine GL.stepG (tj := 19) rfl rfl (Ex.wp (v := (.int .i64 3)) (Ex.mul rfl rfl (Z := 3) (by decide)) (by decide)) (fun _ _ => ?_)
  refine GL.stepG (tj := 19) rfl rfl (Ex.wp (v := (.bool true)) (Ex.cast (Ex.leq rfl rfl) rfl) (by decide)) (fun _ _ => ?_)
  refine GL.val (v := (.bool true)) (Ex.pickT rfl rfl) (by decide) ?_
  refine GL.val (Ex.assign rfl) (by decide) ?_
  refine GL.nil ?_
  refine GE.thenN ?_
  refine GC.ret ?_
  refine GC.ret1 rfl (Rv.tmp rfl) (fun wN HN => ?_)
  exact HN.ret () trivial rfl ulN rfl

set_option maxRecDepth 100000 in
set_option maxHeartbeats 1000000 in
theorem k46_41 (c0 : Nat) (w : World) (hh : Has w [⟨c0, [(.int .u32 1077936128), (.int .u32 0), (.int .u32 0)], 63, false⟩]) :
    Calls Try.prog 46 #[(.agg #[(.int .i64 3), (.int .i64 1), (.slice (some ⟨c0, 0, none⟩) 3 3)])] w (Ret w (fun _ : Unit => True) (fun rz => (.int .i64 0)) (fun rz => [])) := by
  refine enter (M := None) (L := [⟨c0, [(.int .u32 1077936128), (.int .u32 0), (.int .u32 0)], 63, false⟩]) (n := 20) (l := [(0, (.agg #[(.int .i64 3), (.int .i64 1), (.slice (some ⟨c0, 0, none⟩) 3 3)]))]) Try.func46 rfl rfl (Args.cons rfl (Args.nil _)) (Hp.reads hh rfl) ?_
  refine GC.seq ?_
  refine GC.region ?_
  refine GL.step (Stp.box (cs := [(.int .i64 3), (.int .i64 1), (.slice (some ⟨c0, 0, none⟩) 3 3)]) rfl rfl (by decide)) (fun bq1 _ => ?_)
  refine GL.val (Ex.assign rfl) (by decide) ?_
  refine GL.nil ?_
  refine GE.thenN ?_
  refine GC.seq ?_
  refine GC.block ?_
  refine GC.seq ?_
  refine GC.region ?_
  refine GL.val (v := (.pointer (some ⟨bq1, 0, none⟩))) (Ex.cast (Ex.fieldAddr rfl Try.underlying43 rfl T.sz3 (by decide)) rfl) (by decide) ?_
  refine GL.val (Ex.load rfl T.ag3 (i := 0) rfl rfl) (by decide) ?_
  refine GL.val (v := (.pointer (some ⟨bq1, 1, none⟩))) (Ex.cast (Ex.fieldAddr rfl Try.underlying43 rfl T.sz3 (by decide)) rfl) (by decide) ?_
  refine GL.val (Ex.load rfl T.ag3 (i := 0) rfl rfl) (by decide) ?_
  refine GL.step (Stp.callR (vs := [(.int .i64 3), (.int .i64 1)]) rfl rfl T.own60 (by decide) (fun wc hw => k60_42  wc )) (fun xq2 hq3 => ?_)
  refine GL.val (v := (.bool false)) (Ex.cast (Ex.not rfl) rfl) (by decide) ?_
  refine GL.val (Ex.assign rfl) (by decide) ?_
  refine GL.nil ?_
  refine GE.thenN ?_
  refine GC.cond rfl (fun hq4 => by cases hq4) (fun _ => ?_)
  refine GC.seq ?_
  refine GC.region ?_
  refine GL.val (v := (.pointer (some ⟨bq1, 2, none⟩))) (Ex.cast (Ex.fieldAddr rfl Try.underlying43 rfl T.sz41 (by decide)) rfl) (by decide) ?_
  refine GL.val (Ex.load rfl T.ag41 (i := 0) rfl rfl) (by decide) ?_
  refine GL.val (v := (.int .i64 3)) (Ex.len rfl Try.underlying41) (by decide) ?_
  refine GL.val (v := (.pointer (some ⟨bq1, 0, none⟩))) (Ex.cast (Ex.fieldAddr rfl Try.underlying43 rfl T.sz3 (by decide)) rfl) (by decide) ?_
  refine GL.val (Ex.load rfl T.ag3 (i := 0) rfl rfl) (by decide) ?_
  refine GL.val (v := (.pointer (some ⟨bq1, 1, none⟩))) (Ex.cast (Ex.fieldAddr rfl Try.underlying43 rfl T.sz3 (by decide)) rfl) (by decide) ?_
  refine GL.val (Ex.load rfl T.ag3 (i := 0) rfl rfl) (by decide) ?_
  refine GL.val (v := (.int .i64 3)) (Ex.mul rfl rfl (Z := 3) (by decide)) (by decide) ?_
  refine GL.val (v := (.bool false)) (Ex.cast (Ex.neq rfl rfl) rfl) (by decide) ?_
  refine GL.val (Ex.assign rfl) (by decide) ?_
  refine GL.nil ?_
  refine GE.thenN ?_
  refine GC.cond rfl (fun hq5 => by cases hq5) (fun _ => ?_)
  refine GC.skip ?_
  refine GE.blockN ?_
  refine GE.thenN ?_
  refine GC.seq ?_
  refine GC.region ?_
  refine GL.val (Ex.assign rfl) (by decide) ?_
  refine GL.nil ?_
  refine GE.thenN ?_
  refine GC.ret ?_
  refine GC.ret1 rfl (Rv.tmp rfl) (fun wN HN => ?_)
  exact HN.ret () trivial rfl (ulS (ulS ulN)) rfl

set_option maxRecDepth 100000 in
set_option maxHeartbeats 1000000 in
theorem k37_44 (w : World) :
    Calls Try.prog 37 #[(.int .i64 3), (.int .i64 1), (.int .i64 0)] w (Ret w (fun _ : Unit => True) (fun rz => (.tuple #[(.int .i64 (rst 0 1)), (.int .i64 0)])) (fun rz => [])) := by
  refine enter (M := None) (L := []) (n := 52) (l := [(0, (.int .i64 3)), (1, (.int .i64 1)), (2, (.int .i64 0))]) Try.func37 rfl rfl (Args.cons rfl (Args.cons rfl (Args.cons rfl (Args.nil _)))) (Hp.start _ _) ?_
  refine GC.seq ?_
  refine GC.region ?_
  refine GL.val (Ex.assign rfl) (by decide) ?_
  refine GL.val (Ex.assign rfl) (by decide) ?_
  refine GL.nil ?_
  refine GE.thenN ?_
  refine GC.seq ?_
  refine GC.block ?_
  refine GC.seq ?_
  refine GC.region ?_
  refine GL.val (Ex.move rfl) (by decide) ?_
  refine GL.val (v := (.bool false)) (Ex.cast (Ex.lss rfl rfl) rfl) (by decide) ?_
  refine GL.val (Ex.move rfl) (by decide) ?_
  refine GL.stepG (tj := 12) rfl rfl (Ex.wp (v := (.int .i64 3)) (Ex.move rfl) (by decide)) (fun _ _ => ?_)
  refine GL.stepG (tj := 12) rfl rfl (Ex.wp (v := (.bool false)) (Ex.cast (Ex.gtr rfl rfl) rfl) (by decide)) (fun _ _ => ?_)
  refine GL.val (v := (.bool false)) (Ex.pickF rfl rfl) (by decide) ?_
  refine GL.val (Ex.assign rfl) (by decide) ?_
  refine GL.nil ?_
  refine GE.thenN ?_
  refine GC.cond rfl (fun hq1 => by cases hq1) (fun _ => ?_)
  refine GC.seq ?_
  refine GC.region ?_
  refine GL.val (Ex.move rfl) (by decide) ?_
  refine GL.val (v := (.bool false)) (Ex.cast (Ex.lss rfl rfl) rfl) (by decide) ?_
  refine GL.val (Ex.move rfl) (by decide) ?_
  refine GL.stepG (tj := 19) rfl rfl (Ex.wp (v := (.int .i64 1)) (Ex.move rfl) (by decide)) (fun _ _ => ?_)
  refine GL.stepG (tj := 19) rfl rfl (Ex.wp (v := (.bool false)) (Ex.cast (Ex.gtr rfl rfl) rfl) (by decide)) (fun _ _ => ?_)
  refine GL.val (v := (.bool false)) (Ex.pickF rfl rfl) (by decide) ?_
  refine GL.val (Ex.assign rfl) (by decide) ?_
  refine GL.nil ?_
  refine GE.thenN ?_
  refine GC.cond rfl (fun hq2 => by cases hq2) (fun _ => ?_)
  refine GC.seq ?_
  refine GC.region ?_
  refine GL.val (Ex.move rfl) (by decide) ?_
  refine GL.val (v := (.bool false)) (Ex.cast (Ex.eql rfl rfl) rfl) (by decide) ?_
  refine GL.val (Ex.assign rfl) (by decide) ?_
  refine GL.nil ?_
  refine GE.thenN ?_
  refine GC.cond rfl (fun hq3 => by cases hq3) (fun _ => ?_)
  refine GC.seq ?_
  refine GC.region ?_
  refine GL.val (Ex.move rfl) (by decide) ?_
  refine GL.val (v := (.bool true)) (Ex.cast (Ex.eql rfl rfl) rfl) (by decide) ?_
  refine GL.val (Ex.assign rfl) (by decide) ?_
  refine GL.nil ?_
  refine GE.thenN ?_
  refine GC.cond rfl (fun _ => ?_) (fun hq4 => by cases hq4)
  refine GC.seq ?_
  refine GC.region ?_
  refine GL.val (Ex.move rfl) (by decide) ?_
  refine GL.val (Ex.move rfl) (by decide) ?_
  refine GL.step (Stp.callR (vs := [(.int .i64 0), (.int .i64 1)]) rfl rfl T.own63 (by decide) (fun wc hw => rest 0 1 wc (by omega))) (fun xq5 hq6 => ?_)
  refine GL.val (Ex.assign rfl) (by decide) ?_
  refine GL.val (Ex.assign rfl) (by decide) ?_
  refine GL.nil ?_
  refine GE.thenN ?_
  refine GC.ret ?_
  refine GE.blockR ?_
  refine GE.thenR ?_
  refine GC.ret2 rfl (Rv.tmp rfl) (Rv.tmp rfl) (fun wN HN => ?_)
  exact HN.ret () trivial rfl ulN rfl

set_option maxRecDepth 100000 in
set_option maxHeartbeats 1000000 in
theorem k47_43 (w : World) :
    Calls Try.prog 47 #[(.int .i64 3)] w (Ret w (fun _ : Unit => True) (fun rz => (.int .i64 0)) (fun rz => [])) := by
  refine enter (M := None) (L := []) (n := 11) (l := [(0, (.int .i64 3))]) Try.func47 rfl rfl (Args.cons rfl (Args.nil _)) (Hp.start _ _) ?_
  refine GC.seq ?_
  refine GC.region ?_
  refine GL.val (Ex.assign rfl) (by decide) ?_
  refine GL.nil ?_
  refine GE.thenN ?_
  refine GC.seq ?_
  refine GC.region ?_
  refine GL.val (Ex.move rfl) (by decide) ?_
  refine GL.step (Stp.callR (vs := [(.int .i64 3), (.int .i64 1), (.int .i64 0)]) rfl rfl T.own37 (by decide) (fun wc hw => k37_44  wc )) (fun xq1 hq2 => ?_)
  refine GL.val (Ex.move rfl) (by decide) ?_
  refine GL.val (Ex.extract rfl rfl) (by decide) ?_
  refine GL.val (Ex.extract rfl rfl) (by decide) ?_
  refine GL.val (Ex.assign rfl) (by decide) ?_
  refine GL.val (Ex.assign rfl) (by decide) ?_
  refine GL.nil ?_
  refine GE.thenN ?_
  refine GC.seq ?_
  refine GC.region ?_
  refine GL.val (Ex.move rfl) (by decide) ?_
  refine GL.val (Ex.assign rfl) (by decide) ?_
  refine GL.nil ?_
  refine GE.thenN ?_
  refine GC.ret ?_
  refine GC.ret1 rfl (Rv.tmp rfl) (fun wN HN => ?_)
  exact HN.ret () trivial rfl ulN rfl

set_option maxRecDepth 100000 in
set_option maxHeartbeats 1000000 in
theorem k58_46 (w : World) :
    Calls Try.prog 58 #[(.int .u32 1077936128)] w (Ret w (fun _ : Unit => True) (fun rz => (.float .f64 4613937818241073152)) (fun rz => [])) := by
  refine enter (M := None) (L := []) (n := 6) (l := [(0, (.int .u32 1077936128))]) Try.func58 rfl rfl (Args.cons rfl (Args.nil _)) (Hp.start _ _) ?_
  refine GC.seq ?_
  refine GC.region ?_
  refine GL.val (Ex.assign rfl) (by decide) ?_
  refine GL.nil ?_
  refine GE.thenN ?_
  refine GC.seq ?_
  refine GC.region ?_
  refine GL.val (Ex.move rfl) (by decide) ?_
  refine GL.val (v := (.float .f32 1077936128)) (Ex.ext (vs := [(.int .u32 1077936128)]) rfl rfl T.ext55 (fun _ => by first | rfl | kernel_rfl)) (by decide) ?_
  refine GL.val (v := (.float .f64 4613937818241073152)) (Ex.cff (r := 4613937818241073152) rfl Try.underlying98 Try.underlying61 (by kernel_rfl)) (by decide) ?_
  refine GL.val (Ex.assign rfl) (by decide) ?_
  refine GL.nil ?_
  refine GE.thenN ?_
  refine GC.ret ?_
  refine GC.ret1 rfl (Rv.tmp rfl) (fun wN HN => ?_)
  exact HN.ret () trivial rfl ulN rfl

set_option maxRecDepth 100000 in
set_option maxHeartbeats 1000000 in
theorem k71_51 (w : World) :
    Calls Try.prog 71 #[(.int .u32 1065353216)] w (Ret w (fun _ : Unit => True) (fun rz => (.agg #[(.bool false), (.int .i64 127), (.int .i64 0)])) (fun rz => [])) := by
  refine enter (M := None) (L := []) (n := 13) (l := [(0, (.int .u32 1065353216))]) Try.func71 rfl rfl (Args.cons rfl (Args.nil _)) (Hp.start _ _) ?_
  refine GC.seq ?_
  refine GC.region ?_
  refine GL.step (Stp.alloc T.zr116 (by decide)) (fun bq1 _ => ?_)
  refine GL.nil ?_
  refine GE.thenN ?_
  refine GC.seq ?_
  refine GC.region ?_
  refine GL.val (Ex.move rfl) (by decide) ?_
  refine GL.val (v := (.bool false)) (Ex.cast (Ex.geq rfl rfl) rfl) (by decide) ?_
  refine GL.val (Ex.move rfl) (by decide) ?_
  refine GL.val (v := (.int .u32 127)) (Ex.shr rfl (m := 23) rfl (by decide) (Z := 127) (by decide)) (by decide) ?_
  refine GL.val (v := (.int .u32 127)) (Ex.bits rfl rfl (by simp) (Z := 127) (by decide +kernel)) (by decide) ?_
  refine GL.val (v := (.int .i64 127)) (Ex.conv rfl Try.underlying63 Try.underlying3 (Z := 127) (by decide)) (by decide) ?_
  refine GL.val (Ex.move rfl) (by decide) ?_
  refine GL.val (v := (.int .u32 0)) (Ex.bits rfl rfl (by simp) (Z := 0) (by decide +kernel)) (by decide) ?_
  refine GL.val (v := (.int .i64 0)) (Ex.conv rfl Try.underlying63 Try.underlying3 (Z := 0) (by decide)) (by decide) ?_
  refine GL.val (v := (.agg #[(.bool false), (.int .i64 127), (.int .i64 0)])) (Ex.build (vs := [(0, (.bool false)), (1, (.int .i64 127)), (2, (.int .i64 0))]) rfl (by first | rfl | kernel_rfl)) (by decide) ?_
  refine GL.step (Stp.st0 (cs' := [(.bool false), (.int .i64 127), (.int .i64 0)]) rfl rfl rfl T.sz116 rfl rfl rfl) (fun _ _ => ?_)
  refine GL.nil ?_
  refine GE.thenN ?_
  refine GC.ret ?_
  refine GC.ret1 rfl (Rv.cellA rfl T.ag116 T.sz116 (L := _) (i := 0) rfl (vs := [(.bool false), (.int .i64 127), (.int .i64 0)]) rfl rfl) (fun wN HN => ?_)
  exact HN.ret () trivial rfl (ulS ulN) rfl

set_option maxRecDepth 100000 in
set_option maxHeartbeats 1000000 in
theorem k70_50 (w : World) :
    Calls Try.prog 70 #[(.int .u32 1065353216)] w (Ret w (fun _ : Unit => True) (fun rz => (.int .i64 3)) (fun rz => [])) := by
  refine enter (M := None) (L := []) (n := 23) (l := [(0, (.int .u32 1065353216))]) Try.func70 rfl rfl (Args.cons rfl (Args.nil _)) (Hp.start _ _) ?_
  refine GC.seq ?_
  refine GC.region ?_
  refine GL.val (Ex.assign rfl) (by decide) ?_
  refine GL.nil ?_
  refine GE.thenN ?_
  refine GC.seq ?_
  refine GC.region ?_
  refine GL.val (Ex.move rfl) (by decide) ?_
  refine GL.step (Stp.callR (vs := [(.int .u32 1065353216)]) rfl rfl T.own71 (by decide) (fun wc hw => k71_51  wc )) (fun xq1 hq2 => ?_)
  refine GL.step (Stp.alloc T.zr116 (by decide)) (fun bq3 _ => ?_)
  refine GL.step (Stp.st0 (cs' := [(.bool false), (.int .i64 127), (.int .i64 0)]) rfl rfl rfl T.sz116 rfl rfl rfl) (fun _ _ => ?_)
  refine GL.nil ?_
  refine GE.thenN ?_
  refine GC.seq ?_
  refine GC.region ?_
  refine GL.val (v := (.pointer (some ⟨bq3, 0, none⟩))) (Ex.cast (Ex.fieldAddr rfl Try.underlying116 rfl T.sz4 (by decide)) rfl) (by decide) ?_
  refine GL.step (Stp.st0 (cs' := [(.bool false), (.int .i64 127), (.int .i64 0)]) rfl rfl rfl T.sz4 rfl rfl rfl) (fun _ _ => ?_)
  refine GL.nil ?_
  refine GE.thenN ?_
  refine GC.seq ?_
  refine GC.block ?_
  refine GC.seq ?_
  refine GC.region ?_
  refine GL.val (v := (.agg #[(.bool false), (.int .i64 127), (.int .i64 0)])) (Ex.loadA rfl T.ag116 T.sz116 (i := 0) rfl (vs := [(.bool false), (.int .i64 127), (.int .i64 0)]) rfl rfl) (by decide) ?_
  refine GL.val (v := (.agg #[(.bool false), (.int .i64 0), (.int .i64 0)])) (Ex.build (vs := []) rfl (by first | rfl | kernel_rfl)) (by decide) ?_
  refine GL.val (v := (.bool false)) (Ex.eqS rfl rfl T.sfs116 (EqFs.cons rfl rfl (EqC.bool Try.underlying4) (EqFs.cons rfl rfl (EqC.int Try.underlying3) (EqFs.cons rfl rfl (EqC.int Try.underlying3) EqFs.nil))) (by decide)) (by decide) ?_
  refine GL.val (Ex.assign rfl) (by decide) ?_
  refine GL.nil ?_
  refine GE.thenN ?_
  refine GC.cond rfl (fun hq4 => by cases hq4) (fun _ => ?_)
  refine GC.seq ?_
  refine GC.region ?_
  refine GL.val (v := (.agg #[(.bool false), (.int .i64 127), (.int .i64 0)])) (Ex.loadA rfl T.ag116 T.sz116 (i := 0) rfl (vs := [(.bool false), (.int .i64 127), (.int .i64 0)]) rfl rfl) (by decide) ?_
  refine GL.val (v := (.agg #[(.bool false), (.int .i64 255), (.int .i64 0)])) (Ex.build (vs := [(1, (.int .i64 255))]) rfl (by first | rfl | kernel_rfl)) (by decide) ?_
  refine GL.val (v := (.bool false)) (Ex.eqS rfl rfl T.sfs116 (EqFs.cons rfl rfl (EqC.bool Try.underlying4) (EqFs.cons rfl rfl (EqC.int Try.underlying3) (EqFs.cons rfl rfl (EqC.int Try.underlying3) EqFs.nil))) (by decide)) (by decide) ?_
  refine GL.val (Ex.assign rfl) (by decide) ?_
  refine GL.nil ?_
  refine GE.thenN ?_
  refine GC.cond rfl (fun hq5 => by cases hq5) (fun _ => ?_)
  refine GC.seq ?_
  refine GC.region ?_
  refine GL.val (v := (.pointer (some ⟨bq3, 1, none⟩))) (Ex.cast (Ex.fieldAddr rfl Try.underlying116 rfl T.sz3 (by decide)) rfl) (by decide) ?_
  refine GL.val (Ex.load rfl T.ag3 (i := 0) rfl rfl) (by decide) ?_
  refine GL.val (v := (.bool false)) (Ex.cast (Ex.eql rfl rfl) rfl) (by decide) ?_
  refine GL.val (Ex.assign rfl) (by decide) ?_
  refine GL.nil ?_
  refine GE.thenN ?_
  refine GC.cond rfl (fun hq6 => by cases hq6) (fun _ => ?_)
  refine GC.seq ?_
  refine GC.region ?_
  refine GL.val (v := (.pointer (some ⟨bq3, 1, none⟩))) (Ex.cast (Ex.fieldAddr rfl Try.underlying116 rfl T.sz3 (by decide)) rfl) (by decide) ?_
  refine GL.val (Ex.load rfl T.ag3 (i := 0) rfl rfl) (by decide) ?_
  refine GL.val (v := (.bool false)) (Ex.cast (Ex.eql rfl rfl) rfl) (by decide) ?_
  refine GL.val (Ex.assign rfl) (by decide) ?_
  refine GL.nil ?_
  refine GE.thenN ?_
  refine GC.cond rfl (fun hq7 => by cases hq7) (fun _ => ?_)
  refine GC.skip ?_
  refine GE.blockN ?_
  refine GE.thenN ?_
  refine GC.seq ?_
  refine GC.region ?_
  refine GL.val (Ex.assign rfl) (by decide) ?_
  refine GL.nil ?_
  refine GE.thenN ?_
  refine GC.ret ?_
  refine GC.ret1 rfl (Rv.tmp rfl) (fun wN HN => ?_)
  exact HN.ret () trivial rfl (ulS ulN) rfl

set_option maxRecDepth 100000 in
set_option maxHeartbeats 1000000 in
theorem k69_49 (w : World) :
    Calls Try.prog 69 #[(.int .u32 1065353216)] w (Ret w (fun _ : Unit => True) (fun rz => (.bool false)) (fun rz => [])) := by
  refine enter (M := None) (L := []) (n := 6) (l := [(0, (.int .u32 1065353216))]) Try.func69 rfl rfl (Args.cons rfl (Args.nil _)) (Hp.start _ _) ?_
  refine GC.seq ?_
  refine GC.region ?_
  refine GL.val (Ex.assign rfl) (by decide) ?_
  refine GL.nil ?_
  refine GE.thenN ?_
  refine GC.seq ?_
  refine GC.region ?_
  refine GL.val (Ex.move rfl) (by decide) ?_
  refine GL.step (Stp.callR (vs := [(.int .u32 1065353216)]) rfl rfl T.own70 (by decide) (fun wc hw => k70_50  wc )) (fun xq1 hq2 => ?_)
  refine GL.val (v := (.bool false)) (Ex.cast (Ex.eql rfl rfl) rfl) (by decide) ?_
  refine GL.val (Ex.assign rfl) (by decide) ?_
  refine GL.nil ?_
  refine GE.thenN ?_
  refine GC.ret ?_
  refine GC.ret1 rfl (Rv.tmp rfl) (fun wN HN => ?_)
  exact HN.ret () trivial rfl ulN rfl

set_option maxRecDepth 100000 in
set_option maxHeartbeats 1000000 in
theorem k67_48 (w : World) :
    Calls Try.prog 67 #[(.int .u32 1065353216)] w (Ret w (fun _ : Unit => True) (fun rz => (.int .u32 1065353216)) (fun rz => [])) := by
  refine enter (M := None) (L := []) (n := 6) (l := [(0, (.int .u32 1065353216))]) Try.func67 rfl rfl (Args.cons rfl (Args.nil _)) (Hp.start _ _) ?_
  refine GC.seq ?_
  refine GC.region ?_
  refine GL.val (Ex.assign rfl) (by decide) ?_
  refine GL.nil ?_
  refine GE.thenN ?_
  refine GC.seq ?_
  refine GC.seq ?_
  refine GC.region ?_
  refine GL.val (Ex.move rfl) (by decide) ?_
  refine GL.step (Stp.callR (vs := [(.int .u32 1065353216)]) rfl rfl T.own69 (by decide) (fun wc hw => k69_49  wc )) (fun xq1 hq2 => ?_)
  refine GL.nil ?_
  refine GE.thenN ?_
  refine GC.cond rfl (fun hq3 => by cases hq3) (fun _ => ?_)
  refine GC.skip ?_
  refine GE.thenN ?_
  refine GC.seq ?_
  refine GC.region ?_
  refine GL.val (Ex.move rfl) (by decide) ?_
  refine GL.val (Ex.assign rfl) (by decide) ?_
  refine GL.nil ?_
  refine GE.thenN ?_
  refine GC.ret ?_
  refine GC.ret1 rfl (Rv.tmp rfl) (fun wN HN => ?_)
  exact HN.ret () trivial rfl ulN rfl

set_option maxRecDepth 100000 in
set_option maxHeartbeats 1000000 in
theorem k59_47 (w : World) :
    Calls Try.prog 59 #[(.float .f64 4607182418800017408)] w (Ret w (fun _ : Unit => True) (fun rz => (.int .u32 1065353216)) (fun rz => [])) := by
  refine enter (M := None) (L := []) (n := 7) (l := [(0, (.float .f64 4607182418800017408))]) Try.func59 rfl rfl (Args.cons rfl (Args.nil _)) (Hp.start _ _) ?_
  refine GC.seq ?_
  refine GC.region ?_
  refine GL.val (Ex.assign rfl) (by decide) ?_
  refine GL.nil ?_
  refine GE.thenN ?_
  refine GC.seq ?_
  refine GC.region ?_
  refine GL.val (Ex.move rfl) (by decide) ?_
  refine GL.val (v := (.float .f32 1065353216)) (Ex.cff (r := 1065353216) rfl Try.underlying61 Try.underlying98 (by kernel_rfl)) (by decide) ?_
  refine GL.val (v := (.int .u32 1065353216)) (Ex.ext (vs := [(.float .f32 1065353216)]) rfl rfl T.ext66 (fun _ => by first | rfl | kernel_rfl)) (by decide) ?_
  refine GL.step (Stp.callR (vs := [(.int .u32 1065353216)]) rfl rfl T.own67 (by decide) (fun wc hw => k67_48  wc )) (fun xq1 hq2 => ?_)
  refine GL.val (Ex.assign rfl) (by decide) ?_
  refine GL.nil ?_
  refine GE.thenN ?_
  refine GC.ret ?_
  refine GC.ret1 rfl (Rv.tmp rfl) (fun wN HN => ?_)
  exact HN.ret () trivial rfl ulN rfl

set_option maxRecDepth 100000 in
set_option maxHeartbeats 1000000 in
theorem k49_45 (c0 : Nat) (c1 : Nat) (w : World) (hh : Has w [⟨c0, [(.int .u32 1077936128), (.int .u32 0), (.int .u32 0)], 63, false⟩, ⟨c1, [(.int .i64 1), (.int .i64 1), (.int .i64 1)], 3, false⟩]) :
    Calls Try.prog 49 #[(.iface 108 (.agg #[(.int .i64 3), (.int .i64 1), (.slice (some ⟨c0, 0, none⟩) 3 3), (.int .i64 3), (.int .i64 0), (.int .i64 0), (.bool false)])), (.slice (some ⟨c1, 0, none⟩) 3 3)] w (Ret w (fun _ : Unit => True) (fun rz => (.int .u32 1065353216)) (fun rz => [])) := by
  refine enter (M := None) (L := [⟨c0, [(.int .u32 1077936128), (.int .u32 0), (.int .u32 0)], 63, false⟩, ⟨c1, [(.int .i64 1), (.int .i64 1), (.int .i64 1)], 3, false⟩]) (n := 43) (l := [(0, (.iface 108 (.agg #[(.int .i64 3), (.int .i64 1), (.slice (some ⟨c0, 0, none⟩) 3 3), (.int .i64 3), (.int .i64 0), (.int .i64 0), (.bool false)]))), (1, (.slice (some ⟨c1, 0, none⟩) 3 3))]) Try.func49 rfl rfl (Args.cons rfl (Args.cons rfl (Args.nil _))) (Hp.reads hh rfl) ?_
  refine GC.seq ?_
  refine GC.region ?_
  refine GL.val (Ex.assign rfl) (by decide) ?_
  refine GL.nil ?_
  refine GE.thenN ?_
  refine GC.seq ?_
  refine GC.region ?_
  refine GL.val (Ex.assign rfl) (by decide) ?_
  refine GL.val (Ex.assign rfl) (by decide) ?_
  refine GL.nil ?_
  refine GE.thenN ?_
  refine GC.seq ?_
  refine GC.seq ?_
  refine GC.region ?_
  refine GL.val (Ex.move rfl) (by decide) ?_
  refine GL.val (v := (.int .i64 3)) (Ex.len rfl Try.underlying28) (by decide) ?_
  refine GL.val (Ex.move rfl) (by decide) ?_
  refine GL.nil ?_
  refine GE.thenN ?_
  refine GC.block ?_
  refine GC.unroll 60 ?_
  refine GE.round ?_
  refine GC.seq ?_
  refine GC.region ?_
  refine GL.val (v := (.bool true)) (Ex.cast (Ex.lss rfl rfl) rfl) (by decide) ?_
  refine GL.nil ?_
  refine GE.thenN ?_
  refine GC.seq ?_
  refine GC.cond rfl (fun _ => ?_) (fun hq1 => by cases hq1)
  refine GC.skip ?_
  refine GE.thenN ?_
  refine GC.seq ?_
  refine GC.block ?_
  refine GC.seq ?_
  refine GC.region ?_
  refine GL.val (Ex.move rfl) (by decide) ?_
  refine GL.val (v := (.pointer (some ⟨c1, 0, none⟩))) (Ex.cast (Ex.indexAddr rfl rfl Try.underlying28 T.sz3 (by omega) (by omega)) rfl) (by decide) ?_
  refine GL.val (Ex.load rfl T.ag3 (i := 1) rfl rfl) (by decide) ?_
  refine GL.val (Ex.assign rfl) (by decide) ?_
  refine GL.val (Ex.assign rfl) (by decide) ?_
  refine GL.nil ?_
  refine GE.thenN ?_
  refine GC.seq ?_
  refine GC.region ?_
  refine GL.val (Ex.move rfl) (by decide) ?_
  refine GL.val (v := (.float .f64 4607182418800017408)) (Ex.cast (Ex.cif rfl Try.underlying3 Try.underlying61) (by kernel_rfl)) (by decide) ?_
  refine GL.val (Ex.move rfl) (by decide) ?_
  refine GL.val (Ex.move rfl) (by decide) ?_
  refine GL.val (Ex.move rfl) (by decide) ?_
  refine GL.val (v := (.int .i64 3)) (Ex.len rfl Try.underlying28) (by decide) ?_
  refine GL.val (v := (.int .i64 1)) (Ex.quo rfl rfl (Z := 1) (by decide) (by decide)) (by decide) ?_
  refine GL.val (v := (.int .i64 (-1))) (Ex.sub' rfl rfl (Z := -1) (by decide)) (by decide) ?_
  refine GL.step (Stp.invokeR (σ := Unit) (p := fun rz => True) (v := fun rz => (.int .u32 0)) (N := fun rz => []) (vs := [(.int .i64 (-1))]) rfl rfl (fun w => T.mth88 _ _ w) (by decide) (fun wc hw => (by have h := at_x 3 3 3 c0 0 0 [1077936128, 0, 0] 3 (-1) 1 0 wc (by decide) (by decide) (by decide) (by decide +kernel) (by decide) rfl (hw.rdOf (i := 0) rfl 0); rw [show smp [1077936128, 0, 0] 3 (bord 3 ((3 : Nat) : Int) (0 + (-1))).1.toNat 0 = 0 from by decide +kernel] at h; exact h))) (fun xq2 hq3 => ?_)
  refine GL.step (Stp.callR (vs := [(.int .u32 0)]) rfl rfl T.own58 (by decide) (fun wc hw => k58_11  wc )) (fun xq4 hq5 => ?_)
  refine GL.val (v := (.float .f64 0)) (Ex.farith (r := 0) rfl rfl (by kernel_rfl)) (by decide) ?_
  refine GL.val (Ex.assign rfl) (by decide) ?_
  refine GL.nil ?_
  refine GE.thenN ?_
  refine GC.seq ?_
  refine GC.region ?_
  refine GL.val (Ex.move rfl) (by decide) ?_
  refine GL.val (Ex.move rfl) (by decide) ?_
  refine GL.val (v := (.int .i64 1)) (Ex.add rfl rfl (Z := 1) (by decide)) (by decide) ?_
  refine GL.val (Ex.assign rfl) (by decide) ?_
  refine GL.nil ?_
  refine GE.thenN ?_
  refine GC.seq ?_
  refine GC.seq ?_
  refine GC.region ?_
  refine GL.val (Ex.move rfl) (by decide) ?_
  refine GL.val (v := (.bool true)) (Ex.cast (Ex.eql rfl rfl) rfl) (by decide) ?_
  refine GL.nil ?_
  refine GE.thenN ?_
  refine GC.cond rfl (fun _ => ?_) (fun hq6 => by cases hq6)
  refine GC.seq ?_
  refine GC.region ?_
  refine GL.val (Ex.move rfl) (by decide) ?_
  refine GL.val (Ex.assign rfl) (by decide) ?_
  refine GL.nil ?_
  refine GE.thenN ?_
  refine GC.exit ?_
  refine GE.thenE ?_
  refine GE.blockE ?_
  refine GE.thenN ?_
  refine GC.region ?_
  refine GL.val (v := (.int .i64 1)) (Ex.add rfl rfl (Z := 1) (by decide)) (by decide) ?_
  refine GL.val (Ex.move rfl) (by decide) ?_
  refine GL.nil ?_
  refine GE.thenN ?_
  refine GE.round ?_
  refine GC.seq ?_
  refine GC.region ?_
  refine GL.val (v := (.bool true)) (Ex.cast (Ex.lss rfl rfl) rfl) (by decide) ?_
  refine GL.nil ?_
  refine GE.thenN ?_
  refine GC.seq ?_
  refine GC.cond rfl (fun _ => ?_) (fun hq7 => by cases hq7)
  refine GC.skip ?_
  refine GE.thenN ?_
  refine GC.seq ?_
  refine GC.block ?_
  refine GC.seq ?_
  refine GC.region ?_
  refine GL.val (Ex.move rfl) (by decide) ?_
  refine GL.val (v := (.pointer (some ⟨c1, 1, none⟩))) (Ex.cast (Ex.indexAddr rfl rfl Try.underlying28 T.sz3 (by omega) (by omega)) rfl) (by decide) ?_
  refine GL.val (Ex.load rfl T.ag3 (i := 1) rfl rfl) (by decide) ?_
  refine GL.val (Ex.assign rfl) (by decide) ?_
  refine GL.val (Ex.assign rfl) (by decide) ?_
  refine GL.nil ?_
  refine GE.thenN ?_
  refine GC.seq ?_
  refine GC.region ?_
  refine GL.val (Ex.move rfl) (by decide) ?_
  refine GL.val (v := (.float .f64 4607182418800017408)) (Ex.cast (Ex.cif rfl Try.underlying3 Try.underlying61) (by kernel_rfl)) (by decide) ?_
  refine GL.val (Ex.move rfl) (by decide) ?_
  refine GL.val (Ex.move rfl) (by decide) ?_
  refine GL.val (Ex.move rfl) (by decide) ?_
  refine GL.val (v := (.int .i64 3)) (Ex.len rfl Try.underlying28) (by decide) ?_
  refine GL.val (v := (.int .i64 1)) (Ex.quo rfl rfl (Z := 1) (by decide) (by decide)) (by decide) ?_
  refine GL.val (v := (.int .i64 0)) (Ex.sub' rfl rfl (Z := 0) (by decide)) (by decide) ?_
  refine GL.step (Stp.invokeR (σ := Unit) (p := fun rz => True) (v := fun rz => (.int .u32 1077936128)) (N := fun rz => []) (vs := [(.int .i64 0)]) rfl rfl (fun w => T.mth88 _ _ w) (by decide) (fun wc hw => (by have h := at_x 3 3 3 c0 0 0 [1077936128, 0, 0] 3 0 1 0 wc (by decide) (by decide) (by decide) (by decide +kernel) (by decide) rfl (hw.rdOf (i := 0) rfl 0); rw [show smp [1077936128, 0, 0] 3 (bord 3 ((3 : Nat) : Int) (0 + 0)).1.toNat 0 = 1077936128 from by decide +kernel] at h; exact h))) (fun xq8 hq9 => ?_)
  refine GL.step (Stp.callR (vs := [(.int .u32 1077936128)]) rfl rfl T.own58 (by decide) (fun wc hw => k58_46  wc )) (fun xq10 hq11 => ?_)
  refine GL.val (v := (.float .f64 4613937818241073152)) (Ex.farith (r := 4613937818241073152) rfl rfl (by kernel_rfl)) (by decide) ?_
  refine GL.val (Ex.assign rfl) (by decide) ?_
  refine GL.nil ?_
  refine GE.thenN ?_
  refine GC.seq ?_
  refine GC.region ?_
  refine GL.val (Ex.move rfl) (by decide) ?_
  refine GL.val (Ex.move rfl) (by decide) ?_
  refine GL.val (v := (.int .i64 2)) (Ex.add rfl rfl (Z := 2) (by decide)) (by decide) ?_
  refine GL.val (Ex.assign rfl) (by decide) ?_
  refine GL.nil ?_
  refine GE.thenN ?_
  refine GC.seq ?_
  refine GC.seq ?_
  refine GC.region ?_
  refine GL.val (Ex.move rfl) (by decide) ?_
  refine GL.val (v := (.bool false)) (Ex.cast (Ex.eql rfl rfl) rfl) (by decide) ?_
  refine GL.nil ?_
  refine GE.thenN ?_
  refine GC.cond rfl (fun hq12 => by cases hq12) (fun _ => ?_)
  refine GC.skip ?_
  refine GE.thenN ?_
  refine GC.region ?_
  refine GL.val (Ex.move rfl) (by decide) ?_
  refine GL.val (Ex.move rfl) (by decide) ?_
  refine GL.val (v := (.float .f64 4613937818241073152)) (Ex.farith (r := 4613937818241073152) rfl rfl (by kernel_rfl)) (by decide) ?_
  refine GL.val (Ex.assign rfl) (by decide) ?_
  refine GL.nil ?_
  refine GE.blockN ?_
  refine GE.thenN ?_
  refine GC.region ?_
  refine GL.val (v := (.int .i64 2)) (Ex.add rfl rfl (Z := 2) (by decide)) (by decide) ?_
  refine GL.val (Ex.move rfl) (by decide) ?_
  refine GL.nil ?_
  refine GE.thenN ?_
  refine GE.round ?_
  refine GC.seq ?_
  refine GC.region ?_
  refine GL.val (v := (.bool true)) (Ex.cast (Ex.lss rfl rfl) rfl) (by decide) ?_
  refine GL.nil ?_
  refine GE.thenN ?_
  refine GC.seq ?_
  refine GC.cond rfl (fun _ => ?_) (fun hq13 => by cases hq13)
  refine GC.skip ?_
  refine GE.thenN ?_
  refine GC.seq ?_
  refine GC.block ?_
  refine GC.seq ?_
  refine GC.region ?_
  refine GL.val (Ex.move rfl) (by decide) ?_
  refine GL.val (v := (.pointer (some ⟨c1, 2, none⟩))) (Ex.cast (Ex.indexAddr rfl rfl Try.underlying28 T.sz3 (by omega) (by omega)) rfl) (by decide) ?_
  refine GL.val (Ex.load rfl T.ag3 (i := 1) rfl rfl) (by decide) ?_
  refine GL.val (Ex.assign rfl) (by decide) ?_
  refine GL.val (Ex.assign rfl) (by decide) ?_
  refine GL.nil ?_
  refine GE.thenN ?_
  refine GC.seq ?_
  refine GC.region ?_
  refine GL.val (Ex.move rfl) (by decide) ?_
  refine GL.val (v := (.float .f64 4607182418800017408)) (Ex.cast (Ex.cif rfl Try.underlying3 Try.underlying61) (by kernel_rfl)) (by decide) ?_
  refine GL.val (Ex.move rfl) (by decide) ?_
  refine GL.val (Ex.move rfl) (by decide) ?_
  refine GL.val (Ex.move rfl) (by decide) ?_
  refine GL.val (v := (.int .i64 3)) (Ex.len rfl Try.underlying28) (by decide) ?_
  refine GL.val (v := (.int .i64 1)) (Ex.quo rfl rfl (Z := 1) (by decide) (by decide)) (by decide) ?_
  refine GL.val (v := (.int .i64 1)) (Ex.sub' rfl rfl (Z := 1) (by decide)) (by decide) ?_
  refine GL.step (Stp.invokeR (σ := Unit) (p := fun rz => True) (v := fun rz => (.int .u32 0)) (N := fun rz => []) (vs := [(.int .i64 1)]) rfl rfl (fun w => T.mth88 _ _ w) (by decide) (fun wc hw => (by have h := at_x 3 3 3 c0 0 0 [1077936128, 0, 0] 3 1 1 0 wc (by decide) (by decide) (by decide) (by decide +kernel) (by decide) rfl (hw.rdOf (i := 0) rfl 0); rw [show smp [1077936128, 0, 0] 3 (bord 3 ((3 : Nat) : Int) (0 + 1)).1.toNat 0 = 0 from by decide +kernel] at h; exact h))) (fun xq14 hq15 => ?_)
  refine GL.step (Stp.callR (vs := [(.int .u32 0)]) rfl rfl T.own58 (by decide) (fun wc hw => k58_11  wc )) (fun xq16 hq17 => ?_)
  refine GL.val (v := (.float .f64 0)) (Ex.farith (r := 0) rfl rfl (by kernel_rfl)) (by decide) ?_
  refine GL.val (Ex.assign rfl) (by decide) ?_
  refine GL.nil ?_
  refine GE.thenN ?_
  refine GC.seq ?_
  refine GC.region ?_
  refine GL.val (Ex.move rfl) (by decide) ?_
  refine GL.val (Ex.move rfl) (by decide) ?_
  refine GL.val (v := (.int .i64 3)) (Ex.add rfl rfl (Z := 3) (by decide)) (by decide) ?_
  refine GL.val (Ex.assign rfl) (by decide) ?_
  refine GL.nil ?_
  refine GE.thenN ?_
  refine GC.seq ?_
  refine GC.seq ?_
  refine GC.region ?_
  refine GL.val (Ex.move rfl) (by decide) ?_
  refine GL.val (v := (.bool false)) (Ex.cast (Ex.eql rfl rfl) rfl) (by decide) ?_
  refine GL.nil ?_
  refine GE.thenN ?_
  refine GC.cond rfl (fun hq18 => by cases hq18) (fun _ => ?_)
  refine GC.skip ?_
  refine GE.thenN ?_
  refine GC.region ?_
  refine GL.val (Ex.move rfl) (by decide) ?_
  refine GL.val (Ex.move rfl) (by decide) ?_
  refine GL.val (v := (.float .f64 4613937818241073152)) (Ex.farith (r := 4613937818241073152) rfl rfl (by kernel_rfl)) (by decide) ?_
  refine GL.val (Ex.assign rfl) (by decide) ?_
  refine GL.nil ?_
  refine GE.blockN ?_
  refine GE.thenN ?_
  refine GC.region ?_
  refine GL.val (v := (.int .i64 3)) (Ex.add rfl rfl (Z := 3) (by decide)) (by decide) ?_
  refine GL.val (Ex.move rfl) (by decide) ?_
  refine GL.nil ?_
  refine GE.thenN ?_
  refine GE.round ?_
  refine GC.seq ?_
  refine GC.region ?_
  refine GL.val (v := (.bool false)) (Ex.cast (Ex.lss rfl rfl) rfl) (by decide) ?_
  refine GL.nil ?_
  refine GE.thenN ?_
  refine GC.seq ?_
  refine GC.cond rfl (fun hq19 => by cases hq19) (fun _ => ?_)
  refine GC.exit ?_
  refine GE.thenE ?_
  refine GE.thenE ?_
  refine GE.blockE ?_
  refine GE.thenN ?_
  refine GC.seq ?_
  refine GC.region ?_
  refine GL.val (Ex.move rfl) (by decide) ?_
  refine GL.val (Ex.move rfl) (by decide) ?_
  refine GL.val (v := (.float .f64 4613937818241073152)) (Ex.cast (Ex.cif rfl Try.underlying3 Try.underlying61) (by kernel_rfl)) (by decide) ?_
  refine GL.val (v := (.float .f64 4607182418800017408)) (Ex.farith (r := 4607182418800017408) rfl rfl (by kernel_rfl)) (by decide) ?_
  refine GL.step (Stp.callR (vs := [(.float .f64 4607182418800017408)]) rfl rfl T.own59 (by decide) (fun wc hw => k59_47  wc )) (fun xq20 hq21 => ?_)
  refine GL.val (Ex.assign rfl) (by decide) ?_
  refine GL.nil ?_
  refine GE.thenN ?_
  refine GC.ret ?_
  refine GC.ret1 rfl (Rv.tmp rfl) (fun wN HN => ?_)
  exact HN.ret () trivial rfl (ulS (ulS ulN)) rfl

set_option maxRecDepth 100000 in
set_option maxHeartbeats 1000000 in
theorem k49_52 (c0 : Nat) (c1 : Nat) (w : World) (hh : Has w [⟨c0, [(.int .u32 1077936128), (.int .u32 0), (.int .u32 0)], 63, false⟩, ⟨c1, [(.int .i64 1), (.int .i64 1), (.int .i64 1)], 3, false⟩]) :
    Calls Try.prog 49 #[(.iface 108 (.agg #[(.int .i64 3), (.int .i64 1), (.slice (some ⟨c0, 0, none⟩) 3 3), (.int .i64 3), (.int .i64 1), (.int .i64 0), (.bool false)])), (.slice (some ⟨c1, 0, none⟩) 3 3)] w (Ret w (fun _ : Unit => True) (fun rz => (.int .u32 1065353216)) (fun rz => [])) := by
  refine enter (M := None) (L := [⟨c0, [(.int .u32 1077936128), (.int .u32 0), (.int .u32 0)], 63, false⟩, ⟨c1, [(.int .i64 1), (.int .i64 1), (.int .i64 1)], 3, false⟩]) (n := 43) (l := [(0, (.iface 108 (.agg #[(.int .i64 3), (.int .i64 1), (.slice (some ⟨c0, 0, none⟩) 3 3), (.int .i64 3), (.int .i64 1), (.int .i64 0), (.bool false)]))), (1, (.slice (some ⟨c1, 0, none⟩) 3 3))]) Try.func49 rfl rfl (Args.cons rfl (Args.cons rfl (Args.nil _))) (Hp.reads hh rfl) ?_
  refine GC.seq ?_
  refine GC.region ?_
  refine GL.val (Ex.assign rfl) (by decide) ?_
  refine GL.nil ?_
  refine GE.thenN ?_
  refine GC.seq ?_
  refine GC.region ?_
  refine GL.val (Ex.assign rfl) (by decide) ?_
  refine GL.val (Ex.assign rfl) (by decide) ?_
  refine GL.nil ?_
  refine GE.thenN ?_
  refine GC.seq ?_
  refine GC.seq ?_
  refine GC.region ?_
  refine GL.val (Ex.move rfl) (by decide) ?_
  refine GL.val (v := (.int .i64 3)) (Ex.len rfl Try.underlying28) (by decide) ?_
  refine GL.val (Ex.move rfl) (by decide) ?_
  refine GL.nil ?_
  refine GE.thenN ?_
  refine GC.block ?_
  refine GC.unroll 60 ?_
  refine GE.round ?_
  refine GC.seq ?_
  refine GC.region ?_
  refine GL.val (v := (.bool true)) (Ex.cast (Ex.lss rfl rfl) rfl) (by decide) ?_
  refine GL.nil ?_
  refine GE.thenN ?_
  refine GC.seq ?_
  refine GC.cond rfl (fun _ => ?_) (fun hq1 => by cases hq1)
  refine GC.skip ?_
  refine GE.thenN ?_
  refine GC.seq ?_
  refine GC.block ?_
  refine GC.seq ?_
  refine GC.region ?_
  refine GL.val (Ex.move rfl) (by decide) ?_
  refine GL.val (v := (.pointer (some ⟨c1, 0, none⟩))) (Ex.cast (Ex.indexAddr rfl rfl Try.underlying28 T.sz3 (by omega) (by omega)) rfl) (by decide) ?_
  refine GL.val (Ex.load rfl T.ag3 (i := 1) rfl rfl) (by decide) ?_
  refine GL.val (Ex.assign rfl) (by decide) ?_
  refine GL.val (Ex.assign rfl) (by decide) ?_
  refine GL.nil ?_
  refine GE.thenN ?_
  refine GC.seq ?_
  refine GC.region ?_
  refine GL.val (Ex.move rfl) (by decide) ?_
  refine GL.val (v := (.float .f64 4607182418800017408)) (Ex.cast (Ex.cif rfl Try.underlying3 Try.underlying61) (by kernel_rfl)) (by decide) ?_
  refine GL.val (Ex.move rfl) (by decide) ?_
  refine GL.val (Ex.move rfl) (by decide) ?_
  refine GL.val (Ex.move rfl) (by decide) ?_
  refine GL.val (v := (.int .i64 3)) (Ex.len rfl Try.underlying28) (by decide) ?_
  refine GL.val (v := (.int .i64 1)) (Ex.quo rfl rfl (Z := 1) (by decide) (by decide)) (by decide) ?_
  refine GL.val (v := (.int .i64 (-1))) (Ex.sub' rfl rfl (Z := -1) (by decide)) (by decide) ?_
  refine GL.step (Stp.invokeR (σ := Unit) (p := fun rz => True) (v := fun rz => (.int .u32 1077936128)) (N := fun rz => []) (vs := [(.int .i64 (-1))]) rfl rfl (fun w => T.mth88 _ _ w) (by decide) (fun wc hw => (by have h := at_x 3 3 3 c0 0 0 [1077936128, 0, 0] 3 (-1) 1 1 wc (by decide) (by decide) (by decide) (by decide +kernel) (by decide) rfl (hw.rdOf (i := 0) rfl 0); rw [show smp [1077936128, 0, 0] 3 (bord 3 ((3 : Nat) : Int) (1 + (-1))).1.toNat 0 = 1077936128 from by decide +kernel] at h; exact h))) (fun xq2 hq3 => ?_)
  refine GL.step (Stp.callR (vs := [(.int .u32 1077936128)]) rfl rfl T.own58 (by decide) (fun wc hw => k58_46  wc )) (fun xq4 hq5 => ?_)
  refine GL.val (v := (.float .f64 4613937818241073152)) (Ex.farith (r := 4613937818241073152) rfl rfl (by kernel_rfl)) (by decide) ?_
  refine GL.val (Ex.assign rfl) (by decide) ?_
  refine GL.nil ?_
  refine GE.thenN ?_
  refine GC.seq ?_
  refine GC.region ?_
  refine GL.val (Ex.move rfl) (by decide) ?_
  refine GL.val (Ex.move rfl) (by decide) ?_
  refine GL.val (v := (.int .i64 1)) (Ex.add rfl rfl (Z := 1) (by decide)) (by decide) ?_
  refine GL.val (Ex.assign rfl) (by decide) ?_
  refine GL.nil ?_
  refine GE.thenN ?_
  refine GC.seq ?_
  refine GC.seq ?_
  refine GC.region ?_
  refine GL.val (Ex.move rfl) (by decide) ?_
  refine GL.val (v := (.bool true)) (Ex.cast (Ex.eql rfl rfl) rfl) (by decide) ?_
  refine GL.nil ?_
  refine GE.thenN ?_
  refine GC.cond rfl (fun _ => ?_) (fun hq6 => by cases hq6)
  refine GC.seq ?_
  refine GC.region ?_
  refine GL.val (Ex.move rfl) (by decide) ?_
  refine GL.val (Ex.assign rfl) (by decide) ?_
  refine GL.nil ?_
  refine GE.thenN ?_
  refine GC.exit ?_
  refine GE.thenE ?_
  refine GE.blockE ?_
  refine GE.thenN ?_
  refine GC.region ?_
  refine GL.val (v := (.int .i64 1)) (Ex.add rfl rfl (Z := 1) (by decide)) (by decide) ?_
  refine GL.val (Ex.move rfl) (by decide) ?_
  refine GL.nil ?_
  refine GE.thenN ?_
  refine GE.round ?_
  refine GC.seq ?_
  refine GC.region ?_
  refine GL.val (v := (.bool true)) (Ex.cast (Ex.lss rfl rfl) rfl) (by decide) ?_
  refine GL.nil ?_
  refine GE.thenN ?_
  refine GC.seq ?_
  refine GC.cond rfl (fun _ => ?_) (fun hq7 => by cases hq7)
  refine GC.skip ?_
  refine GE.thenN ?_
  refine GC.seq ?_
  refine GC.block ?_
  refine GC.seq ?_
  refine GC.region ?_
  refine GL.val (Ex.move rfl) (by decide) ?_
  refine GL.val (v := (.pointer (some ⟨c1, 1, none⟩))) (Ex.cast (Ex.indexAddr rfl rfl Try.underlying28 T.sz3 (by omega) (by omega)) rfl) (by decide) ?_
  refine GL.val (Ex.load rfl T.ag3 (i := 1) rfl rfl) (by decide) ?_
  refine GL.val (Ex.assign rfl) (by decide) ?_
  refine GL.val (Ex.assign rfl) (by decide) ?_
  refine GL.nil ?_
  refine GE.thenN ?_
  refine GC.seq ?_
  refine GC.region ?_
  refine GL.val (Ex.move rfl) (by decide) ?_
  refine GL.val (v := (.float .f64 4607182418800017408)) (Ex.cast (Ex.cif rfl Try.underlying3 Try.underlying61) (by kernel_rfl)) (by decide) ?_
  refine GL.val (Ex.move rfl) (by decide) ?_
  refine GL.val (Ex.move rfl) (by decide) ?_
  refine GL.val (Ex.move rfl) (by decide) ?_
  refine GL.val (v := (.int .i64 3)) (Ex.len rfl Try.underlying28) (by decide) ?_
  refine GL.val (v := (.int .i64 1)) (Ex.quo rfl rfl (Z := 1) (by decide) (by decide)) (by decide) ?_
  refine GL.val (v := (.int .i64 0)) (Ex.sub' rfl rfl (Z := 0) (by decide)) (by decide) ?_
  refine GL.step (Stp.invokeR (σ := Unit) (p := fun rz => True) (v := fun rz => (.int .u32 0)) (N := fun rz => []) (vs := [(.int .i64 0)]) rfl rfl (fun w => T.mth88 _ _ w) (by decide) (fun wc hw => (by have h := at_x 3 3 3 c0 0 0 [1077936128, 0, 0] 3 0 1 1 wc (by decide) (by decide) (by decide) (by decide +kernel) (by decide) rfl (hw.rdOf (i := 0) rfl 0); rw [show smp [1077936128, 0, 0] 3 (bord 3 ((3 : Nat) : Int) (1 + 0)).1.toNat 0 = 0 from by decide +kernel] at h; exact h))) (fun xq8 hq9 => ?_)
  refine GL.step (Stp.callR (vs := [(.int .u32 0)]) rfl rfl T.own58 (by decide) (fun wc hw => k58_11  wc )) (fun xq10 hq11 => ?_)
  refine GL.val (v := (.float .f64 0)) (Ex.farith (r := 0) rfl rfl (by kernel_rfl)) (by decide) ?_
  refine GL.val (Ex.assign rfl) (by decide) ?_
  refine GL.nil ?_
  refine GE.thenN ?_
  refine GC.seq ?_
  refine GC.region ?_
  refine GL.val (Ex.move rfl) (by decide) ?_
  refine GL.val (Ex.move rfl) (by decide) ?_
  refine GL.val (v := (.int .i64 2)) (Ex.add rfl rfl (Z := 2) (by decide)) (by decide) ?_
  refine GL.val (Ex.assign rfl) (by decide) ?_
  refine GL.nil ?_
  refine GE.thenN ?_
  refine GC.seq ?_
  refine GC.seq ?_
  refine GC.region ?_
  refine GL.val (Ex.move rfl) (by decide) ?_
  refine GL.val (v := (.bool false)) (Ex.cast (Ex.eql rfl rfl) rfl) (by decide) ?_
  refine GL.nil ?_
  refine GE.thenN ?_
  refine GC.cond rfl (fun hq12 => by cases hq12) (fun _ => ?_)
  refine GC.skip ?_
  refine GE.thenN ?_
  refine GC.region ?_
  refine GL.val (Ex.move rfl) (by decide) ?_
  refine GL.val (Ex.move rfl) (by decide) ?_
  refine GL.val (v := (.float .f64 4613937818241073152)) (Ex.farith (r := 4613937818241073152) rfl rfl (by kernel_rfl)) (by decide) ?_
  refine GL.val (Ex.assign rfl) (by decide) ?_
  refine GL.nil ?_
  refine GE.blockN ?_
  refine GE.thenN ?_
  refine GC.region ?_
  refine GL.val (v := (.int .i64 2)) (Ex.add rfl rfl (Z := 2) (by decide)) (by decide) ?_
  refine GL.val (Ex.move rfl) (by decide) ?_
  refine GL.nil ?_
  refine GE.thenN ?_
  refine GE.round ?_
  refine GC.seq ?_
  refine GC.region ?_
  refine GL.val (v := (.bool true)) (Ex.cast (Ex.lss rfl rfl) rfl) (by decide) ?_
  refine GL.nil ?_
  refine GE.thenN ?_
  refine GC.seq ?_
  refine GC.cond rfl (fun _ => ?_) (fun hq13 => by cases hq13)
  refine GC.skip ?_
  refine GE.thenN ?_
  refine GC.seq ?_
  refine GC.block ?_
  refine GC.seq ?_
  refine GC.region ?_
  refine GL.val (Ex.move rfl) (by decide) ?_
  refine GL.val (v := (.pointer (some ⟨c1, 2, none⟩))) (Ex.cast (Ex.indexAddr rfl rfl Try.underlying28 T.sz3 (by omega) (by omega)) rfl) (by decide) ?_
  refine GL.val (Ex.load rfl T.ag3 (i := 1) rfl rfl) (by decide) ?_
  refine GL.val (Ex.assign rfl) (by decide) ?_
  refine GL.val (Ex.assign rfl) (by decide) ?_
  refine GL.nil ?_
  refine GE.thenN ?_
  refine GC.seq ?_
  refine GC.region ?_
  refine GL.val (Ex.move rfl) (by decide) ?_
  refine GL.val (v := (.float .f64 4607182418800017408)) (Ex.cast (Ex.cif rfl Try.underlying3 Try.underlying61) (by kernel_rfl)) (by decide) ?_
  refine GL.val (Ex.move rfl) (by decide) ?_
  refine GL.val (Ex.move rfl) (by decide) ?_
  refine GL.val (Ex.move rfl) (by decide) ?_
  refine GL.val (v := (.int .i64 3)) (Ex.len rfl Try.underlying28) (by decide) ?_
  refine GL.val (v := (.int .i64 1)) (Ex.quo rfl rfl (Z := 1) (by decide) (by decide)) (by decide) ?_
  refine GL.val (v := (.int .i64 1)) (Ex.sub' rfl rfl (Z := 1) (by decide)) (by decide) ?_
  refine GL.step (Stp.invokeR (σ := Unit) (p := fun rz => True) (v := fun rz => (.int .u32 0)) (N := fun rz => []) (vs := [(.int .i64 1)]) rfl rfl (fun w => T.mth88 _ _ w) (by decide) (fun wc hw => (by have h := at_x 3 3 3 c0 0 0 [1077936128, 0, 0] 3 1 1 1 wc (by decide) (by decide) (by decide) (by decide +kernel) (by decide) rfl (hw.rdOf (i := 0) rfl 0); rw [show smp [1077936128, 0, 0] 3 (bord 3 ((3 : Nat) : Int) (1 + 1)).1.toNat 0 = 0 from by decide +kernel] at h; exact h))) (fun xq14 hq15 => ?_)
  refine GL.step (Stp.callR (vs := [(.int .u32 0)]) rfl rfl T.own58 (by decide) (fun wc hw => k58_11  wc )) (fun xq16 hq17 => ?_)
  refine GL.val (v := (.float .f64 0)) (Ex.farith (r := 0) rfl rfl (by kernel_rfl)) (by decide) ?_
  refine GL.val (Ex.assign rfl) (by decide) ?_
  refine GL.nil ?_
  refine GE.thenN ?_
  refine GC.seq ?_
  refine GC.region ?_
  refine GL.val (Ex.move rfl) (by decide) ?_
  refine GL.val (Ex.move rfl) (by decide) ?_
  refine GL.val (v := (.int .i64 3)) (Ex.add rfl rfl (Z := 3) (by decide)) (by decide) ?_
  refine GL.val (Ex.assign rfl) (by decide) ?_
  refine GL.nil ?_
  refine GE.thenN ?_
  refine GC.seq ?_
  refine GC.seq ?_
  refine GC.region ?_
  refine GL.val (Ex.move rfl) (by decide) ?_
  refine GL.val (v := (.bool false)) (Ex.cast (Ex.eql rfl rfl) rfl) (by decide) ?_
  refine GL.nil ?_
  refine GE.thenN ?_
  refine GC.cond rfl (fun hq18 => by cases hq18) (fun _ => ?_)
  refine GC.skip ?_
  refine GE.thenN ?_
  refine GC.region ?_
  refine GL.val (Ex.move rfl) (by decide) ?_
  refine GL.val (Ex.move rfl) (by decide) ?_
  refine GL.val (v := (.float .f64 4613937818241073152)) (Ex.farith (r := 4613937818241073152) rfl rfl (by kernel_rfl)) (by decide) ?_
  refine GL.val (Ex.assign rfl) (by decide) ?_
  refine GL.nil ?_
  refine GE.blockN ?_
  refine GE.thenN ?_
  refine GC.region ?_
  refine GL.val (v := (.int .i64 3)) (Ex.add rfl rfl (Z := 3) (by decide)) (by decide) ?_
  refine GL.val (Ex.move rfl) (by decide) ?_
  refine GL.nil ?_
  refine GE.thenN ?_
  refine GE.round ?_
  refine GC.seq ?_
  refine GC.region ?_
  refine GL.val (v := (.bool false)) (Ex.cast (Ex.lss rfl rfl) rfl) (by decide) ?_
  refine GL.nil ?_
  refine GE.thenN ?_
  refine GC.seq ?_
  refine GC.cond rfl (fun hq19 => by cases hq19) (fun _ => ?_)
  refine GC.exit ?_
  refine GE.thenE ?_
  refine GE.thenE ?_
  refine GE.blockE ?_
  refine GE.thenN ?_
  refine GC.seq ?_
  refine GC.region ?_
  refine GL.val (Ex.move rfl) (by decide) ?_
  refine GL.val (Ex.move rfl) (by decide) ?_
  refine GL.val (v := (.float .f64 4613937818241073152)) (Ex.cast (Ex.cif rfl Try.underlying3 Try.underlying61) (by kernel_rfl)) (by decide) ?_
  refine GL.val (v := (.float .f64 4607182418800017408)) (Ex.farith (r := 4607182418800017408) rfl rfl (by kernel_rfl)) (by decide) ?_
  refine GL.step (Stp.callR (vs := [(.float .f64 4607182418800017408)]) rfl rfl T.own59 (by decide) (fun wc hw => k59_47  wc )) (fun xq20 hq21 => ?_)
  refine GL.val (Ex.assign rfl) (by decide) ?_
  refine GL.nil ?_
  refine GE.thenN ?_
  refine GC.ret ?_
  refine GC.ret1 rfl (Rv.tmp rfl) (fun wN HN => ?_)
  exact HN.ret () trivial rfl (ulS (ulS ulN)) rfl

set_option maxRecDepth 100000 in
set_option maxHeartbeats 1000000 in
theorem k49_53 (c0 : Nat) (c1 : Nat) (w : World) (hh : Has w [⟨c0, [(.int .u32 1077936128), (.int .u32 0), (.int .u32 0)], 63, false⟩, ⟨c1, [(.int .i64 1), (.int .i64 1), (.int .i64 1)], 3, false⟩]) :
    Calls Try.prog 49 #[(.iface 108 (.agg #[(.int .i64 3), (.int .i64 1), (.slice (some ⟨c0, 0, none⟩) 3 3), (.int .i64 3), (.int .i64 2), (.int .i64 0), (.bool false)])), (.slice (some ⟨c1, 0, none⟩) 3 3)] w (Ret w (fun _ : Unit => True) (fun rz => (.int .u32 1065353216)) (fun rz => [])) := by
  refine enter (M := None) (L := [⟨c0, [(.int .u32 1077936128), (.int .u32 0), (.int .u32 0)], 63, false⟩, ⟨c1, [(.int .i64 1), (.int .i64 1), (.int .i64 1)], 3, false⟩]) (n := 43) (l := [(0, (.iface 108 (.agg #[(.int .i64 3), (.int .i64 1), (.slice (some ⟨c0, 0, none⟩) 3 3), (.int .i64 3), (.int .i64 2), (.int .i64 0), (.bool false)]))), (1, (.slice (some ⟨c1, 0, none⟩) 3 3))]) Try.func49 rfl rfl (Args.cons rfl (Args.cons rfl (Args.nil _))) (Hp.reads hh rfl) ?_
  refine GC.seq ?_
  refine GC.region ?_
  refine GL.val (Ex.assign rfl) (by decide) ?_
  refine GL.nil ?_
  refine GE.thenN ?_
  refine GC.seq ?_
  refine GC.region ?_
  refine GL.val (Ex.assign rfl) (by decide) ?_
  refine GL.val (Ex.assign rfl) (by decide) ?_
  refine GL.nil ?_
  refine GE.thenN ?_
  refine GC.seq ?_
  refine GC.seq ?_
  refine GC.region ?_
  refine GL.val (Ex.move rfl) (by decide) ?_
  refine GL.val (v := (.int .i64 3)) (Ex.len rfl Try.underlying28) (by decide) ?_
  refine GL.val (Ex.move rfl) (by decide) ?_
  refine GL.nil ?_
  refine GE.thenN ?_
  refine GC.block ?_
  refine GC.unroll 60 ?_
  refine GE.round ?_
  refine GC.seq ?_
  refine GC.region ?_
  refine GL.val (v := (.bool true)) (Ex.cast (Ex.lss rfl rfl) rfl) (by decide) ?_
  refine GL.nil ?_
  refine GE.thenN ?_
  refine GC.seq ?_
  refine GC.cond rfl (fun _ => ?_) (fun hq1 => by cases hq1)
  refine GC.skip ?_
  refine GE.thenN ?_
  refine GC.seq ?_
  refine GC.block ?_
  refine GC.seq ?_
  refine GC.region ?_
  refine GL.val (Ex.move rfl) (by decide) ?_
  refine GL.val (v := (.pointer (some ⟨c1, 0, none⟩))) (Ex.cast (Ex.indexAddr rfl rfl Try.underlying28 T.sz3 (by omega) (by omega)) rfl) (by decide) ?_
  refine GL.val (Ex.load rfl T.ag3 (i := 1) rfl rfl) (by decide) ?_
  refine GL.val (Ex.assign rfl) (by decide) ?_
  refine GL.val (Ex.assign rfl) (by decide) ?_
  refine GL.nil ?_
  refine GE.thenN ?_
  refine GC.seq ?_
  refine GC.region ?_
  refine GL.val (Ex.move rfl) (by decide) ?_
  refine GL.val (v := (.float .f64 4607182418800017408)) (Ex.cast (Ex.cif rfl Try.underlying3 Try.underlying61) (by kernel_rfl)) (by decide) ?_
  refine GL.val (Ex.move rfl) (by decide) ?_
  refine GL.val (Ex.move rfl) (by decide) ?_
  refine GL.val (Ex.move rfl) (by decide) ?_
  refine GL.val (v := (.int .i64 3)) (Ex.len rfl Try.underlying28) (by decide) ?_
  refine GL.val (v := (.int .i64 1)) (Ex.quo rfl rfl (Z := 1) (by decide) (by decide)) (by decide) ?_
  refine GL.val (v := (.int .i64 (-1))) (Ex.sub' rfl rfl (Z := -1) (by decide)) (by decide) ?_
  refine GL.step (Stp.invokeR (σ := Unit) (p := fun rz => True) (v := fun rz => (.int .u32 0)) (N := fun rz => []) (vs := [(.int .i64 (-1))]) rfl rfl (fun w => T.mth88 _ _ w) (by decide) (fun wc hw => (by have h := at_x 3 3 3 c0 0 0 [1077936128, 0, 0] 3 (-1) 1 2 wc (by decide) (by decide) (by decide) (by decide +kernel) (by decide) rfl (hw.rdOf (i := 0) rfl 0); rw [show smp [1077936128, 0, 0] 3 (bord 3 ((3 : Nat) : Int) (2 + (-1))).1.toNat 0 = 0 from by decide +kernel] at h; exact h))) (fun xq2 hq3 => ?_)
  refine GL.step (Stp.callR (vs := [(.int .u32 0)]) rfl rfl T.own58 (by decide) (fun wc hw => k58_11  wc )) (fun xq4 hq5 => ?_)
  refine GL.val (v := (.float .f64 0)) (Ex.farith (r := 0) rfl rfl (by kernel_rfl)) (by decide) ?_
  refine GL.val (Ex.assign rfl) (by decide) ?_
  refine GL.nil ?_
  refine GE.thenN ?_
  refine GC.seq ?_
  refine GC.region ?_
  refine GL.val (Ex.move rfl) (by decide) ?_
  refine GL.val (Ex.move rfl) (by decide) ?_
  refine GL.val (v := (.int .i64 1)) (Ex.add rfl rfl (Z := 1) (by decide)) (by decide) ?_
  refine GL.val (Ex.assign rfl) (by decide) ?_
  refine GL.nil ?_
  refine GE.thenN ?_
  refine GC.seq ?_
  refine GC.seq ?_
  refine GC.region ?_
  refine GL.val (Ex.move rfl) (by decide) ?_
  refine GL.val (v := (.bool true)) (Ex.cast (Ex.eql rfl rfl) rfl) (by decide) ?_
  refine GL.nil ?_
  refine GE.thenN ?_
  refine GC.cond rfl (fun _ => ?_) (fun hq6 => by cases hq6)
  refine GC.seq ?_
  refine GC.region ?_
  refine GL.val (Ex.move rfl) (by decide) ?_
  refine GL.val (Ex.assign rfl) (by decide) ?_
  refine GL.nil ?_
  refine GE.thenN ?_
  refine GC.exit ?_
  refine GE.thenE ?_
  refine GE.blockE ?_
  refine GE.thenN ?_
  refine GC.region ?_
  refine GL.val (v := (.int .i64 1)) (Ex.add rfl rfl (Z := 1) (by decide)) (by decide) ?_
  refine GL.val (Ex.move rfl) (by decide) ?_
  refine GL.nil ?_
  refine GE.thenN ?_
  refine GE.round ?_
  refine GC.seq ?_
  refine GC.region ?_
  refine GL.val (v := (.bool true)) (Ex.cast (Ex.lss rfl rfl) rfl) (by decide) ?_
  refine GL.nil ?_
  refine GE.thenN ?_
  refine GC.seq ?_
  refine GC.cond rfl (fun _ => ?_) (fun hq7 => by cases hq7)
  refine GC.skip ?_
  refine GE.thenN ?_
  refine GC.seq ?_
  refine GC.block ?_
  refine GC.seq ?_
  refine GC.region ?_
  refine GL.val (Ex.move rfl) (by decide) ?_
  refine GL.val (v := (.pointer (some ⟨c1, 1, none⟩))) (Ex.cast (Ex.indexAddr rfl rfl Try.underlying28 T.sz3 (by omega) (by omega)) rfl) (by decide) ?_
  refine GL.val (Ex.load rfl T.ag3 (i := 1) rfl rfl) (by decide) ?_
  refine GL.val (Ex.assign rfl) (by decide) ?_
  refine GL.val (Ex.assign rfl) (by decide) ?_
  refine GL.nil ?_
  refine GE.thenN ?_
  refine GC.seq ?_
  refine GC.region ?_
  refine GL.val (Ex.move rfl) (by decide) ?_
  refine GL.val (v := (.float .f64 4607182418800017408)) (Ex.cast (Ex.cif rfl Try.underlying3 Try.underlying61) (by kernel_rfl)) (by decide) ?_
  refine GL.val (Ex.move rfl) (by decide) ?_
  refine GL.val (Ex.move rfl) (by decide) ?_
  refine GL.val (Ex.move rfl) (by decide) ?_
  refine GL.val (v := (.int .i64 3)) (Ex.len rfl Try.underlying28) (by decide) ?_
  refine GL.val (v := (.int .i64 1)) (Ex.quo rfl rfl (Z := 1) (by decide) (by decide)) (by decide) ?_
  refine GL.val (v := (.int .i64 0)) (Ex.sub' rfl rfl (Z := 0) (by decide)) (by decide) ?_
  refine GL.step (Stp.invokeR (σ := Unit) (p := fun rz => True) (v := fun rz => (.int .u32 0)) (N := fun rz => []) (vs := [(.int .i64 0)]) rfl rfl (fun w => T.mth88 _ _ w) (by decide) (fun wc hw => (by have h := at_x 3 3 3 c0 0 0 [1077936128, 0, 0] 3 0 1 2 wc (by decide) (by decide) (by decide) (by decide +kernel) (by decide) rfl (hw.rdOf (i := 0) rfl 0); rw [show smp [1077936128, 0, 0] 3 (bord 3 ((3 : Nat) : Int) (2 + 0)).1.toNat 0 = 0 from by decide +kernel] at h; exact h))) (fun xq8 hq9 => ?_)
  refine GL.step (Stp.callR (vs := [(.int .u32 0)]) rfl rfl T.own58 (by decide) (fun wc hw => k58_11  wc )) (fun xq10 hq11 => ?_)
  refine GL.val (v := (.float .f64 0)) (Ex.farith (r := 0) rfl rfl (by kernel_rfl)) (by decide) ?_
  refine GL.val (Ex.assign rfl) (by decide) ?_
  refine GL.nil ?_
  refine GE.thenN ?_
  refine GC.seq ?_
  refine GC.region ?_
  refine GL.val (Ex.move rfl) (by decide) ?_
  refine GL.val (Ex.move rfl) (by decide) ?_
  refine GL.val (v := (.int .i64 2)) (Ex.add rfl rfl (Z := 2) (by decide)) (by decide) ?_
  refine GL.val (Ex.assign rfl) (by decide) ?_
  refine GL.nil ?_
  refine GE.thenN ?_
  refine GC.seq ?_
  refine GC.seq ?_
  refine GC.region ?_
  refine GL.val (Ex.move rfl) (by decide) ?_
  refine GL.val (v := (.bool false)) (Ex.cast (Ex.eql rfl rfl) rfl) (by decide) ?_
  refine GL.nil ?_
  refine GE.thenN ?_
  refine GC.cond rfl (fun hq12 => by cases hq12) (fun _ => ?_)
  refine GC.skip ?_
  refine GE.thenN ?_
  refine GC.region ?_
  refine GL.val (Ex.move rfl) (by decide) ?_
  refine GL.val (Ex.move rfl) (by decide) ?_
  refine GL.val (v := (.float .f64 0)) (Ex.farith (r := 0) rfl rfl (by kernel_rfl)) (by decide) ?_
  refine GL.val (Ex.assign rfl) (by decide) ?_
  refine GL.nil ?_
  refine GE.blockN ?_
  refine GE.thenN ?_
  refine GC.region ?_
  refine GL.val (v := (.int .i64 2)) (Ex.add rfl rfl (Z := 2) (by decide)) (by decide) ?_
  refine GL.val (Ex.move rfl) (by decide) ?_
  refine GL.nil ?_
  refine GE.thenN ?_
  refine GE.round ?_
  refine GC.seq ?_
  refine GC.region ?_
  refine GL.val (v := (.bool true)) (Ex.cast (Ex.lss rfl rfl) rfl) (by decide) ?_
  refine GL.nil ?_
  refine GE.thenN ?_
  refine GC.seq ?_
  refine GC.cond rfl (fun _ => ?_) (fun hq13 => by cases hq13)
  refine GC.skip ?_
  refine GE.thenN ?_
  refine GC.seq ?_
  refine GC.block ?_
  refine GC.seq ?_
  refine GC.region ?_
  refine GL.val (Ex.move rfl) (by decide) ?_
  refine GL.val (v := (.pointer (some ⟨c1, 2, none⟩))) (Ex.cast (Ex.indexAddr rfl rfl Try.underlying28 T.sz3 (by omega) (by omega)) rfl) (by decide) ?_
  refine GL.val (Ex.load rfl T.ag3 (i := 1) rfl rfl) (by decide) ?_
  refine GL.val (Ex.assign rfl) (by decide) ?_
  refine GL.val (Ex.assign rfl) (by decide) ?_
  refine GL.nil ?_
  refine GE.thenN ?_
  refine GC.seq ?_
  refine GC.region ?_
  refine GL.val (Ex.move rfl) (by decide) ?_
  refine GL.val (v := (.float .f64 4607182418800017408)) (Ex.cast (Ex.cif rfl Try.underlying3 Try.underlying61) (by kernel_rfl)) (by decide) ?_
  refine GL.val (Ex.move rfl) (by decide) ?_
  refine GL.val (Ex.move rfl) (by decide) ?_
  refine GL.val (Ex.move rfl) (by decide) ?_
  refine GL.val (v := (.int .i64 3)) (Ex.len rfl Try.underlying28) (by decide) ?_
  refine GL.val (v := (.int .i64 1)) (Ex.quo rfl rfl (Z := 1) (by decide) (by decide)) (by decide) ?_
  refine GL.val (v := (.int .i64 1)) (Ex.sub' rfl rfl (Z := 1) (by decide)) (by decide) ?_
  refine GL.step (Stp.invokeR (σ := Unit) (p := fun rz => True) (v := fun rz => (.int .u32 1077936128)) (N := fun rz => []) (vs := [(.int .i64 1)]) rfl rfl (fun w => T.mth88 _ _ w) (by decide) (fun wc hw => (by have h := at_x 3 3 3 c0 0 0 [1077936128, 0, 0] 3 1 1 2 wc (by decide) (by decide) (by decide) (by decide +kernel) (by decide) rfl (hw.rdOf (i := 0) rfl 0); rw [show smp [1077936128, 0, 0] 3 (bord 3 ((3 : Nat) : Int) (2 + 1)).1.toNat 0 = 1077936128 from by decide +kernel] at h; exact h))) (fun xq14 hq15 => ?_)
  refine GL.step (Stp.callR (vs := [(.int .u32 1077936128)]) rfl rfl T.own58 (by decide) (fun wc hw => k58_46  wc )) (fun xq16 hq17 => ?_)
  refine GL.val (v := (.float .f64 4613937818241073152)) (Ex.farith (r := 4613937818241073152) rfl rfl (by kernel_rfl)) (by decide) ?_
  refine GL.val (Ex.assign rfl) (by decide) ?_
  refine GL.nil ?_
  refine GE.thenN ?_
  refine GC.seq ?_
  refine GC.region ?_
  refine GL.val (Ex.move rfl) (by decide) ?_
  refine GL.val (Ex.move rfl) (by decide) ?_
  refine GL.val (v := (.int .i64 3)) (Ex.add rfl rfl (Z := 3) (by decide)) (by decide) ?_
  refine GL.val (Ex.assign rfl) (by decide) ?_
  refine GL.nil ?_
  refine GE.thenN ?_
  refine GC.seq ?_
  refine GC.seq ?_
  refine GC.region ?_
  refine GL.val (Ex.move rfl) (by decide) ?_
  refine GL.val (v := (.bool false)) (Ex.cast (Ex.eql rfl rfl) rfl) (by decide) ?_
  refine GL.nil ?_
  refine GE.thenN ?_
  refine GC.cond rfl (fun hq18 => by cases hq18) (fun _ => ?_)
  refine GC.skip ?_
  refine GE.thenN ?_
  refine GC.region ?_
  refine GL.val (Ex.move rfl) (by decide) ?_
  refine GL.val (Ex.move rfl) (by decide) ?_
  refine GL.val (v := (.float .f64 4613937818241073152)) (Ex.farith (r := 4613937818241073152) rfl rfl (by kernel_rfl)) (by decide) ?_
  refine GL.val (Ex.assign rfl) (by decide) ?_
  refine GL.nil ?_
  refine GE.blockN ?_
  refine GE.thenN ?_
  refine GC.region ?_
  refine GL.val (v := (.int .i64 3)) (Ex.add rfl rfl (Z := 3) (by decide)) (by decide) ?_
  refine GL.val (Ex.move rfl) (by decide) ?_
  refine GL.nil ?_
  refine GE.thenN ?_
  refine GE.round ?_
  refine GC.seq ?_
  refine GC.region ?_
  refine GL.val (v := (.bool false)) (Ex.cast (Ex.lss rfl rfl) rfl) (by decide) ?_
  refine GL.nil ?_
  refine GE.thenN ?_
  refine GC.seq ?_
  refine GC.cond rfl (fun hq19 => by cases hq19) (fun _ => ?_)
  refine GC.exit ?_
  refine GE.thenE ?_
  refine GE.thenE ?_
  refine GE.blockE ?_
  refine GE.thenN ?_
  refine GC.seq ?_
  refine GC.region ?_
  refine GL.val (Ex.move rfl) (by decide) ?_
  refine GL.val (Ex.move rfl) (by decide) ?_
  refine GL.val (v := (.float .f64 4613937818241073152)) (Ex.cast (Ex.cif rfl Try.underlying3 Try.underlying61) (by kernel_rfl)) (by decide) ?_
  refine GL.val (v := (.float .f64 4607182418800017408)) (Ex.farith (r := 4607182418800017408) rfl rfl (by kernel_rfl)) (by decide) ?_
  refine GL.step (Stp.callR (vs := [(.float .f64 4607182418800017408)]) rfl rfl T.own59 (by decide) (fun wc hw => k59_47  wc )) (fun xq20 hq21 => ?_)
  refine GL.val (Ex.assign rfl) (by decide) ?_
  refine GL.nil ?_
  refine GE.thenN ?_
  refine GC.ret ?_
  refine GC.ret1 rfl (Rv.tmp rfl) (fun wN HN => ?_)
  exact HN.ret () trivial rfl (ulS (ulS ulN)) rfl

set_option maxRecDepth 100000 in
set_option maxHeartbeats 1000000 in
theorem k49_54 (c0 : Nat) (c1 : Nat) (w : World) (hh : Has w [⟨c0, [(.int .u32 1065353216), (.int .u32 1065353216), (.int .u32 1065353216)], 63, false⟩, ⟨c1, [(.int .i64 1), (.int .i64 1), (.int .i64 1)], 3, false⟩]) :
    Calls Try.prog 49 #[(.iface 108 (.agg #[(.int .i64 3), (.int .i64 1), (.slice (some ⟨c0, 0, none⟩) 3 3), (.int .i64 3), (.int .i64 0), (.int .i64 0), (.bool true)])), (.slice (some ⟨c1, 0, none⟩) 3 3)] w (Ret w (fun _ : Unit => True) (fun rz => (.int .u32 1065353216)) (fun rz => [])) := by
  refine enter (M := None) (L := [⟨c0, [(.int .u32 1065353216), (.int .u32 1065353216), (.int .u32 1065353216)], 63, false⟩, ⟨c1, [(.int .i64 1), (.int .i64 1), (.int .i64 1)], 3, false⟩]) (n := 43) (l := [(0, (.iface 108 (.agg #[(.int .i64 3), (.int .i64 1), (.slice (some ⟨c0, 0, none⟩) 3 3), (.int .i64 3), (.int .i64 0), (.int .i64 0), (.bool true)]))), (1, (.slice (some ⟨c1, 0, none⟩) 3 3))]) Try.func49 rfl rfl (Args.cons rfl (Args.cons rfl (Args.nil _))) (Hp.reads hh rfl) ?_
  refine GC.seq ?_
  refine GC.region ?_
  refine GL.val (Ex.assign rfl) (by decide) ?_
  refine GL.nil ?_
  refine GE.thenN ?_
  refine GC.seq ?_
  refine GC.region ?_
  refine GL.val (Ex.assign rfl) (by decide) ?_
  refine GL.val (Ex.assign rfl) (by decide) ?_
  refine GL.nil ?_
  refine GE.thenN ?_
  refine GC.seq ?_
  refine GC.seq ?_
  refine GC.region ?_
  refine GL.val (Ex.move rfl) (by decide) ?_
  refine GL.val (v := (.int .i64 3)) (Ex.len rfl Try.underlying28) (by decide) ?_
  refine GL.val (Ex.move rfl) (by decide) ?_
  refine GL.nil ?_
  refine GE.thenN ?_
  refine GC.block ?_
  refine GC.unroll 60 ?_
  refine GE.round ?_
  refine GC.seq ?_
  refine GC.region ?_
  refine GL.val (v := (.bool true)) (Ex.cast (Ex.lss rfl rfl) rfl) (by decide) ?_
  refine GL.nil ?_
  refine GE.thenN ?_
  refine GC.seq ?_
  refine GC.cond rfl (fun _ => ?_) (fun hq1 => by cases hq1)
  refine GC.skip ?_
  refine GE.thenN ?_
  refine GC.seq ?_
  refine GC.block ?_
  refine GC.seq ?_
  refine GC.region ?_
  refine GL.val (Ex.move rfl) (by decide) ?_
  refine GL.val (v := (.pointer (some ⟨c1, 0, none⟩))) (Ex.cast (Ex.indexAddr rfl rfl Try.underlying28 T.sz3 (by omega) (by omega)) rfl) (by decide) ?_
  refine GL.val (Ex.load rfl T.ag3 (i := 1) rfl rfl) (by decide) ?_
  refine GL.val (Ex.assign rfl) (by decide) ?_
  refine GL.val (Ex.assign rfl) (by decide) ?_
  refine GL.nil ?_
  refine GE.thenN ?_
  refine GC.seq ?_
  refine GC.region ?_
  refine GL.val (Ex.move rfl) (by decide) ?_
  refine GL.val (v := (.float .f64 4607182418800017408)) (Ex.cast (Ex.cif rfl Try.underlying3 Try.underlying61) (by kernel_rfl)) (by decide) ?_
  refine GL.val (Ex.move rfl) (by decide) ?_
  refine GL.val (Ex.move rfl) (by decide) ?_
  refine GL.val (Ex.move rfl) (by decide) ?_
  refine GL.val (v := (.int .i64 3)) (Ex.len rfl Try.underlying28) (by decide) ?_
  refine GL.val (v := (.int .i64 1)) (Ex.quo rfl rfl (Z := 1) (by decide) (by decide)) (by decide) ?_
  refine GL.val (v := (.int .i64 (-1))) (Ex.sub' rfl rfl (Z := -1) (by decide)) (by decide) ?_
  refine GL.step (Stp.invokeR (σ := Unit) (p := fun rz => True) (v := fun rz => (.int .u32 1065353216)) (N := fun rz => []) (vs := [(.int .i64 (-1))]) rfl rfl (fun w => T.mth88 _ _ w) (by decide) (fun wc hw => (by have h := at_y 3 3 3 c0 0 1 0 [1065353216, 1065353216, 1065353216] 3 (-1) 0 wc (by decide) (by decide) (by decide) (by decide +kernel) (by decide) rfl (hw.rdOf (i := 0) rfl 0); rw [show smp [1065353216, 1065353216, 1065353216] 3 0 (bord 3 ((1 : Nat) : Int) (0 + (-1))).1.toNat = 1065353216 from by decide +kernel] at h; exact h))) (fun xq2 hq3 => ?_)
  refine GL.step (Stp.callR (vs := [(.int .u32 1065353216)]) rfl rfl T.own58 (by decide) (fun wc hw => k58_18  wc )) (fun xq4 hq5 => ?_)
  refine GL.val (v := (.float .f64 4607182418800017408)) (Ex.farith (r := 4607182418800017408) rfl rfl (by kernel_rfl)) (by decide) ?_
  refine GL.val (Ex.assign rfl) (by decide) ?_
  refine GL.nil ?_
  refine GE.thenN ?_
  refine GC.seq ?_
  refine GC.region ?_
  refine GL.val (Ex.move rfl) (by decide) ?_
  refine GL.val (Ex.move rfl) (by decide) ?_
  refine GL.val (v := (.int .i64 1)) (Ex.add rfl rfl (Z := 1) (by decide)) (by decide) ?_
  refine GL.val (Ex.assign rfl) (by decide) ?_
  refine GL.nil ?_
  refine GE.thenN ?_
  refine GC.seq ?_
  refine GC.seq ?_
  refine GC.region ?_
  refine GL.val (Ex.move rfl) (by decide) ?_
  refine GL.val (v := (.bool true)) (Ex.cast (Ex.eql rfl rfl) rfl) (by decide) ?_
  refine GL.nil ?_
  refine GE.thenN ?_
  refine GC.cond rfl (fun _ => ?_) (fun hq6 => by cases hq6)
  refine GC.seq ?_
  refine GC.region ?_
  refine GL.val (Ex.move rfl) (by decide) ?_
  refine GL.val (Ex.assign rfl) (by decide) ?_
  refine GL.nil ?_
  refine GE.thenN ?_
  refine GC.exit ?_
  refine GE.thenE ?_
  refine GE.blockE ?_
  refine GE.thenN ?_
  refine GC.region ?_
  refine GL.val (v := (.int .i64 1)) (Ex.add rfl rfl (Z := 1) (by decide)) (by decide) ?_
  refine GL.val (Ex.move rfl) (by decide) ?_
  refine GL.nil ?_
  refine GE.thenN ?_
  refine GE.round ?_
  refine GC.seq ?_
  refine GC.region ?_
  refine GL.val (v := (.bool true)) (Ex.cast (Ex.lss rfl rfl) rfl) (by decide) ?_
  refine GL.nil ?_
  refine GE.thenN ?_
  refine GC.seq ?_
  refine GC.cond rfl (fun _ => ?_) (fun hq7 => by cases hq7)
  refine GC.skip ?_
  refine GE.thenN ?_
  refine GC.seq ?_
  refine GC.block ?_
  refine GC.seq ?_
  refine GC.region ?_
  refine GL.val (Ex.move rfl) (by decide) ?_
  refine GL.val (v := (.pointer (some ⟨c1, 1, none⟩))) (Ex.cast (Ex.indexAddr rfl rfl Try.underlying28 T.sz3 (by omega) (by omega)) rfl) (by decide) ?_
  refine GL.val (Ex.load rfl T.ag3 (i := 1) rfl rfl) (by decide) ?_
  refine GL.val (Ex.assign rfl) (by decide) ?_
  refine GL.val (Ex.assign rfl) (by decide) ?_
  refine GL.nil ?_
  refine GE.thenN ?_
  refine GC.seq ?_
  refine GC.region ?_
  refine GL.val (Ex.move rfl) (by decide) ?_
  refine GL.val (v := (.float .f64 4607182418800017408)) (Ex.cast (Ex.cif rfl Try.underlying3 Try.underlying61) (by kernel_rfl)) (by decide) ?_
  refine GL.val (Ex.move rfl) (by decide) ?_
  refine GL.val (Ex.move rfl) (by decide) ?_
  refine GL.val (Ex.move rfl) (by decide) ?_
  refine GL.val (v := (.int .i64 3)) (Ex.len rfl Try.underlying28) (by decide) ?_
  refine GL.val (v := (.int .i64 1)) (Ex.quo rfl rfl (Z := 1) (by decide) (by decide)) (by decide) ?_
  refine GL.val (v := (.int .i64 0)) (Ex.sub' rfl rfl (Z := 0) (by decide)) (by decide) ?_
  refine GL.step (Stp.invokeR (σ := Unit) (p := fun rz => True) (v := fun rz => (.int .u32 1065353216)) (N := fun rz => []) (vs := [(.int .i64 0)]) rfl rfl (fun w => T.mth88 _ _ w) (by decide) (fun wc hw => (by have h := at_y 3 3 3 c0 0 1 0 [1065353216, 1065353216, 1065353216] 3 0 0 wc (by decide) (by decide) (by decide) (by decide +kernel) (by decide) rfl (hw.rdOf (i := 0) rfl 0); rw [show smp [1065353216, 1065353216, 1065353216] 3 0 (bord 3 ((1 : Nat) : Int) (0 + 0)).1.toNat = 1065353216 from by decide +kernel] at h; exact h))) (fun xq8 hq9 => ?_)
  refine GL.step (Stp.callR (vs := [(.int .u32 1065353216)]) rfl rfl T.own58 (by decide) (fun wc hw => k58_18  wc )) (fun xq10 hq11 => ?_)
  refine GL.val (v := (.float .f64 4607182418800017408)) (Ex.farith (r := 4607182418800017408) rfl rfl (by kernel_rfl)) (by decide) ?_
  refine GL.val (Ex.assign rfl) (by decide) ?_
  refine GL.nil ?_
  refine GE.thenN ?_
  refine GC.seq ?_
  refine GC.region ?_
  refine GL.val (Ex.move rfl) (by decide) ?_
  refine GL.val (Ex.move rfl) (by decide) ?_
  refine GL.val (v := (.int .i64 2)) (Ex.add rfl rfl (Z := 2) (by decide)) (by decide) ?_
  refine GL.val (Ex.assign rfl) (by decide) ?_
  refine GL.nil ?_
  refine GE.thenN ?_
  refine GC.seq ?_
  refine GC.seq ?_
  refine GC.region ?_
  refine GL.val (Ex.move rfl) (by decide) ?_
  refine GL.val (v := (.bool false)) (Ex.cast (Ex.eql rfl rfl) rfl) (by decide) ?_
  refine GL.nil ?_
  refine GE.thenN ?_
  refine GC.cond rfl (fun hq12 => by cases hq12) (fun _ => ?_)
  refine GC.skip ?_
  refine GE.thenN ?_
  refine GC.region ?_
  refine GL.val (Ex.move rfl) (by decide) ?_
  refine GL.val (Ex.move rfl) (by decide) ?_
  refine GL.val (v := (.float .f64 4611686018427387904)) (Ex.farith (r := 4611686018427387904) rfl rfl (by kernel_rfl)) (by decide) ?_
  refine GL.val (Ex.assign rfl) (by decide) ?_
  refine GL.nil ?_
  refine GE.blockN ?_
  refine GE.thenN ?_
  refine GC.region ?_
  refine GL.val (v := (.int .i64 2)) (Ex.add rfl rfl (Z := 2) (by decide)) (by decide) ?_
  refine GL.val (Ex.move rfl) (by decide) ?_
  refine GL.nil ?_
  refine GE.thenN ?_
  refine GE.round ?_
  refine GC.seq ?_
  refine GC.region ?_
  refine GL.val (v := (.bool true)) (Ex.cast (Ex.lss rfl rfl) rfl) (by decide) ?_
  refine GL.nil ?_
  refine GE.thenN ?_
  refine GC.seq ?_
  refine GC.cond rfl (fun _ => ?_) (fun hq13 => by cases hq13)
  refine GC.skip ?_
  refine GE.thenN ?_
  refine GC.seq ?_
  refine GC.block ?_
  refine GC.seq ?_
  refine GC.region ?_
  refine GL.val (Ex.move rfl) (by decide) ?_
  refine GL.val (v := (.pointer (some ⟨c1, 2, none⟩))) (Ex.cast (Ex.indexAddr rfl rfl Try.underlying28 T.sz3 (by omega) (by omega)) rfl) (by decide) ?_
  refine GL.val (Ex.load rfl T.ag3 (i := 1) rfl rfl) (by decide) ?_
  refine GL.val (Ex.assign rfl) (by decide) ?_
  refine GL.val (Ex.assign rfl) (by decide) ?_
  refine GL.nil ?_
  refine GE.thenN ?_
  refine GC.seq ?_
  refine GC.region ?_
  refine GL.val (Ex.move rfl) (by decide) ?_
  refine GL.val (v := (.float .f64 4607182418800017408)) (Ex.cast (Ex.cif rfl Try.underlying3 Try.underlying61) (by kernel_rfl)) (by decide) ?_
  refine GL.val (Ex.move rfl) (by decide) ?_
  refine GL.val (Ex.move rfl) (by decide) ?_
  refine GL.val (Ex.move rfl) (by decide) ?_
  refine GL.val (v := (.int .i64 3)) (Ex.len rfl Try.underlying28) (by decide) ?_
  refine GL.val (v := (.int .i64 1)) (Ex.quo rfl rfl (Z := 1) (by decide) (by decide)) (by decide) ?_
  refine GL.val (v := (.int .i64 1)) (Ex.sub' rfl rfl (Z := 1) (by decide)) (by decide) ?_
  refine GL.step (Stp.invokeR (σ := Unit) (p := fun rz => True) (v := fun rz => (.int .u32 1065353216)) (N := fun rz => []) (vs := [(.int .i64 1)]) rfl rfl (fun w => T.mth88 _ _ w) (by decide) (fun wc hw => (by have h := at_y 3 3 3 c0 0 1 0 [1065353216, 1065353216, 1065353216] 3 1 0 wc (by decide) (by decide) (by decide) (by decide +kernel) (by decide) rfl (hw.rdOf (i := 0) rfl 0); rw [show smp [1065353216, 1065353216, 1065353216] 3 0 (bord 3 ((1 : Nat) : Int) (0 + 1)).1.toNat = 1065353216 from by decide +kernel] at h; exact h))) (fun xq14 hq15 => ?_)
  refine GL.step (Stp.callR (vs := [(.int .u32 1065353216)]) rfl rfl T.own58 (by decide) (fun wc hw => k58_18  wc )) (fun xq16 hq17 => ?_)
  refine GL.val (v := (.float .f64 4607182418800017408)) (Ex.farith (r := 4607182418800017408) rfl rfl (by kernel_rfl)) (by decide) ?_
  refine GL.val (Ex.assign rfl) (by decide) ?_
  refine GL.nil ?_
  refine GE.thenN ?_
  refine GC.seq ?_
  refine GC.region ?_
  refine GL.val (Ex.move rfl) (by decide) ?_
  refine GL.val (Ex.move rfl) (by decide) ?_
  refine GL.val (v := (.int .i64 3)) (Ex.add rfl rfl (Z := 3) (by decide)) (by decide) ?_
  refine GL.val (Ex.assign rfl) (by decide) ?_
  refine GL.nil ?_
  refine GE.thenN ?_
  refine GC.seq ?_
  refine GC.seq ?_
  refine GC.region ?_
  refine GL.val (Ex.move rfl) (by decide) ?_
  refine GL.val (v := (.bool false)) (Ex.cast (Ex.eql rfl rfl) rfl) (by decide) ?_
  refine GL.nil ?_
  refine GE.thenN ?_
  refine GC.cond rfl (fun hq18 => by cases hq18) (fun _ => ?_)
  refine GC.skip ?_
  refine GE.thenN ?_
  refine GC.region ?_
  refine GL.val (Ex.move rfl) (by decide) ?_
  refine GL.val (Ex.move rfl) (by decide) ?_
  refine GL.val (v := (.float .f64 4613937818241073152)) (Ex.farith (r := 4613937818241073152) rfl rfl (by kernel_rfl)) (by decide) ?_
  refine GL.val (Ex.assign rfl) (by decide) ?_
  refine GL.nil ?_
  refine GE.blockN ?_
  refine GE.thenN ?_
  refine GC.region ?_
  refine GL.val (v := (.int .i64 3)) (Ex.add rfl rfl (Z := 3) (by decide)) (by decide) ?_
  refine GL.val (Ex.move rfl) (by decide) ?_
  refine GL.nil ?_
  refine GE.thenN ?_
  refine GE.round ?_
  refine GC.seq ?_
  refine GC.region ?_
  refine GL.val (v := (.bool false)) (Ex.cast (Ex.lss rfl rfl) rfl) (by decide) ?_
  refine GL.nil ?_
  refine GE.thenN ?_
  refine GC.seq ?_
  refine GC.cond rfl (fun hq19 => by cases hq19) (fun _ => ?_)
  refine GC.exit ?_
  refine GE.thenE ?_
  refine GE.thenE ?_
  refine GE.blockE ?_
  refine GE.thenN ?_
  refine GC.seq ?_
  refine GC.region ?_
  refine GL.val (Ex.move rfl) (by decide) ?_
  refine GL.val (Ex.move rfl) (by decide) ?_
  refine GL.val (v := (.float .f64 4613937818241073152)) (Ex.cast (Ex.cif rfl Try.underlying3 Try.underlying61) (by kernel_rfl)) (by decide) ?_
  refine GL.val (v := (.float .f64 4607182418800017408)) (Ex.farith (r := 4607182418800017408) rfl rfl (by kernel_rfl)) (by decide) ?_
  refine GL.step (Stp.callR (vs := [(.float .f64 4607182418800017408)]) rfl rfl T.own59 (by decide) (fun wc hw => k59_47  wc )) (fun xq20 hq21 => ?_)
  refine GL.val (Ex.assign rfl) (by decide) ?_
  refine GL.nil ?_
  refine GE.thenN ?_
  refine GC.ret ?_
  refine GC.ret1 rfl (Rv.tmp rfl) (fun wN HN => ?_)
  exact HN.ret () trivial rfl (ulS (ulS ulN)) rfl

set_option maxRecDepth 100000 in
set_option maxHeartbeats 1000000 in
theorem k49_55 (c0 : Nat) (c1 : Nat) (w : World) (hh : Has w [⟨c0, [(.int .u32 1065353216), (.int .u32 1065353216), (.int .u32 1065353216)], 63, false⟩, ⟨c1, [(.int .i64 1), (.int .i64 1), (.int .i64 1)], 3, false⟩]) :
    Calls Try.prog 49 #[(.iface 108 (.agg #[(.int .i64 3), (.int .i64 1), (.slice (some ⟨c0, 0, none⟩) 3 3), (.int .i64 3), (.int .i64 1), (.int .i64 0), (.bool true)])), (.slice (some ⟨c1, 0, none⟩) 3 3)] w (Ret w (fun _ : Unit => True) (fun rz => (.int .u32 1065353216)) (fun rz => [])) := by
  refine enter (M := None) (L := [⟨c0, [(.int .u32 1065353216), (.int .u32 1065353216), (.int .u32 1065353216)], 63, false⟩, ⟨c1, [(.int .i64 1), (.int .i64 1), (.int .i64 1)], 3, false⟩]) (n := 43) (l := [(0, (.iface 108 (.agg #[(.int .i64 3), (.int .i64 1), (.slice (some ⟨c0, 0, none⟩) 3 3), (.int .i64 3), (.int .i64 1), (.int .i64 0), (.bool true)]))), (1, (.slice (some ⟨c1, 0, none⟩) 3 3))]) Try.func49 rfl rfl (Args.cons rfl (Args.cons rfl (Args.nil _))) (Hp.reads hh rfl) ?_
  refine GC.seq ?_
  refine GC.region ?_
  refine GL.val (Ex.assign rfl) (by decide) ?_
  refine GL.nil ?_
  refine GE.thenN ?_
  refine GC.seq ?_
  refine GC.region ?_
  refine GL.val (Ex.assign rfl) (by decide) ?_
  refine GL.val (Ex.assign rfl) (by decide) ?_
  refine GL.nil ?_
  refine GE.thenN ?_
  refine GC.seq ?_
  refine GC.seq ?_
  refine GC.region ?_
  refine GL.val (Ex.move rfl) (by decide) ?_
  refine GL.val (v := (.int .i64 3)) (Ex.len rfl Try.underlying28) (by decide) ?_
  refine GL.val (Ex.move rfl) (by decide) ?_
  refine GL.nil ?_
  refine GE.thenN ?_
  refine GC.block ?_
  refine GC.unroll 60 ?_
  refine GE.round ?_
  refine GC.seq ?_
  refine GC.region ?_
  refine GL.val (v := (.bool true)) (Ex.cast (Ex.lss rfl rfl) rfl) (by decide) ?_
  refine GL.nil ?_
  refine GE.thenN ?_
  refine GC.seq ?_
  refine GC.cond rfl (fun _ => ?_) (fun hq1 => by cases hq1)
  refine GC.skip ?_
  refine GE.thenN ?_
  refine GC.seq ?_
  refine GC.block ?_
  refine GC.seq ?_
  refine GC.region ?_
  refine GL.val (Ex.move rfl) (by decide) ?_
  refine GL.val (v := (.pointer (some ⟨c1, 0, none⟩))) (Ex.cast (Ex.indexAddr rfl rfl Try.underlying28 T.sz3 (by omega) (by omega)) rfl) (by decide) ?_
  refine GL.val (Ex.load rfl T.ag3 (i := 1) rfl rfl) (by decide) ?_
  refine GL.val (Ex.assign rfl) (by decide) ?_
  refine GL.val (Ex.assign rfl) (by decide) ?_
  refine GL.nil ?_
  refine GE.thenN ?_
  refine GC.seq ?_
  refine GC.region ?_
  refine GL.val (Ex.move rfl) (by decide) ?_
  refine GL.val (v := (.float .f64 4607182418800017408)) (Ex.cast (Ex.cif rfl Try.underlying3 Try.underlying61) (by kernel_rfl)) (by decide) ?_
  refine GL.val (Ex.move rfl) (by decide) ?_
  refine GL.val (Ex.move rfl) (by decide) ?_
  refine GL.val (Ex.move rfl) (by decide) ?_
  refine GL.val (v := (.int .i64 3)) (Ex.len rfl Try.underlying28) (by decide) ?_
  refine GL.val (v := (.int .i64 1)) (Ex.quo rfl rfl (Z := 1) (by decide) (by decide)) (by decide) ?_
  refine GL.val (v := (.int .i64 (-1))) (Ex.sub' rfl rfl (Z := -1) (by decide)) (by decide) ?_
  refine GL.step (Stp.invokeR (σ := Unit) (p := fun rz => True) (v := fun rz => (.int .u32 1065353216)) (N := fun rz => []) (vs := [(.int .i64 (-1))]) rfl rfl (fun w => T.mth88 _ _ w) (by decide) (fun wc hw => (by have h := at_y 3 3 3 c0 0 1 1 [1065353216, 1065353216, 1065353216] 3 (-1) 0 wc (by decide) (by decide) (by decide) (by decide +kernel) (by decide) rfl (hw.rdOf (i := 0) rfl 0); rw [show smp [1065353216, 1065353216, 1065353216] 3 1 (bord 3 ((1 : Nat) : Int) (0 + (-1))).1.toNat = 1065353216 from by decide +kernel] at h; exact h))) (fun xq2 hq3 => ?_)
  refine GL.step (Stp.callR (vs := [(.int .u32 1065353216)]) rfl rfl T.own58 (by decide) (fun wc hw => k58_18  wc )) (fun xq4 hq5 => ?_)
  refine GL.val (v := (.float .f64 4607182418800017408)) (Ex.farith (r := 4607182418800017408) rfl rfl (by kernel_rfl)) (by decide) ?_
  refine GL.val (Ex.assign rfl) (by decide) ?_
  refine GL.nil ?_
  refine GE.thenN ?_
  refine GC.seq ?_
  refine GC.region ?_
  refine GL.val (Ex.move rfl) (by decide) ?_
  refine GL.val (Ex.move rfl) (by decide) ?_
  refine GL.val (v := (.int .i64 1)) (Ex.add rfl rfl (Z := 1) (by decide)) (by decide) ?_
  refine GL.val (Ex.assign rfl) (by decide) ?_
  refine GL.nil ?_
  refine GE.thenN ?_
  refine GC.seq ?_
  refine GC.seq ?_
  refine GC.region ?_
  refine GL.val (Ex.move rfl) (by decide) ?_
  refine GL.val (v := (.bool true)) (Ex.cast (Ex.eql rfl rfl) rfl) (by decide) ?_
  refine GL.nil ?_
  refine GE.thenN ?_
  refine GC.cond rfl (fun _ => ?_) (fun hq6 => by cases hq6)
  refine GC.seq ?_
  refine GC.region ?_
  refine GL.val (Ex.move rfl) (by decide) ?_
  refine GL.val (Ex.assign rfl) (by decide) ?_
  refine GL.nil ?_
  refine GE.thenN ?_
  refine GC.exit ?_
  refine GE.thenE ?_
  refine GE.blockE ?_
  refine GE.thenN ?_
  refine GC.region ?_
  refine GL.val (v := (.int .i64 1)) (Ex.add rfl rfl (Z := 1) (by decide)) (by decide) ?_
  refine GL.val (Ex.move rfl) (by decide) ?_
  refine GL.nil ?_
  refine GE.thenN ?_
  refine GE.round ?_
  refine GC.seq ?_
  refine GC.region ?_
  refine GL.val (v := (.bool true)) (Ex.cast (Ex.lss rfl rfl) rfl) (by decide) ?_
  refine GL.nil ?_
  refine GE.thenN ?_
  refine GC.seq ?_
  refine GC.cond rfl (fun _ => ?_) (fun hq7 => by cases hq7)
  refine GC.skip ?_
  refine GE.thenN ?_
  refine GC.seq ?_
  refine GC.block ?_
  refine GC.seq ?_
  refine GC.region ?_
  refine GL.val (Ex.move rfl) (by decide) ?_
  refine GL.val (v := (.pointer (some ⟨c1, 1, none⟩))) (Ex.cast (Ex.indexAddr rfl rfl Try.underlying28 T.sz3 (by omega) (by omega)) rfl) (by decide) ?_
  refine GL.val (Ex.load rfl T.ag3 (i := 1) rfl rfl) (by decide) ?_
  refine GL.val (Ex.assign rfl) (by decide) ?_
  refine GL.val (Ex.assign rfl) (by decide) ?_
  refine GL.nil ?_
  refine GE.thenN ?_
  refine GC.seq ?_
  refine GC.region ?_
  refine GL.val (Ex.move rfl) (by decide) ?_
  refine GL.val (v := (.float .f64 4607182418800017408)) (Ex.cast (Ex.cif rfl Try.underlying3 Try.underlying61) (by kernel_rfl)) (by decide) ?_
  refine GL.val (Ex.move rfl) (by decide) ?_
  refine GL.val (Ex.move rfl) (by decide) ?_
  refine GL.val (Ex.move rfl) (by decide) ?_
  refine GL.val (v := (.int .i64 3)) (Ex.len rfl Try.underlying28) (by decide) ?_
  refine GL.val (v := (.int .i64 1)) (Ex.quo rfl rfl (Z := 1) (by decide) (by decide)) (by decide) ?_
  refine GL.val (v := (.int .i64 0)) (Ex.sub' rfl rfl (Z := 0) (by decide)) (by decide) ?_
  refine GL.step (Stp.invokeR (σ := Unit) (p := fun rz => True) (v := fun rz => (.int .u32 1065353216)) (N := fun rz => []) (vs := [(.int .i64 0)]) rfl rfl (fun w => T.mth88 _ _ w) (by decide) (fun wc hw => (by have h := at_y 3 3 3 c0 0 1 1 [1065353216, 1065353216, 1065353216] 3 0 0 wc (by decide) (by decide) (by decide) (by decide +kernel) (by decide) rfl (hw.rdOf (i := 0) rfl 0); rw [show smp [1065353216, 1065353216, 1065353216] 3 1 (bord 3 ((1 : Nat) : Int) (0 + 0)).1.toNat = 1065353216 from by decide +kernel] at h; exact h))) (fun xq8 hq9 => ?_)
  refine GL.step (Stp.callR (vs := [(.int .u32 1065353216)]) rfl rfl T.own58 (by decide) (fun wc hw => k58_18  wc )) (fun xq10 hq11 => ?_)
  refine GL.val (v := (.float .f64 4607182418800017408)) (Ex.farith (r := 4607182418800017408) rfl rfl (by kernel_rfl)) (by decide) ?_
  refine GL.val (Ex.assign rfl) (by decide) ?_
  refine GL.nil ?_
  refine GE.thenN ?_
  refine GC.seq ?_
  refine GC.region ?_
  refine GL.val (Ex.move rfl) (by decide) ?_
  refine GL.val (Ex.move rfl) (by decide) ?_
  refine GL.val (v := (.int .i64 2)) (Ex.add rfl rfl (Z := 2) (by decide)) (by decide) ?_
  refine GL.val (Ex.assign rfl) (by decide) ?_
  refine GL.nil ?_
  refine GE.thenN ?_
  refine GC.seq ?_
  refine GC.seq ?_
  refine GC.region ?_
  refine GL.val (Ex.move rfl) (by decide) ?_
  refine GL.val (v := (.bool false)) (Ex.cast (Ex.eql rfl rfl) rfl) (by decide) ?_
  refine GL.nil ?_
  refine GE.thenN ?_
  refine GC.cond rfl (fun hq12 => by cases hq12) (fun _ => ?_)
  refine GC.skip ?_
  refine GE.thenN ?_
  refine GC.region ?_
  refine GL.val (Ex.move rfl) (by decide) ?_
  refine GL.val (Ex.move rfl) (by decide) ?_
  refine GL.val (v := (.float .f64 4611686018427387904)) (Ex.farith (r := 4611686018427387904) rfl rfl (by kernel_rfl)) (by decide) ?_
  refine GL.val (Ex.assign rfl) (by decide) ?_
  refine GL.nil ?_
  refine GE.blockN ?_
  refine GE.thenN ?_
  refine GC.region ?_
  refine GL.val (v := (.int .i64 2)) (Ex.add rfl rfl (Z := 2) (by decide)) (by decide) ?_
  refine GL.val (Ex.move rfl) (by decide) ?_
  refine GL.nil ?_
  refine GE.thenN ?_
  refine GE.round ?_
  refine GC.seq ?_
  refine GC.region ?_
  refine GL.val (v := (.bool true)) (Ex.cast (Ex.lss rfl rfl) rfl) (by decide) ?_
  refine GL.nil ?_
  refine GE.thenN ?_
  refine GC.seq ?_
  refine GC.cond rfl (fun _ => ?_) (fun hq13 => by cases hq13)
  refine GC.skip ?_
  refine GE.thenN ?_
  refine GC.seq ?_
  refine GC.block ?_
  refine GC.seq ?_
  refine GC.region ?_
  refine GL.val (Ex.move rfl) (by decide) ?_
  refine GL.val (v := (.pointer (some ⟨c1, 2, none⟩))) (Ex.cast (Ex.indexAddr rfl rfl Try.underlying28 T.sz3 (by omega) (by omega)) rfl) (by decide) ?_
  refine GL.val (Ex.load rfl T.ag3 (i := 1) rfl rfl) (by decide) ?_
  refine GL.val (Ex.assign rfl) (by decide) ?_
  refine GL.val (Ex.assign rfl) (by decide) ?_
  refine GL.nil ?_
  refine GE.thenN ?_
  refine GC.seq ?_
  refine GC.region ?_
  refine GL.val (Ex.move rfl) (by decide) ?_
  refine GL.val (v := (.float .f64 4607182418800017408)) (Ex.cast (Ex.cif rfl Try.underlying3 Try.underlying61) (by kernel_rfl)) (by decide) ?_
  refine GL.val (Ex.move rfl) (by decide) ?_
  refine GL.val (Ex.move rfl) (by decide) ?_
  refine GL.val (Ex.move rfl) (by decide) ?_
  refine GL.val (v := (.int .i64 3)) (Ex.len rfl Try.underlying28) (by decide) ?_
  refine GL.val (v := (.int .i64 1)) (Ex.quo rfl rfl (Z := 1) (by decide) (by decide)) (by decide) ?_
  refine GL.val (v := (.int .i64 1)) (Ex.sub' rfl rfl (Z := 1) (by decide)) (by decide) ?_
  refine GL.step (Stp.invokeR (σ := Unit) (p := fun rz => True) (v := fun rz => (.int .u32 1065353216)) (N := fun rz => []) (vs := [(.int .i64 1)]) rfl rfl (fun w => T.mth88 _ _ w) (by decide) (fun wc hw => (by have h := at_y 3 3 3 c0 0 1 1 [1065353216, 1065353216, 1065353216] 3 1 0 wc (by decide) (by decide) (by decide) (by decide +kernel) (by decide) rfl (hw.rdOf (i := 0) rfl 0); rw [show smp [1065353216, 1065353216, 1065353216] 3 1 (bord 3 ((1 : Nat) : Int) (0 + 1)).1.toNat = 1065353216 from by decide +kernel] at h; exact h))) (fun xq14 hq15 => ?_)
  refine GL.step (Stp.callR (vs := [(.int .u32 1065353216)]) rfl rfl T.own58 (by decide) (fun wc hw => k58_18  wc )) (fun xq16 hq17 => ?_)
  refine GL.val (v := (.float .f64 4607182418800017408)) (Ex.farith (r := 4607182418800017408) rfl rfl (by kernel_rfl)) (by decide) ?_
  refine GL.val (Ex.assign rfl) (by decide) ?_
  refine GL.nil ?_
  refine GE.thenN ?_
  refine GC.seq ?_
  refine GC.region ?_
  refine GL.val (Ex.move rfl) (by decide) ?_
  refine GL.val (Ex.move rfl) (by decide) ?_
  refine GL.val (v := (.int .i64 3)) (Ex.add rfl rfl (Z := 3) (by decide)) (by decide) ?_
  refine GL.val (Ex.assign rfl) (by decide) ?_
  refine GL.nil ?_
  refine GE.thenN ?_
  refine GC.seq ?_
  refine GC.seq ?_
  refine GC.region ?_
  refine GL.val (Ex.move rfl) (by decide) ?_
  refine GL.val (v := (.bool false)) (Ex.cast (Ex.eql rfl rfl) rfl) (by decide) ?_
  refine GL.nil ?_
  refine GE.thenN ?_
  refine GC.cond rfl (fun hq18 => by cases hq18) (fun _ => ?_)
  refine GC.skip ?_
  refine GE.thenN ?_
  refine GC.region ?_
  refine GL.val (Ex.move rfl) (by decide) ?_
  refine GL.val (Ex.move rfl) (by decide) ?_
  refine GL.val (v := (.float .f64 4613937818241073152)) (Ex.farith (r := 4613937818241073152) rfl rfl (by kernel_rfl)) (by decide) ?_
  refine GL.val (Ex.assign rfl) (by decide) ?_
  refine GL.nil ?_
  refine GE.blockN ?_
  refine GE.thenN ?_
  refine GC.region ?_
  refine GL.val (v := (.int .i64 3)) (Ex.add rfl rfl (Z := 3) (by decide)) (by decide) ?_
  refine GL.val (Ex.move rfl) (by decide) ?_
  refine GL.nil ?_
  refine GE.thenN ?_
  refine GE.round ?_
  refine GC.seq ?_
  refine GC.region ?_
  refine GL.val (v := (.bool false)) (Ex.cast (Ex.lss rfl rfl) rfl) (by decide) ?_
  refine GL.nil ?_
  refine GE.thenN ?_
  refine GC.seq ?_
  refine GC.cond rfl (fun hq19 => by cases hq19) (fun _ => ?_)
  refine GC.exit ?_
  refine GE.thenE ?_
  refine GE.thenE ?_
  refine GE.blockE ?_
  refine GE.thenN ?_
  refine GC.seq ?_
  refine GC.region ?_
  refine GL.val (Ex.move rfl) (by decide) ?_
  refine GL.val (Ex.move rfl) (by decide) ?_
  refine GL.val (v := (.float .f64 4613937818241073152)) (Ex.cast (Ex.cif rfl Try.underlying3 Try.underlying61) (by kernel_rfl)) (by decide) ?_
  refine GL.val (v := (.float .f64 4607182418800017408)) (Ex.farith (r := 4607182418800017408) rfl rfl (by kernel_rfl)) (by decide) ?_
  refine GL.step (Stp.callR (vs := [(.float .f64 4607182418800017408)]) rfl rfl T.own59 (by decide) (fun wc hw => k59_47  wc )) (fun xq20 hq21 => ?_)
  refine GL.val (Ex.assign rfl) (by decide) ?_
  refine GL.nil ?_
  refine GE.thenN ?_
  refine GC.ret ?_
  refine GC.ret1 rfl (Rv.tmp rfl) (fun wN HN => ?_)
  exact HN.ret () trivial rfl (ulS (ulS ulN)) rfl

set_option maxRecDepth 100000 in
set_option maxHeartbeats 1000000 in
theorem k49_56 (c0 : Nat) (c1 : Nat) (w : World) (hh : Has w [⟨c0, [(.int .u32 1065353216), (.int .u32 1065353216), (.int .u32 1065353216)], 63, false⟩, ⟨c1, [(.int .i64 1), (.int .i64 1), (.int .i64 1)], 3, false⟩]) :
    Calls Try.prog 49 #[(.iface 108 (.agg #[(.int .i64 3), (.int .i64 1), (.slice (some ⟨c0, 0, none⟩) 3 3), (.int .i64 3), (.int .i64 2), (.int .i64 0), (.bool true)])), (.slice (some ⟨c1, 0, none⟩) 3 3)] w (Ret w (fun _ : Unit => True) (fun rz => (.int .u32 1065353216)) (fun rz => [])) := by
  refine enter (M := None) (L := [⟨c0, [(.int .u32 1065353216), (.int .u32 1065353216), (.int .u32 1065353216)], 63, false⟩, ⟨c1, [(.int .i64 1), (.int .i64 1), (.int .i64 1)], 3, false⟩]) (n := 43) (l := [(0, (.iface 108 (.agg #[(.int .i64 3), (.int .i64 1), (.slice (some ⟨c0, 0, none⟩) 3 3), (.int .i64 3), (.int .i64 2), (.int .i64 0), (.bool true)]))), (1, (.slice (some ⟨c1, 0, none⟩) 3 3))]) Try.func49 rfl rfl (Args.cons rfl (Args.cons rfl (Args.nil _))) (Hp.reads hh rfl) ?_
  refine GC.seq ?_
  refine GC.region ?_
  refine GL.val (Ex.assign rfl) (by decide) ?_
  refine GL.nil ?_
  refine GE.thenN ?_
  refine GC.seq ?_
  refine GC.region ?_
  refine GL.val (Ex.assign rfl) (by decide) ?_
  refine GL.val (Ex.assign rfl) (by decide) ?_
  refine GL.nil ?_
  refine GE.thenN ?_
  refine GC.seq ?_
  refine GC.seq ?_
  refine GC.region ?_
  refine GL.val (Ex.move rfl) (by decide) ?_
  refine GL.val (v := (.int .i64 3)) (Ex.len rfl Try.underlying28) (by decide) ?_
  refine GL.val (Ex.move rfl) (by decide) ?_
  refine GL.nil ?_
  refine GE.thenN ?_
  refine GC.block ?_
  refine GC.unroll 60 ?_
  refine GE.round ?_
  refine GC.seq ?_
  refine GC.region ?_
  refine GL.val (v := (.bool true)) (Ex.cast (Ex.lss rfl rfl) rfl) (by decide) ?_
  refine GL.nil ?_
  refine GE.thenN ?_
  refine GC.seq ?_
  refine GC.cond rfl (fun _ => ?_) (fun hq1 => by cases hq1)
  refine GC.skip ?_
  refine GE.thenN ?_
  refine GC.seq ?_
  refine GC.block ?_
  refine GC.seq ?_
  refine GC.region ?_
  refine GL.val (Ex.move rfl) (by decide) ?_
  refine GL.val (v := (.pointer (some ⟨c1, 0, none⟩))) (Ex.cast (Ex.indexAddr rfl rfl Try.underlying28 T.sz3 (by omega) (by omega)) rfl) (by decide) ?_
  refine GL.val (Ex.load rfl T.ag3 (i := 1) rfl rfl) (by decide) ?_
  refine GL.val (Ex.assign rfl) (by decide) ?_
  refine GL.val (Ex.assign rfl) (by decide) ?_
  refine GL.nil ?_
  refine GE.thenN ?_
  refine GC.seq ?_
  refine GC.region ?_
  refine GL.val (Ex.move rfl) (by decide) ?_
  refine GL.val (v := (.float .f64 4607182418800017408)) (Ex.cast (Ex.cif rfl Try.underlying3 Try.underlying61) (by kernel_rfl)) (by decide) ?_
  refine GL.val (Ex.move rfl) (by decide) ?_
  refine GL.val (Ex.move rfl) (by decide) ?_
  refine GL.val (Ex.move rfl) (by decide) ?_
  refine GL.val (v := (.int .i64 3)) (Ex.len rfl Try.underlying28) (by decide) ?_
  refine GL.val (v := (.int .i64 1)) (Ex.quo rfl rfl (Z := 1) (by decide) (by decide)) (by decide) ?_
  refine GL.val (v := (.int .i64 (-1))) (Ex.sub' rfl rfl (Z := -1) (by decide)) (by decide) ?_
  refine GL.step (Stp.invokeR (σ := Unit) (p := fun rz => True) (v := fun rz => (.int .u32 1065353216)) (N := fun rz => []) (vs := [(.int .i64 (-1))]) rfl rfl (fun w => T.mth88 _ _ w) (by decide) (fun wc hw => (by have h := at_y 3 3 3 c0 0 1 2 [1065353216, 1065353216, 1065353216] 3 (-1) 0 wc (by decide) (by decide) (by decide) (by decide +kernel) (by decide) rfl (hw.rdOf (i := 0) rfl 0); rw [show smp [1065353216, 1065353216, 1065353216] 3 2 (bord 3 ((1 : Nat) : Int) (0 + (-1))).1.toNat = 1065353216 from by decide +kernel] at h; exact h))) (fun xq2 hq3 => ?_)
  refine GL.step (Stp.callR (vs := [(.int .u32 1065353216)]) rfl rfl T.own58 (by decide) (fun wc hw => k58_18  wc )) (fun xq4 hq5 => ?_)
  refine GL.val (v := (.float .f64 4607182418800017408)) (Ex.farith (r := 4607182418800017408) rfl rfl (by kernel_rfl)) (by decide) ?_
  refine GL.val (Ex.assign rfl) (by decide) ?_
  refine GL.nil ?_
  refine GE.thenN ?_
  refine GC.seq ?_
  refine GC.region ?_
  refine GL.val (Ex.move rfl) (by decide) ?_
  refine GL.val (Ex.move rfl) (by decide) ?_
  refine GL.val (v := (.int .i64 1)) (Ex.add rfl rfl (Z := 1) (by decide)) (by decide) ?_
  refine GL.val (Ex.assign rfl) (by decide) ?_
  refine GL.nil ?_
  refine GE.thenN ?_
  refine GC.seq ?_
  refine GC.seq ?_
  refine GC.region ?_
  refine GL.val (Ex.move rfl) (by decide) ?_
  refine GL.val (v := (.bool true)) (Ex.cast (Ex.eql rfl rfl) rfl) (by decide) ?_
  refine GL.nil ?_
  refine GE.thenN ?_
  refine GC.cond rfl (fun _ => ?_) (fun hq6 => by cases hq6)
  refine GC.seq ?_
  refine GC.region ?_
  refine GL.val (Ex.move rfl) (by decide) ?_
  refine GL.val (Ex.assign rfl) (by decide) ?_
  refine GL.nil ?_
  refine GE.thenN ?_
  refine GC.exit ?_
  refine GE.thenE ?_
  refine GE.blockE ?_
  refine GE.thenN ?_
  refine GC.region ?_
  refine GL.val (v := (.int .i64 1)) (Ex.add rfl rfl (Z := 1) (by decide)) (by decide) ?_
  refine GL.val (Ex.move rfl) (by decide) ?_
  refine GL.nil ?_
  refine GE.thenN ?_
  refine GE.round ?_
  refine GC.seq ?_
  refine GC.region ?_
  refine GL.val (v := (.bool true)) (Ex.cast (Ex.lss rfl rfl) rfl) (by decide) ?_
  refine GL.nil ?_
  refine GE.thenN ?_
  refine GC.seq ?_
  refine GC.cond rfl (fun _ => ?_) (fun hq7 => by cases hq7)
  refine GC.skip ?_
  refine GE.thenN ?_
  refine GC.seq ?_
  refine GC.block ?_
  refine GC.seq ?_
  refine GC.region ?_
  refine GL.val (Ex.move rfl) (by decide) ?_
  refine GL.val (v := (.pointer (some ⟨c1, 1, none⟩))) (Ex.cast (Ex.indexAddr rfl rfl Try.underlying28 T.sz3 (by omega) (by omega)) rfl) (by decide) ?_
  refine GL.val (Ex.load rfl T.ag3 (i := 1) rfl rfl) (by decide) ?_
  refine GL.val (Ex.assign rfl) (by decide) ?_
  refine GL.val (Ex.assign rfl) (by decide) ?_
  refine GL.nil ?_
  refine GE.thenN ?_
  refine GC.seq ?_
  refine GC.region ?_
  refine GL.val (Ex.move rfl) (by decide) ?_
  refine GL.val (v := (.float .f64 4607182418800017408)) (Ex.cast (Ex.cif rfl Try.underlying3 Try.underlying61) (by kernel_rfl)) (by decide) ?_
  refine GL.val (Ex.move rfl) (by decide) ?_
  refine GL.val (Ex.move rfl) (by decide) ?_
  refine GL.val (Ex.move rfl) (by decide) ?_
  refine GL.val (v := (.int .i64 3)) (Ex.len rfl Try.underlying28) (by decide) ?_
  refine GL.val (v := (.int .i64 1)) (Ex.quo rfl rfl (Z := 1) (by decide) (by decide)) (by decide) ?_
  refine GL.val (v := (.int .i64 0)) (Ex.sub' rfl rfl (Z := 0) (by decide)) (by decide) ?_
  refine GL.step (Stp.invokeR (σ := Unit) (p := fun rz => True) (v := fun rz => (.int .u32 1065353216)) (N := fun rz => []) (vs := [(.int .i64 0)]) rfl rfl (fun w => T.mth88 _ _ w) (by decide) (fun wc hw => (by have h := at_y 3 3 3 c0 0 1 2 [1065353216, 1065353216, 1065353216] 3 0 0 wc (by decide) (by decide) (by decide) (by decide +kernel) (by decide) rfl (hw.rdOf (i := 0) rfl 0); rw [show smp [1065353216, 1065353216, 1065353216] 3 2 (bord 3 ((1 : Nat) : Int) (0 + 0)).1.toNat = 1065353216 from by decide +kernel] at h; exact h))) (fun xq8 hq9 => ?_)
  refine GL.step (Stp.callR (vs := [(.int .u32 1065353216)]) rfl rfl T.own58 (by decide) (fun wc hw => k58_18  wc )) (fun xq10 hq11 => ?_)
  refine GL.val (v := (.float .f64 4607182418800017408)) (Ex.farith (r := 4607182418800017408) rfl rfl (by kernel_rfl)) (by decide) ?_
  refine GL.val (Ex.assign rfl) (by decide) ?_
  refine GL.nil ?_
  refine GE.thenN ?_
  refine GC.seq ?_
  refine GC.region ?_
  refine GL.val (Ex.move rfl) (by decide) ?_
  refine GL.val (Ex.move rfl) (by decide) ?_
  refine GL.val (v := (.int .i64 2)) (Ex.add rfl rfl (Z := 2) (by decide)) (by decide) ?_
  refine GL.val (Ex.assign rfl) (by decide) ?_
  refine GL.nil ?_
  refine GE.thenN ?_
  refine GC.seq ?_
  refine GC.seq ?_
  refine GC.region ?_
  refine GL.val (Ex.move rfl) (by decide) ?_
  refine GL.val (v := (.bool false)) (Ex.cast (Ex.eql rfl rfl) rfl) (by decide) ?_
  refine GL.nil ?_
  refine GE.thenN ?_
  refine GC.cond rfl (fun hq12 => by cases hq12) (fun _ => ?_)
  refine GC.skip ?_
  refine GE.thenN ?_
  refine GC.region ?_
  refine GL.val (Ex.move rfl) (by decide) ?_
  refine GL.val (Ex.move rfl) (by decide) ?_
  refine GL.val (v := (.float .f64 4611686018427387904)) (Ex.farith (r := 4611686018427387904) rfl rfl (by kernel_rfl)) (by decide) ?_
  refine GL.val (Ex.assign rfl) (by decide) ?_
  refine GL.nil ?_
  refine GE.blockN ?_
  refine GE.thenN ?_
  refine GC.region ?_
  refine GL.val (v := (.int .i64 2)) (Ex.add rfl rfl (Z := 2) (by decide)) (by decide) ?_
  refine GL.val (Ex.move rfl) (by decide) ?_
  refine GL.nil ?_
  refine GE.thenN ?_
  refine GE.round ?_
  refine GC.seq ?_
  refine GC.region ?_
  refine GL.val (v := (.bool true)) (Ex.cast (Ex.lss rfl rfl) rfl) (by decide) ?_
  refine GL.nil ?_
  refine GE.thenN ?_
  refine GC.seq ?_
  refine GC.cond rfl (fun _ => ?_) (fun hq13 => by cases hq13)
  refine GC.skip ?_
  refine GE.thenN ?_
  refine GC.seq ?_
  refine GC.block ?_
  refine GC.seq ?_
  refine GC.region ?_
  refine GL.val (Ex.move rfl) (by decide) ?_
  refine GL.val (v := (.pointer (some ⟨c1, 2, none⟩))) (Ex.cast (Ex.indexAddr rfl rfl Try.underlying28 T.sz3 (by omega) (by omega)) rfl) (by decide) ?_
  refine GL.val (Ex.load rfl T.ag3 (i := 1) rfl rfl) (by decide) ?_
  refine GL.val (Ex.assign rfl) (by decide) ?_
  refine GL.val (Ex.assign rfl) (by decide) ?_
  refine GL.nil ?_
  refine GE.thenN ?_
  refine GC.seq ?_
  refine GC.region ?_
  refine GL.val (Ex.move rfl) (by decide) ?_
  refine GL.val (v := (.float .f64 4607182418800017408)) (Ex.cast (Ex.cif rfl Try.underlying3 Try.underlying61) (by kernel_rfl)) (by decide) ?_
  refine GL.val (Ex.move rfl) (by decide) ?_
  refine GL.val (Ex.move rfl) (by decide) ?_
  refine GL.val (Ex.move rfl) (by decide) ?_
  refine GL.val (v := (.int .i64 3)) (Ex.len rfl Try.underlying28) (by decide) ?_
  refine GL.val (v := (.int .i64 1)) (Ex.quo rfl rfl (Z := 1) (by decide) (by decide)) (by decide) ?_
  refine GL.val (v := (.int .i64 1)) (Ex.sub' rfl rfl (Z := 1) (by decide)) (by decide) ?_
  refine GL.step (Stp.invokeR (σ := Unit) (p := fun rz => True) (v := fun rz => (.int .u32 1065353216)) (N := fun rz => []) (vs := [(.int .i64 1)]) rfl rfl (fun w => T.mth88 _ _ w) (by decide) (fun wc hw => (by have h := at_y 3 3 3 c0 0 1 2 [1065353216, 1065353216, 1065353216] 3 1 0 wc (by decide) (by decide) (by decide) (by decide +kernel) (by decide) rfl (hw.rdOf (i := 0) rfl 0); rw [show smp [1065353216, 1065353216, 1065353216] 3 2 (bord 3 ((1 : Nat) : Int) (0 + 1)).1.toNat = 1065353216 from by decide +kernel] at h; exact h))) (fun xq14 hq15 => ?_)
  refine GL.step (Stp.callR (vs := [(.int .u32 1065353216)]) rfl rfl T.own58 (by decide) (fun wc hw => k58_18  wc )) (fun xq16 hq17 => ?_)
  refine GL.val (v := (.float .f64 4607182418800017408)) (Ex.farith (r := 4607182418800017408) rfl rfl (by kernel_rfl)) (by decide) ?_
  refine GL.val (Ex.assign rfl) (by decide) ?_
  refine GL.nil ?_
  refine GE.thenN ?_
  refine GC.seq ?_
  refine GC.region ?_
  refine GL.val (Ex.move rfl) (by decide) ?_
  refine GL.val (Ex.move rfl) (by decide) ?_
  refine GL.val (v := (.int .i64 3)) (Ex.add rfl rfl (Z := 3) (by decide)) (by decide) ?_
  refine GL.val (Ex.assign rfl) (by decide) ?_
  refine GL.nil ?_
  refine GE.thenN ?_
  refine GC.seq ?_
  refine GC.seq ?_
  refine GC.region ?_
  refine GL.val (Ex.move rfl) (by decide) ?_
  refine GL.val (v := (.bool false)) (Ex.cast (Ex.eql rfl rfl) rfl) (by decide) ?_
  refine GL.nil ?_
  refine GE.thenN ?_
  refine GC.cond rfl (fun hq18 => by cases hq18) (fun _ => ?_)
  refine GC.skip ?_
  refine GE.thenN ?_
  refine GC.region ?_
  refine GL.val (Ex.move rfl) (by decide) ?_
  refine GL.val (Ex.move rfl) (by decide) ?_
  refine GL.val (v := (.float .f64 4613937818241073152)) (Ex.farith (r := 4613937818241073152) rfl rfl (by kernel_rfl)) (by decide) ?_
  refine GL.val (Ex.assign rfl) (by decide) ?_
  refine GL.nil ?_
  refine GE.blockN ?_
  refine GE.thenN ?_
  refine GC.region ?_
  refine GL.val (v := (.int .i64 3)) (Ex.add rfl rfl (Z := 3) (by decide)) (by decide) ?_
  refine GL.val (Ex.move rfl) (by decide) ?_
  refine GL.nil ?_
  refine GE.thenN ?_
  refine GE.round ?_
  refine GC.seq ?_
  refine GC.region ?_
  refine GL.val (v := (.bool false)) (Ex.cast (Ex.lss rfl rfl) rfl) (by decide) ?_
  refine GL.nil ?_
  refine GE.thenN ?_
  refine GC.seq ?_
  refine GC.cond rfl (fun hq19 => by cases hq19) (fun _ => ?_)
  refine GC.exit ?_
  refine GE.thenE ?_
  refine GE.thenE ?_
  refine GE.blockE ?_
  refine GE.thenN ?_
  refine GC.seq ?_
  refine GC.region ?_
  refine GL.val (Ex.move rfl) (by decide) ?_
  refine GL.val (Ex.move rfl) (by decide) ?_
  refine GL.val (v := (.float .f64 4613937818241073152)) (Ex.cast (Ex.cif rfl Try.underlying3 Try.underlying61) (by kernel_rfl)) (by decide) ?_
  refine GL.val (v := (.float .f64 4607182418800017408)) (Ex.farith (r := 4607182418800017408) rfl rfl (by kernel_rfl)) (by decide) ?_
  refine GL.step (Stp.callR (vs := [(.float .f64 4607182418800017408)]) rfl rfl T.own59 (by decide) (fun wc hw => k59_47  wc )) (fun xq20 hq21 => ?_)
  refine GL.val (Ex.assign rfl) (by decide) ?_
  refine GL.nil ?_
  refine GE.thenN ?_
  refine GC.ret ?_
  refine GC.ret1 rfl (Rv.tmp rfl) (fun wN HN => ?_)
  exact HN.ret () trivial rfl (ulS (ulS ulN)) rfl

set_option maxRecDepth 100000 in
set_option maxHeartbeats 1000000 in
theorem k21_40 (c0 : Nat) (w : World) (hh : Has w [⟨c0, [(.int .u32 1077936128), (.int .u32 0), (.int .u32 0)], 63, false⟩]) :
    Calls Try.prog 21 #[(.agg #[(.int .i64 3), (.int .i64 1), (.slice (some ⟨c0, 0, none⟩) 3 3)]), (.int .i64 2), (.int .i64 1), (.int .i64 3)] w (Ret w (fun _ : Nat => True) (fun rz => (.tuple #[(.agg #[(.int .i64 3), (.int .i64 1), (.slice (some ⟨rz, 0, none⟩) 3 3)]), (.int .i64 0)])) (fun rz => [⟨rz, [(.int .u32 1065353216), (.int .u32 1065353216), (.int .u32 1065353216)], 63, true⟩])) := by
  refine enter (M := None) (L := [⟨c0, [(.int .u32 1077936128), (.int .u32 0), (.int .u32 0)], 63, false⟩]) (n := 45) (l := [(0, (.agg #[(.int .i64 3), (.int .i64 1), (.slice (some ⟨c0, 0, none⟩) 3 3)])), (1, (.int .i64 2)), (2, (.int .i64 1)), (3, (.int .i64 3))]) Try.func21 rfl rfl (Args.cons rfl (Args.cons rfl (Args.cons rfl (Args.cons rfl (Args.nil _))))) (Hp.reads hh rfl) ?_
  refine GC.seq ?_
  refine GC.region ?_
  refine GL.step (Stp.box (cs := [(.int .i64 3), (.int .i64 1), (.slice (some ⟨c0, 0, none⟩) 3 3)]) rfl rfl (by decide)) (fun bq1 _ => ?_)
  refine GL.step (Stp.alloc T.zr43 (by decide)) (fun bq2 _ => ?_)
  refine GL.val (Ex.assign rfl) (by decide) ?_
  refine GL.nil ?_
  refine GE.thenN ?_
  refine GC.seq ?_
  refine GC.seq ?_
  refine GC.region ?_
  refine GL.val (v := (.agg #[(.int .i64 3), (.int .i64 1), (.slice (some ⟨c0, 0, none⟩) 3 3)])) (Ex.loadA rfl T.ag43 T.sz43 (i := 1) rfl (vs := [(.int .i64 3), (.int .i64 1), (.slice (some ⟨c0, 0, none⟩) 3 3)]) rfl rfl) (by decide) ?_
  refine GL.step (Stp.callR (vs := [(.agg #[(.int .i64 3), (.int .i64 1), (.slice (some ⟨c0, 0, none⟩) 3 3)])]) rfl rfl T.own46 (by decide) (fun wc hw => k46_41 c0 wc (Has.cons (hw.hasOf (i := 2) rfl) (Has.nil _)))) (fun xq3 hq4 => ?_)
  refine GL.val (Ex.assign rfl) (by decide) ?_
  refine GL.nil ?_
  refine GE.thenN ?_
  refine GC.seq ?_
  refine GC.region ?_
  refine GL.val (Ex.move rfl) (by decide) ?_
  refine GL.val (v := (.bool false)) (Ex.cast (Ex.neq rfl rfl) rfl) (by decide) ?_
  refine GL.nil ?_
  refine GE.thenN ?_
  refine GC.cond rfl (fun hq5 => by cases hq5) (fun _ => ?_)
  refine GC.skip ?_
  refine GE.thenN ?_
  refine GC.seq ?_
  refine GC.region ?_
  refine GL.val (Ex.move rfl) (by decide) ?_
  refine GL.val (Ex.move rfl) (by decide) ?_
  refine GL.step (Stp.callR (vs := [(.int .i64 2), (.int .i64 1)]) rfl rfl T.own14 (by decide) (fun wc hw => k14_2  wc )) (fun xq6 hq7 => ?_)
  refine GL.val (Ex.move rfl) (by decide) ?_
  refine GL.val (Ex.extract rfl rfl) (by decide) ?_
  refine GL.val (Ex.extract rfl rfl) (by decide) ?_
  refine GL.val (Ex.assign rfl) (by decide) ?_
  refine GL.val (Ex.assign rfl) (by decide) ?_
  refine GL.nil ?_
  refine GE.thenN ?_
  refine GC.seq ?_
  refine GC.seq ?_
  refine GC.region ?_
  refine GL.val (Ex.move rfl) (by decide) ?_
  refine GL.val (v := (.bool false)) (Ex.cast (Ex.neq rfl rfl) rfl) (by decide) ?_
  refine GL.nil ?_
  refine GE.thenN ?_
  refine GC.cond rfl (fun hq8 => by cases hq8) (fun _ => ?_)
  refine GC.skip ?_
  refine GE.thenN ?_
  refine GC.seq ?_
  refine GC.seq ?_
  refine GC.region ?_
  refine GL.val (Ex.move rfl) (by decide) ?_
  refine GL.step (Stp.callR (vs := [(.int .i64 3)]) rfl rfl T.own47 (by decide) (fun wc hw => k47_43  wc )) (fun xq9 hq10 => ?_)
  refine GL.val (Ex.assign rfl) (by decide) ?_
  refine GL.nil ?_
  refine GE.thenN ?_
  refine GC.seq ?_
  refine GC.region ?_
  refine GL.val (Ex.move rfl) (by decide) ?_
  refine GL.val (v := (.bool false)) (Ex.cast (Ex.neq rfl rfl) rfl) (by decide) ?_
  refine GL.nil ?_
  refine GE.thenN ?_
  refine GC.cond rfl (fun hq11 => by cases hq11) (fun _ => ?_)
  refine GC.skip ?_
  refine GE.thenN ?_
  refine GC.seq ?_
  refine GC.region ?_
  refine GL.val (v := (.agg #[(.int .i64 3), (.int .i64 1), (.slice (some ⟨c0, 0, none⟩) 3 3)])) (Ex.loadA rfl T.ag43 T.sz43 (i := 2) rfl (vs := [(.int .i64 3), (.int .i64 1), (.slice (some ⟨c0, 0, none⟩) 3 3)]) rfl rfl) (by decide) ?_
  refine GL.val (Ex.move rfl) (by decide) ?_
  refine GL.val (Ex.move rfl) (by decide) ?_
  refine GL.step (Stp.callR (σ := Nat) (p := fun rz => True) (v := fun rz => (.agg #[(.int .i64 3), (.int .i64 1), (.slice (some ⟨rz, 0, none⟩) 3 3)])) (N := fun rz => [⟨rz, [(.int .u32 1065353216), (.int .u32 1065353216), (.int .u32 1065353216)], 63, true⟩]) (vs := [(.agg #[(.int .i64 3), (.int .i64 1), (.slice (some ⟨c0, 0, none⟩) 3 3)]), (.int .i64 3), (.bool false), (.slice (some ⟨xq6, 0, none⟩) 3 3), (.func (.func 49) #[] #[])]) rfl rfl T.own48 (by decide) (fun wc hw => (by
    have h := sweepW 3 1 3 3 (some ⟨c0, 0, none⟩) 3 false 49 (.slice (some ⟨xq6, 0, none⟩) 3 3) (fun x y => smp [1065353216, 1065353216, 1065353216] 3 x y) wc rfl ⟨T.own49, fun x y w' hx hy hk => by
      have hc : (x = 0 ∧ y = 0) ∨ (x = 1 ∧ y = 0) ∨ (x = 2 ∧ y = 0) := by omega
      rcases hc with ⟨rfl, rfl⟩ | ⟨rfl, rfl⟩ | ⟨rfl, rfl⟩
      · exact k49_45 c0 xq6 w' (Has.later (Has.cons (hw.hasOf (i := 3) rfl) (Has.cons (hw.hasOf (i := 0) rfl) (Has.nil _))) hk)
      · exact k49_52 c0 xq6 w' (Has.later (Has.cons (hw.hasOf (i := 3) rfl) (Has.cons (hw.hasOf (i := 0) rfl) (Has.nil _))) hk)
      · exact k49_53 c0 xq6 w' (Has.later (Has.cons (hw.hasOf (i := 3) rfl) (Has.cons (hw.hasOf (i := 0) rfl) (Has.nil _))) hk)⟩ (by decide) (by decide) (by decide)
    rw [show tab 3 (fun x y => smp [1065353216, 1065353216, 1065353216] 3 x y) (3 * 1) = [1065353216, 1065353216, 1065353216] from by decide +kernel] at h
    exact h))) (fun xq12 hq13 => ?_)
  refine GL.step (Stp.alloc T.zr43 (by decide)) (fun bq14 _ => ?_)
  refine GL.step (Stp.st0 (cs' := [(.int .i64 3), (.int .i64 1), (.slice (some ⟨xq12, 0, none⟩) 3 3)]) rfl rfl rfl T.sz43 rfl rfl rfl) (fun _ _ => ?_)
  refine GL.nil ?_
  refine GE.thenN ?_
  refine GC.seq ?_
  refine GC.region ?_
  refine GL.val (v := (.agg #[(.int .i64 3), (.int .i64 1), (.slice (some ⟨xq12, 0, none⟩) 3 3)])) (Ex.loadA rfl T.ag43 T.sz43 (i := 0) rfl (vs := [(.int .i64 3), (.int .i64 1), (.slice (some ⟨xq12, 0, none⟩) 3 3)]) rfl rfl) (by decide) ?_
  refine GL.val (Ex.move rfl) (by decide) ?_
  refine GL.val (Ex.move rfl) (by decide) ?_
  refine GL.step (Stp.callR (σ := Nat) (p := fun rz => True) (v := fun rz => (.agg #[(.int .i64 3), (.int .i64 1), (.slice (some ⟨rz, 0, none⟩) 3 3)])) (N := fun rz => [⟨rz, [(.int .u32 1065353216), (.int .u32 1065353216), (.int .u32 1065353216)], 63, true⟩]) (vs := [(.agg #[(.int .i64 3), (.int .i64 1), (.slice (some ⟨xq12, 0, none⟩) 3 3)]), (.int .i64 3), (.bool true), (.slice (some ⟨xq6, 0, none⟩) 3 3), (.func (.func 49) #[] #[])]) rfl rfl T.own48 (by decide) (fun wc hw => (by
    have h := sweepW 3 1 3 3 (some ⟨xq12, 0, none⟩) 3 true 49 (.slice (some ⟨xq6, 0, none⟩) 3 3) (fun x y => smp [1065353216, 1065353216, 1065353216] 3 x y) wc rfl ⟨T.own49, fun x y w' hx hy hk => by
      have hc : (x = 0 ∧ y = 0) ∨ (x = 1 ∧ y = 0) ∨ (x = 2 ∧ y = 0) := by omega
      rcases hc with ⟨rfl, rfl⟩ | ⟨rfl, rfl⟩ | ⟨rfl, rfl⟩
      · exact k49_54 xq12 xq6 w' (Has.later (Has.cons (hw.hasOf (i := 1) rfl) (Has.cons (hw.hasOf (i := 2) rfl) (Has.nil _))) hk)
      · exact k49_55 xq12 xq6 w' (Has.later (Has.cons (hw.hasOf (i := 1) rfl) (Has.cons (hw.hasOf (i := 2) rfl) (Has.nil _))) hk)
      · exact k49_56 xq12 xq6 w' (Has.later (Has.cons (hw.hasOf (i := 1) rfl) (Has.cons (hw.hasOf (i := 2) rfl) (Has.nil _))) hk)⟩ (by decide) (by decide) (by decide)
    rw [show tab 3 (fun x y => smp [1065353216, 1065353216, 1065353216] 3 x y) (3 * 1) = [1065353216, 1065353216, 1065353216] from by decide +kernel] at h
    exact h))) (fun xq15 hq16 => ?_)
  refine GL.step (Stp.st4 (cs' := [(.int .i64 3), (.int .i64 1), (.slice (some ⟨xq15, 0, none⟩) 3 3)]) rfl rfl rfl T.sz43 rfl rfl rfl) (fun _ _ => ?_)
  refine GL.val (Ex.assign rfl) (by decide) ?_
  refine GL.nil ?_
  refine GE.thenN ?_
  refine GC.ret ?_
  refine GC.ret2 rfl (Rv.cellA rfl T.ag43 T.sz43 (L := _) (i := 4) rfl (vs := [(.int .i64 3), (.int .i64 1), (.slice (some ⟨xq15, 0, none⟩) 3 3)]) rfl rfl) (Rv.tmp rfl) (fun wN HN => ?_)
  exact HN.ret xq15 trivial rfl (ulC (ulS (ulS (ulS (ulS (ulS (ulS ulN))))))) rfl

set_option maxRecDepth 100000 in
set_option maxHeartbeats 1000000 in
theorem k38_57 (c0 : Nat) (w : World) (hh : Has w [⟨c0, [(.int .u32 1065353216), (.int .u32 1073741824), (.int .u32 1082130432)], 63, false⟩]) :
    Calls Try.prog 38 #[(.slice (some ⟨c0, 0, none⟩) 3 3)] w (Ret w (fun _ : Unit => True) (fun rz => (.agg #[(.int .i64 3), (.int .i64 1), (.slice (some ⟨c0, 0, none⟩) 3 3)])) (fun rz => [])) := by
  refine enter (M := None) (L := [⟨c0, [(.int .u32 1065353216), (.int .u32 1073741824), (.int .u32 1082130432)], 63, false⟩]) (n := 7) (l := [(0, (.slice (some ⟨c0, 0, none⟩) 3 3))]) Try.func38 rfl rfl (Args.cons rfl (Args.nil _)) (Hp.reads hh rfl) ?_
  refine GC.seq ?_
  refine GC.region ?_
  refine GL.step (Stp.alloc T.zr43 (by decide)) (fun bq1 _ => ?_)
  refine GL.nil ?_
  refine GE.thenN ?_
  refine GC.seq ?_
  refine GC.region ?_
  refine GL.val (Ex.move rfl) (by decide) ?_
  refine GL.val (v := (.int .i64 3)) (Ex.len rfl Try.underlying41) (by decide) ?_
  refine GL.val (Ex.move rfl) (by decide) ?_
  refine GL.val (v := (.agg #[(.int .i64 3), (.int .i64 1), (.slice (some ⟨c0, 0, none⟩) 3 3)])) (Ex.build (vs := [(0, (.int .i64 3)), (1, (.int .i64 1)), (2, (.slice (some ⟨c0, 0, none⟩) 3 3))]) rfl (by first | rfl | kernel_rfl)) (by decide) ?_
  refine GL.step (Stp.st0 (cs' := [(.int .i64 3), (.int .i64 1), (.slice (some ⟨c0, 0, none⟩) 3 3)]) rfl rfl rfl T.sz43 rfl rfl rfl) (fun _ _ => ?_)
  refine GL.nil ?_
  refine GE.thenN ?_
  refine GC.ret ?_
  refine GC.ret1 rfl (Rv.cellA rfl T.ag43 T.sz43 (L := _) (i := 0) rfl (vs := [(.int .i64 3), (.int .i64 1), (.slice (some ⟨c0, 0, none⟩) 3 3)]) rfl rfl) (fun wN HN => ?_)
  exact HN.ret () trivial rfl (ulS (ulS ulN)) rfl

set_option maxRecDepth 100000 in
set_option maxHeartbeats 1000000 in
theorem k46_59 (c0 : Nat) (w : World) (hh : Has w [⟨c0, [(.int .u32 1065353216), (.int .u32 1073741824), (.int .u32 1082130432)], 63, false⟩]) :
    Calls Try.prog 46 #[(.agg #[(.int .i64 3), (.int .i64 1), (.slice (some ⟨c0, 0, none⟩) 3 3)])] w (Ret w (fun _ : Unit => True) (fun rz => (.int .i64 0)) (fun rz => [])) := by
  refine enter (M := None) (L := [⟨c0, [(.int .u32 1065353216), (.int .u32 1073741824), (.int .u32 1082130432)], 63, false⟩]) (n := 20) (l := [(0, (.agg #[(.int .i64 3), (.int .i64 1), (.slice (some ⟨c0, 0, none⟩) 3 3)]))]) Try.func46 rfl rfl (Args.cons rfl (Args.nil _)) (Hp.reads hh rfl) ?_
  refine GC.seq ?_
  refine GC.region ?_
  refine GL.step (Stp.box (cs := [(.int .i64 3), (.int .i64 1), (.slice (some ⟨c0, 0, none⟩) 3 3)]) rfl rfl (by decide)) (fun bq1 _ => ?_)
  refine GL.val (Ex.assign rfl) (by decide) ?_
  refine GL.nil ?_
  refine GE.thenN ?_
  refine GC.seq ?_
  refine GC.block ?_
  refine GC.seq ?_
  refine GC.region ?_
  refine GL.val (v := (.pointer (some ⟨bq1, 0, none⟩))) (Ex.cast (Ex.fieldAddr rfl Try.underlying43 rfl T.sz3 (by decide)) rfl) (by decide) ?_
  refine GL.val (Ex.load rfl T.ag3 (i := 0) rfl rfl) (by decide) ?_
  refine GL.val (v := (.pointer (some ⟨bq1, 1, none⟩))) (Ex.cast (Ex.fieldAddr rfl Try.underlying43 rfl T.sz3 (by decide)) rfl) (by decide) ?_
  refine GL.val (Ex.load rfl T.ag3 (i := 0) rfl rfl) (by decide) ?_
  refine GL.step (Stp.callR (vs := [(.int .i64 3), (.int .i64 1)]) rfl rfl T.own60 (by decide) (fun wc hw => k60_42  wc )) (fun xq2 hq3 => ?_)
  refine GL.val (v := (.bool false)) (Ex.cast (Ex.not rfl) rfl) (by decide) ?_
  refine GL.val (Ex.assign rfl) (by decide) ?_
  refine GL.nil ?_
  refine GE.thenN ?_
  refine GC.cond rfl (fun hq4 => by cases hq4) (fun _ => ?_)
  refine GC.seq ?_
  refine GC.region ?_
  refine GL.val (v := (.pointer (some ⟨bq1, 2, none⟩))) (Ex.cast (Ex.fieldAddr rfl Try.underlying43 rfl T.sz41 (by decide)) rfl) (by decide) ?_
  refine GL.val (Ex.load rfl T.ag41 (i := 0) rfl rfl) (by decide) ?_
  refine GL.val (v := (.int .i64 3)) (Ex.len rfl Try.underlying41) (by decide) ?_
  refine GL.val (v := (.pointer (some ⟨bq1, 0, none⟩))) (Ex.cast (Ex.fieldAddr rfl Try.underlying43 rfl T.sz3 (by decide)) rfl) (by decide) ?_
  refine GL.val (Ex.load rfl T.ag3 (i := 0) rfl rfl) (by decide) ?_
  refine GL.val (v := (.pointer (some ⟨bq1, 1, none⟩))) (Ex.cast (Ex.fieldAddr rfl Try.underlying43 rfl T.sz3 (by decide)) rfl) (by decide) ?_
  refine GL.val (Ex.load rfl T.ag3 (i := 0) rfl rfl) (by decide) ?_
  refine GL.val (v := (.int .i64 3)) (Ex.mul rfl rfl (Z := 3) (by decide)) (by decide) ?_
  refine GL.val (v := (.bool false)) (Ex.cast (Ex.neq rfl rfl) rfl) (by decide) ?_
  refine GL.val (Ex.assign rfl) (by decide) ?_
  refine GL.nil ?_
  refine GE.thenN ?_
  refine GC.cond rfl (fun hq5 => by cases hq5) (fun _ => ?_)
  refine GC.skip ?_
  refine GE.blockN ?_
  refine GE.thenN ?_
  refine GC.seq ?_
  refine GC.region ?_
  refine GL.val (Ex.assign rfl) (by decide) ?_
  refine GL.nil ?_
  refine GE.thenN ?_
  refine GC.ret ?_
  refine GC.ret1 rfl (Rv.tmp rfl) (fun wN HN => ?_)
  exact HN.ret () trivial rfl (ulS (ulS ulN)) rfl

set_option maxRecDepth 100000 in
set_option maxHeartbeats 1000000 in
theorem k58_61 (w : World) :
    Calls Try.prog 58 #[(.int .u32 1073741824)] w (Ret w (fun _ : Unit => True) (fun rz => (.float .f64 4611686018427387904)) (fun rz => [])) := by
  refine enter (M := None) (L := []) (n := 6) (l := [(0, (.int .u32 1073741824))]) Try.func58 rfl rfl (Args.cons rfl (Args.nil _)) (Hp.start _ _) ?_
  refine GC.seq ?_
  refine GC.region ?_
  refine GL.val (Ex.assign rfl) (by decide) ?_
  refine GL.nil ?_
  refine GE.thenN ?_
  refine GC.seq ?_
  refine GC.region ?_
  refine GL.val (Ex.move rfl) (by decide) ?_
  refine GL.val (v := (.float .f32 1073741824)) (Ex.ext (vs := [(.int .u32 1073741824)]) rfl rfl T.ext55 (fun _ => by first | rfl | kernel_rfl)) (by decide) ?_
  refine GL.val (v := (.float .f64 4611686018427387904)) (Ex.cff (r := 4611686018427387904) rfl Try.underlying98 Try.underlying61 (by kernel_rfl)) (by decide) ?_
  refine GL.val (Ex.assign rfl) (by decide) ?_
  refine GL.nil ?_
  refine GE.thenN ?_
  refine GC.ret ?_
  refine GC.ret1 rfl (Rv.tmp rfl) (fun wN HN => ?_)
  exact HN.ret () trivial rfl ulN rfl

set_option maxRecDepth 100000 in
set_option maxHeartbeats 1000000 in
theorem k54_60 (c0 : Nat) (w : World) (hh : Has w [⟨c0, [(.int .u32 1065353216), (.int .u32 1073741824), (.int .u32 1082130432)], 63, false⟩]) :
    Calls Try.prog 54 #[(.iface 108 (.agg #[(.int .i64 3), (.int .i64 1), (.slice (some ⟨c0, 0, none⟩) 3 3), (.int .i64 1), (.int .i64 0), (.int .i64 0), (.bool false)])), (.agg #[])] w (Ret w (fun _ : Unit => True) (fun rz => (.int .u32 1056964608)) (fun rz => [])) := by
  refine enter (M := None) (L := [⟨c0, [(.int .u32 1065353216), (.int .u32 1073741824), (.int .u32 1082130432)], 63, false⟩]) (n := 14) (l := [(0, (.iface 108 (.agg #[(.int .i64 3), (.int .i64 1), (.slice (some ⟨c0, 0, none⟩) 3 3), (.int .i64 1), (.int .i64 0), (.int .i64 0), (.bool false)]))), (1, (.agg #[]))]) Try.func54 rfl rfl (Args.cons rfl (Args.cons rfl (Args.nil _))) (Hp.reads hh rfl) ?_
  refine GC.seq ?_
  refine GC.region ?_
  refine GL.step (Stp.box (cs := []) rfl rfl (by decide)) (fun bq1 _ => ?_)
  refine GL.val (Ex.assign rfl) (by decide) ?_
  refine GL.nil ?_
  refine GE.thenN ?_
  refine GC.seq ?_
  refine GC.region ?_
  refine GL.val (Ex.move rfl) (by decide) ?_
  refine GL.step (Stp.invokeR (σ := Unit) (p := fun rz => True) (v := fun rz => (.int .u32 1073741824)) (N := fun rz => []) (vs := [(.int .i64 1)]) rfl rfl (fun w => T.mth88 _ _ w) (by decide) (fun wc hw => (by have h := at_x 3 3 3 c0 0 0 [1065353216, 1073741824, 1082130432] 1 1 1 0 wc (by decide) (by decide) (by decide) (by decide +kernel) (by decide) rfl (hw.rdOf (i := 1) rfl 0); rw [show smp [1065353216, 1073741824, 1082130432] 3 (bord 1 ((3 : Nat) : Int) (0 + 1)).1.toNat 0 = 1073741824 from by decide +kernel] at h; exact h))) (fun xq2 hq3 => ?_)
  refine GL.step (Stp.callR (vs := [(.int .u32 1073741824)]) rfl rfl T.own58 (by decide) (fun wc hw => k58_61  wc )) (fun xq4 hq5 => ?_)
  refine GL.val (Ex.move rfl) (by decide) ?_
  refine GL.step (Stp.invokeR (σ := Unit) (p := fun rz => True) (v := fun rz => (.int .u32 1065353216)) (N := fun rz => []) (vs := [(.int .i64 (-1))]) rfl rfl (fun w => T.mth88 _ _ w) (by decide) (fun wc hw => (by have h := at_x 3 3 3 c0 0 0 [1065353216, 1073741824, 1082130432] 1 (-1) 1 0 wc (by decide) (by decide) (by decide) (by decide +kernel) (by decide) rfl (hw.rdOf (i := 1) rfl 0); rw [show smp [1065353216, 1073741824, 1082130432] 3 (bord 1 ((3 : Nat) : Int) (0 + (-1))).1.toNat 0 = 1065353216 from by decide +kernel] at h; exact h))) (fun xq6 hq7 => ?_)
  refine GL.step (Stp.callR (vs := [(.int .u32 1065353216)]) rfl rfl T.own58 (by decide) (fun wc hw => k58_18  wc )) (fun xq8 hq9 => ?_)
  refine GL.val (v := (.float .f64 4607182418800017408)) (Ex.farith (r := 4607182418800017408) rfl rfl (by kernel_rfl)) (by decide) ?_
  refine GL.val (v := (.float .f64 4602678819172646912)) (Ex.farith (r := 4602678819172646912) rfl rfl (by kernel_rfl)) (by decide) ?_
  refine GL.step (Stp.callR (vs := [(.float .f64 4602678819172646912)]) rfl rfl T.own59 (by decide) (fun wc hw => k59_25  wc )) (fun xq10 hq11 => ?_)
  refine GL.val (Ex.assign rfl) (by decide) ?_
  refine GL.nil ?_
  refine GE.thenN ?_
  refine GC.ret ?_
  refine GC.ret1 rfl (Rv.tmp rfl) (fun wN HN => ?_)
  exact HN.ret () trivial rfl (ulS (ulS ulN)) rfl

set_option maxRecDepth 100000 in
set_option maxHeartbeats 1000000 in
theorem k58_63 (w : World) :
    Calls Try.prog 58 #[(.int .u32 1082130432)] w (Ret w (fun _ : Unit => True) (fun rz => (.float .f64 4616189618054758400)) (fun rz => [])) := by
  refine enter (M := None) (L := []) (n := 6) (l := [(0, (.int .u32 1082130432))]) Try.func58 rfl rfl (Args.cons rfl (Args.nil _)) (Hp.start _ _) ?_
  refine GC.seq ?_
  refine GC.region ?_
  refine GL.val (Ex.assign rfl) (by decide) ?_
  refine GL.nil ?_
  refine GE.thenN ?_
  refine GC.seq ?_
  refine GC.region ?_
  refine GL.val (Ex.move rfl) (by decide) ?_
  refine GL.val (v := (.float .f32 1082130432)) (Ex.ext (vs := [(.int .u32 1082130432)]) rfl rfl T.ext55 (fun _ => by first | rfl | kernel_rfl)) (by decide) ?_
  refine GL.val (v := (.float .f64 4616189618054758400)) (Ex.cff (r := 4616189618054758400) rfl Try.underlying98 Try.underlying61 (by kernel_rfl)) (by decide) ?_
  refine GL.val (Ex.assign rfl) (by decide) ?_
  refine GL.nil ?_
  refine GE.thenN ?_
  refine GC.ret ?_
  refine GC.ret1 rfl (Rv.tmp rfl) (fun wN HN => ?_)
  exact HN.ret () trivial rfl ulN rfl

set_option maxRecDepth 100000 in
set_option maxHeartbeats 1000000 in
theorem k71_68 (w : World) :
    Calls Try.prog 71 #[(.int .u32 1069547520)] w (Ret w (fun _ : Unit => True) (fun rz => (.agg #[(.bool false), (.int .i64 127), (.int .i64 4194304)])) (fun rz => [])) := by
  refine enter (M := None) (L := []) (n := 13) (l := [(0, (.int .u32 1069547520))]) Try.func71 rfl rfl (Args.cons rfl (Args.nil _)) (Hp.start _ _) ?_
  refine GC.seq ?_
  refine GC.region ?_
  refine GL.step (Stp.alloc T.zr116 (by decide)) (fun bq1 _ => ?_)
  refine GL.nil ?_
  refine GE.thenN ?_
  refine GC.seq ?_
  refine GC.region ?_
  refine GL.val (Ex.move rfl) (by decide) ?_
  refine GL.val (v := (.bool false)) (Ex.cast (Ex.geq rfl rfl) rfl) (by decide) ?_
  refine GL.val (Ex.move rfl) (by decide) ?_
  refine GL.val (v := (.int .u32 127)) (Ex.shr rfl (m := 23) rfl (by decide) (Z := 127) (by decide)) (by decide) ?_
  refine GL.val (v := (.int .u32 127)) (Ex.bits rfl rfl (by simp) (Z := 127) (by decide +kernel)) (by decide) ?_
  refine GL.val (v := (.int .i64 127)) (Ex.conv rfl Try.underlying63 Try.underlying3 (Z := 127) (by decide)) (by decide) ?_
  refine GL.val (Ex.move rfl) (by decide) ?_
  refine GL.val (v := (.int .u32 4194304)) (Ex.bits rfl rfl (by simp) (Z := 4194304) (by decide +kernel)) (by decide) ?_
  refine GL.val (v := (.int .i64 4194304)) (Ex.conv rfl Try.underlying63 Try.underlying3 (Z := 4194304) (by decide)) (by decide) ?_
  refine GL.val (v := (.agg #[(.bool false), (.int .i64 127), (.int .i64 4194304)])) (Ex.build (vs := [(0, (.bool false)), (1, (.int .i64 127)), (2, (.int .i64 4194304))]) rfl (by first | rfl | kernel_rfl)) (by decide) ?_
  refine GL.step (Stp.st0 (cs' := [(.bool false), (.int .i64 127), (.int .i64 4194304)]) rfl rfl rfl T.sz116 rfl rfl rfl) (fun _ _ => ?_)
  refine GL.nil ?_
  refine GE.thenN ?_
  refine GC.ret ?_
  refine GC.ret1 rfl (Rv.cellA rfl T.ag116 T.sz116 (L := _) (i := 0) rfl (vs := [(.bool false), (.int .i64 127), (.int .i64 4194304)]) rfl rfl) (fun wN HN => ?_)
  exact HN.ret () trivial rfl (ulS ulN) rfl

set_option maxRecDepth 100000 in
set_option maxHeartbeats 1000000 in
theorem k70_67 (w : World) :
    Calls Try.prog 70 #[(.int .u32 1069547520)] w (Ret w (fun _ : Unit => True) (fun rz => (.int .i64 3)) (fun rz => [])) := by
  refine enter (M := None) (L := []) (n := 23) (l := [(0, (.int .u32 1069547520))]) Try.func70 rfl rfl (Args.cons rfl (Args.nil _)) (Hp.start _ _) ?_
  refine GC.seq ?_
  refine GC.region ?_
  refine GL.val (Ex.assign rfl) (by decide) ?_
  refine GL.nil ?_
  refine GE.thenN ?_
  refine GC.seq ?_
  refine GC.region ?_
  refine GL.val (Ex.move rfl) (by decide) ?_
  refine GL.step (Stp.callR (vs := [(.int .u32 1069547520)]) rfl rfl T.own71 (by decide) (fun wc hw => k71_68  wc )) (fun xq1 hq2 => ?_)
  refine GL.step (Stp.alloc T.zr116 (by decide)) (fun bq3 _ => ?_)
  refine GL.step (Stp.st0 (cs' := [(.bool false), (.int .i64 127), (.int .i64 4194304)]) rfl rfl rfl T.sz116 rfl rfl rfl) (fun _ _ => ?_)
  refine GL.nil ?_
  refine GE.thenN ?_
  refine GC.seq ?_
  refine GC.region ?_
  refine GL.val (v := (.pointer (some ⟨bq3, 0, none⟩))) (Ex.cast (Ex.fieldAddr rfl Try.underlying116 rfl T.sz4 (by decide)) rfl) (by decide) ?_
  refine GL.step (Stp.st0 (cs' := [(.bool false), (.int .i64 127), (.int .i64 4194304)]) rfl rfl rfl T.sz4 rfl rfl rfl) (fun _ _ => ?_)
  refine GL.nil ?_
  refine GE.thenN ?_
  refine GC.seq ?_
  refine GC.block ?_
  refine GC.seq ?_
  refine GC.region ?_
  refine GL.val (v := (.agg #[(.bool false), (.int .i64 127), (.int .i64 4194304)])) (Ex.loadA rfl T.ag116 T.sz116 (i := 0) rfl (vs := [(.bool false), (.int .i64 127), (.int .i64 4194304)]) rfl rfl) (by decide) ?_
  refine GL.val (v := (.agg #[(.bool false), (.int .i64 0), (.int .i64 0)])) (Ex.build (vs := []) rfl (by first | rfl | kernel_rfl)) (by decide) ?_
  refine GL.val (v := (.bool false)) (Ex.eqS rfl rfl T.sfs116 (EqFs.cons rfl rfl (EqC.bool Try.underlying4) (EqFs.cons rfl rfl (EqC.int Try.underlying3) (EqFs.cons rfl rfl (EqC.int Try.underlying3) EqFs.nil))) (by decide)) (by decide) ?_
  refine GL.val (Ex.assign rfl) (by decide) ?_
  refine GL.nil ?_
  refine GE.thenN ?_
  refine GC.cond rfl (fun hq4 => by cases hq4) (fun _ => ?_)
  refine GC.seq ?_
  refine GC.region ?_
  refine GL.val (v := (.agg #[(.bool false), (.int .i64 127), (.int .i64 4194304)])) (Ex.loadA rfl T.ag116 T.sz116 (i := 0) rfl (vs := [(.bool false), (.int .i64 127), (.int .i64 4194304)]) rfl rfl) (by decide) ?_
  refine GL.val (v := (.agg #[(.bool false), (.int .i64 255), (.int .i64 0)])) (Ex.build (vs := [(1, (.int .i64 255))]) rfl (by first | rfl | kernel_rfl)) (by decide) ?_
  refine GL.val (v := (.bool false)) (Ex.eqS rfl rfl T.sfs116 (EqFs.cons rfl rfl (EqC.bool Try.underlying4) (EqFs.cons rfl rfl (EqC.int Try.underlying3) (EqFs.cons rfl rfl (EqC.int Try.underlying3) EqFs.nil))) (by decide)) (by decide) ?_
  refine GL.val (Ex.assign rfl) (by decide) ?_
  refine GL.nil ?_
  refine GE.thenN ?_
  refine GC.cond rfl (fun hq5 => by cases hq5) (fun _ => ?_)
  refine GC.seq ?_
  refine GC.region ?_
  refine GL.val (v := (.pointer (some ⟨bq3, 1, none⟩))) (Ex.cast (Ex.fieldAddr rfl Try.underlying116 rfl T.sz3 (by decide)) rfl) (by decide) ?_
  refine GL.val (Ex.load rfl T.ag3 (i := 0) rfl rfl) (by decide) ?_
  refine GL.val (v := (.bool false)) (Ex.cast (Ex.eql rfl rfl) rfl) (by decide) ?_
  refine GL.val (Ex.assign rfl) (by decide) ?_
  refine GL.nil ?_
  refine GE.thenN ?_
  refine GC.cond rfl (fun hq6 => by cases hq6) (fun _ => ?_)
  refine GC.seq ?_
  refine GC.region ?_
  refine GL.val (v := (.pointer (some ⟨bq3, 1, none⟩))) (Ex.cast (Ex.fieldAddr rfl Try.underlying116 rfl T.sz3 (by decide)) rfl) (by decide) ?_
  refine GL.val (Ex.load rfl T.ag3 (i := 0) rfl rfl) (by decide) ?_
  refine GL.val (v := (.bool false)) (Ex.cast (Ex.eql rfl rfl) rfl) (by decide) ?_
  refine GL.val (Ex.assign rfl) (by decide) ?_
  refine GL.nil ?_
  refine GE.thenN ?_
  refine GC.cond rfl (fun hq7 => by cases hq7) (fun _ => ?_)
  refine GC.skip ?_
  refine GE.blockN ?_
  refine GE.thenN ?_
  refine GC.seq ?_
  refine GC.region ?_
  refine GL.val (Ex.assign rfl) (by decide) ?_
  refine GL.nil ?_
  refine GE.thenN ?_
  refine GC.ret ?_
  refine GC.ret1 rfl (Rv.tmp rfl) (fun wN HN => ?_)
  exact HN.ret () trivial rfl (ulS ulN) rfl

set_option maxRecDepth 100000 in
set_option maxHeartbeats 1000000 in
theorem k69_66 (w : World) :
    Calls Try.prog 69 #[(.int .u32 1069547520)] w (Ret w (fun _ : Unit => True) (fun rz => (.bool false)) (fun rz => [])) := by
  refine enter (M := None) (L := []) (n := 6) (l := [(0, (.int .u32 1069547520))]) Try.func69 rfl rfl (Args.cons rfl (Args.nil _)) (Hp.start _ _) ?_
  refine GC.seq ?_
  refine GC.region ?_
  refine GL.val (Ex.assign rfl) (by decide) ?_
  refine GL.nil ?_
  refine GE.thenN ?_
  refine GC.seq ?_
  refine GC.region ?_
  refine GL.val (Ex.move rfl) (by decide) ?_
  refine GL.step (Stp.callR (vs := [(.int .u32 1069547520)]) rfl rfl T.own70 (by decide) (fun wc hw => k70_67  wc )) (fun xq1 hq2 => ?_)
  refine GL.val (v := (.bool false)) (Ex.cast (Ex.eql rfl rfl) rfl) (by decide) ?_
  refine GL.val (Ex.assign rfl) (by decide) ?_
  refine GL.nil ?_
  refine GE.thenN ?_
  refine GC.ret ?_
  refine GC.ret1 rfl (Rv.tmp rfl) (fun wN HN => ?_)
  exact HN.ret () trivial rfl ulN rfl

set_option maxRecDepth 100000 in
set_option maxHeartbeats 1000000 in
theorem k67_65 (w : World) :
    Calls Try.prog 67 #[(.int .u32 1069547520)] w (Ret w (fun _ : Unit => True) (fun rz => (.int .u32 1069547520)) (fun rz => [])) := by
  refine enter (M := None) (L := []) (n := 6) (l := [(0, (.int .u32 1069547520))]) Try.func67 rfl rfl (Args.cons rfl (Args.nil _)) (Hp.start _ _) ?_
  refine GC.seq ?_
  refine GC.region ?_
  refine GL.val (Ex.assign rfl) (by decide) ?_
  refine GL.nil ?_
  refine GE.thenN ?_
  refine GC.seq ?_
  refine GC.seq ?_
  refine GC.region ?_
  refine GL.val (Ex.move rfl) (by decide) ?_
  refine GL.step (Stp.callR (vs := [(.int .u32 1069547520)]) rfl rfl T.own69 (by decide) (fun wc hw => k69_66  wc )) (fun xq1 hq2 => ?_)
  refine GL.nil ?_
  refine GE.thenN ?_
  refine GC.cond rfl (fun hq3 => by cases hq3) (fun _ => ?_)
  refine GC.skip ?_
  refine GE.thenN ?_
  refine GC.seq ?_
  refine GC.region ?_
  refine GL.val (Ex.move rfl) (by decide) ?_
  refine GL.val (Ex.assign rfl) (by decide) ?_
  refine GL.nil ?_
  refine GE.thenN ?_
  refine GC.ret ?_
  refine GC.ret1 rfl (Rv.tmp rfl) (fun wN HN => ?_)
  exact HN.ret () trivial rfl ulN rfl

set_option maxRecDepth 100000 in
set_option maxHeartbeats 1000000 in
theorem k59_64 (w : World) :
    Calls Try.prog 59 #[(.float .f64 4609434218613702656)] w (Ret w (fun _ : Unit => True) (fun rz => (.int .u32 1069547520)) (fun rz => [])) := by
  refine enter (M := None) (L := []) (n := 7) (l := [(0, (.float .f64 4609434218613702656))]) Try.func59 rfl rfl (Args.cons rfl (Args.nil _)) (Hp.start _ _) ?_
  refine GC.seq ?_
  refine GC.region ?_
  refine GL.val (Ex.assign rfl) (by decide) ?_
  refine GL.nil ?_
  refine GE.thenN ?_
  refine GC.seq ?_
  refine GC.region ?_
  refine GL.val (Ex.move rfl) (by decide) ?_
  refine GL.val (v := (.float .f32 1069547520)) (Ex.cff (r := 1069547520) rfl Try.underlying61 Try.underlying98 (by kernel_rfl)) (by decide) ?_
  refine GL.val (v := (.int .u32 1069547520)) (Ex.ext (vs := [(.float .f32 1069547520)]) rfl rfl T.ext66 (fun _ => by first | rfl | kernel_rfl)) (by decide) ?_
  refine GL.step (Stp.callR (vs := [(.int .u32 1069547520)]) rfl rfl T.own67 (by decide) (fun wc hw => k67_65  wc )) (fun xq1 hq2 => ?_)
  refine GL.val (Ex.assign rfl) (by decide) ?_
  refine GL.nil ?_
  refine GE.thenN ?_
  refine GC.ret ?_
  refine GC.ret1 rfl (Rv.tmp rfl) (fun wN HN => ?_)
  exact HN.ret () trivial rfl ulN rfl

set_option maxRecDepth 100000 in
set_option maxHeartbeats 1000000 in
theorem k54_62 (c0 : Nat) (w : World) (hh : Has w [⟨c0, [(.int .u32 1065353216), (.int .u32 1073741824), (.int .u32 1082130432)], 63, false⟩]) :
    Calls Try.prog 54 #[(.iface 108 (.agg #[(.int .i64 3), (.int .i64 1), (.slice (some ⟨c0, 0, none⟩) 3 3), (.int .i64 1), (.int .i64 1), (.int .i64 0), (.bool false)])), (.agg #[])] w (Ret w (fun _ : Unit => True) (fun rz => (.int .u32 1069547520)) (fun rz => [])) := by
  refine enter (M := None) (L := [⟨c0, [(.int .u32 1065353216), (.int .u32 1073741824), (.int .u32 1082130432)], 63, false⟩]) (n := 14) (l := [(0, (.iface 108 (.agg #[(.int .i64 3), (.int .i64 1), (.slice (some ⟨c0, 0, none⟩) 3 3), (.int .i64 1), (.int .i64 1), (.int .i64 0), (.bool false)]))), (1, (.agg #[]))]) Try.func54 rfl rfl (Args.cons rfl (Args.cons rfl (Args.nil _))) (Hp.reads hh rfl) ?_
  refine GC.seq ?_
  refine GC.region ?_
  refine GL.step (Stp.box (cs := []) rfl rfl (by decide)) (fun bq1 _ => ?_)
  refine GL.val (Ex.assign rfl) (by decide) ?_
  refine GL.nil ?_
  refine GE.thenN ?_
  refine GC.seq ?_
  refine GC.region ?_
  refine GL.val (Ex.move rfl) (by decide) ?_
  refine GL.step (Stp.invokeR (σ := Unit) (p := fun rz => True) (v := fun rz => (.int .u32 1082130432)) (N := fun rz => []) (vs := [(.int .i64 1)]) rfl rfl (fun w => T.mth88 _ _ w) (by decide) (fun wc hw => (by have h := at_x 3 3 3 c0 0 0 [1065353216, 1073741824, 1082130432] 1 1 1 1 wc (by decide) (by decide) (by decide) (by decide +kernel) (by decide) rfl (hw.rdOf (i := 1) rfl 0); rw [show smp [1065353216, 1073741824, 1082130432] 3 (bord 1 ((3 : Nat) : Int) (1 + 1)).1.toNat 0 = 1082130432 from by decide +kernel] at h; exact h))) (fun xq2 hq3 => ?_)
  refine GL.step (Stp.callR (vs := [(.int .u32 1082130432)]) rfl rfl T.own58 (by decide) (fun wc hw => k58_63  wc )) (fun xq4 hq5 => ?_)
  refine GL.val (Ex.move rfl) (by decide) ?_
  refine GL.step (Stp.invokeR (σ := Unit) (p := fun rz => True) (v := fun rz => (.int .u32 1065353216)) (N := fun rz => []) (vs := [(.int .i64 (-1))]) rfl rfl (fun w => T.mth88 _ _ w) (by decide) (fun wc hw => (by have h := at_x 3 3 3 c0 0 0 [1065353216, 1073741824, 1082130432] 1 (-1) 1 1 wc (by decide) (by decide) (by decide) (by decide +kernel) (by decide) rfl (hw.rdOf (i := 1) rfl 0); rw [show smp [1065353216, 1073741824, 1082130432] 3 (bord 1 ((3 : Nat) : Int) (1 + (-1))).1.toNat 0 = 1065353216 from by decide +kernel] at h; exact h))) (fun xq6 hq7 => ?_)
  refine GL.step (Stp.callR (vs := [(.int .u32 1065353216)]) rfl rfl T.own58 (by decide) (fun wc hw => k58_18  wc )) (fun xq8 hq9 => ?_)
  refine GL.val (v := (.float .f64 4613937818241073152)) (Ex.farith (r := 4613937818241073152) rfl rfl (by kernel_rfl)) (by decide) ?_
  refine GL.val (v := (.float .f64 4609434218613702656)) (Ex.farith (r := 4609434218613702656) rfl rfl (by kernel_rfl)) (by decide) ?_
  refine GL.step (Stp.callR (vs := [(.float .f64 4609434218613702656)]) rfl rfl T.own59 (by decide) (fun wc hw => k59_64  wc )) (fun xq10 hq11 => ?_)
  refine GL.val (Ex.assign rfl) (by decide) ?_
  refine GL.nil ?_
  refine GE.thenN ?_
  refine GC.ret ?_
  refine GC.ret1 rfl (Rv.tmp rfl) (fun wN HN => ?_)
  exact HN.ret () trivial rfl (ulS (ulS ulN)) rfl

set_option maxRecDepth 100000 in
set_option maxHeartbeats 1000000 in
theorem k54_69 (c0 : Nat) (w : World) (hh : Has w [⟨c0, [(.int .u32 1065353216), (.int .u32 1073741824), (.int .u32 1082130432)], 63, false⟩]) :
    Calls Try.prog 54 #[(.iface 108 (.agg #[(.int .i64 3), (.int .i64 1), (.slice (some ⟨c0, 0, none⟩) 3 3), (.int .i64 1), (.int .i64 2), (.int .i64 0), (.bool false)])), (.agg #[])] w (Ret w (fun _ : Unit => True) (fun rz => (.int .u32 1065353216)) (fun rz => [])) := by
  refine enter (M := None) (L := [⟨c0, [(.int .u32 1065353216), (.int .u32 1073741824), (.int .u32 1082130432)], 63, false⟩]) (n := 14) (l := [(0, (.iface 108 (.agg #[(.int .i64 3), (.int .i64 1), (.slice (some ⟨c0, 0, none⟩) 3 3), (.int .i64 1), (.int .i64 2), (.int .i64 0), (.bool false)]))), (1, (.agg #[]))]) Try.func54 rfl rfl (Args.cons rfl (Args.cons rfl (Args.nil _))) (Hp.reads hh rfl) ?_
  refine GC.seq ?_
  refine GC.region ?_
  refine GL.step (Stp.box (cs := []) rfl rfl (by decide)) (fun bq1 _ => ?_)
  refine GL.val (Ex.assign rfl) (by decide) ?_
  refine GL.nil ?_
  refine GE.thenN ?_
  refine GC.seq ?_
  refine GC.region ?_
  refine GL.val (Ex.move rfl) (by decide) ?_
  refine GL.step (Stp.invokeR (σ := Unit) (p := fun rz => True) (v := fun rz => (.int .u32 1082130432)) (N := fun rz => []) (vs := [(.int .i64 1)]) rfl rfl (fun w => T.mth88 _ _ w) (by decide) (fun wc hw => (by have h := at_x 3 3 3 c0 0 0 [1065353216, 1073741824, 1082130432] 1 1 1 2 wc (by decide) (by decide) (by decide) (by decide +kernel) (by decide) rfl (hw.rdOf (i := 1) rfl 0); rw [show smp [1065353216, 1073741824, 1082130432] 3 (bord 1 ((3 : Nat) : Int) (2 + 1)).1.toNat 0 = 1082130432 from by decide +kernel] at h; exact h))) (fun xq2 hq3 => ?_)
  refine GL.step (Stp.callR (vs := [(.int .u32 1082130432)]) rfl rfl T.own58 (by decide) (fun wc hw => k58_63  wc )) (fun xq4 hq5 => ?_)
  refine GL.val (Ex.move rfl) (by decide) ?_
  refine GL.step (Stp.invokeR (σ := Unit) (p := fun rz => True) (v := fun rz => (.int .u32 1073741824)) (N := fun rz => []) (vs := [(.int .i64 (-1))]) rfl rfl (fun w => T.mth88 _ _ w) (by decide) (fun wc hw => (by have h := at_x 3 3 3 c0 0 0 [1065353216, 1073741824, 1082130432] 1 (-1) 1 2 wc (by decide) (by decide) (by decide) (by decide +kernel) (by decide) rfl (hw.rdOf (i := 1) rfl 0); rw [show smp [1065353216, 1073741824, 1082130432] 3 (bord 1 ((3 : Nat) : Int) (2 + (-1))).1.toNat 0 = 1073741824 from by decide +kernel] at h; exact h))) (fun xq6 hq7 => ?_)
  refine GL.step (Stp.callR (vs := [(.int .u32 1073741824)]) rfl rfl T.own58 (by decide) (fun wc hw => k58_61  wc )) (fun xq8 hq9 => ?_)
  refine GL.val (v := (.float .f64 4611686018427387904)) (Ex.farith (r := 4611686018427387904) rfl rfl (by kernel_rfl)) (by decide) ?_
  refine GL.val (v := (.float .f64 4607182418800017408)) (Ex.farith (r := 4607182418800017408) rfl rfl (by kernel_rfl)) (by decide) ?_
  refine GL.step (Stp.callR (vs := [(.float .f64 4607182418800017408)]) rfl rfl T.own59 (by decide) (fun wc hw => k59_47  wc )) (fun xq10 hq11 => ?_)
  refine GL.val (Ex.assign rfl) (by decide) ?_
  refine GL.nil ?_
  refine GE.thenN ?_
  refine GC.ret ?_
  refine GC.ret1 rfl (Rv.tmp rfl) (fun wN HN => ?_)
  exact HN.ret () trivial rfl (ulS (ulS ulN)) rfl

set_option maxRecDepth 100000 in
set_option maxHeartbeats 1000000 in
theorem k54_70 (c0 : Nat) (w : World) (hh : Has w [⟨c0, [(.int .u32 1065353216), (.int .u32 1073741824), (.int .u32 1082130432)], 63, false⟩]) :
    Calls Try.prog 54 #[(.iface 108 (.agg #[(.int .i64 3), (.int .i64 1), (.slice (some ⟨c0, 0, none⟩) 3 3), (.int .i64 1), (.int .i64 0), (.int .i64 0), (.bool true)])), (.agg #[])] w (Ret w (fun _ : Unit => True) (fun rz => (.int .u32 0)) (fun rz => [])) := by
  refine enter (M := None) (L := [⟨c0, [(.int .u32 1065353216), (.int .u32 1073741824), (.int .u32 1082130432)], 63, false⟩]) (n := 14) (l := [(0, (.iface 108 (.agg #[(.int .i64 3), (.int .i64 1), (.slice (some ⟨c0, 0, none⟩) 3 3), (.int .i64 1), (.int .i64 0), (.int .i64 0), (.bool true)]))), (1, (.agg #[]))]) Try.func54 rfl rfl (Args.cons rfl (Args.cons rfl (Args.nil _))) (Hp.reads hh rfl) ?_
  refine GC.seq ?_
  refine GC.region ?_
  refine GL.step (Stp.box (cs := []) rfl rfl (by decide)) (fun bq1 _ => ?_)
  refine GL.val (Ex.assign rfl) (by decide) ?_
  refine GL.nil ?_
  refine GE.thenN ?_
  refine GC.seq ?_
  refine GC.region ?_
  refine GL.val (Ex.move rfl) (by decide) ?_
  refine GL.step (Stp.invokeR (σ := Unit) (p := fun rz => True) (v := fun rz => (.int .u32 1065353216)) (N := fun rz => []) (vs := [(.int .i64 1)]) rfl rfl (fun w => T.mth88 _ _ w) (by decide) (fun wc hw => (by have h := at_y 3 3 3 c0 0 1 0 [1065353216, 1073741824, 1082130432] 1 1 0 wc (by decide) (by decide) (by decide) (by decide +kernel) (by decide) rfl (hw.rdOf (i := 1) rfl 0); rw [show smp [1065353216, 1073741824, 1082130432] 3 0 (bord 1 ((1 : Nat) : Int) (0 + 1)).1.toNat = 1065353216 from by decide +kernel] at h; exact h))) (fun xq2 hq3 => ?_)
  refine GL.step (Stp.callR (vs := [(.int .u32 1065353216)]) rfl rfl T.own58 (by decide) (fun wc hw => k58_18  wc )) (fun xq4 hq5 => ?_)
  refine GL.val (Ex.move rfl) (by decide) ?_
  refine GL.step (Stp.invokeR (σ := Unit) (p := fun rz => True) (v := fun rz => (.int .u32 1065353216)) (N := fun rz => []) (vs := [(.int .i64 (-1))]) rfl rfl (fun w => T.mth88 _ _ w) (by decide) (fun wc hw => (by have h := at_y 3 3 3 c0 0 1 0 [1065353216, 1073741824, 1082130432] 1 (-1) 0 wc (by decide) (by decide) (by decide) (by decide +kernel) (by decide) rfl (hw.rdOf (i := 1) rfl 0); rw [show smp [1065353216, 1073741824, 1082130432] 3 0 (bord 1 ((1 : Nat) : Int) (0 + (-1))).1.toNat = 1065353216 from by decide +kernel] at h; exact h))) (fun xq6 hq7 => ?_)
  refine GL.step (Stp.callR (vs := [(.int .u32 1065353216)]) rfl rfl T.own58 (by decide) (fun wc hw => k58_18  wc )) (fun xq8 hq9 => ?_)
  refine GL.val (v := (.float .f64 0)) (Ex.farith (r := 0) rfl rfl (by kernel_rfl)) (by decide) ?_
  refine GL.val (v := (.float .f64 0)) (Ex.farith (r := 0) rfl rfl (by kernel_rfl)) (by decide) ?_
  refine GL.step (Stp.callR (vs := [(.float .f64 0)]) rfl rfl T.own59 (by decide) (fun wc hw => k59_12  wc )) (fun xq10 hq11 => ?_)
  refine GL.val (Ex.assign rfl) (by decide) ?_
  refine GL.nil ?_
  refine GE.thenN ?_
  refine GC.ret ?_
  refine GC.ret1 rfl (Rv.tmp rfl) (fun wN HN => ?_)
  exact HN.ret () trivial rfl (ulS (ulS ulN)) rfl

set_option maxRecDepth 100000 in
set_option maxHeartbeats 1000000 in
theorem k54_71 (c0 : Nat) (w : World) (hh : Has w [⟨c0, [(.int .u32 1065353216), (.int .u32 1073741824), (.int .u32 1082130432)], 63, false⟩]) :
    Calls Try.prog 54 #[(.iface 108 (.agg #[(.int .i64 3), (.int .i64 1), (.slice (some ⟨c0, 0, none⟩) 3 3), (.int .i64 1), (.int .i64 1), (.int .i64 0), (.bool true)])), (.agg #[])] w (Ret w (fun _ : Unit => True) (fun rz => (.int .u32 0)) (fun rz => [])) := by
  refine enter (M := None) (L := [⟨c0, [(.int .u32 1065353216), (.int .u32 1073741824), (.int .u32 1082130432)], 63, false⟩]) (n := 14) (l := [(0, (.iface 108 (.agg #[(.int .i64 3), (.int .i64 1), (.slice (some ⟨c0, 0, none⟩) 3 3), (.int .i64 1), (.int .i64 1), (.int .i64 0), (.bool true)]))), (1, (.agg #[]))]) Try.func54 rfl rfl (Args.cons rfl (Args.cons rfl (Args.nil _))) (Hp.reads hh rfl) ?_
  refine GC.seq ?_
  refine GC.region ?_
  refine GL.step (Stp.box (cs := []) rfl rfl (by decide)) (fun bq1 _ => ?_)
  refine GL.val (Ex.assign rfl) (by decide) ?_
  refine GL.nil ?_
  refine GE.thenN ?_
  refine GC.seq ?_
  refine GC.region ?_
  refine GL.val (Ex.move rfl) (by decide) ?_
  refine GL.step (Stp.invokeR (σ := Unit) (p := fun rz => True) (v := fun rz => (.int .u32 1073741824)) (N := fun rz => []) (vs := [(.int .i64 1)]) rfl rfl (fun w => T.mth88 _ _ w) (by decide) (fun wc hw => (by have h := at_y 3 3 3 c0 0 1 1 [1065353216, 1073741824, 1082130432] 1 1 0 wc (by decide) (by decide) (by decide) (by decide +kernel) (by decide) rfl (hw.rdOf (i := 1) rfl 0); rw [show smp [1065353216, 1073741824, 1082130432] 3 1 (bord 1 ((1 : Nat) : Int) (0 + 1)).1.toNat = 1073741824 from by decide +kernel] at h; exact h))) (fun xq2 hq3 => ?_)
  refine GL.step (Stp.callR (vs := [(.int .u32 1073741824)]) rfl rfl T.own58 (by decide) (fun wc hw => k58_61  wc )) (fun xq4 hq5 => ?_)
  refine GL.val (Ex.move rfl) (by decide) ?_
  refine GL.step (Stp.invokeR (σ := Unit) (p := fun rz => True) (v := fun rz => (.int .u32 1073741824)) (N := fun rz => []) (vs := [(.int .i64 (-1))]) rfl rfl (fun w => T.mth88 _ _ w) (by decide) (fun wc hw => (by have h := at_y 3 3 3 c0 0 1 1 [1065353216, 1073741824, 1082130432] 1 (-1) 0 wc (by decide) (by decide) (by decide) (by decide +kernel) (by decide) rfl (hw.rdOf (i := 1) rfl 0); rw [show smp [1065353216, 1073741824, 1082130432] 3 1 (bord 1 ((1 : Nat) : Int) (0 + (-1))).1.toNat = 1073741824 from by decide +kernel] at h; exact h))) (fun xq6 hq7 => ?_)
  refine GL.step (Stp.callR (vs := [(.int .u32 1073741824)]) rfl rfl T.own58 (by decide) (fun wc hw => k58_61  wc )) (fun xq8 hq9 => ?_)
  refine GL.val (v := (.float .f64 0)) (Ex.farith (r := 0) rfl rfl (by kernel_rfl)) (by decide) ?_
  refine GL.val (v := (.float .f64 0)) (Ex.farith (r := 0) rfl rfl (by kernel_rfl)) (by decide) ?_
  refine GL.step (Stp.callR (vs := [(.float .f64 0)]) rfl rfl T.own59 (by decide) (fun wc hw => k59_12  wc )) (fun xq10 hq11 => ?_)
  refine GL.val (Ex.assign rfl) (by decide) ?_
  refine GL.nil ?_
  refine GE.thenN ?_
  refine GC.ret ?_
  refine GC.ret1 rfl (Rv.tmp rfl) (fun wN HN => ?_)
  exact HN.ret () trivial rfl (ulS (ulS ulN)) rfl

set_option maxRecDepth 100000 in
set_option maxHeartbeats 1000000 in
theorem k54_72 (c0 : Nat) (w : World) (hh : Has w [⟨c0, [(.int .u32 1065353216), (.int .u32 1073741824), (.int .u32 1082130432)], 63, false⟩]) :
    Calls Try.prog 54 #[(.iface 108 (.agg #[(.int .i64 3), (.int .i64 1), (.slice (some ⟨c0, 0, none⟩) 3 3), (.int .i64 1), (.int .i64 2), (.int .i64 0), (.bool true)])), (.agg #[])] w (Ret w (fun _ : Unit => True) (fun rz => (.int .u32 0)) (fun rz => [])) := by
  refine enter (M := None) (L := [⟨c0, [(.int .u32 1065353216), (.int .u32 1073741824), (.int .u32 1082130432)], 63, false⟩]) (n := 14) (l := [(0, (.iface 108 (.agg #[(.int .i64 3), (.int .i64 1), (.slice (some ⟨c0, 0, none⟩) 3 3), (.int .i64 1), (.int .i64 2), (.int .i64 0), (.bool true)]))), (1, (.agg #[]))]) Try.func54 rfl rfl (Args.cons rfl (Args.cons rfl (Args.nil _))) (Hp.reads hh rfl) ?_
  refine GC.seq ?_
  refine GC.region ?_
  refine GL.step (Stp.box (cs := []) rfl rfl (by decide)) (fun bq1 _ => ?_)
  refine GL.val (Ex.assign rfl) (by decide) ?_
  refine GL.nil ?_
  refine GE.thenN ?_
  refine GC.seq ?_
  refine GC.region ?_
  refine GL.val (Ex.move rfl) (by decide) ?_
  refine GL.step (Stp.invokeR (σ := Unit) (p := fun rz => True) (v := fun rz => (.int .u32 1082130432)) (N := fun rz => []) (vs := [(.int .i64 1)]) rfl rfl (fun w => T.mth88 _ _ w) (by decide) (fun wc hw => (by have h := at_y 3 3 3 c0 0 1 2 [1065353216, 1073741824, 1082130432] 1 1 0 wc (by decide) (by decide) (by decide) (by decide +kernel) (by decide) rfl (hw.rdOf (i := 1) rfl 0); rw [show smp [1065353216, 1073741824, 1082130432] 3 2 (bord 1 ((1 : Nat) : Int) (0 + 1)).1.toNat = 1082130432 from by decide +kernel] at h; exact h))) (fun xq2 hq3 => ?_)
  refine GL.step (Stp.callR (vs := [(.int .u32 1082130432)]) rfl rfl T.own58 (by decide) (fun wc hw => k58_63  wc )) (fun xq4 hq5 => ?_)
  refine GL.val (Ex.move rfl) (by decide) ?_
  refine GL.step (Stp.invokeR (σ := Unit) (p := fun rz => True) (v := fun rz => (.int .u32 1082130432)) (N := fun rz => []) (vs := [(.int .i64 (-1))]) rfl rfl (fun w => T.mth88 _ _ w) (by decide) (fun wc hw => (by have h := at_y 3 3 3 c0 0 1 2 [1065353216, 1073741824, 1082130432] 1 (-1) 0 wc (by decide) (by decide) (by decide) (by decide +kernel) (by decide) rfl (hw.rdOf (i := 1) rfl 0); rw [show smp [1065353216, 1073741824, 1082130432] 3 2 (bord 1 ((1 : Nat) : Int) (0 + (-1))).1.toNat = 1082130432 from by decide +kernel] at h; exact h))) (fun xq6 hq7 => ?_)
  refine GL.step (Stp.callR (vs := [(.int .u32 1082130432)]) rfl rfl T.own58 (by decide) (fun wc hw => k58_63  wc )) (fun xq8 hq9 => ?_)
  refine GL.val (v := (.float .f64 0)) (Ex.farith (r := 0) rfl rfl (by kernel_rfl)) (by decide) ?_
  refine GL.val (v := (.float .f64 0)) (Ex.farith (r := 0) rfl rfl (by kernel_rfl)) (by decide) ?_
  refine GL.step (Stp.callR (vs := [(.float .f64 0)]) rfl rfl T.own59 (by decide) (fun wc hw => k59_12  wc )) (fun xq10 hq11 => ?_)
  refine GL.val (Ex.assign rfl) (by decide) ?_
  refine GL.nil ?_
  refine GE.thenN ?_
  refine GC.ret ?_
  refine GC.ret1 rfl (Rv.tmp rfl) (fun wN HN => ?_)
  exact HN.ret () trivial rfl (ulS (ulS ulN)) rfl

set_option maxRecDepth 100000 in
set_option maxHeartbeats 1000000 in
theorem k26_58 (c0 : Nat) (w : World) (hh : Has w [⟨c0, [(.int .u32 1065353216), (.int .u32 1073741824), (.int .u32 1082130432)], 63, false⟩]) :
    Calls Try.prog 26 #[(.agg #[(.int .i64 3), (.int .i64 1), (.slice (some ⟨c0, 0, none⟩) 3 3)]), (.int .i64 1)] w (Ret w (fun _ : Nat × Nat => True) (fun rz => (.tuple #[(.agg #[(.int .i64 3), (.int .i64 1), (.slice (some ⟨rz.2, 0, none⟩) 3 3)]), (.agg #[(.int .i64 3), (.int .i64 1), (.slice (some ⟨rz.1, 0, none⟩) 3 3)]), (.int .i64 0)])) (fun rz => [⟨rz.1, [(.int .u32 0), (.int .u32 0), (.int .u32 0)], 63, true⟩, ⟨rz.2, [(.int .u32 1056964608), (.int .u32 1069547520), (.int .u32 1065353216)], 63, true⟩])) := by
  refine enter (M := None) (L := [⟨c0, [(.int .u32 1065353216), (.int .u32 1073741824), (.int .u32 1082130432)], 63, false⟩]) (n := 31) (l := [(0, (.agg #[(.int .i64 3), (.int .i64 1), (.slice (some ⟨c0, 0, none⟩) 3 3)])), (1, (.int .i64 1))]) Try.func26 rfl rfl (Args.cons rfl (Args.cons rfl (Args.nil _))) (Hp.reads hh rfl) ?_
  refine GC.seq ?_
  refine GC.region ?_
  refine GL.step (Stp.box (cs := [(.int .i64 3), (.int .i64 1), (.slice (some ⟨c0, 0, none⟩) 3 3)]) rfl rfl (by decide)) (fun bq1 _ => ?_)
  refine GL.step (Stp.alloc T.zr43 (by decide)) (fun bq2 _ => ?_)
  refine GL.step (Stp.alloc T.zr43 (by decide)) (fun bq3 _ => ?_)
  refine GL.val (Ex.assign rfl) (by decide) ?_
  refine GL.nil ?_
  refine GE.thenN ?_
  refine GC.seq ?_
  refine GC.seq ?_
  refine GC.region ?_
  refine GL.val (v := (.agg #[(.int .i64 3), (.int .i64 1), (.slice (some ⟨c0, 0, none⟩) 3 3)])) (Ex.loadA rfl T.ag43 T.sz43 (i := 2) rfl (vs := [(.int .i64 3), (.int .i64 1), (.slice (some ⟨c0, 0, none⟩) 3 3)]) rfl rfl) (by decide) ?_
  refine GL.step (Stp.callR (vs := [(.agg #[(.int .i64 3), (.int .i64 1), (.slice (some ⟨c0, 0, none⟩) 3 3)])]) rfl rfl T.own46 (by decide) (fun wc hw => k46_59 c0 wc (Has.cons (hw.hasOf (i := 3) rfl) (Has.nil _)))) (fun xq4 hq5 => ?_)
  refine GL.val (Ex.assign rfl) (by decide) ?_
  refine GL.nil ?_
  refine GE.thenN ?_
  refine GC.seq ?_
  refine GC.region ?_
  refine GL.val (Ex.move rfl) (by decide) ?_
  refine GL.val (v := (.bool false)) (Ex.cast (Ex.neq rfl rfl) rfl) (by decide) ?_
  refine GL.nil ?_
  refine GE.thenN ?_
  refine GC.cond rfl (fun hq6 => by cases hq6) (fun _ => ?_)
  refine GC.skip ?_
  refine GE.thenN ?_
  refine GC.seq ?_
  refine GC.seq ?_
  refine GC.region ?_
  refine GL.val (Ex.move rfl) (by decide) ?_
  refine GL.step (Stp.callR (vs := [(.int .i64 1)]) rfl rfl T.own47 (by decide) (fun wc hw => k47_8  wc )) (fun xq7 hq8 => ?_)
  refine GL.val (Ex.assign rfl) (by decide) ?_
  refine GL.nil ?_
  refine GE.thenN ?_
  refine GC.seq ?_
  refine GC.region ?_
  refine GL.val (Ex.move rfl) (by decide) ?_
  refine GL.val (v := (.bool false)) (Ex.cast (Ex.neq rfl rfl) rfl) (by decide) ?_
  refine GL.nil ?_
  refine GE.thenN ?_
  refine GC.cond rfl (fun hq9 => by cases hq9) (fun _ => ?_)
  refine GC.skip ?_
  refine GE.thenN ?_
  refine GC.seq ?_
  refine GC.drawP [⟨bq1, [(.int .i64 3), (.int .i64 1), (.slice (some ⟨c0, 0, none⟩) 3 3)], 43, true⟩, ⟨c0, [(.int .u32 1065353216), (.int .u32 1073741824), (.int .u32 1082130432)], 63, false⟩] T.mixed (by kernel_rfl) (by kernel_rfl) (fuel := 10) rfl rfl ?_
  refine GH.take 0 (v := (.agg #[(.int .i64 3), (.int .i64 1), (.slice (some ⟨c0, 0, none⟩) 3 3)])) rfl (by kernel_rfl) (by kernel_rfl) (by kernel_rfl) (fun _ _ _ h => h) (Ex.loadA rfl T.ag43 T.sz43 (i := 0) rfl (vs := [(.int .i64 3), (.int .i64 1), (.slice (some ⟨c0, 0, none⟩) 3 3)]) rfl rfl) (ulS (ulS (ulC (ulC ulN)))) (by decide) ?_
  refine GH.take 1 (v := (.int .i64 1)) rfl (by kernel_rfl) (by kernel_rfl) (by kernel_rfl) (fun _ _ _ h => h) (Ex.move rfl) (ulS (ulS (ulC (ulC ulN)))) (by decide) ?_
  refine GH.take 2 (v := (.agg #[])) rfl (by kernel_rfl) (by kernel_rfl) (by kernel_rfl) (fun _ _ _ h => h) (Ex.build (vs := []) rfl (by first | rfl | kernel_rfl)) (ulS (ulS (ulC (ulC ulN)))) (by decide) ?_
  refine GH.take 4 (v := (.agg #[(.int .i64 3), (.int .i64 1), (.slice (some ⟨c0, 0, none⟩) 3 3)])) rfl (by kernel_rfl) (by kernel_rfl) (by kernel_rfl) (fun _ _ _ h => h) (Ex.loadA rfl T.ag43 T.sz43 (i := 0) rfl (vs := [(.int .i64 3), (.int .i64 1), (.slice (some ⟨c0, 0, none⟩) 3 3)]) rfl rfl) (ulS (ulS (ulC (ulC ulN)))) (by decide) ?_
  refine GH.take 5 (v := (.int .i64 1)) rfl (by kernel_rfl) (by kernel_rfl) (by kernel_rfl) (fun _ _ _ h => h) (Ex.move rfl) (ulS (ulS (ulC (ulC ulN)))) (by decide) ?_
  refine GH.take 6 (v := (.agg #[])) rfl (by kernel_rfl) (by kernel_rfl) (by kernel_rfl) (fun _ _ _ h => h) (Ex.build (vs := []) rfl (by first | rfl | kernel_rfl)) (ulS (ulS (ulC (ulC ulN)))) (by decide) ?_
  refine GH.one 3 rfl (by kernel_rfl) (Stp.callR (σ := Nat) (p := fun rz => True) (v := fun rz => (.agg #[(.int .i64 3), (.int .i64 1), (.slice (some ⟨rz, 0, none⟩) 3 3)])) (N := fun rz => [⟨rz, [(.int .u32 1056964608), (.int .u32 1069547520), (.int .u32 1065353216)], 63, true⟩]) (vs := [(.agg #[(.int .i64 3), (.int .i64 1), (.slice (some ⟨c0, 0, none⟩) 3 3)]), (.int .i64 1), (.bool false), (.agg #[]), (.func (.func 54) #[] #[])]) rfl rfl T.own53 (by decide) (fun wc hw => (by
    have h := sweepZ 3 1 3 3 (some ⟨c0, 0, none⟩) 1 false 54 (fun x y => smp [1056964608, 1069547520, 1065353216] 3 x y) wc rfl ⟨T.own54, fun x y w' hx hy hk => by
      have hc : (x = 0 ∧ y = 0) ∨ (x = 1 ∧ y = 0) ∨ (x = 2 ∧ y = 0) := by omega
      rcases hc with ⟨rfl, rfl⟩ | ⟨rfl, rfl⟩ | ⟨rfl, rfl⟩
      · exact k54_60 c0 w' (Has.later (Has.cons (hw.hasOf (i := 3) rfl) (Has.nil _)) hk)
      · exact k54_62 c0 w' (Has.later (Has.cons (hw.hasOf (i := 3) rfl) (Has.nil _)) hk)
      · exact k54_69 c0 w' (Has.later (Has.cons (hw.hasOf (i := 3) rfl) (Has.nil _)) hk)⟩ (by decide) (by decide) (by decide)
    rw [show tab 3 (fun x y => smp [1056964608, 1069547520, 1065353216] 3 x y) (3 * 1) = [1056964608, 1069547520, 1065353216] from by decide +kernel] at h
    exact h))) (fun _ => (ulS (ulS (ulS (ulC (ulC ulN)))))) (fun xq10 hq11 => ?_)
  refine GH.one 7 rfl (by kernel_rfl) (Stp.callR (σ := Nat) (p := fun rz => True) (v := fun rz => (.agg #[(.int .i64 3), (.int .i64 1), (.slice (some ⟨rz, 0, none⟩) 3 3)])) (N := fun rz => [⟨rz, [(.int .u32 0), (.int .u32 0), (.int .u32 0)], 63, true⟩]) (vs := [(.agg #[(.int .i64 3), (.int .i64 1), (.slice (some ⟨c0, 0, none⟩) 3 3)]), (.int .i64 1), (.bool true), (.agg #[]), (.func (.func 54) #[] #[])]) rfl rfl T.own53 (by decide) (fun wc hw => (by
    have h := sweepZ 3 1 3 3 (some ⟨c0, 0, none⟩) 1 true 54 (fun x y => smp [0, 0, 0] 3 x y) wc rfl ⟨T.own54, fun x y w' hx hy hk => by
      have hc : (x = 0 ∧ y = 0) ∨ (x = 1 ∧ y = 0) ∨ (x = 2 ∧ y = 0) := by omega
      rcases hc with ⟨rfl, rfl⟩ | ⟨rfl, rfl⟩ | ⟨rfl, rfl⟩
      · exact k54_70 c0 w' (Has.later (Has.cons (hw.hasOf (i := 4) rfl) (Has.nil _)) hk)
      · exact k54_71 c0 w' (Has.later (Has.cons (hw.hasOf (i := 4) rfl) (Has.nil _)) hk)
      · exact k54_72 c0 w' (Has.later (Has.cons (hw.hasOf (i := 4) rfl) (Has.nil _)) hk)⟩ (by decide) (by decide) (by decide)
    rw [show tab 3 (fun x y => smp [0, 0, 0] 3 x y) (3 * 1) = [0, 0, 0] from by decide +kernel] at h
    exact h))) (fun _ => (ulS (ulS (ulS (ulS (ulC (ulC ulN))))))) (fun xq12 hq13 => ?_)
  refine GH.one 8 rfl (by kernel_rfl) (Stp.st3 (cs' := [(.int .i64 3), (.int .i64 1), (.slice (some ⟨xq10, 0, none⟩) 3 3)]) rfl rfl rfl T.sz43 rfl rfl rfl) (fun _ => (ulS (ulS (ulS (ulS (ulC (ulC ulN))))))) (fun _ _ => ?_)
  refine GH.one 9 rfl (by kernel_rfl) (Stp.st2 (cs' := [(.int .i64 3), (.int .i64 1), (.slice (some ⟨xq12, 0, none⟩) 3 3)]) rfl rfl rfl T.sz43 rfl rfl rfl) (fun _ => (ulS (ulS (ulS (ulS (ulC (ulC ulN))))))) (fun _ _ => ?_)
  refine GH.done (by kernel_rfl) ?_
  refine GE.thenN ?_
  refine GE.tail rfl (Ex.wp (v := (.int .i64 0)) (Ex.assign rfl) (by decide)) (fun _ _ => ?_)
  refine GE.thenN ?_
  refine GC.ret ?_
  refine GC.ret3 rfl (Rv.cellA rfl T.ag43 T.sz43 (L := _) (i := 3) rfl (vs := [(.int .i64 3), (.int .i64 1), (.slice (some ⟨xq10, 0, none⟩) 3 3)]) rfl rfl) (Rv.cellA rfl T.ag43 T.sz43 (L := _) (i := 2) rfl (vs := [(.int .i64 3), (.int .i64 1), (.slice (some ⟨xq12, 0, none⟩) 3 3)]) rfl rfl) (Rv.tmp rfl) (fun wN HN => ?_)
  exact HN.ret (xq12, xq10) trivial rfl (ulC (ulC (ulS (ulS (ulS (ulS ulN)))))) rfl

set_option maxRecDepth 100000 in
set_option maxHeartbeats 1000000 in
theorem k15_73 (w : World) :
    Calls Try.prog 15 #[(.int .i64 0)] w (Ret w (fun _ : Unit => True) (fun rz => (.int .i64 0)) (fun rz => [])) := by
  refine enter (M := None) (L := []) (n := 4) (l := [(0, (.int .i64 0))]) Try.func15 rfl rfl (Args.cons rfl (Args.nil _)) (Hp.start _ _) ?_
  refine GC.seq ?_
  refine GC.region ?_
  refine GL.val (Ex.assign rfl) (by decide) ?_
  refine GL.nil ?_
  refine GE.thenN ?_
  refine GC.seq ?_
  refine GC.region ?_
  refine GL.val (Ex.move rfl) (by decide) ?_
  refine GL.val (Ex.assign rfl) (by decide) ?_
  refine GL.nil ?_
  refine GE.thenN ?_
  refine GC.ret ?_
  refine GC.ret1 rfl (Rv.tmp rfl) (fun wN HN => ?_)
  exact HN.ret () trivial rfl ulN rfl

end Go.Proofs.Ytjbpdhofhhinhaa.C
