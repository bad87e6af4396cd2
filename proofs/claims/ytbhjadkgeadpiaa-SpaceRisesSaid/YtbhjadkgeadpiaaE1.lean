/- Space: floats, walked. -/
import Derived.Test.YtbhjadkgeadpiaaD1
import Derived.Test.YtbhjadkgeadpiaaSl
namespace Go.Proofs.Ytbhjadkgeadpiaa.C
open Go Go.RowKit Sx
set_option linter.unusedVariables false
set_option maxRecDepth 100000 in
set_option maxHeartbeats 1000000 in
theorem j82_1 (w : World) :
    Calls Try.prog 82 #[(.agg #[(.int .i64 23), (.int .i64 8)])] w (Ret w (fun _ : Unit => True) (fun rz => (.int .u64 255)) (fun rz => [])) := by
  refine enter (M := None) (L := []) (n := 7) (l := [(0, (.agg #[(.int .i64 23), (.int .i64 8)]))]) Try.func82 rfl rfl (Args.cons rfl (Args.nil _)) (Hp.start _ _) ?_
  refine GC.seq ?_
  refine GC.region ?_
  refine GL.step (Stp.box (cs := [(.int .i64 23), (.int .i64 8)]) rfl rfl (by decide)) (fun bq1 _ => ?_)
  refine GL.val (Ex.assign rfl) (by decide) ?_
  refine GL.nil ?_
  refine GE.thenN ?_
  refine GC.seq ?_
  refine GC.region ?_
  refine GL.val (v := (.pointer (some ⟨bq1, 1, none⟩))) (Ex.cast (Ex.fieldAddr rfl Try.underlying67 rfl T.sz3 (by decide)) rfl) (by decide) ?_
  refine GL.val (Ex.load rfl T.ag3 (i := 0) rfl rfl) (by decide) ?_
  refine GL.val (v := (.int .u64 256)) (Ex.shl rfl (m := 8) rfl (by decide) (Z := 256) (by decide)) (by decide) ?_
  refine GL.val (v := (.int .u64 255)) (Ex.sub' rfl rfl (Z := 255) (by decide)) (by decide) ?_
  refine GL.val (Ex.assign rfl) (by decide) ?_
  refine GL.nil ?_
  refine GE.thenN ?_
  refine GC.ret ?_
  refine GC.ret1 rfl (Rv.tmp rfl) (fun wN HN => ?_)
  exact HN.ret () trivial rfl (ulS ulN) rfl

set_option maxRecDepth 100000 in
set_option maxHeartbeats 1000000 in
theorem j83_2 (w : World) :
    Calls Try.prog 83 #[(.agg #[(.int .i64 23), (.int .i64 8)])] w (Ret w (fun _ : Unit => True) (fun rz => (.int .i64 150)) (fun rz => [])) := by
  refine enter (M := None) (L := []) (n := 11) (l := [(0, (.agg #[(.int .i64 23), (.int .i64 8)]))]) Try.func83 rfl rfl (Args.cons rfl (Args.nil _)) (Hp.start _ _) ?_
  refine GC.seq ?_
  refine GC.region ?_
  refine GL.step (Stp.box (cs := [(.int .i64 23), (.int .i64 8)]) rfl rfl (by decide)) (fun bq1 _ => ?_)
  refine GL.val (Ex.assign rfl) (by decide) ?_
  refine GL.nil ?_
  refine GE.thenN ?_
  refine GC.seq ?_
  refine GC.drawP [⟨bq1, [(.int .i64 23), (.int .i64 8)], 67, true⟩] T.mixed (by kernel_rfl) (by kernel_rfl) (fuel := 8) rfl rfl ?_
  refine GH.take 0 (v := (.pointer (some ⟨bq1, 1, none⟩))) rfl (by kernel_rfl) (by kernel_rfl) (by kernel_rfl) (fun _ _ _ h => h) (Ex.cast (Ex.fieldAddr rfl Try.underlying67 rfl T.sz3 (by decide)) rfl) (ulC ulN) (by decide) ?_
  refine GH.take 1 (v := (.int .i64 8)) rfl (by kernel_rfl) (by kernel_rfl) (by kernel_rfl) (fun _ _ _ h => h) (Ex.load rfl T.ag3 (i := 0) rfl rfl) (ulC ulN) (by decide) ?_
  refine GH.take 2 (v := (.int .i64 7)) rfl (by kernel_rfl) (by kernel_rfl) (by kernel_rfl) (fun _ _ _ h => h) (Ex.sub' rfl rfl (Z := 7) (by decide)) (ulC ulN) (by decide) ?_
  refine GH.take 3 (v := (.int .i64 128)) rfl (by kernel_rfl) (by kernel_rfl) (by kernel_rfl) (fun _ _ _ h => h) (Ex.shl rfl (m := 7) rfl (by decide) (Z := 128) (by decide)) (ulC ulN) (by decide) ?_
  refine GH.take 4 (v := (.int .i64 127)) rfl (by kernel_rfl) (by kernel_rfl) (by kernel_rfl) (fun _ _ _ h => h) (Ex.sub' rfl rfl (Z := 127) (by decide)) (ulC ulN) (by decide) ?_
  refine GH.take 5 (v := (.pointer (some ⟨bq1, 0, none⟩))) rfl (by kernel_rfl) (by kernel_rfl) (by kernel_rfl) (fun _ _ _ h => h) (Ex.cast (Ex.fieldAddr rfl Try.underlying67 rfl T.sz3 (by decide)) rfl) (ulC ulN) (by decide) ?_
  refine GH.take 6 (v := (.int .i64 23)) rfl (by kernel_rfl) (by kernel_rfl) (by kernel_rfl) (fun _ _ _ h => h) (Ex.load rfl T.ag3 (i := 0) rfl rfl) (ulC ulN) (by decide) ?_
  refine GH.take 7 (v := (.int .i64 150)) rfl (by kernel_rfl) (by kernel_rfl) (by kernel_rfl) (fun _ _ _ h => h) (Ex.add rfl rfl (Z := 150) (by decide)) (ulC ulN) (by decide) ?_
  refine GH.done (by kernel_rfl) ?_
  refine GE.thenN ?_
  refine GE.tail rfl (Ex.wp (v := (.int .i64 150)) (Ex.assign rfl) (by decide)) (fun _ _ => ?_)
  refine GE.thenN ?_
  refine GC.ret ?_
  refine GC.ret1 rfl (Rv.tmp rfl) (fun wN HN => ?_)
  exact HN.ret () trivial rfl (ulS ulN) rfl

set_option maxRecDepth 100000 in
set_option maxHeartbeats 1000000 in
theorem j58_3 (w : World) :
    Calls Try.prog 58 #[] w (Ret w (fun _ : Unit => True) (fun rz => (.agg #[(.int .i64 23), (.int .i64 8)])) (fun rz => [])) := by
  refine enter (M := None) (L := []) (n := 2) (l := []) Try.func58 rfl rfl (Args.nil _) (Hp.start _ _) ?_
  refine GC.seq ?_
  refine GC.region ?_
  refine GL.step (Stp.alloc T.zr67 (by decide)) (fun bq1 _ => ?_)
  refine GL.nil ?_
  refine GE.thenN ?_
  refine GC.seq ?_
  refine GC.region ?_
  refine GL.val (v := (.agg #[(.int .i64 23), (.int .i64 8)])) (Ex.build (vs := [(0, (.int .i64 23)), (1, (.int .i64 8))]) rfl (by first | rfl | kernel_rfl)) (by decide) ?_
  refine GL.step (Stp.st0 (cs' := [(.int .i64 23), (.int .i64 8)]) rfl rfl rfl T.sz67 rfl rfl rfl) (fun _ _ => ?_)
  refine GL.nil ?_
  refine GE.thenN ?_
  refine GC.ret ?_
  refine GC.ret1 rfl (Rv.cellA rfl T.ag67 T.sz67 (L := _) (i := 0) rfl (vs := [(.int .i64 23), (.int .i64 8)]) rfl rfl) (fun wN HN => ?_)
  exact HN.ret () trivial rfl (ulS ulN) rfl

set_option maxRecDepth 100000 in
set_option maxHeartbeats 1000000 in
theorem value_p (a : Int) (w : World) :
    Calls Try.prog 39 #[(.int .u32 a)] w (Ret w (fun z : Nat => Fv.Is .f64 z (Fv.V a)) (fun z => .float .f64 z) (fun _ => [])) := by
  refine enter (M := None) (L := []) (n := 6) (l := [(0, (.int .u32 a))]) Try.func39 rfl rfl (Args.cons rfl (Args.nil _)) (Hp.start _ _) ?_
  refine GC.seq ?_
  refine GC.region ?_
  refine GL.val (Ex.assign rfl) (by decide) ?_
  refine GL.nil ?_
  refine GE.thenN ?_
  refine GC.seq ?_
  refine GC.region ?_
  refine GL.val (Ex.move rfl) (by decide) ?_
  refine GL.val (v := (.float .f32 a.toNat)) (Ex.ext (vs := [(.int .u32 a)]) rfl rfl T.ext69 (fun _ => rfl)) (by decide) ?_
  refine GL.step (Stp.fcv (fx := (Fv.rd .f32 a.toNat)) (by decide) rfl Try.underlying76 Try.underlying50 (Fv.Is.rd _ _) Fv.holds_up (by decide)) (fun xq1 hq2 => ?_)
  refine GL.val (Ex.assign rfl) (by decide) ?_
  refine GL.nil ?_
  refine GE.thenN ?_
  refine GC.ret ?_
  refine GC.ret1 rfl (Rv.tmp rfl) (fun wN HN => ?_)
  exact HN.ret xq1 hq2 rfl (List.nil_sublist _) rfl

set_option maxRecDepth 100000 in
set_option maxHeartbeats 1000000 in
theorem told_a (z : Nat) (fx : Option Nat) (w : World) (hz : Fv.Is .f32 z fx) :
    Calls Try.prog 84 #[(.float .f32 z)] w (Ret w (fun _ : Unit => True) (fun _ => (.int .u32 ((Fv.T32 fx)))) (fun _ => [])) := by
  refine enter (M := None) (L := []) (n := 8) (l := [(0, (.float .f32 z))]) Try.func84 rfl rfl (Args.cons rfl (Args.nil _)) (Hp.start _ _) ?_
  refine GC.seq ?_
  refine GC.region ?_
  refine GL.val (Ex.assign rfl) (by decide) ?_
  refine GL.nil ?_
  refine GE.thenN ?_
  refine GC.seq ?_
  refine GC.seq ?_
  refine GC.region ?_
  refine GL.val (Ex.move rfl) (by decide) ?_
  refine GL.val (Ex.move rfl) (by decide) ?_
  refine GL.val (v := (.bool fx.isNone)) (Ex.fneq (r := fx.isNone) rfl rfl (Eq.trans (congrArg (fun o : Option Ordering => (o != some .eq)) (Fv.ord_eq hz hz)) (Fv.neq_self hz))) (by decide) ?_
  refine GL.nil ?_
  refine GE.thenN ?_
  refine GC.cond rfl (fun hq1 => ?_) (fun hq1 => ?_)
  · refine GC.seq ?_
    refine GC.region ?_
    refine GL.val (Ex.assign rfl) (by decide) ?_
    refine GL.nil ?_
    refine GE.thenN ?_
    refine GC.ret ?_
    refine GE.thenR ?_
    refine GC.ret1 rfl (Rv.tmp rfl) (fun wN HN => ?_)
    exact HN.ret () trivial (by rw [Fv.T32_none hq1]) (List.nil_sublist _) rfl
  · refine GC.skip ?_
    refine GE.thenN ?_
    refine GC.seq ?_
    refine GC.region ?_
    refine GL.val (Ex.move rfl) (by decide) ?_
    refine GL.val (v := (.int .u32 (((z : Nat) : Int)))) (Ex.ext (vs := [(.float .f32 z)]) rfl rfl T.ext92 (fun _ => rfl)) (by decide) ?_
    refine GL.val (Ex.assign rfl) (by decide) ?_
    refine GL.nil ?_
    refine GE.thenN ?_
    refine GC.ret ?_
    refine GC.ret1 rfl (Rv.tmp rfl) (fun wN HN => ?_)
    exact HN.ret () trivial (by rw [Fv.T32_some hz hq1]) (List.nil_sublist _) rfl

set_option maxRecDepth 100000 in
set_option maxHeartbeats 1000000 in
theorem narrow_p (z : Nat) (fx : Option Nat) (w : World) (hz : Fv.Is .f64 z fx) (hH : Fv.Holds .f64 .f32 fx) :
    Calls Try.prog 70 #[(.int .u64 (((z : Nat) : Int)))] w (Ret w (fun _ : Unit => True) (fun _ => (.int .u32 ((Fv.T fx)))) (fun _ => [])) := by
  refine enter (M := None) (L := []) (n := 7) (l := [(0, (.int .u64 (((z : Nat) : Int))))]) Try.func70 rfl rfl (Args.cons rfl (Args.nil _)) (Hp.start _ _) ?_
  refine GC.seq ?_
  refine GC.region ?_
  refine GL.val (Ex.assign rfl) (by decide) ?_
  refine GL.nil ?_
  refine GE.thenN ?_
  refine GC.seq ?_
  refine GC.region ?_
  refine GL.val (Ex.move rfl) (by decide) ?_
  refine GL.val (v := (.float .f64 z)) (Ex.ext (vs := [(.int .u64 (((z : Nat) : Int)))]) rfl rfl T.ext85 (fun _ => rfl)) (by decide) ?_
  refine GL.step (Stp.fcv (fx := fx) (by decide) rfl Try.underlying50 Try.underlying76 hz hH (by decide)) (fun xq1 hq2 => ?_)
  refine GL.step (Stp.callR (vs := [(.float .f32 xq1)]) rfl rfl T.own84 (by decide) (fun wc hw => told_a xq1 (Fv.cv .f64 .f32 fx) wc hq2)) (fun xq3 hq4 => ?_)
  refine GL.val (Ex.assign rfl) (by decide) ?_
  refine GL.nil ?_
  refine GE.thenN ?_
  refine GC.ret ?_
  refine GC.ret1 rfl (Rv.tmp rfl) (fun wN HN => ?_)
  exact HN.ret () trivial (by rfl) (List.nil_sublist _) rfl

set_option maxRecDepth 100000 in
set_option maxHeartbeats 1000000 in
theorem told_p (z : Nat) (fx : Option Nat) (w : World) (hz : Fv.Is .f64 z fx) (hH : Fv.Holds .f64 .f32 fx) :
    Calls Try.prog 40 #[(.float .f64 z)] w (Ret w (fun _ : Unit => True) (fun _ => (.int .u32 ((Fv.T fx)))) (fun _ => [])) := by
  refine enter (M := None) (L := []) (n := 6) (l := [(0, (.float .f64 z))]) Try.func40 rfl rfl (Args.cons rfl (Args.nil _)) (Hp.start _ _) ?_
  refine GC.seq ?_
  refine GC.region ?_
  refine GL.val (Ex.assign rfl) (by decide) ?_
  refine GL.nil ?_
  refine GE.thenN ?_
  refine GC.seq ?_
  refine GC.region ?_
  refine GL.val (Ex.move rfl) (by decide) ?_
  refine GL.val (v := (.int .u64 (((z : Nat) : Int)))) (Ex.ext (vs := [(.float .f64 z)]) rfl rfl T.ext71 (fun _ => rfl)) (by decide) ?_
  refine GL.step (Stp.callR (vs := [(.int .u64 (((z : Nat) : Int)))]) rfl rfl T.own70 (by decide) (fun wc hw => narrow_p z fx wc hz hH)) (fun xq1 hq2 => ?_)
  refine GL.val (Ex.assign rfl) (by decide) ?_
  refine GL.nil ?_
  refine GE.thenN ?_
  refine GC.ret ?_
  refine GC.ret1 rfl (Rv.tmp rfl) (fun wN HN => ?_)
  exact HN.ret () trivial (by rfl) (List.nil_sublist _) rfl

set_option maxRecDepth 100000 in
set_option maxHeartbeats 1000000 in
theorem toycc_p (r g b : Int) (w : World) (hY : Fv.Holds .f64 .f32 (Sl.yy r g b)) (hG : Fv.Holds .f64 .f32 (Sl.yg r g b)) (hO : Fv.Holds .f64 .f32 (Sl.yo r g b)) :
    Calls Try.prog 14 #[(.int .u32 r), (.int .u32 g), (.int .u32 b)] w (Ret w (fun _ : Unit => True) (fun _ => (.tuple #[(.int .u32 ((Fv.T (Sl.yy r g b)))), (.int .u32 ((Fv.T (Sl.yg r g b)))), (.int .u32 ((Fv.T (Sl.yo r g b))))])) (fun _ => [])) := by
  refine enter (M := None) (L := []) (n := 36) (l := [(0, (.int .u32 r)), (1, (.int .u32 g)), (2, (.int .u32 b))]) Try.func14 rfl rfl (Args.cons rfl (Args.cons rfl (Args.cons rfl (Args.nil _)))) (Hp.start _ _) ?_
  refine GC.seq ?_
  refine GC.region ?_
  refine GL.val (Ex.assign rfl) (by decide) ?_
  refine GL.val (Ex.assign rfl) (by decide) ?_
  refine GL.val (Ex.assign rfl) (by decide) ?_
  refine GL.nil ?_
  refine GE.thenN ?_
  refine GC.seq ?_
  refine GC.region ?_
  refine GL.val (Ex.move rfl) (by decide) ?_
  refine GL.step (Stp.callR (vs := [(.int .u32 r)]) rfl rfl T.own39 (by decide) (fun wc hw => value_p r wc)) (fun xq1 hq2 => ?_)
  refine GL.val (Ex.move rfl) (by decide) ?_
  refine GL.step (Stp.callR (vs := [(.int .u32 b)]) rfl rfl T.own39 (by decide) (fun wc hw => value_p b wc)) (fun xq3 hq4 => ?_)
  refine GL.step (Stp.fop (fx := (Fv.V r)) (fy := (Fv.V b)) rfl rfl rfl hq2 hq4 (by decide)) (fun xq5 hq6 => ?_)
  refine GL.val (Ex.move rfl) (by decide) ?_
  refine GL.step (Stp.callR (vs := [(.int .u32 g)]) rfl rfl T.own39 (by decide) (fun wc hw => value_p g wc)) (fun xq7 hq8 => ?_)
  refine GL.step (Stp.fop (fx := (Fv.V g)) (fy := (some 4611686018427387904)) rfl rfl rfl hq8 ⟨rfl, by decide +kernel⟩ (by decide)) (fun xq9 hq10 => ?_)
  refine GL.val (Ex.assign rfl) (by decide) ?_
  refine GL.val (Ex.assign rfl) (by decide) ?_
  refine GL.nil ?_
  refine GE.thenN ?_
  refine GC.seq ?_
  refine GC.region ?_
  refine GL.val (Ex.move rfl) (by decide) ?_
  refine GL.val (Ex.move rfl) (by decide) ?_
  refine GL.step (Stp.fop (fx := (Fv.op .add .f64 (Fv.V r) (Fv.V b))) (fy := (Fv.op .mul .f64 (Fv.V g) (some 4611686018427387904))) rfl rfl rfl hq6 hq10 (by decide)) (fun xq11 hq12 => ?_)
  refine GL.step (Stp.fop (fx := (Fv.op .add .f64 (Fv.op .add .f64 (Fv.V r) (Fv.V b)) (Fv.op .mul .f64 (Fv.V g) (some 4611686018427387904)))) (fy := (some 4616189618054758400)) rfl rfl rfl hq12 ⟨rfl, by decide +kernel⟩ (by decide)) (fun xq13 hq14 => ?_)
  refine GL.step (Stp.callR (vs := [(.float .f64 xq13)]) rfl rfl T.own40 (by decide) (fun wc hw => told_p xq13 (Fv.op .quo .f64 (Fv.op .add .f64 (Fv.op .add .f64 (Fv.V r) (Fv.V b)) (Fv.op .mul .f64 (Fv.V g) (some 4611686018427387904))) (some 4616189618054758400)) wc hq14 hY)) (fun xq15 hq16 => ?_)
  refine GL.val (Ex.move rfl) (by decide) ?_
  refine GL.val (Ex.move rfl) (by decide) ?_
  refine GL.step (Stp.fop (fx := (Fv.op .mul .f64 (Fv.V g) (some 4611686018427387904))) (fy := (Fv.op .add .f64 (Fv.V r) (Fv.V b))) rfl rfl rfl hq10 hq6 (by decide)) (fun xq17 hq18 => ?_)
  refine GL.step (Stp.fop (fx := (Fv.op .sub .f64 (Fv.op .mul .f64 (Fv.V g) (some 4611686018427387904)) (Fv.op .add .f64 (Fv.V r) (Fv.V b)))) (fy := (some 4616189618054758400)) rfl rfl rfl hq18 ⟨rfl, by decide +kernel⟩ (by decide)) (fun xq19 hq20 => ?_)
  refine GL.step (Stp.callR (vs := [(.float .f64 xq19)]) rfl rfl T.own40 (by decide) (fun wc hw => told_p xq19 (Fv.op .quo .f64 (Fv.op .sub .f64 (Fv.op .mul .f64 (Fv.V g) (some 4611686018427387904)) (Fv.op .add .f64 (Fv.V r) (Fv.V b))) (some 4616189618054758400)) wc hq20 hG)) (fun xq21 hq22 => ?_)
  refine GL.val (Ex.move rfl) (by decide) ?_
  refine GL.step (Stp.callR (vs := [(.int .u32 r)]) rfl rfl T.own39 (by decide) (fun wc hw => value_p r wc)) (fun xq23 hq24 => ?_)
  refine GL.val (Ex.move rfl) (by decide) ?_
  refine GL.step (Stp.callR (vs := [(.int .u32 b)]) rfl rfl T.own39 (by decide) (fun wc hw => value_p b wc)) (fun xq25 hq26 => ?_)
  refine GL.step (Stp.fop (fx := (Fv.V r)) (fy := (Fv.V b)) rfl rfl rfl hq24 hq26 (by decide)) (fun xq27 hq28 => ?_)
  refine GL.step (Stp.fop (fx := (Fv.op .sub .f64 (Fv.V r) (Fv.V b))) (fy := (some 4611686018427387904)) rfl rfl rfl hq28 ⟨rfl, by decide +kernel⟩ (by decide)) (fun xq29 hq30 => ?_)
  refine GL.step (Stp.callR (vs := [(.float .f64 xq29)]) rfl rfl T.own40 (by decide) (fun wc hw => told_p xq29 (Fv.op .quo .f64 (Fv.op .sub .f64 (Fv.V r) (Fv.V b)) (some 4611686018427387904)) wc hq30 hO)) (fun xq31 hq32 => ?_)
  refine GL.val (Ex.assign rfl) (by decide) ?_
  refine GL.val (Ex.assign rfl) (by decide) ?_
  refine GL.val (Ex.assign rfl) (by decide) ?_
  refine GL.nil ?_
  refine GE.thenN ?_
  refine GC.ret ?_
  refine GC.ret3 rfl (Rv.tmp rfl) (Rv.tmp rfl) (Rv.tmp rfl) (fun wN HN => ?_)
  exact HN.ret () trivial (by rfl) (List.nil_sublist _) rfl

set_option maxRecDepth 100000 in
set_option maxHeartbeats 1000000 in
theorem log_p (a : Int) (w : World) (ha : 0 ≤ a ∧ a < 4294967296) :
    Calls Try.prog 18 #[(.int .u32 a)] w (Ret w (fun _ : Unit => True) (fun _ => (.int .u32 ((Sl.LG a)))) (fun _ => [])) := by
  refine enter (M := None) (L := []) (n := 23) (l := [(0, (.int .u32 a))]) Try.func18 rfl rfl (Args.cons rfl (Args.nil _)) (Hp.start _ _) ?_
  refine GC.seq ?_
  refine GC.region ?_
  refine GL.val (Ex.assign rfl) (by decide) ?_
  refine GL.nil ?_
  refine GE.thenN ?_
  refine GC.seq ?_
  refine GC.seq ?_
  refine GC.region ?_
  refine GL.val (Ex.move rfl) (by decide) ?_
  refine GL.step (Stp.callR (vs := [(.int .u32 a)]) rfl rfl T.own39 (by decide) (fun wc hw => value_p a wc)) (fun xq1 hq2 => ?_)
  refine GL.val (Ex.assign rfl) (by decide) ?_
  refine GL.nil ?_
  refine GE.thenN ?_
  refine GC.block ?_
  refine GC.seq ?_
  refine GC.region ?_
  refine GL.val (Ex.move rfl) (by decide) ?_
  refine GL.val (v := (.bool ((Fv.ord .f64 (Fv.V a) (some 0) == some .eq)))) (Ex.feql (r := (Fv.ord .f64 (Fv.V a) (some 0) == some .eq)) rfl rfl (congrArg (fun o : Option Ordering => (o == some .eq)) (Fv.ord_eq hq2 ⟨rfl, by decide +kernel⟩))) (by decide) ?_
  refine GL.val (Ex.assign rfl) (by decide) ?_
  refine GL.nil ?_
  refine GE.thenN ?_
  refine GC.cond rfl (fun hq3 => ?_) (fun hq3 => ?_)
  · refine GC.seq ?_
    refine GC.region ?_
    refine GL.val (Ex.assign rfl) (by decide) ?_
    refine GL.nil ?_
    refine GE.thenN ?_
    refine GC.ret ?_
    refine GE.blockR ?_
    refine GE.thenR ?_
    refine GC.ret1 rfl (Rv.tmp rfl) (fun wN HN => ?_)
    exact HN.ret () trivial (by unfold Sl.LG; rw [if_pos hq3]) (List.nil_sublist _) rfl
  · refine GC.seq ?_
    refine GC.region ?_
    refine GL.val (Ex.move rfl) (by decide) ?_
    refine GL.val (v := (.bool ((Fv.ord .f64 (Fv.V a) (some 0) == some .gt)))) (Ex.fgtr (r := (Fv.ord .f64 (Fv.V a) (some 0) == some .gt)) rfl rfl (congrArg (fun o : Option Ordering => (o == some .gt)) (Fv.ord_eq hq2 ⟨rfl, by decide +kernel⟩))) (by decide) ?_
    refine GL.val (v := (.bool (!((Fv.ord .f64 (Fv.V a) (some 0) == some .gt))))) (Ex.not rfl) (by decide) ?_
    refine GL.val (Ex.assign rfl) (by decide) ?_
    refine GL.nil ?_
    refine GE.thenN ?_
    refine GC.cond rfl (fun hq4 => ?_) (fun hq4 => ?_)
    · refine GC.seq ?_
      refine GC.region ?_
      refine GL.val (Ex.assign rfl) (by decide) ?_
      refine GL.nil ?_
      refine GE.thenN ?_
      refine GC.ret ?_
      refine GE.blockR ?_
      refine GE.thenR ?_
      refine GC.ret1 rfl (Rv.tmp rfl) (fun wN HN => ?_)
      exact HN.ret () trivial (by unfold Sl.LG; rw [if_neg (by rw [hq3]; decide), if_pos hq4]) (List.nil_sublist _) rfl
    · refine GC.seq ?_
      refine GC.region ?_
      refine GL.val (Ex.move rfl) (by decide) ?_
      refine GL.val (v := (.bool (decide (a = 2139095040)))) (Ex.eql rfl rfl) (by decide) ?_
      refine GL.val (Ex.assign rfl) (by decide) ?_
      refine GL.nil ?_
      refine GE.thenN ?_
      refine GC.cond rfl (fun hq5 => ?_) (fun hq5 => ?_)
      · replace hq5 := of_decide_eq_true hq5
        refine GC.seq ?_
        refine GC.region ?_
        refine GL.val (Ex.move rfl) (by decide) ?_
        refine GL.val (Ex.assign rfl) (by decide) ?_
        refine GL.nil ?_
        refine GE.thenN ?_
        refine GC.ret ?_
        refine GE.blockR ?_
        refine GE.thenR ?_
        refine GC.ret1 rfl (Rv.tmp rfl) (fun wN HN => ?_)
        exact HN.ret () trivial (by unfold Sl.LG; rw [if_neg (by rw [hq3]; decide), if_neg (by rw [hq4]; decide), if_pos hq5]) (List.nil_sublist _) rfl
      · replace hq5 := of_decide_eq_false hq5
        refine GC.skip ?_
        refine GE.blockN ?_
        refine GE.thenN ?_
        refine GC.seq ?_
        refine GC.region ?_
        refine GL.val (Ex.move rfl) (by decide) ?_
        refine GL.val (v := (.int .i64 a)) (Ex.conv rfl Try.underlying23 Try.underlying3 (Z := a) (w64 (by omega))) (by decide) ?_
        refine GL.val (v := (.int .i64 (a - 1065353216))) (Ex.sub' rfl rfl (Z := a - 1065353216) (w64 (by omega))) (by decide) ?_
        refine GL.val (v := (.float .f64 ((floatOfInt .f64 (a - 1065353216))))) (Ex.cif rfl Try.underlying3 Try.underlying50) (by decide) ?_
        refine GL.step (Stp.fop (fx := (some (floatOfInt .f64 (a - 1065353216)))) (fy := (some 4710765210229538816)) rfl rfl rfl ⟨rfl, Fv.ofInt_ne _ _⟩ ⟨rfl, by decide +kernel⟩ (by decide)) (fun xq6 hq7 => ?_)
        refine GL.step (Stp.callR (vs := [(.float .f64 xq6)]) rfl rfl T.own40 (by decide) (fun wc hw => told_p xq6 (Fv.op .quo .f64 (some (floatOfInt .f64 (a - 1065353216))) (some 4710765210229538816)) wc hq7 (Sl.log_holds ha))) (fun xq8 hq9 => ?_)
        refine GL.val (Ex.assign rfl) (by decide) ?_
        refine GL.nil ?_
        refine GE.thenN ?_
        refine GC.ret ?_
        refine GC.ret1 rfl (Rv.tmp rfl) (fun wN HN => ?_)
        exact HN.ret () trivial (by unfold Sl.LG; rw [if_neg (by rw [hq3]; decide), if_neg (by rw [hq4]; decide), if_neg hq5]; rfl) (List.nil_sublist _) rfl

set_option maxRecDepth 100000 in
set_option maxHeartbeats 1000000 in
theorem key_l (a : Int) (w : World) (ha : 0 ≤ a ∧ a < 4294967296) :
    Calls Try.prog 36 #[(.int .u32 a)] w (Ret w (fun _ : Unit => True) (fun _ => (.int .i64 ((Fv.rk a)))) (fun _ => [])) := by
  refine enter (M := None) (L := []) (n := 12) (l := [(0, (.int .u32 a))]) Try.func36 rfl rfl (Args.cons rfl (Args.nil _)) (Hp.start _ _) ?_
  refine GC.seq ?_
  refine GC.region ?_
  refine GL.val (Ex.assign rfl) (by decide) ?_
  refine GL.nil ?_
  refine GE.thenN ?_
  refine GC.seq ?_
  refine GC.seq ?_
  refine GC.region ?_
  refine GL.val (Ex.move rfl) (by decide) ?_
  refine GL.val (v := (.int .u32 (a / 2147483648))) (Ex.shr rfl (m := 31) rfl (by decide) (Z := a / 2147483648) rfl) (by decide) ?_
  refine GL.val (v := (.bool (decide ((a / 2147483648) = 1)))) (Ex.eql rfl rfl) (by decide) ?_
  refine GL.nil ?_
  refine GE.thenN ?_
  refine GC.cond rfl (fun hq1 => ?_) (fun hq1 => ?_)
  · replace hq1 := of_decide_eq_true hq1
    refine GC.seq ?_
    refine GC.region ?_
    refine GL.val (Ex.move rfl) (by decide) ?_
    refine GL.val (v := (.int .u32 (a % 2147483648))) (Ex.bits rfl rfl (by simp) (Z := a % 2147483648) (andm 31 (by omega) (by omega) (by decide) rfl rfl)) (by decide) ?_
    refine GL.val (v := (.int .i64 (a % 2147483648))) (Ex.conv rfl Try.underlying23 Try.underlying3 (Z := a % 2147483648) (w64 (by omega))) (by decide) ?_
    refine GL.val (v := (.int .i64 (-(a % 2147483648)))) (Ex.neg rfl (Z := -(a % 2147483648)) (by rw [w64 (by omega)]; omega)) (by decide) ?_
    refine GL.val (Ex.assign rfl) (by decide) ?_
    refine GL.nil ?_
    refine GE.thenN ?_
    refine GC.ret ?_
    refine GE.thenR ?_
    refine GC.ret1 rfl (Rv.tmp rfl) (fun wN HN => ?_)
    exact HN.ret () trivial (by unfold Fv.rk; first | rw [if_pos (by omega)] | (rw [if_neg (by omega)]; refine congrArg (Value.int .i64) ?_; omega)) (List.nil_sublist _) rfl
  · replace hq1 := of_decide_eq_false hq1
    refine GC.skip ?_
    refine GE.thenN ?_
    refine GC.seq ?_
    refine GC.region ?_
    refine GL.val (Ex.move rfl) (by decide) ?_
    refine GL.val (v := (.int .i64 a)) (Ex.conv rfl Try.underlying23 Try.underlying3 (Z := a) (w64 (by omega))) (by decide) ?_
    refine GL.val (Ex.assign rfl) (by decide) ?_
    refine GL.nil ?_
    refine GE.thenN ?_
    refine GC.ret ?_
    refine GC.ret1 rfl (Rv.tmp rfl) (fun wN HN => ?_)
    exact HN.ret () trivial (by unfold Fv.rk; first | rw [if_pos (by omega)] | (rw [if_neg (by omega)]; refine congrArg (Value.int .i64) ?_; omega)) (List.nil_sublist _) rfl

set_option maxRecDepth 100000 in
set_option maxHeartbeats 1000000 in
theorem finite_l (a : Int) (w : World) (ha : 0 ≤ a ∧ a < 4294967296) :
    Calls Try.prog 28 #[(.int .u32 a)] w (Ret w (fun _ : Unit => True) (fun _ => (.bool (decide (a % 2147483648 < 2139095040)))) (fun _ => [])) := by
  refine enter (M := None) (L := []) (n := 6) (l := [(0, (.int .u32 a))]) Try.func28 rfl rfl (Args.cons rfl (Args.nil _)) (Hp.start _ _) ?_
  refine GC.seq ?_
  refine GC.region ?_
  refine GL.val (Ex.assign rfl) (by decide) ?_
  refine GL.nil ?_
  refine GE.thenN ?_
  refine GC.seq ?_
  refine GC.region ?_
  refine GL.val (Ex.move rfl) (by decide) ?_
  refine GL.val (v := (.int .u32 (a % 2147483648))) (Ex.bits rfl rfl (by simp) (Z := a % 2147483648) (andm 31 (by omega) (by omega) (by decide) rfl rfl)) (by decide) ?_
  refine GL.val (v := (.bool (decide ((a % 2147483648) < 2139095040)))) (Ex.lss rfl rfl) (by decide) ?_
  refine GL.val (Ex.assign rfl) (by decide) ?_
  refine GL.nil ?_
  refine GE.thenN ?_
  refine GC.ret ?_
  refine GC.ret1 rfl (Rv.tmp rfl) (fun wN HN => ?_)
  exact HN.ret () trivial (by rfl) (List.nil_sublist _) rfl

set_option maxRecDepth 100000 in
set_option maxHeartbeats 1000000 in
theorem lawMean (r g b : Int) (w : World) (hr : 0 ≤ r ∧ r < 4294967296) (hg : 0 ≤ g ∧ g < 4294967296) (hb : 0 ≤ b ∧ b < 4294967296) :
    Calls Try.prog 12 #[(.int .u32 r), (.int .u32 g), (.int .u32 b)] w (Ret w (fun _ : Unit => True) (fun _ => .bool true) (fun _ => [])) := by
  refine enter (M := None) (L := []) (n := 83) (l := [(0, (.int .u32 r)), (1, (.int .u32 g)), (2, (.int .u32 b))]) Try.func12 rfl rfl (Args.cons rfl (Args.cons rfl (Args.cons rfl (Args.nil _)))) (Hp.start _ _) ?_
  refine GC.seq ?_
  refine GC.region ?_
  refine GL.val (Ex.assign rfl) (by decide) ?_
  refine GL.nil ?_
  refine GE.thenN ?_
  refine GC.seq ?_
  refine GC.seq ?_
  refine GC.region ?_
  refine GL.step (Stp.callR (vs := []) rfl rfl T.own13 (by decide) (fun wc hw => known wc)) (fun xq1 hq2 => ?_)
  refine GL.val (v := (.bool false)) (Ex.cast (Ex.not rfl) rfl) (by decide) ?_
  refine GL.nil ?_
  refine GE.thenN ?_
  refine GC.cond rfl (fun hq3 => by cases hq3) (fun _ => ?_)
  refine GC.skip ?_
  refine GE.thenN ?_
  refine GC.seq ?_
  refine GC.seq ?_
  refine GC.region ?_
  refine GL.val (Ex.move rfl) (by decide) ?_
  by_cases hq4 : r < 2139095040
  · refine GL.val (v := (.bool true)) (Ex.cast (Ex.lss rfl rfl) (congrArg Value.bool (decide_eq_true hq4))) (by decide) ?_
    refine GL.val (Ex.move rfl) (by decide) ?_
    refine GL.stepG (tj := 15) rfl rfl (Ex.wp (v := (.int .u32 r)) (Ex.move rfl) (by decide)) (fun _ _ => ?_)
    refine GL.stepG (tj := 15) rfl rfl (Ex.wp (v := (.bool (decide (0 < r)))) (Ex.gtr rfl rfl) (by decide)) (fun _ _ => ?_)
    refine GL.val (v := (.bool (decide (0 < r)))) (Ex.pickT rfl rfl) (by decide) ?_
    refine GL.nil ?_
    refine GE.thenN ?_
    refine GC.cond rfl (fun hq5 => ?_) (fun hq5 => ?_)
    · replace hq5 := of_decide_eq_true hq5
      refine GC.seq ?_
      refine GC.region ?_
      refine GL.val (Ex.move rfl) (by decide) ?_
      refine GL.step (Stp.callR (vs := [(.int .u32 r)]) rfl rfl T.own18 (by decide) (fun wc hw => log_p r wc (by omega))) (fun xq6 hq7 => ?_)
      refine GL.val (Ex.assign rfl) (by decide) ?_
      refine GL.nil ?_
      refine GE.thenN ?_
      refine GC.seq ?_
      have c1 : Fv.rk 3271426048 = -1123942400 := by decide
      have c2 : Fv.rk 1124073472 = 1124073472 := by decide
      have hLG := Sl.LG_bd (a := r) (by omega)
      refine GC.region ?_
      refine GL.val (Ex.move rfl) (by decide) ?_
      refine GL.step (Stp.callR (vs := [(.int .u32 ((Sl.LG r)))]) rfl rfl T.own28 (by decide) (fun wc hw => finite_l ((Sl.LG r)) wc (by first | assumption | omega | exact Bt.lst_bd (by assumption) (by assumption) | exact Bt.gst_bd (by assumption) (by assumption) | exact Bt.key_bd (by assumption) | exact Bt.unkey_bd (by assumption) | exact Bt.nxt_bd (by assumption) | exact Bt.lst_bd (Bt.gst_bd (by assumption) (by assumption)) (by assumption) | exact Bt.btw_bd (by assumption) (Bt.lst_bd (by assumption) (by assumption)) (Bt.gst_bd (by assumption) (by assumption))))) (fun xq8 hq9 => ?_)
      refine GL.val (v := (.bool false)) (Ex.cast (Ex.not rfl) (congrArg Value.bool (congrArg (fun z => !z) (decide_eq_true (by omega))))) (by decide) ?_
      refine GL.val (Ex.move rfl) (by decide) ?_
      refine GL.stepG (tj := 24) rfl rfl (Ex.wp (v := (.int .u32 ((Sl.LG r)))) (Ex.move rfl) (by decide)) (fun _ _ => ?_)
      refine GL.stepG (tj := 24) rfl rfl (Stp.callR (vs := [(.int .u32 ((Sl.LG r)))]) rfl rfl T.own36 (by decide) (fun wc hw => key_l ((Sl.LG r)) wc (by first | assumption | omega | exact Bt.lst_bd (by assumption) (by assumption) | exact Bt.gst_bd (by assumption) (by assumption) | exact Bt.key_bd (by assumption) | exact Bt.unkey_bd (by assumption) | exact Bt.nxt_bd (by assumption) | exact Bt.lst_bd (Bt.gst_bd (by assumption) (by assumption)) (by assumption) | exact Bt.btw_bd (by assumption) (Bt.lst_bd (by assumption) (by assumption)) (Bt.gst_bd (by assumption) (by assumption))))) (fun xq10 hq11 => ?_)
      refine GL.stepG (tj := 24) rfl rfl (Stp.callR (vs := [(.int .u32 3271426048)]) rfl rfl T.own36 (by decide) (fun wc hw => key_l 3271426048 wc (by first | assumption | omega | exact Bt.lst_bd (by assumption) (by assumption) | exact Bt.gst_bd (by assumption) (by assumption) | exact Bt.key_bd (by assumption) | exact Bt.unkey_bd (by assumption) | exact Bt.nxt_bd (by assumption) | exact Bt.lst_bd (Bt.gst_bd (by assumption) (by assumption)) (by assumption) | exact Bt.btw_bd (by assumption) (Bt.lst_bd (by assumption) (by assumption)) (Bt.gst_bd (by assumption) (by assumption))))) (fun xq12 hq13 => ?_)
      refine GL.stepG (tj := 24) rfl rfl (Ex.wp (v := (.bool false)) (Ex.cast (Ex.lss rfl rfl) (congrArg Value.bool (decide_eq_false (by omega)))) (by decide)) (fun _ _ => ?_)
      refine GL.val (v := (.bool false)) (Ex.pickF rfl rfl) (by decide) ?_
      refine GL.val (Ex.move rfl) (by decide) ?_
      refine GL.stepG (tj := 30) rfl rfl (Ex.wp (v := (.int .u32 ((Sl.LG r)))) (Ex.move rfl) (by decide)) (fun _ _ => ?_)
      refine GL.stepG (tj := 30) rfl rfl (Stp.callR (vs := [(.int .u32 ((Sl.LG r)))]) rfl rfl T.own36 (by decide) (fun wc hw => key_l ((Sl.LG r)) wc (by first | assumption | omega | exact Bt.lst_bd (by assumption) (by assumption) | exact Bt.gst_bd (by assumption) (by assumption) | exact Bt.key_bd (by assumption) | exact Bt.unkey_bd (by assumption) | exact Bt.nxt_bd (by assumption) | exact Bt.lst_bd (Bt.gst_bd (by assumption) (by assumption)) (by assumption) | exact Bt.btw_bd (by assumption) (Bt.lst_bd (by assumption) (by assumption)) (Bt.gst_bd (by assumption) (by assumption))))) (fun xq14 hq15 => ?_)
      refine GL.stepG (tj := 30) rfl rfl (Stp.callR (vs := [(.int .u32 1124073472)]) rfl rfl T.own36 (by decide) (fun wc hw => key_l 1124073472 wc (by first | assumption | omega | exact Bt.lst_bd (by assumption) (by assumption) | exact Bt.gst_bd (by assumption) (by assumption) | exact Bt.key_bd (by assumption) | exact Bt.unkey_bd (by assumption) | exact Bt.nxt_bd (by assumption) | exact Bt.lst_bd (Bt.gst_bd (by assumption) (by assumption)) (by assumption) | exact Bt.btw_bd (by assumption) (Bt.lst_bd (by assumption) (by assumption)) (Bt.gst_bd (by assumption) (by assumption))))) (fun xq16 hq17 => ?_)
      refine GL.stepG (tj := 30) rfl rfl (Ex.wp (v := (.bool false)) (Ex.cast (Ex.gtr rfl rfl) (congrArg Value.bool (decide_eq_false (by omega)))) (by decide)) (fun _ _ => ?_)
      refine GL.val (v := (.bool false)) (Ex.pickF rfl rfl) (by decide) ?_
      refine GL.nil ?_
      refine GE.thenN ?_
      refine GC.cond rfl (fun hq18 => by cases hq18) (fun _ => ?_)
      refine GC.skip ?_
      refine GE.thenN ?_
      refine GC.seq ?_
      refine GC.seq ?_
      refine GC.region ?_
      refine GL.val (Ex.move rfl) (by decide) ?_
      refine GL.step (Stp.callR (vs := [(.int .u32 r)]) rfl rfl T.own28 (by decide) (fun wc hw => finite_l r wc (by first | assumption | omega | exact Bt.lst_bd (by assumption) (by assumption) | exact Bt.gst_bd (by assumption) (by assumption) | exact Bt.key_bd (by assumption) | exact Bt.unkey_bd (by assumption) | exact Bt.nxt_bd (by assumption) | exact Bt.lst_bd (Bt.gst_bd (by assumption) (by assumption)) (by assumption) | exact Bt.btw_bd (by assumption) (Bt.lst_bd (by assumption) (by assumption)) (Bt.gst_bd (by assumption) (by assumption))))) (fun xq19 hq20 => ?_)
      by_cases hq21 : (r % 2147483648 < 2139095040)
      · refine GL.val (v := (.bool false)) (Ex.cast (Ex.not rfl) (congrArg Value.bool (congrArg (fun z => !z) (decide_eq_true hq21)))) (by decide) ?_
        refine GL.val (Ex.move rfl) (by decide) ?_
        refine GL.stepG (tj := 39) rfl rfl (Ex.wp (v := (.int .u32 g)) (Ex.move rfl) (by decide)) (fun _ _ => ?_)
        refine GL.stepG (tj := 39) rfl rfl (Stp.callR (vs := [(.int .u32 g)]) rfl rfl T.own28 (by decide) (fun wc hw => finite_l g wc (by first | assumption | omega | exact Bt.lst_bd (by assumption) (by assumption) | exact Bt.gst_bd (by assumption) (by assumption) | exact Bt.key_bd (by assumption) | exact Bt.unkey_bd (by assumption) | exact Bt.nxt_bd (by assumption) | exact Bt.lst_bd (Bt.gst_bd (by assumption) (by assumption)) (by assumption) | exact Bt.btw_bd (by assumption) (Bt.lst_bd (by assumption) (by assumption)) (Bt.gst_bd (by assumption) (by assumption))))) (fun xq22 hq23 => ?_)
        by_cases hq24 : (g % 2147483648 < 2139095040)
        · refine GL.stepG (tj := 39) rfl rfl (Ex.wp (v := (.bool false)) (Ex.cast (Ex.not rfl) (congrArg Value.bool (congrArg (fun z => !z) (decide_eq_true hq24)))) (by decide)) (fun _ _ => ?_)
          refine GL.val (v := (.bool false)) (Ex.pickF rfl rfl) (by decide) ?_
          refine GL.val (Ex.move rfl) (by decide) ?_
          refine GL.stepG (tj := 44) rfl rfl (Ex.wp (v := (.int .u32 b)) (Ex.move rfl) (by decide)) (fun _ _ => ?_)
          refine GL.stepG (tj := 44) rfl rfl (Stp.callR (vs := [(.int .u32 b)]) rfl rfl T.own28 (by decide) (fun wc hw => finite_l b wc (by first | assumption | omega | exact Bt.lst_bd (by assumption) (by assumption) | exact Bt.gst_bd (by assumption) (by assumption) | exact Bt.key_bd (by assumption) | exact Bt.unkey_bd (by assumption) | exact Bt.nxt_bd (by assumption) | exact Bt.lst_bd (Bt.gst_bd (by assumption) (by assumption)) (by assumption) | exact Bt.btw_bd (by assumption) (Bt.lst_bd (by assumption) (by assumption)) (Bt.gst_bd (by assumption) (by assumption))))) (fun xq25 hq26 => ?_)
          refine GL.stepG (tj := 44) rfl rfl (Ex.wp (v := (.bool (!(decide (b % 2147483648 < 2139095040))))) (Ex.not rfl) (by decide)) (fun _ _ => ?_)
          refine GL.val (v := (.bool (!(decide (b % 2147483648 < 2139095040))))) (Ex.pickF rfl rfl) (by decide) ?_
          refine GL.nil ?_
          refine GE.thenN ?_
          refine GC.cond rfl (fun hq27 => ?_) (fun hq27 => ?_)
          · replace hq27 := of_decide_eq_false ((Bool.not_eq_true' _).mp hq27)
            refine GC.seq ?_
            refine GC.region ?_
            refine GL.val (Ex.assign rfl) (by decide) ?_
            refine GL.nil ?_
            refine GE.thenN ?_
            refine GC.ret ?_
            refine GE.thenR ?_
            refine GC.ret1 rfl (Rv.tmp rfl) (fun wN HN => ?_)
            exact HN.ret () trivial (by first | rfl | simp) (List.nil_sublist _) rfl
          · replace hq27 := of_decide_eq_true ((Bool.not_eq_false' _).mp hq27)
            refine GC.skip ?_
            refine GE.thenN ?_
            refine GC.seq ?_
            have fr := (Sl.fin_rk hr).2 (by omega)
            have fg := (Sl.fin_rk hg).2 (by omega)
            have fb := (Sl.fin_rk hb).2 (by omega)
            have hM := Sl.mean (lo := min (min (Fv.rk r) (Fv.rk g)) (Fv.rk b)) (hi := max (max (Fv.rk r) (Fv.rk g)) (Fv.rk b)) hr hg hb (by omega) (by omega) (by omega) (by omega) (by omega) (by omega) (by omega) (by omega)
            have hD := Sl.diffs hr hg hb fr fg fb
            have hK := (Sl.fin_rk (s := Fv.T (Sl.yy r g b)) (by omega)).1 (by omega)
            refine GC.region ?_
            refine GL.val (Ex.move rfl) (by decide) ?_
            refine GL.val (Ex.move rfl) (by decide) ?_
            refine GL.val (Ex.move rfl) (by decide) ?_
            refine GL.step (Stp.callR (vs := [(.int .u32 r), (.int .u32 g), (.int .u32 b)]) rfl rfl T.own14 (by decide) (fun wc hw => toycc_p r g b wc hM.1 hD.1 hD.2)) (fun xq28 hq29 => ?_)
            refine GL.val (Ex.move rfl) (by decide) ?_
            refine GL.val (Ex.extract rfl rfl) (by decide) ?_
            refine GL.val (Ex.extract rfl rfl) (by decide) ?_
            refine GL.val (Ex.extract rfl rfl) (by decide) ?_
            refine GL.val (Ex.assign rfl) (by decide) ?_
            refine GL.val (Ex.assign rfl) (by decide) ?_
            refine GL.val (Ex.assign rfl) (by decide) ?_
            refine GL.nil ?_
            refine GE.thenN ?_
            refine GC.seq ?_
            refine GC.region ?_
            refine GL.val (Ex.move rfl) (by decide) ?_
            refine GL.step (Stp.callR (vs := [(.int .u32 ((Fv.T (Sl.yy r g b))))]) rfl rfl T.own28 (by decide) (fun wc hw => finite_l ((Fv.T (Sl.yy r g b))) wc (by first | assumption | omega | exact Bt.lst_bd (by assumption) (by assumption) | exact Bt.gst_bd (by assumption) (by assumption) | exact Bt.key_bd (by assumption) | exact Bt.unkey_bd (by assumption) | exact Bt.nxt_bd (by assumption) | exact Bt.lst_bd (Bt.gst_bd (by assumption) (by assumption)) (by assumption) | exact Bt.btw_bd (by assumption) (Bt.lst_bd (by assumption) (by assumption)) (Bt.gst_bd (by assumption) (by assumption))))) (fun xq30 hq31 => ?_)
            refine GL.val (v := (.bool true)) (Ex.cast (Ex.move rfl) (congrArg Value.bool (decide_eq_true (by omega)))) (by decide) ?_
            refine GL.stepG (tj := 59) rfl rfl (Ex.wp (v := (.int .u32 ((Fv.T (Sl.yy r g b))))) (Ex.move rfl) (by decide)) (fun _ _ => ?_)
            refine GL.stepG (tj := 59) rfl rfl (Stp.callR (vs := [(.int .u32 ((Fv.T (Sl.yy r g b))))]) rfl rfl T.own36 (by decide) (fun wc hw => key_l ((Fv.T (Sl.yy r g b))) wc (by first | assumption | omega | exact Bt.lst_bd (by assumption) (by assumption) | exact Bt.gst_bd (by assumption) (by assumption) | exact Bt.key_bd (by assumption) | exact Bt.unkey_bd (by assumption) | exact Bt.nxt_bd (by assumption) | exact Bt.lst_bd (Bt.gst_bd (by assumption) (by assumption)) (by assumption) | exact Bt.btw_bd (by assumption) (Bt.lst_bd (by assumption) (by assumption)) (Bt.gst_bd (by assumption) (by assumption))))) (fun xq32 hq33 => ?_)
            refine GL.stepG (tj := 59) rfl rfl (Ex.wp (v := (.int .u32 r)) (Ex.move rfl) (by decide)) (fun _ _ => ?_)
            refine GL.stepG (tj := 59) rfl rfl (Stp.callR (vs := [(.int .u32 r)]) rfl rfl T.own36 (by decide) (fun wc hw => key_l r wc (by first | assumption | omega | exact Bt.lst_bd (by assumption) (by assumption) | exact Bt.gst_bd (by assumption) (by assumption) | exact Bt.key_bd (by assumption) | exact Bt.unkey_bd (by assumption) | exact Bt.nxt_bd (by assumption) | exact Bt.lst_bd (Bt.gst_bd (by assumption) (by assumption)) (by assumption) | exact Bt.btw_bd (by assumption) (Bt.lst_bd (by assumption) (by assumption)) (Bt.gst_bd (by assumption) (by assumption))))) (fun xq34 hq35 => ?_)
            refine GL.stepG (tj := 59) rfl rfl (Ex.wp (v := (.int .u32 g)) (Ex.move rfl) (by decide)) (fun _ _ => ?_)
            refine GL.stepG (tj := 59) rfl rfl (Stp.callR (vs := [(.int .u32 g)]) rfl rfl T.own36 (by decide) (fun wc hw => key_l g wc (by first | assumption | omega | exact Bt.lst_bd (by assumption) (by assumption) | exact Bt.gst_bd (by assumption) (by assumption) | exact Bt.key_bd (by assumption) | exact Bt.unkey_bd (by assumption) | exact Bt.nxt_bd (by assumption) | exact Bt.lst_bd (Bt.gst_bd (by assumption) (by assumption)) (by assumption) | exact Bt.btw_bd (by assumption) (Bt.lst_bd (by assumption) (by assumption)) (Bt.gst_bd (by assumption) (by assumption))))) (fun xq36 hq37 => ?_)
            refine GL.stepG (tj := 59) rfl rfl (Ex.wp (v := (.int .u32 b)) (Ex.move rfl) (by decide)) (fun _ _ => ?_)
            refine GL.stepG (tj := 59) rfl rfl (Stp.callR (vs := [(.int .u32 b)]) rfl rfl T.own36 (by decide) (fun wc hw => key_l b wc (by first | assumption | omega | exact Bt.lst_bd (by assumption) (by assumption) | exact Bt.gst_bd (by assumption) (by assumption) | exact Bt.key_bd (by assumption) | exact Bt.unkey_bd (by assumption) | exact Bt.nxt_bd (by assumption) | exact Bt.lst_bd (Bt.gst_bd (by assumption) (by assumption)) (by assumption) | exact Bt.btw_bd (by assumption) (Bt.lst_bd (by assumption) (by assumption)) (Bt.gst_bd (by assumption) (by assumption))))) (fun xq38 hq39 => ?_)
            refine GL.stepG (tj := 59) rfl rfl (Ex.wp (v := (.int .i64 (min (min ((Fv.rk r)) ((Fv.rk g))) ((Fv.rk b))))) (Ex.minI3 rfl rfl rfl (Z := min (min ((Fv.rk r)) ((Fv.rk g))) ((Fv.rk b))) (min643 _ _ _)) (by decide)) (fun _ _ => ?_)
            refine GL.stepG (tj := 59) rfl rfl (Ex.wp (v := (.bool true)) (Ex.cast (Ex.geq rfl rfl) (congrArg Value.bool (decide_eq_true (by omega)))) (by decide)) (fun _ _ => ?_)
            refine GL.val (v := (.bool true)) (Ex.pickT rfl rfl) (by decide) ?_
            refine GL.val (Ex.move rfl) (by decide) ?_
            refine GL.stepG (tj := 71) rfl rfl (Ex.wp (v := (.int .u32 ((Fv.T (Sl.yy r g b))))) (Ex.move rfl) (by decide)) (fun _ _ => ?_)
            refine GL.stepG (tj := 71) rfl rfl (Stp.callR (vs := [(.int .u32 ((Fv.T (Sl.yy r g b))))]) rfl rfl T.own36 (by decide) (fun wc hw => key_l ((Fv.T (Sl.yy r g b))) wc (by first | assumption | omega | exact Bt.lst_bd (by assumption) (by assumption) | exact Bt.gst_bd (by assumption) (by assumption) | exact Bt.key_bd (by assumption) | exact Bt.unkey_bd (by assumption) | exact Bt.nxt_bd (by assumption) | exact Bt.lst_bd (Bt.gst_bd (by assumption) (by assumption)) (by assumption) | exact Bt.btw_bd (by assumption) (Bt.lst_bd (by assumption) (by assumption)) (Bt.gst_bd (by assumption) (by assumption))))) (fun xq40 hq41 => ?_)
            refine GL.stepG (tj := 71) rfl rfl (Ex.wp (v := (.int .u32 r)) (Ex.move rfl) (by decide)) (fun _ _ => ?_)
            refine GL.stepG (tj := 71) rfl rfl (Stp.callR (vs := [(.int .u32 r)]) rfl rfl T.own36 (by decide) (fun wc hw => key_l r wc (by first | assumption | omega | exact Bt.lst_bd (by assumption) (by assumption) | exact Bt.gst_bd (by assumption) (by assumption) | exact Bt.key_bd (by assumption) | exact Bt.unkey_bd (by assumption) | exact Bt.nxt_bd (by assumption) | exact Bt.lst_bd (Bt.gst_bd (by assumption) (by assumption)) (by assumption) | exact Bt.btw_bd (by assumption) (Bt.lst_bd (by assumption) (by assumption)) (Bt.gst_bd (by assumption) (by assumption))))) (fun xq42 hq43 => ?_)
            refine GL.stepG (tj := 71) rfl rfl (Ex.wp (v := (.int .u32 g)) (Ex.move rfl) (by decide)) (fun _ _ => ?_)
            refine GL.stepG (tj := 71) rfl rfl (Stp.callR (vs := [(.int .u32 g)]) rfl rfl T.own36 (by decide) (fun wc hw => key_l g wc (by first | assumption | omega | exact Bt.lst_bd (by assumption) (by assumption) | exact Bt.gst_bd (by assumption) (by assumption) | exact Bt.key_bd (by assumption) | exact Bt.unkey_bd (by assumption) | exact Bt.nxt_bd (by assumption) | exact Bt.lst_bd (Bt.gst_bd (by assumption) (by assumption)) (by assumption) | exact Bt.btw_bd (by assumption) (Bt.lst_bd (by assumption) (by assumption)) (Bt.gst_bd (by assumption) (by assumption))))) (fun xq44 hq45 => ?_)
            refine GL.stepG (tj := 71) rfl rfl (Ex.wp (v := (.int .u32 b)) (Ex.move rfl) (by decide)) (fun _ _ => ?_)
            refine GL.stepG (tj := 71) rfl rfl (Stp.callR (vs := [(.int .u32 b)]) rfl rfl T.own36 (by decide) (fun wc hw => key_l b wc (by first | assumption | omega | exact Bt.lst_bd (by assumption) (by assumption) | exact Bt.gst_bd (by assumption) (by assumption) | exact Bt.key_bd (by assumption) | exact Bt.unkey_bd (by assumption) | exact Bt.nxt_bd (by assumption) | exact Bt.lst_bd (Bt.gst_bd (by assumption) (by assumption)) (by assumption) | exact Bt.btw_bd (by assumption) (Bt.lst_bd (by assumption) (by assumption)) (Bt.gst_bd (by assumption) (by assumption))))) (fun xq46 hq47 => ?_)
            refine GL.stepG (tj := 71) rfl rfl (Ex.wp (v := (.int .i64 (max (max ((Fv.rk r)) ((Fv.rk g))) ((Fv.rk b))))) (Ex.maxI3 rfl rfl rfl (Z := max (max ((Fv.rk r)) ((Fv.rk g))) ((Fv.rk b))) (max643 _ _ _)) (by decide)) (fun _ _ => ?_)
            refine GL.stepG (tj := 71) rfl rfl (Ex.wp (v := (.bool true)) (Ex.cast (Ex.leq rfl rfl) (congrArg Value.bool (decide_eq_true (by omega)))) (by decide)) (fun _ _ => ?_)
            refine GL.val (v := (.bool true)) (Ex.pickT rfl rfl) (by decide) ?_
            refine GL.val (Ex.assign rfl) (by decide) ?_
            refine GL.nil ?_
            refine GE.thenN ?_
            refine GC.ret ?_
            refine GC.ret1 rfl (Rv.tmp rfl) (fun wN HN => ?_)
            exact HN.ret () trivial (by first | rfl | simp) (List.nil_sublist _) rfl
        · refine GL.stepG (tj := 39) rfl rfl (Ex.wp (v := (.bool true)) (Ex.cast (Ex.not rfl) (congrArg Value.bool (congrArg (fun z => !z) (decide_eq_false hq24)))) (by decide)) (fun _ _ => ?_)
          refine GL.val (v := (.bool true)) (Ex.pickF rfl rfl) (by decide) ?_
          refine GL.val (Ex.move rfl) (by decide) ?_
          refine GL.skipG (tj := 44) rfl rfl rfl (by decide) ?_
          refine GL.skipG (tj := 44) rfl rfl rfl (by decide) ?_
          refine GL.skipG (tj := 44) rfl rfl rfl (by decide) ?_
          refine GL.val (v := (.bool true)) (Ex.pickT rfl rfl) (by decide) ?_
          refine GL.nil ?_
          refine GE.thenN ?_
          refine GC.cond rfl (fun _ => ?_) (fun hq48 => by cases hq48)
          refine GC.seq ?_
          refine GC.region ?_
          refine GL.val (Ex.assign rfl) (by decide) ?_
          refine GL.nil ?_
          refine GE.thenN ?_
          refine GC.ret ?_
          refine GE.thenR ?_
          refine GC.ret1 rfl (Rv.tmp rfl) (fun wN HN => ?_)
          exact HN.ret () trivial (by first | rfl | simp) (List.nil_sublist _) rfl
      · refine GL.val (v := (.bool true)) (Ex.cast (Ex.not rfl) (congrArg Value.bool (congrArg (fun z => !z) (decide_eq_false hq21)))) (by decide) ?_
        refine GL.val (Ex.move rfl) (by decide) ?_
        refine GL.skipG (tj := 39) rfl rfl rfl (by decide) ?_
        refine GL.skipG (tj := 39) rfl rfl rfl (by decide) ?_
        refine GL.skipG (tj := 39) rfl rfl rfl (by decide) ?_
        refine GL.val (v := (.bool true)) (Ex.pickT rfl rfl) (by decide) ?_
        refine GL.val (Ex.move rfl) (by decide) ?_
        refine GL.skipG (tj := 44) rfl rfl rfl (by decide) ?_
        refine GL.skipG (tj := 44) rfl rfl rfl (by decide) ?_
        refine GL.skipG (tj := 44) rfl rfl rfl (by decide) ?_
        refine GL.val (v := (.bool true)) (Ex.pickT rfl rfl) (by decide) ?_
        refine GL.nil ?_
        refine GE.thenN ?_
        refine GC.cond rfl (fun _ => ?_) (fun hq49 => by cases hq49)
        refine GC.seq ?_
        refine GC.region ?_
        refine GL.val (Ex.assign rfl) (by decide) ?_
        refine GL.nil ?_
        refine GE.thenN ?_
        refine GC.ret ?_
        refine GE.thenR ?_
        refine GC.ret1 rfl (Rv.tmp rfl) (fun wN HN => ?_)
        exact HN.ret () trivial (by first | rfl | simp) (List.nil_sublist _) rfl
    · replace hq5 := of_decide_eq_false hq5
      refine GC.skip ?_
      refine GE.thenN ?_
      refine GC.seq ?_
      refine GC.seq ?_
      refine GC.region ?_
      refine GL.val (Ex.move rfl) (by decide) ?_
      refine GL.step (Stp.callR (vs := [(.int .u32 r)]) rfl rfl T.own28 (by decide) (fun wc hw => finite_l r wc (by first | assumption | omega | exact Bt.lst_bd (by assumption) (by assumption) | exact Bt.gst_bd (by assumption) (by assumption) | exact Bt.key_bd (by assumption) | exact Bt.unkey_bd (by assumption) | exact Bt.nxt_bd (by assumption) | exact Bt.lst_bd (Bt.gst_bd (by assumption) (by assumption)) (by assumption) | exact Bt.btw_bd (by assumption) (Bt.lst_bd (by assumption) (by assumption)) (Bt.gst_bd (by assumption) (by assumption))))) (fun xq50 hq51 => ?_)
      by_cases hq52 : (r % 2147483648 < 2139095040)
      · refine GL.val (v := (.bool false)) (Ex.cast (Ex.not rfl) (congrArg Value.bool (congrArg (fun z => !z) (decide_eq_true hq52)))) (by decide) ?_
        refine GL.val (Ex.move rfl) (by decide) ?_
        refine GL.stepG (tj := 39) rfl rfl (Ex.wp (v := (.int .u32 g)) (Ex.move rfl) (by decide)) (fun _ _ => ?_)
        refine GL.stepG (tj := 39) rfl rfl (Stp.callR (vs := [(.int .u32 g)]) rfl rfl T.own28 (by decide) (fun wc hw => finite_l g wc (by first | assumption | omega | exact Bt.lst_bd (by assumption) (by assumption) | exact Bt.gst_bd (by assumption) (by assumption) | exact Bt.key_bd (by assumption) | exact Bt.unkey_bd (by assumption) | exact Bt.nxt_bd (by assumption) | exact Bt.lst_bd (Bt.gst_bd (by assumption) (by assumption)) (by assumption) | exact Bt.btw_bd (by assumption) (Bt.lst_bd (by assumption) (by assumption)) (Bt.gst_bd (by assumption) (by assumption))))) (fun xq53 hq54 => ?_)
        by_cases hq55 : (g % 2147483648 < 2139095040)
        · refine GL.stepG (tj := 39) rfl rfl (Ex.wp (v := (.bool false)) (Ex.cast (Ex.not rfl) (congrArg Value.bool (congrArg (fun z => !z) (decide_eq_true hq55)))) (by decide)) (fun _ _ => ?_)
          refine GL.val (v := (.bool false)) (Ex.pickF rfl rfl) (by decide) ?_
          refine GL.val (Ex.move rfl) (by decide) ?_
          refine GL.stepG (tj := 44) rfl rfl (Ex.wp (v := (.int .u32 b)) (Ex.move rfl) (by decide)) (fun _ _ => ?_)
          refine GL.stepG (tj := 44) rfl rfl (Stp.callR (vs := [(.int .u32 b)]) rfl rfl T.own28 (by decide) (fun wc hw => finite_l b wc (by first | assumption | omega | exact Bt.lst_bd (by assumption) (by assumption) | exact Bt.gst_bd (by assumption) (by assumption) | exact Bt.key_bd (by assumption) | exact Bt.unkey_bd (by assumption) | exact Bt.nxt_bd (by assumption) | exact Bt.lst_bd (Bt.gst_bd (by assumption) (by assumption)) (by assumption) | exact Bt.btw_bd (by assumption) (Bt.lst_bd (by assumption) (by assumption)) (Bt.gst_bd (by assumption) (by assumption))))) (fun xq56 hq57 => ?_)
          refine GL.stepG (tj := 44) rfl rfl (Ex.wp (v := (.bool (!(decide (b % 2147483648 < 2139095040))))) (Ex.not rfl) (by decide)) (fun _ _ => ?_)
          refine GL.val (v := (.bool (!(decide (b % 2147483648 < 2139095040))))) (Ex.pickF rfl rfl) (by decide) ?_
          refine GL.nil ?_
          refine GE.thenN ?_
          refine GC.cond rfl (fun hq58 => ?_) (fun hq58 => ?_)
          · replace hq58 := of_decide_eq_false ((Bool.not_eq_true' _).mp hq58)
            refine GC.seq ?_
            refine GC.region ?_
            refine GL.val (Ex.assign rfl) (by decide) ?_
            refine GL.nil ?_
            refine GE.thenN ?_
            refine GC.ret ?_
            refine GE.thenR ?_
            refine GC.ret1 rfl (Rv.tmp rfl) (fun wN HN => ?_)
            exact HN.ret () trivial (by first | rfl | simp) (List.nil_sublist _) rfl
          · replace hq58 := of_decide_eq_true ((Bool.not_eq_false' _).mp hq58)
            refine GC.skip ?_
            refine GE.thenN ?_
            refine GC.seq ?_
            have fr := (Sl.fin_rk hr).2 (by omega)
            have fg := (Sl.fin_rk hg).2 (by omega)
            have fb := (Sl.fin_rk hb).2 (by omega)
            have hM := Sl.mean (lo := min (min (Fv.rk r) (Fv.rk g)) (Fv.rk b)) (hi := max (max (Fv.rk r) (Fv.rk g)) (Fv.rk b)) hr hg hb (by omega) (by omega) (by omega) (by omega) (by omega) (by omega) (by omega) (by omega)
            have hD := Sl.diffs hr hg hb fr fg fb
            have hK := (Sl.fin_rk (s := Fv.T (Sl.yy r g b)) (by omega)).1 (by omega)
            refine GC.region ?_
            refine GL.val (Ex.move rfl) (by decide) ?_
            refine GL.val (Ex.move rfl) (by decide) ?_
            refine GL.val (Ex.move rfl) (by decide) ?_
            refine GL.step (Stp.callR (vs := [(.int .u32 r), (.int .u32 g), (.int .u32 b)]) rfl rfl T.own14 (by decide) (fun wc hw => toycc_p r g b wc hM.1 hD.1 hD.2)) (fun xq59 hq60 => ?_)
            refine GL.val (Ex.move rfl) (by decide) ?_
            refine GL.val (Ex.extract rfl rfl) (by decide) ?_
            refine GL.val (Ex.extract rfl rfl) (by decide) ?_
            refine GL.val (Ex.extract rfl rfl) (by decide) ?_
            refine GL.val (Ex.assign rfl) (by decide) ?_
            refine GL.val (Ex.assign rfl) (by decide) ?_
            refine GL.val (Ex.assign rfl) (by decide) ?_
            refine GL.nil ?_
            refine GE.thenN ?_
            refine GC.seq ?_
            refine GC.region ?_
            refine GL.val (Ex.move rfl) (by decide) ?_
            refine GL.step (Stp.callR (vs := [(.int .u32 ((Fv.T (Sl.yy r g b))))]) rfl rfl T.own28 (by decide) (fun wc hw => finite_l ((Fv.T (Sl.yy r g b))) wc (by first | assumption | omega | exact Bt.lst_bd (by assumption) (by assumption) | exact Bt.gst_bd (by assumption) (by assumption) | exact Bt.key_bd (by assumption) | exact Bt.unkey_bd (by assumption) | exact Bt.nxt_bd (by assumption) | exact Bt.lst_bd (Bt.gst_bd (by assumption) (by assumption)) (by assumption) | exact Bt.btw_bd (by assumption) (Bt.lst_bd (by assumption) (by assumption)) (Bt.gst_bd (by assumption) (by assumption))))) (fun xq61 hq62 => ?_)
            refine GL.val (v := (.bool true)) (Ex.cast (Ex.move rfl) (congrArg Value.bool (decide_eq_true (by omega)))) (by decide) ?_
            refine GL.stepG (tj := 59) rfl rfl (Ex.wp (v := (.int .u32 ((Fv.T (Sl.yy r g b))))) (Ex.move rfl) (by decide)) (fun _ _ => ?_)
            refine GL.stepG (tj := 59) rfl rfl (Stp.callR (vs := [(.int .u32 ((Fv.T (Sl.yy r g b))))]) rfl rfl T.own36 (by decide) (fun wc hw => key_l ((Fv.T (Sl.yy r g b))) wc (by first | assumption | omega | exact Bt.lst_bd (by assumption) (by assumption) | exact Bt.gst_bd (by assumption) (by assumption) | exact Bt.key_bd (by assumption) | exact Bt.unkey_bd (by assumption) | exact Bt.nxt_bd (by assumption) | exact Bt.lst_bd (Bt.gst_bd (by assumption) (by assumption)) (by assumption) | exact Bt.btw_bd (by assumption) (Bt.lst_bd (by assumption) (by assumption)) (Bt.gst_bd (by assumption) (by assumption))))) (fun xq63 hq64 => ?_)
            refine GL.stepG (tj := 59) rfl rfl (Ex.wp (v := (.int .u32 r)) (Ex.move rfl) (by decide)) (fun _ _ => ?_)
            refine GL.stepG (tj := 59) rfl rfl (Stp.callR (vs := [(.int .u32 r)]) rfl rfl T.own36 (by decide) (fun wc hw => key_l r wc (by first | assumption | omega | exact Bt.lst_bd (by assumption) (by assumption) | exact Bt.gst_bd (by assumption) (by assumption) | exact Bt.key_bd (by assumption) | exact Bt.unkey_bd (by assumption) | exact Bt.nxt_bd (by assumption) | exact Bt.lst_bd (Bt.gst_bd (by assumption) (by assumption)) (by assumption) | exact Bt.btw_bd (by assumption) (Bt.lst_bd (by assumption) (by assumption)) (Bt.gst_bd (by assumption) (by assumption))))) (fun xq65 hq66 => ?_)
            refine GL.stepG (tj := 59) rfl rfl (Ex.wp (v := (.int .u32 g)) (Ex.move rfl) (by decide)) (fun _ _ => ?_)
            refine GL.stepG (tj := 59) rfl rfl (Stp.callR (vs := [(.int .u32 g)]) rfl rfl T.own36 (by decide) (fun wc hw => key_l g wc (by first | assumption | omega | exact Bt.lst_bd (by assumption) (by assumption) | exact Bt.gst_bd (by assumption) (by assumption) | exact Bt.key_bd (by assumption) | exact Bt.unkey_bd (by assumption) | exact Bt.nxt_bd (by assumption) | exact Bt.lst_bd (Bt.gst_bd (by assumption) (by assumption)) (by assumption) | exact Bt.btw_bd (by assumption) (Bt.lst_bd (by assumption) (by assumption)) (Bt.gst_bd (by assumption) (by assumption))))) (fun xq67 hq68 => ?_)
            refine GL.stepG (tj := 59) rfl rfl (Ex.wp (v := (.int .u32 b)) (Ex.move rfl) (by decide)) (fun _ _ => ?_)
            refine GL.stepG (tj := 59) rfl rfl (Stp.callR (vs := [(.int .u32 b)]) rfl rfl T.own36 (by decide) (fun wc hw => key_l b wc (by first | assumption | omega | exact Bt.lst_bd (by assumption) (by assumption) | exact Bt.gst_bd (by assumption) (by assumption) | exact Bt.key_bd (by assumption) | exact Bt.unkey_bd (by assumption) | exact Bt.nxt_bd (by assumption) | exact Bt.lst_bd (Bt.gst_bd (by assumption) (by assumption)) (by assumption) | exact Bt.btw_bd (by assumption) (Bt.lst_bd (by assumption) (by assumption)) (Bt.gst_bd (by assumption) (by assumption))))) (fun xq69 hq70 => ?_)
            refine GL.stepG (tj := 59) rfl rfl (Ex.wp (v := (.int .i64 (min (min ((Fv.rk r)) ((Fv.rk g))) ((Fv.rk b))))) (Ex.minI3 rfl rfl rfl (Z := min (min ((Fv.rk r)) ((Fv.rk g))) ((Fv.rk b))) (min643 _ _ _)) (by decide)) (fun _ _ => ?_)
            refine GL.stepG (tj := 59) rfl rfl (Ex.wp (v := (.bool true)) (Ex.cast (Ex.geq rfl rfl) (congrArg Value.bool (decide_eq_true (by omega)))) (by decide)) (fun _ _ => ?_)
            refine GL.val (v := (.bool true)) (Ex.pickT rfl rfl) (by decide) ?_
            refine GL.val (Ex.move rfl) (by decide) ?_
            refine GL.stepG (tj := 71) rfl rfl (Ex.wp (v := (.int .u32 ((Fv.T (Sl.yy r g b))))) (Ex.move rfl) (by decide)) (fun _ _ => ?_)
            refine GL.stepG (tj := 71) rfl rfl (Stp.callR (vs := [(.int .u32 ((Fv.T (Sl.yy r g b))))]) rfl rfl T.own36 (by decide) (fun wc hw => key_l ((Fv.T (Sl.yy r g b))) wc (by first | assumption | omega | exact Bt.lst_bd (by assumption) (by assumption) | exact Bt.gst_bd (by assumption) (by assumption) | exact Bt.key_bd (by assumption) | exact Bt.unkey_bd (by assumption) | exact Bt.nxt_bd (by assumption) | exact Bt.lst_bd (Bt.gst_bd (by assumption) (by assumption)) (by assumption) | exact Bt.btw_bd (by assumption) (Bt.lst_bd (by assumption) (by assumption)) (Bt.gst_bd (by assumption) (by assumption))))) (fun xq71 hq72 => ?_)
            refine GL.stepG (tj := 71) rfl rfl (Ex.wp (v := (.int .u32 r)) (Ex.move rfl) (by decide)) (fun _ _ => ?_)
            refine GL.stepG (tj := 71) rfl rfl (Stp.callR (vs := [(.int .u32 r)]) rfl rfl T.own36 (by decide) (fun wc hw => key_l r wc (by first | assumption | omega | exact Bt.lst_bd (by assumption) (by assumption) | exact Bt.gst_bd (by assumption) (by assumption) | exact Bt.key_bd (by assumption) | exact Bt.unkey_bd (by assumption) | exact Bt.nxt_bd (by assumption) | exact Bt.lst_bd (Bt.gst_bd (by assumption) (by assumption)) (by assumption) | exact Bt.btw_bd (by assumption) (Bt.lst_bd (by assumption) (by assumption)) (Bt.gst_bd (by assumption) (by assumption))))) (fun xq73 hq74 => ?_)
            refine GL.stepG (tj := 71) rfl rfl (Ex.wp (v := (.int .u32 g)) (Ex.move rfl) (by decide)) (fun _ _ => ?_)
            refine GL.stepG (tj := 71) rfl rfl (Stp.callR (vs := [(.int .u32 g)]) rfl rfl T.own36 (by decide) (fun wc hw => key_l g wc (by first | assumption | omega | exact Bt.lst_bd (by assumption) (by assumption) | exact Bt.gst_bd (by assumption) (by assumption) | exact Bt.key_bd (by assumption) | exact Bt.unkey_bd (by assumption) | exact Bt.nxt_bd (by assumption) | exact Bt.lst_bd (Bt.gst_bd (by assumption) (by assumption)) (by assumption) | exact Bt.btw_bd (by assumption) (Bt.lst_bd (by assumption) (by assumption)) (Bt.gst_bd (by assumption) (by assumption))))) (fun xq75 hq76 => ?_)
            refine GL.stepG (tj := 71) rfl rfl (Ex.wp (v := (.int .u32 b)) (Ex.move rfl) (by decide)) (fun _ _ => ?_)
            refine GL.stepG (tj := 71) rfl rfl (Stp.callR (vs := [(.int .u32 b)]) rfl rfl T.own36 (by decide) (fun wc hw => key_l b wc (by first | assumption | omega | exact Bt.lst_bd (by assumption) (by assumption) | exact Bt.gst_bd (by assumption) (by assumption) | exact Bt.key_bd (by assumption) | exact Bt.unkey_bd (by assumption) | exact Bt.nxt_bd (by assumption) | exact Bt.lst_bd (Bt.gst_bd (by assumption) (by assumption)) (by assumption) | exact Bt.btw_bd (by assumption) (Bt.lst_bd (by assumption) (by assumption)) (Bt.gst_bd (by assumption) (by assumption))))) (fun xq77 hq78 => ?_)
            refine GL.stepG (tj := 71) rfl rfl (Ex.wp (v := (.int .i64 (max (max ((Fv.rk r)) ((Fv.rk g))) ((Fv.rk b))))) (Ex.maxI3 rfl rfl rfl (Z := max (max ((Fv.rk r)) ((Fv.rk g))) ((Fv.rk b))) (max643 _ _ _)) (by decide)) (fun _ _ => ?_)
            refine GL.stepG (tj := 71) rfl rfl (Ex.wp (v := (.bool true)) (Ex.cast (Ex.leq rfl rfl) (congrArg Value.bool (decide_eq_true (by omega)))) (by decide)) (fun _ _ => ?_)
            refine GL.val (v := (.bool true)) (Ex.pickT rfl rfl) (by decide) ?_
            refine GL.val (Ex.assign rfl) (by decide) ?_
            refine GL.nil ?_
            refine GE.thenN ?_
            refine GC.ret ?_
            refine GC.ret1 rfl (Rv.tmp rfl) (fun wN HN => ?_)
            exact HN.ret () trivial (by first | rfl | simp) (List.nil_sublist _) rfl
        · refine GL.stepG (tj := 39) rfl rfl (Ex.wp (v := (.bool true)) (Ex.cast (Ex.not rfl) (congrArg Value.bool (congrArg (fun z => !z) (decide_eq_false hq55)))) (by decide)) (fun _ _ => ?_)
          refine GL.val (v := (.bool true)) (Ex.pickF rfl rfl) (by decide) ?_
          refine GL.val (Ex.move rfl) (by decide) ?_
          refine GL.skipG (tj := 44) rfl rfl rfl (by decide) ?_
          refine GL.skipG (tj := 44) rfl rfl rfl (by decide) ?_
          refine GL.skipG (tj := 44) rfl rfl rfl (by decide) ?_
          refine GL.val (v := (.bool true)) (Ex.pickT rfl rfl) (by decide) ?_
          refine GL.nil ?_
          refine GE.thenN ?_
          refine GC.cond rfl (fun _ => ?_) (fun hq79 => by cases hq79)
          refine GC.seq ?_
          refine GC.region ?_
          refine GL.val (Ex.assign rfl) (by decide) ?_
          refine GL.nil ?_
          refine GE.thenN ?_
          refine GC.ret ?_
          refine GE.thenR ?_
          refine GC.ret1 rfl (Rv.tmp rfl) (fun wN HN => ?_)
          exact HN.ret () trivial (by first | rfl | simp) (List.nil_sublist _) rfl
      · refine GL.val (v := (.bool true)) (Ex.cast (Ex.not rfl) (congrArg Value.bool (congrArg (fun z => !z) (decide_eq_false hq52)))) (by decide) ?_
        refine GL.val (Ex.move rfl) (by decide) ?_
        refine GL.skipG (tj := 39) rfl rfl rfl (by decide) ?_
        refine GL.skipG (tj := 39) rfl rfl rfl (by decide) ?_
        refine GL.skipG (tj := 39) rfl rfl rfl (by decide) ?_
        refine GL.val (v := (.bool true)) (Ex.pickT rfl rfl) (by decide) ?_
        refine GL.val (Ex.move rfl) (by decide) ?_
        refine GL.skipG (tj := 44) rfl rfl rfl (by decide) ?_
        refine GL.skipG (tj := 44) rfl rfl rfl (by decide) ?_
        refine GL.skipG (tj := 44) rfl rfl rfl (by decide) ?_
        refine GL.val (v := (.bool true)) (Ex.pickT rfl rfl) (by decide) ?_
        refine GL.nil ?_
        refine GE.thenN ?_
        refine GC.cond rfl (fun _ => ?_) (fun hq80 => by cases hq80)
        refine GC.seq ?_
        refine GC.region ?_
        refine GL.val (Ex.assign rfl) (by decide) ?_
        refine GL.nil ?_
        refine GE.thenN ?_
        refine GC.ret ?_
        refine GE.thenR ?_
        refine GC.ret1 rfl (Rv.tmp rfl) (fun wN HN => ?_)
        exact HN.ret () trivial (by first | rfl | simp) (List.nil_sublist _) rfl
  · refine GL.val (v := (.bool false)) (Ex.cast (Ex.lss rfl rfl) (congrArg Value.bool (decide_eq_false hq4))) (by decide) ?_
    refine GL.val (Ex.move rfl) (by decide) ?_
    refine GL.skipG (tj := 15) rfl rfl rfl (by decide) ?_
    refine GL.skipG (tj := 15) rfl rfl rfl (by decide) ?_
    refine GL.val (v := (.bool false)) (Ex.pickF rfl rfl) (by decide) ?_
    refine GL.nil ?_
    refine GE.thenN ?_
    refine GC.cond rfl (fun hq81 => by cases hq81) (fun _ => ?_)
    refine GC.skip ?_
    refine GE.thenN ?_
    refine GC.seq ?_
    refine GC.seq ?_
    refine GC.region ?_
    refine GL.val (Ex.move rfl) (by decide) ?_
    refine GL.step (Stp.callR (vs := [(.int .u32 r)]) rfl rfl T.own28 (by decide) (fun wc hw => finite_l r wc (by first | assumption | omega | exact Bt.lst_bd (by assumption) (by assumption) | exact Bt.gst_bd (by assumption) (by assumption) | exact Bt.key_bd (by assumption) | exact Bt.unkey_bd (by assumption) | exact Bt.nxt_bd (by assumption) | exact Bt.lst_bd (Bt.gst_bd (by assumption) (by assumption)) (by assumption) | exact Bt.btw_bd (by assumption) (Bt.lst_bd (by assumption) (by assumption)) (Bt.gst_bd (by assumption) (by assumption))))) (fun xq82 hq83 => ?_)
    by_cases hq84 : (r % 2147483648 < 2139095040)
    · refine GL.val (v := (.bool false)) (Ex.cast (Ex.not rfl) (congrArg Value.bool (congrArg (fun z => !z) (decide_eq_true hq84)))) (by decide) ?_
      refine GL.val (Ex.move rfl) (by decide) ?_
      refine GL.stepG (tj := 39) rfl rfl (Ex.wp (v := (.int .u32 g)) (Ex.move rfl) (by decide)) (fun _ _ => ?_)
      refine GL.stepG (tj := 39) rfl rfl (Stp.callR (vs := [(.int .u32 g)]) rfl rfl T.own28 (by decide) (fun wc hw => finite_l g wc (by first | assumption | omega | exact Bt.lst_bd (by assumption) (by assumption) | exact Bt.gst_bd (by assumption) (by assumption) | exact Bt.key_bd (by assumption) | exact Bt.unkey_bd (by assumption) | exact Bt.nxt_bd (by assumption) | exact Bt.lst_bd (Bt.gst_bd (by assumption) (by assumption)) (by assumption) | exact Bt.btw_bd (by assumption) (Bt.lst_bd (by assumption) (by assumption)) (Bt.gst_bd (by assumption) (by assumption))))) (fun xq85 hq86 => ?_)
      by_cases hq87 : (g % 2147483648 < 2139095040)
      · refine GL.stepG (tj := 39) rfl rfl (Ex.wp (v := (.bool false)) (Ex.cast (Ex.not rfl) (congrArg Value.bool (congrArg (fun z => !z) (decide_eq_true hq87)))) (by decide)) (fun _ _ => ?_)
        refine GL.val (v := (.bool false)) (Ex.pickF rfl rfl) (by decide) ?_
        refine GL.val (Ex.move rfl) (by decide) ?_
        refine GL.stepG (tj := 44) rfl rfl (Ex.wp (v := (.int .u32 b)) (Ex.move rfl) (by decide)) (fun _ _ => ?_)
        refine GL.stepG (tj := 44) rfl rfl (Stp.callR (vs := [(.int .u32 b)]) rfl rfl T.own28 (by decide) (fun wc hw => finite_l b wc (by first | assumption | omega | exact Bt.lst_bd (by assumption) (by assumption) | exact Bt.gst_bd (by assumption) (by assumption) | exact Bt.key_bd (by assumption) | exact Bt.unkey_bd (by assumption) | exact Bt.nxt_bd (by assumption) | exact Bt.lst_bd (Bt.gst_bd (by assumption) (by assumption)) (by assumption) | exact Bt.btw_bd (by assumption) (Bt.lst_bd (by assumption) (by assumption)) (Bt.gst_bd (by assumption) (by assumption))))) (fun xq88 hq89 => ?_)
        refine GL.stepG (tj := 44) rfl rfl (Ex.wp (v := (.bool (!(decide (b % 2147483648 < 2139095040))))) (Ex.not rfl) (by decide)) (fun _ _ => ?_)
        refine GL.val (v := (.bool (!(decide (b % 2147483648 < 2139095040))))) (Ex.pickF rfl rfl) (by decide) ?_
        refine GL.nil ?_
        refine GE.thenN ?_
        refine GC.cond rfl (fun hq90 => ?_) (fun hq90 => ?_)
        · replace hq90 := of_decide_eq_false ((Bool.not_eq_true' _).mp hq90)
          refine GC.seq ?_
          refine GC.region ?_
          refine GL.val (Ex.assign rfl) (by decide) ?_
          refine GL.nil ?_
          refine GE.thenN ?_
          refine GC.ret ?_
          refine GE.thenR ?_
          refine GC.ret1 rfl (Rv.tmp rfl) (fun wN HN => ?_)
          exact HN.ret () trivial (by first | rfl | simp) (List.nil_sublist _) rfl
        · replace hq90 := of_decide_eq_true ((Bool.not_eq_false' _).mp hq90)
          refine GC.skip ?_
          refine GE.thenN ?_
          refine GC.seq ?_
          have fr := (Sl.fin_rk hr).2 (by omega)
          have fg := (Sl.fin_rk hg).2 (by omega)
          have fb := (Sl.fin_rk hb).2 (by omega)
          have hM := Sl.mean (lo := min (min (Fv.rk r) (Fv.rk g)) (Fv.rk b)) (hi := max (max (Fv.rk r) (Fv.rk g)) (Fv.rk b)) hr hg hb (by omega) (by omega) (by omega) (by omega) (by omega) (by omega) (by omega) (by omega)
          have hD := Sl.diffs hr hg hb fr fg fb
          have hK := (Sl.fin_rk (s := Fv.T (Sl.yy r g b)) (by omega)).1 (by omega)
          refine GC.region ?_
          refine GL.val (Ex.move rfl) (by decide) ?_
          refine GL.val (Ex.move rfl) (by decide) ?_
          refine GL.val (Ex.move rfl) (by decide) ?_
          refine GL.step (Stp.callR (vs := [(.int .u32 r), (.int .u32 g), (.int .u32 b)]) rfl rfl T.own14 (by decide) (fun wc hw => toycc_p r g b wc hM.1 hD.1 hD.2)) (fun xq91 hq92 => ?_)
          refine GL.val (Ex.move rfl) (by decide) ?_
          refine GL.val (Ex.extract rfl rfl) (by decide) ?_
          refine GL.val (Ex.extract rfl rfl) (by decide) ?_
          refine GL.val (Ex.extract rfl rfl) (by decide) ?_
          refine GL.val (Ex.assign rfl) (by decide) ?_
          refine GL.val (Ex.assign rfl) (by decide) ?_
          refine GL.val (Ex.assign rfl) (by decide) ?_
          refine GL.nil ?_
          refine GE.thenN ?_
          refine GC.seq ?_
          refine GC.region ?_
          refine GL.val (Ex.move rfl) (by decide) ?_
          refine GL.step (Stp.callR (vs := [(.int .u32 ((Fv.T (Sl.yy r g b))))]) rfl rfl T.own28 (by decide) (fun wc hw => finite_l ((Fv.T (Sl.yy r g b))) wc (by first | assumption | omega | exact Bt.lst_bd (by assumption) (by assumption) | exact Bt.gst_bd (by assumption) (by assumption) | exact Bt.key_bd (by assumption) | exact Bt.unkey_bd (by assumption) | exact Bt.nxt_bd (by assumption) | exact Bt.lst_bd (Bt.gst_bd (by assumption) (by assumption)) (by assumption) | exact Bt.btw_bd (by assumption) (Bt.lst_bd (by assumption) (by assumption)) (Bt.gst_bd (by assumption) (by assumption))))) (fun xq93 hq94 => ?_)
          refine GL.val (v := (.bool true)) (Ex.cast (Ex.move rfl) (congrArg Value.bool (decide_eq_true (by omega)))) (by decide) ?_
          refine GL.stepG (tj := 59) rfl rfl (Ex.wp (v := (.int .u32 ((Fv.T (Sl.yy r g b))))) (Ex.move rfl) (by decide)) (fun _ _ => ?_)
          refine GL.stepG (tj := 59) rfl rfl (Stp.callR (vs := [(.int .u32 ((Fv.T (Sl.yy r g b))))]) rfl rfl T.own36 (by decide) (fun wc hw => key_l ((Fv.T (Sl.yy r g b))) wc (by first | assumption | omega | exact Bt.lst_bd (by assumption) (by assumption) | exact Bt.gst_bd (by assumption) (by assumption) | exact Bt.key_bd (by assumption) | exact Bt.unkey_bd (by assumption) | exact Bt.nxt_bd (by assumption) | exact Bt.lst_bd (Bt.gst_bd (by assumption) (by assumption)) (by assumption) | exact Bt.btw_bd (by assumption) (Bt.lst_bd (by assumption) (by assumption)) (Bt.gst_bd (by assumption) (by assumption))))) (fun xq95 hq96 => ?_)
          refine GL.stepG (tj := 59) rfl rfl (Ex.wp (v := (.int .u32 r)) (Ex.move rfl) (by decide)) (fun _ _ => ?_)
          refine GL.stepG (tj := 59) rfl rfl (Stp.callR (vs := [(.int .u32 r)]) rfl rfl T.own36 (by decide) (fun wc hw => key_l r wc (by first | assumption | omega | exact Bt.lst_bd (by assumption) (by assumption) | exact Bt.gst_bd (by assumption) (by assumption) | exact Bt.key_bd (by assumption) | exact Bt.unkey_bd (by assumption) | exact Bt.nxt_bd (by assumption) | exact Bt.lst_bd (Bt.gst_bd (by assumption) (by assumption)) (by assumption) | exact Bt.btw_bd (by assumption) (Bt.lst_bd (by assumption) (by assumption)) (Bt.gst_bd (by assumption) (by assumption))))) (fun xq97 hq98 => ?_)
          refine GL.stepG (tj := 59) rfl rfl (Ex.wp (v := (.int .u32 g)) (Ex.move rfl) (by decide)) (fun _ _ => ?_)
          refine GL.stepG (tj := 59) rfl rfl (Stp.callR (vs := [(.int .u32 g)]) rfl rfl T.own36 (by decide) (fun wc hw => key_l g wc (by first | assumption | omega | exact Bt.lst_bd (by assumption) (by assumption) | exact Bt.gst_bd (by assumption) (by assumption) | exact Bt.key_bd (by assumption) | exact Bt.unkey_bd (by assumption) | exact Bt.nxt_bd (by assumption) | exact Bt.lst_bd (Bt.gst_bd (by assumption) (by assumption)) (by assumption) | exact Bt.btw_bd (by assumption) (Bt.lst_bd (by assumption) (by assumption)) (Bt.gst_bd (by assumption) (by assumption))))) (fun xq99 hq100 => ?_)
          refine GL.stepG (tj := 59) rfl rfl (Ex.wp (v := (.int .u32 b)) (Ex.move rfl) (by decide)) (fun _ _ => ?_)
          refine GL.stepG (tj := 59) rfl rfl (Stp.callR (vs := [(.int .u32 b)]) rfl rfl T.own36 (by decide) (fun wc hw => key_l b wc (by first | assumption | omega | exact Bt.lst_bd (by assumption) (by assumption) | exact Bt.gst_bd (by assumption) (by assumption) | exact Bt.key_bd (by assumption) | exact Bt.unkey_bd (by assumption) | exact Bt.nxt_bd (by assumption) | exact Bt.lst_bd (Bt.gst_bd (by assumption) (by assumption)) (by assumption) | exact Bt.btw_bd (by assumption) (Bt.lst_bd (by assumption) (by assumption)) (Bt.gst_bd (by assumption) (by assumption))))) (fun xq101 hq102 => ?_)
          refine GL.stepG (tj := 59) rfl rfl (Ex.wp (v := (.int .i64 (min (min ((Fv.rk r)) ((Fv.rk g))) ((Fv.rk b))))) (Ex.minI3 rfl rfl rfl (Z := min (min ((Fv.rk r)) ((Fv.rk g))) ((Fv.rk b))) (min643 _ _ _)) (by decide)) (fun _ _ => ?_)
          refine GL.stepG (tj := 59) rfl rfl (Ex.wp (v := (.bool true)) (Ex.cast (Ex.geq rfl rfl) (congrArg Value.bool (decide_eq_true (by omega)))) (by decide)) (fun _ _ => ?_)
          refine GL.val (v := (.bool true)) (Ex.pickT rfl rfl) (by decide) ?_
          refine GL.val (Ex.move rfl) (by decide) ?_
          refine GL.stepG (tj := 71) rfl rfl (Ex.wp (v := (.int .u32 ((Fv.T (Sl.yy r g b))))) (Ex.move rfl) (by decide)) (fun _ _ => ?_)
          refine GL.stepG (tj := 71) rfl rfl (Stp.callR (vs := [(.int .u32 ((Fv.T (Sl.yy r g b))))]) rfl rfl T.own36 (by decide) (fun wc hw => key_l ((Fv.T (Sl.yy r g b))) wc (by first | assumption | omega | exact Bt.lst_bd (by assumption) (by assumption) | exact Bt.gst_bd (by assumption) (by assumption) | exact Bt.key_bd (by assumption) | exact Bt.unkey_bd (by assumption) | exact Bt.nxt_bd (by assumption) | exact Bt.lst_bd (Bt.gst_bd (by assumption) (by assumption)) (by assumption) | exact Bt.btw_bd (by assumption) (Bt.lst_bd (by assumption) (by assumption)) (Bt.gst_bd (by assumption) (by assumption))))) (fun xq103 hq104 => ?_)
          refine GL.stepG (tj := 71) rfl rfl (Ex.wp (v := (.int .u32 r)) (Ex.move rfl) (by decide)) (fun _ _ => ?_)
          refine GL.stepG (tj := 71) rfl rfl (Stp.callR (vs := [(.int .u32 r)]) rfl rfl T.own36 (by decide) (fun wc hw => key_l r wc (by first | assumption | omega | exact Bt.lst_bd (by assumption) (by assumption) | exact Bt.gst_bd (by assumption) (by assumption) | exact Bt.key_bd (by assumption) | exact Bt.unkey_bd (by assumption) | exact Bt.nxt_bd (by assumption) | exact Bt.lst_bd (Bt.gst_bd (by assumption) (by assumption)) (by assumption) | exact Bt.btw_bd (by assumption) (Bt.lst_bd (by assumption) (by assumption)) (Bt.gst_bd (by assumption) (by assumption))))) (fun xq105 hq106 => ?_)
          refine GL.stepG (tj := 71) rfl rfl (Ex.wp (v := (.int .u32 g)) (Ex.move rfl) (by decide)) (fun _ _ => ?_)
          refine GL.stepG (tj := 71) rfl rfl (Stp.callR (vs := [(.int .u32 g)]) rfl rfl T.own36 (by decide) (fun wc hw => key_l g wc (by first | assumption | omega | exact Bt.lst_bd (by assumption) (by assumption) | exact Bt.gst_bd (by assumption) (by assumption) | exact Bt.key_bd (by assumption) | exact Bt.unkey_bd (by assumption) | exact Bt.nxt_bd (by assumption) | exact Bt.lst_bd (Bt.gst_bd (by assumption) (by assumption)) (by assumption) | exact Bt.btw_bd (by assumption) (Bt.lst_bd (by assumption) (by assumption)) (Bt.gst_bd (by assumption) (by assumption))))) (fun xq107 hq108 => ?_)
          refine GL.stepG (tj := 71) rfl rfl (Ex.wp (v := (.int .u32 b)) (Ex.move rfl) (by decide)) (fun _ _ => ?_)
          refine GL.stepG (tj := 71) rfl rfl (Stp.callR (vs := [(.int .u32 b)]) rfl rfl T.own36 (by decide) (fun wc hw => key_l b wc (by first | assumption | omega | exact Bt.lst_bd (by assumption) (by assumption) | exact Bt.gst_bd (by assumption) (by assumption) | exact Bt.key_bd (by assumption) | exact Bt.unkey_bd (by assumption) | exact Bt.nxt_bd (by assumption) | exact Bt.lst_bd (Bt.gst_bd (by assumption) (by assumption)) (by assumption) | exact Bt.btw_bd (by assumption) (Bt.lst_bd (by assumption) (by assumption)) (Bt.gst_bd (by assumption) (by assumption))))) (fun xq109 hq110 => ?_)
          refine GL.stepG (tj := 71) rfl rfl (Ex.wp (v := (.int .i64 (max (max ((Fv.rk r)) ((Fv.rk g))) ((Fv.rk b))))) (Ex.maxI3 rfl rfl rfl (Z := max (max ((Fv.rk r)) ((Fv.rk g))) ((Fv.rk b))) (max643 _ _ _)) (by decide)) (fun _ _ => ?_)
          refine GL.stepG (tj := 71) rfl rfl (Ex.wp (v := (.bool true)) (Ex.cast (Ex.leq rfl rfl) (congrArg Value.bool (decide_eq_true (by omega)))) (by decide)) (fun _ _ => ?_)
          refine GL.val (v := (.bool true)) (Ex.pickT rfl rfl) (by decide) ?_
          refine GL.val (Ex.assign rfl) (by decide) ?_
          refine GL.nil ?_
          refine GE.thenN ?_
          refine GC.ret ?_
          refine GC.ret1 rfl (Rv.tmp rfl) (fun wN HN => ?_)
          exact HN.ret () trivial (by first | rfl | simp) (List.nil_sublist _) rfl
      · refine GL.stepG (tj := 39) rfl rfl (Ex.wp (v := (.bool true)) (Ex.cast (Ex.not rfl) (congrArg Value.bool (congrArg (fun z => !z) (decide_eq_false hq87)))) (by decide)) (fun _ _ => ?_)
        refine GL.val (v := (.bool true)) (Ex.pickF rfl rfl) (by decide) ?_
        refine GL.val (Ex.move rfl) (by decide) ?_
        refine GL.skipG (tj := 44) rfl rfl rfl (by decide) ?_
        refine GL.skipG (tj := 44) rfl rfl rfl (by decide) ?_
        refine GL.skipG (tj := 44) rfl rfl rfl (by decide) ?_
        refine GL.val (v := (.bool true)) (Ex.pickT rfl rfl) (by decide) ?_
        refine GL.nil ?_
        refine GE.thenN ?_
        refine GC.cond rfl (fun _ => ?_) (fun hq111 => by cases hq111)
        refine GC.seq ?_
        refine GC.region ?_
        refine GL.val (Ex.assign rfl) (by decide) ?_
        refine GL.nil ?_
        refine GE.thenN ?_
        refine GC.ret ?_
        refine GE.thenR ?_
        refine GC.ret1 rfl (Rv.tmp rfl) (fun wN HN => ?_)
        exact HN.ret () trivial (by first | rfl | simp) (List.nil_sublist _) rfl
    · refine GL.val (v := (.bool true)) (Ex.cast (Ex.not rfl) (congrArg Value.bool (congrArg (fun z => !z) (decide_eq_false hq84)))) (by decide) ?_
      refine GL.val (Ex.move rfl) (by decide) ?_
      refine GL.skipG (tj := 39) rfl rfl rfl (by decide) ?_
      refine GL.skipG (tj := 39) rfl rfl rfl (by decide) ?_
      refine GL.skipG (tj := 39) rfl rfl rfl (by decide) ?_
      refine GL.val (v := (.bool true)) (Ex.pickT rfl rfl) (by decide) ?_
      refine GL.val (Ex.move rfl) (by decide) ?_
      refine GL.skipG (tj := 44) rfl rfl rfl (by decide) ?_
      refine GL.skipG (tj := 44) rfl rfl rfl (by decide) ?_
      refine GL.skipG (tj := 44) rfl rfl rfl (by decide) ?_
      refine GL.val (v := (.bool true)) (Ex.pickT rfl rfl) (by decide) ?_
      refine GL.nil ?_
      refine GE.thenN ?_
      refine GC.cond rfl (fun _ => ?_) (fun hq112 => by cases hq112)
      refine GC.seq ?_
      refine GC.region ?_
      refine GL.val (Ex.assign rfl) (by decide) ?_
      refine GL.nil ?_
      refine GE.thenN ?_
      refine GC.ret ?_
      refine GE.thenR ?_
      refine GC.ret1 rfl (Rv.tmp rfl) (fun wN HN => ?_)
      exact HN.ret () trivial (by first | rfl | simp) (List.nil_sublist _) rfl

set_option maxRecDepth 100000 in
set_option maxHeartbeats 1000000 in
theorem trim_r (c : Nat) (x : Int) (w : World) (hh : Has w [⟨c, [(.int .u32 x), (.int .u32 0)], 23, false⟩]) :
    Calls Try.prog 63 #[(.slice (some ⟨c, 0, none⟩) 2 2)] w (Ret w (fun _ : Unit => True) (fun _ => (.slice (some ⟨c, 0, none⟩) ((if x = 0 then 0 else 1)) 2)) (fun _ => [])) := by
  refine enter (M := None) (L := [⟨c, [(.int .u32 x), (.int .u32 0)], 23, false⟩]) (n := 21) (l := [(0, (.slice (some ⟨c, 0, none⟩) 2 2))]) Try.func63 rfl rfl (Args.cons rfl (Args.nil _)) (Hp.reads hh rfl) ?_
  refine GC.seq ?_
  refine GC.region ?_
  refine GL.val (Ex.assign rfl) (by decide) ?_
  refine GL.nil ?_
  refine GE.thenN ?_
  refine GC.seq ?_
  refine GC.region ?_
  refine GL.val (Ex.move rfl) (by decide) ?_
  refine GL.val (v := (.int .i64 2)) (Ex.len rfl Try.underlying36) (by decide) ?_
  refine GL.val (Ex.assign rfl) (by decide) ?_
  refine GL.nil ?_
  refine GE.thenN ?_
  refine GC.seq ?_
  refine GC.block ?_
  refine GC.unroll 3 ?_
  refine GE.round ?_
  refine GC.seq ?_
  refine GC.seq ?_
  refine GC.region ?_
  refine GL.val (Ex.move rfl) (by decide) ?_
  refine GL.val (v := (.bool true)) (Ex.cast (Ex.gtr rfl rfl) rfl) (by decide) ?_
  refine GL.val (Ex.move rfl) (by decide) ?_
  refine GL.stepG (tj := 8) rfl rfl (Ex.wp (v := (.slice (some ⟨c, 0, none⟩) 2 2)) (Ex.move rfl) (by decide)) (fun _ _ => ?_)
  refine GL.stepG (tj := 8) rfl rfl (Ex.wp (v := (.int .i64 2)) (Ex.move rfl) (by decide)) (fun _ _ => ?_)
  refine GL.stepG (tj := 8) rfl rfl (Ex.wp (v := (.int .i64 1)) (Ex.sub' rfl rfl (Z := 1) (by decide)) (by decide)) (fun _ _ => ?_)
  refine GL.stepG (tj := 8) rfl rfl (Ex.wp (v := (.pointer (some ⟨c, 1, none⟩))) (Ex.cast (Ex.indexAddr rfl rfl Try.underlying36 T.sz23 (by omega) (by omega)) rfl) (by decide)) (fun _ _ => ?_)
  refine GL.stepG (tj := 8) rfl rfl (Ex.wp (v := (.int .u32 0)) (Ex.load rfl T.ag23 (i := 0) rfl rfl) (by decide)) (fun _ _ => ?_)
  refine GL.stepG (tj := 8) rfl rfl (Ex.wp (v := (.bool true)) (Ex.cast (Ex.eql rfl rfl) rfl) (by decide)) (fun _ _ => ?_)
  refine GL.val (v := (.bool true)) (Ex.pickT rfl rfl) (by decide) ?_
  refine GL.nil ?_
  refine GE.thenN ?_
  refine GC.cond rfl (fun _ => ?_) (fun hq1 => by cases hq1)
  refine GC.skip ?_
  refine GE.thenN ?_
  refine GC.block ?_
  refine GC.region ?_
  refine GL.val (Ex.move rfl) (by decide) ?_
  refine GL.val (v := (.int .i64 1)) (Ex.sub' rfl rfl (Z := 1) (by decide)) (by decide) ?_
  refine GL.val (Ex.assign rfl) (by decide) ?_
  refine GL.nil ?_
  refine GE.blockN ?_
  refine GE.thenN ?_
  refine GE.round ?_
  refine GC.seq ?_
  refine GC.seq ?_
  refine GC.region ?_
  refine GL.val (Ex.move rfl) (by decide) ?_
  refine GL.val (v := (.bool true)) (Ex.cast (Ex.gtr rfl rfl) rfl) (by decide) ?_
  refine GL.val (Ex.move rfl) (by decide) ?_
  refine GL.stepG (tj := 8) rfl rfl (Ex.wp (v := (.slice (some ⟨c, 0, none⟩) 2 2)) (Ex.move rfl) (by decide)) (fun _ _ => ?_)
  refine GL.stepG (tj := 8) rfl rfl (Ex.wp (v := (.int .i64 1)) (Ex.move rfl) (by decide)) (fun _ _ => ?_)
  refine GL.stepG (tj := 8) rfl rfl (Ex.wp (v := (.int .i64 0)) (Ex.sub' rfl rfl (Z := 0) (by decide)) (by decide)) (fun _ _ => ?_)
  refine GL.stepG (tj := 8) rfl rfl (Ex.wp (v := (.pointer (some ⟨c, 0, none⟩))) (Ex.cast (Ex.indexAddr rfl rfl Try.underlying36 T.sz23 (by omega) (by omega)) rfl) (by decide)) (fun _ _ => ?_)
  refine GL.stepG (tj := 8) rfl rfl (Ex.wp (v := (.int .u32 x)) (Ex.load rfl T.ag23 (i := 0) rfl rfl) (by decide)) (fun _ _ => ?_)
  refine GL.stepG (tj := 8) rfl rfl (Ex.wp (v := (.bool (decide (x = 0)))) (Ex.eql rfl rfl) (by decide)) (fun _ _ => ?_)
  refine GL.val (v := (.bool (decide (x = 0)))) (Ex.pickT rfl rfl) (by decide) ?_
  refine GL.nil ?_
  refine GE.thenN ?_
  refine GC.cond rfl (fun hq2 => ?_) (fun hq2 => ?_)
  · replace hq2 := of_decide_eq_true hq2
    refine GC.skip ?_
    refine GE.thenN ?_
    refine GC.block ?_
    refine GC.region ?_
    refine GL.val (Ex.move rfl) (by decide) ?_
    refine GL.val (v := (.int .i64 0)) (Ex.sub' rfl rfl (Z := 0) (by decide)) (by decide) ?_
    refine GL.val (Ex.assign rfl) (by decide) ?_
    refine GL.nil ?_
    refine GE.blockN ?_
    refine GE.thenN ?_
    refine GE.round ?_
    refine GC.seq ?_
    refine GC.seq ?_
    refine GC.region ?_
    refine GL.val (Ex.move rfl) (by decide) ?_
    refine GL.val (v := (.bool false)) (Ex.cast (Ex.gtr rfl rfl) rfl) (by decide) ?_
    refine GL.val (Ex.move rfl) (by decide) ?_
    refine GL.skipG (tj := 8) rfl rfl rfl (by decide) ?_
    refine GL.skipG (tj := 8) rfl rfl rfl (by decide) ?_
    refine GL.skipG (tj := 8) rfl rfl rfl (by decide) ?_
    refine GL.skipG (tj := 8) rfl rfl rfl (by decide) ?_
    refine GL.skipG (tj := 8) rfl rfl rfl (by decide) ?_
    refine GL.skipG (tj := 8) rfl rfl rfl (by decide) ?_
    refine GL.val (v := (.bool false)) (Ex.pickF rfl rfl) (by decide) ?_
    refine GL.nil ?_
    refine GE.thenN ?_
    refine GC.cond rfl (fun hq3 => by cases hq3) (fun _ => ?_)
    refine GC.exit ?_
    refine GE.thenE ?_
    refine GE.thenE ?_
    refine GE.blockE ?_
    refine GE.thenN ?_
    refine GC.seq ?_
    refine GC.region ?_
    refine GL.val (Ex.move rfl) (by decide) ?_
    refine GL.val (Ex.move rfl) (by decide) ?_
    refine GL.val (v := (.slice (some ⟨c, 0, none⟩) 0 2)) (Ex.sliceH (m := 0) rfl rfl Try.underlying36 T.sz23 rfl (by omega)) (by decide) ?_
    refine GL.val (Ex.assign rfl) (by decide) ?_
    refine GL.nil ?_
    refine GE.thenN ?_
    refine GC.ret ?_
    refine GC.ret1 rfl (Rv.tmp rfl) (fun wN HN => ?_)
    exact HN.ret () trivial (by rw [if_pos hq2]) (List.nil_sublist _) rfl
  · replace hq2 := of_decide_eq_false hq2
    refine GC.exit ?_
    refine GE.thenE ?_
    refine GE.thenE ?_
    refine GE.blockE ?_
    refine GE.thenN ?_
    refine GC.seq ?_
    refine GC.region ?_
    refine GL.val (Ex.move rfl) (by decide) ?_
    refine GL.val (Ex.move rfl) (by decide) ?_
    refine GL.val (v := (.slice (some ⟨c, 0, none⟩) 1 2)) (Ex.sliceH (m := 1) rfl rfl Try.underlying36 T.sz23 rfl (by omega)) (by decide) ?_
    refine GL.val (Ex.assign rfl) (by decide) ?_
    refine GL.nil ?_
    refine GE.thenN ?_
    refine GC.ret ?_
    refine GC.ret1 rfl (Rv.tmp rfl) (fun wN HN => ?_)
    exact HN.ret () trivial (by rw [if_neg hq2]) (List.nil_sublist _) rfl

set_option maxRecDepth 100000 in
set_option maxHeartbeats 1000000 in
theorem natof_r (x : Int) (w : World) (hx : 0 ≤ x ∧ x < 4294967296) :
    Calls Try.prog 62 #[(.int .u64 x)] w (Ret w (fun _ : Nat => True) (fun z => (.slice (some ⟨z, 0, none⟩) ((if x = 0 then 0 else 1)) 2)) (fun z => [⟨z, [(.int .u32 x), (.int .u32 0)], 23, true⟩])) := by
  refine enter (M := None) (L := []) (n := 11) (l := [(0, (.int .u64 x))]) Try.func62 rfl rfl (Args.cons rfl (Args.nil _)) (Hp.start _ _) ?_
  refine GC.seq ?_
  refine GC.region ?_
  refine GL.val (Ex.assign rfl) (by decide) ?_
  refine GL.nil ?_
  refine GE.thenN ?_
  refine GC.seq ?_
  refine GC.region ?_
  refine GL.val (Ex.move rfl) (by decide) ?_
  refine GL.val (v := (.int .u64 x)) (Ex.bits rfl rfl (by simp) (Z := x) (andm64 32 (by omega) (by omega) (by omega) (by omega) rfl)) (by decide) ?_
  refine GL.val (v := (.int .u32 x)) (Ex.conv rfl Try.underlying70 Try.underlying23 (Z := x) (wu32b (by omega))) (by decide) ?_
  refine GL.val (Ex.move rfl) (by decide) ?_
  refine GL.val (v := (.int .u64 (x / 4294967296))) (Ex.shr rfl (m := 32) rfl (by decide) (Z := x / 4294967296) rfl) (by decide) ?_
  refine GL.val (v := (.int .u32 0)) (Ex.conv rfl Try.underlying70 Try.underlying23 (Z := 0) (by rw [wu32]; omega)) (by decide) ?_
  refine GL.step (Stp.buildSlice (cs := [(.int .u32 x), (.int .u32 0)]) (vs := [(0, (.int .u32 x)), (1, (.int .u32 0))]) Try.underlying36 T.zr23 T.sz23 rfl (by decide) (by decide) (by first | rfl | kernel_rfl) (by decide)) (fun bq1 _ => ?_)
  refine GL.step (Stp.callR (vs := [(.slice (some ⟨bq1, 0, none⟩) 2 2)]) rfl rfl T.own63 (by decide) (fun wc hw => trim_r bq1 x wc (Has.cons (hw.hasOf (i := 0) rfl) (Has.nil _)))) (fun xq2 hq3 => ?_)
  refine GL.val (Ex.assign rfl) (by decide) ?_
  refine GL.nil ?_
  refine GE.thenN ?_
  refine GC.ret ?_
  refine GC.ret1 rfl (Rv.tmp rfl) (fun wN HN => ?_)
  exact HN.ret bq1 trivial rfl (ulC ulN) rfl

set_option maxRecDepth 100000 in
set_option maxHeartbeats 1000000 in
theorem of_r (a : Int) (w : World) (ha : 0 ≤ a ∧ a < 4294967296) :
    Calls Try.prog 59 #[(.agg #[(.int .i64 23), (.int .i64 8)]), (.int .u64 a)] w (Ret w (fun x : Int × Bool × (Option Addr × Nat × Nat) × Int => (x.1 = 0 ↔ 2139095040 < a % 2147483648)) (fun x => (.agg #[(.int .i64 x.1), (.bool x.2.1), (.slice x.2.2.1.1 x.2.2.1.2.1 x.2.2.1.2.2), (.int .i64 x.2.2.2), (.bool false)])) (fun x => [])) := by
  refine enter (M := None) (L := []) (n := 61) (l := [(0, (.agg #[(.int .i64 23), (.int .i64 8)])), (1, (.int .u64 a))]) Try.func59 rfl rfl (Args.cons rfl (Args.cons rfl (Args.nil _))) (Hp.start _ _) ?_
  refine GC.seq ?_
  refine GC.region ?_
  refine GL.step (Stp.box (cs := [(.int .i64 23), (.int .i64 8)]) rfl rfl (by decide)) (fun bq1 _ => ?_)
  refine GL.step (Stp.alloc T.zr38 (by decide)) (fun bq2 _ => ?_)
  refine GL.nil ?_
  refine GE.thenN ?_
  refine GC.seq ?_
  refine GC.region ?_
  refine GL.val (Ex.move rfl) (by decide) ?_
  refine GL.val (v := (.pointer (some ⟨bq1, 0, none⟩))) (Ex.cast (Ex.fieldAddr rfl Try.underlying67 rfl T.sz3 (by decide)) rfl) (by decide) ?_
  refine GL.val (Ex.load rfl T.ag3 (i := 1) rfl rfl) (by decide) ?_
  refine GL.val (v := (.pointer (some ⟨bq1, 1, none⟩))) (Ex.cast (Ex.fieldAddr rfl Try.underlying67 rfl T.sz3 (by decide)) rfl) (by decide) ?_
  refine GL.val (Ex.load rfl T.ag3 (i := 1) rfl rfl) (by decide) ?_
  refine GL.val (v := (.int .i64 31)) (Ex.add rfl rfl (Z := 31) (by decide)) (by decide) ?_
  refine GL.val (v := (.int .u64 (a / 2147483648))) (Ex.shr rfl (m := 31) rfl (by decide) (Z := a / 2147483648) rfl) (by decide) ?_
  refine GL.val (v := (.int .u64 (a / 2147483648 % 2))) (Ex.bits rfl rfl (by simp) (Z := a / 2147483648 % 2) (andm64 1 (by omega) (by omega) (by omega) rfl rfl)) (by decide) ?_
  refine GL.val (v := (.bool (decide ((a / 2147483648 % 2) = 1)))) (Ex.eql rfl rfl) (by decide) ?_
  refine GL.val (Ex.assign rfl) (by decide) ?_
  refine GL.nil ?_
  refine GE.thenN ?_
  refine GC.seq ?_
  refine GC.drawP [⟨bq2, [(.int .i64 0), (.bool false), (.slice none 0 0), (.int .i64 0), (.bool false)], 38, true⟩, ⟨bq1, [(.int .i64 23), (.int .i64 8)], 67, true⟩] T.mixed (by kernel_rfl) (by kernel_rfl) (fuel := 7) rfl rfl ?_
  refine GH.take 0 (v := (.int .u64 a)) rfl (by kernel_rfl) (by kernel_rfl) (by kernel_rfl) (fun _ _ _ h => h) (Ex.move rfl) (ulC (ulC ulN)) (by decide) ?_
  refine GH.take 1 (v := (.pointer (some ⟨bq1, 0, none⟩))) rfl (by kernel_rfl) (by kernel_rfl) (by kernel_rfl) (fun _ _ _ h => h) (Ex.cast (Ex.fieldAddr rfl Try.underlying67 rfl T.sz3 (by decide)) rfl) (ulC (ulC ulN)) (by decide) ?_
  refine GH.take 2 (v := (.int .i64 23)) rfl (by kernel_rfl) (by kernel_rfl) (by kernel_rfl) (fun _ _ _ h => h) (Ex.load rfl T.ag3 (i := 1) rfl rfl) (ulC (ulC ulN)) (by decide) ?_
  refine GH.take 3 (v := (.int .u64 (a / 8388608))) rfl (by kernel_rfl) (by kernel_rfl) (by kernel_rfl) (fun _ _ _ h => h) (Ex.shr rfl (m := 23) rfl (by decide) (Z := a / 8388608) rfl) (ulC (ulC ulN)) (by decide) ?_
  refine GH.take 4 (v := (.agg #[(.int .i64 23), (.int .i64 8)])) rfl (by kernel_rfl) (by kernel_rfl) (by kernel_rfl) (fun _ _ _ h => h) (Ex.loadA rfl T.ag67 T.sz67 (i := 1) rfl (vs := [(.int .i64 23), (.int .i64 8)]) rfl rfl) (ulC (ulC ulN)) (by decide) ?_
  refine GH.one 5 rfl (by kernel_rfl) (Stp.callR (vs := [(.agg #[(.int .i64 23), (.int .i64 8)])]) rfl rfl T.own82 (by decide) (fun wc hw => j82_1  wc )) (fun _ => (ulC (ulC ulN))) (fun xq3 hq4 => ?_)
  refine GH.take 6 (v := (.int .u64 (a / 8388608 % 256))) rfl (by kernel_rfl) (by kernel_rfl) (by kernel_rfl) (fun _ _ _ h => h) (Ex.bits rfl rfl (by simp) (Z := a / 8388608 % 256) (andm64 8 (by omega) (by omega) (by omega) rfl rfl)) (ulC (ulC ulN)) (by decide) ?_
  refine GH.done (by kernel_rfl) ?_
  refine GE.thenN ?_
  refine GE.tail rfl (Ex.wp (v := (.int .u64 (a / 8388608 % 256))) (Ex.assign rfl) (by decide)) (fun _ _ => ?_)
  refine GE.thenN ?_
  refine GC.seq ?_
  refine GC.region ?_
  refine GL.val (Ex.move rfl) (by decide) ?_
  refine GL.val (v := (.pointer (some ⟨bq1, 0, none⟩))) (Ex.cast (Ex.fieldAddr rfl Try.underlying67 rfl T.sz3 (by decide)) rfl) (by decide) ?_
  refine GL.val (Ex.load rfl T.ag3 (i := 1) rfl rfl) (by decide) ?_
  refine GL.val (v := (.int .u64 8388608)) (Ex.shl rfl (m := 23) rfl (by decide) (Z := 8388608) (by decide)) (by decide) ?_
  refine GL.val (v := (.int .u64 8388607)) (Ex.sub' rfl rfl (Z := 8388607) (by decide)) (by decide) ?_
  refine GL.val (v := (.int .u64 (a % 8388608))) (Ex.bits rfl rfl (by simp) (Z := a % 8388608) (andm64 23 (by omega) (by omega) (by omega) rfl rfl)) (by decide) ?_
  refine GL.val (Ex.assign rfl) (by decide) ?_
  refine GL.nil ?_
  refine GE.thenN ?_
  refine GC.seq ?_
  refine GC.seq ?_
  refine GC.region ?_
  refine GL.val (Ex.move rfl) (by decide) ?_
  refine GL.val (v := (.agg #[(.int .i64 23), (.int .i64 8)])) (Ex.loadA rfl T.ag67 T.sz67 (i := 1) rfl (vs := [(.int .i64 23), (.int .i64 8)]) rfl rfl) (by decide) ?_
  refine GL.step (Stp.callR (vs := [(.agg #[(.int .i64 23), (.int .i64 8)])]) rfl rfl T.own82 (by decide) (fun wc hw => j82_1  wc )) (fun xq5 hq6 => ?_)
  refine GL.val (v := (.bool (decide ((a / 8388608 % 256) = 255)))) (Ex.eql rfl rfl) (by decide) ?_
  refine GL.nil ?_
  refine GE.thenN ?_
  refine GC.cond rfl (fun hq7 => ?_) (fun hq7 => ?_)
  · replace hq7 := of_decide_eq_true hq7
    refine GC.seq ?_
    refine GC.seq ?_
    refine GC.region ?_
    refine GL.val (Ex.move rfl) (by decide) ?_
    refine GL.val (v := (.bool (decide ((a % 8388608) ≠ 0)))) (Ex.neq rfl rfl) (by decide) ?_
    refine GL.nil ?_
    refine GE.thenN ?_
    refine GC.cond rfl (fun hq8 => ?_) (fun hq8 => ?_)
    · replace hq8 := of_decide_eq_true hq8
      refine GC.seq ?_
      refine GC.region ?_
      refine GL.val (v := (.agg #[(.int .i64 0), (.bool false), (.slice none 0 0), (.int .i64 0), (.bool false)])) (Ex.build (vs := [(0, (.int .i64 0))]) rfl (by first | rfl | kernel_rfl)) (by decide) ?_
      refine GL.step (Stp.st0 (cs' := [(.int .i64 0), (.bool false), (.slice none 0 0), (.int .i64 0), (.bool false)]) rfl rfl rfl T.sz38 rfl rfl rfl) (fun _ _ => ?_)
      refine GL.nil ?_
      refine GE.thenN ?_
      refine GC.ret ?_
      refine GE.thenR ?_
      refine GE.thenR ?_
      refine GC.ret1 rfl (Rv.cellA rfl T.ag38 T.sz38 (L := _) (i := 0) rfl (vs := [(.int .i64 0), (.bool false), (.slice none 0 0), (.int .i64 0), (.bool false)]) rfl rfl) (fun wN HN => ?_)
      exact HN.ret (0, false, (none, 0, 0), 0) (by constructor <;> intro _ <;> omega) rfl (List.nil_sublist _) rfl
    · replace hq8 := of_decide_eq_false hq8
      refine GC.skip ?_
      refine GE.thenN ?_
      refine GC.seq ?_
      refine GC.region ?_
      refine GL.val (Ex.move rfl) (by decide) ?_
      refine GL.val (v := (.agg #[(.int .i64 1), (.bool (decide ((a / 2147483648 % 2) = 1))), (.slice none 0 0), (.int .i64 0), (.bool false)])) (Ex.build (vs := [(0, (.int .i64 1)), (1, (.bool (decide ((a / 2147483648 % 2) = 1))))]) rfl (by first | rfl | kernel_rfl)) (by decide) ?_
      refine GL.step (Stp.st0 (cs' := [(.int .i64 1), (.bool (decide ((a / 2147483648 % 2) = 1))), (.slice none 0 0), (.int .i64 0), (.bool false)]) rfl rfl rfl T.sz38 rfl rfl rfl) (fun _ _ => ?_)
      refine GL.nil ?_
      refine GE.thenN ?_
      refine GC.ret ?_
      refine GE.thenR ?_
      refine GC.ret1 rfl (Rv.cellA rfl T.ag38 T.sz38 (L := _) (i := 0) rfl (vs := [(.int .i64 1), (.bool (decide ((a / 2147483648 % 2) = 1))), (.slice none 0 0), (.int .i64 0), (.bool false)]) rfl rfl) (fun wN HN => ?_)
      exact HN.ret (1, decide ((a / 2147483648 % 2) = 1), (none, 0, 0), 0) (by constructor <;> intro _ <;> omega) rfl (List.nil_sublist _) rfl
  · replace hq7 := of_decide_eq_false hq7
    refine GC.skip ?_
    refine GE.thenN ?_
    refine GC.seq ?_
    refine GC.seq ?_
    refine GC.region ?_
    refine GL.val (Ex.move rfl) (by decide) ?_
    refine GL.val (v := (.bool (decide ((a / 8388608 % 256) = 0)))) (Ex.eql rfl rfl) (by decide) ?_
    refine GL.nil ?_
    refine GE.thenN ?_
    refine GC.cond rfl (fun hq9 => ?_) (fun hq9 => ?_)
    · replace hq9 := of_decide_eq_true hq9
      refine GC.seq ?_
      refine GC.drawP [⟨bq2, [(.int .i64 0), (.bool false), (.slice none 0 0), (.int .i64 0), (.bool false)], 38, true⟩, ⟨bq1, [(.int .i64 23), (.int .i64 8)], 67, true⟩] T.mixed (by kernel_rfl) (by kernel_rfl) (fuel := 7) rfl rfl ?_
      refine GH.take 0 (v := (.bool (decide ((a / 2147483648 % 2) = 1)))) rfl (by kernel_rfl) (by kernel_rfl) (by kernel_rfl) (fun _ _ _ h => h) (Ex.move rfl) (ulC (ulC ulN)) (by decide) ?_
      refine GH.take 1 (v := (.int .u64 (a % 8388608))) rfl (by kernel_rfl) (by kernel_rfl) (by kernel_rfl) (fun _ _ _ h => h) (Ex.move rfl) (ulC (ulC ulN)) (by decide) ?_
      refine GH.take 3 (v := (.agg #[(.int .i64 23), (.int .i64 8)])) rfl (by kernel_rfl) (by kernel_rfl) (by kernel_rfl) (fun _ _ _ h => h) (Ex.loadA rfl T.ag67 T.sz67 (i := 1) rfl (vs := [(.int .i64 23), (.int .i64 8)]) rfl rfl) (ulC (ulC ulN)) (by decide) ?_
      refine GH.one 2 rfl (by kernel_rfl) (Stp.callR (vs := [(.int .u64 (a % 8388608))]) rfl rfl T.own62 (by decide) (fun wc hw => natof_r (a % 8388608) wc (by omega))) (fun _ => (ulS (ulC (ulC ulN)))) (fun xq10 hq11 => ?_)
      refine GH.one 4 rfl (by kernel_rfl) (Stp.callR (vs := [(.agg #[(.int .i64 23), (.int .i64 8)])]) rfl rfl T.own83 (by decide) (fun wc hw => j83_2  wc )) (fun _ => (ulS (ulC (ulC ulN)))) (fun xq12 hq13 => ?_)
      refine GH.take 5 (v := (.int .i64 (-149))) rfl (by kernel_rfl) (by kernel_rfl) (by kernel_rfl) (fun _ _ _ h => h) (Ex.sub' rfl rfl (Z := -149) (by decide)) (ulS (ulC (ulC ulN))) (by decide) ?_
      refine GH.take 6 (v := (.agg #[(.int .i64 2), (.bool (decide ((a / 2147483648 % 2) = 1))), (.slice (some ⟨xq10, 0, none⟩) ((if a % 8388608 = 0 then 0 else 1)) 2), (.int .i64 (-149)), (.bool false)])) rfl (by kernel_rfl) (by kernel_rfl) (by kernel_rfl) (fun _ _ _ h => h) (Ex.build (vs := [(0, (.int .i64 2)), (1, (.bool (decide ((a / 2147483648 % 2) = 1)))), (2, (.slice (some ⟨xq10, 0, none⟩) ((if a % 8388608 = 0 then 0 else 1)) 2)), (3, (.int .i64 (-149)))]) rfl (by first | rfl | kernel_rfl)) (ulS (ulC (ulC ulN))) (by decide) ?_
      refine GH.done (by kernel_rfl) ?_
      refine GE.thenN ?_
      refine GE.tail rfl (Stp.st1 (cs' := [(.int .i64 2), (.bool (decide ((a / 2147483648 % 2) = 1))), (.slice (some ⟨xq10, 0, none⟩) ((if a % 8388608 = 0 then 0 else 1)) 2), (.int .i64 (-149)), (.bool false)]) rfl rfl rfl T.sz38 rfl rfl rfl) (fun _ _ => ?_)
      refine GE.thenN ?_
      refine GC.ret ?_
      refine GE.thenR ?_
      refine GC.ret1 rfl (Rv.cellA rfl T.ag38 T.sz38 (L := _) (i := 1) rfl (vs := [(.int .i64 2), (.bool (decide ((a / 2147483648 % 2) = 1))), (.slice (some ⟨xq10, 0, none⟩) ((if a % 8388608 = 0 then 0 else 1)) 2), (.int .i64 (-149)), (.bool false)]) rfl rfl) (fun wN HN => ?_)
      exact HN.ret (2, decide ((a / 2147483648 % 2) = 1), ((some ⟨xq10, 0, none⟩), (if a % 8388608 = 0 then 0 else 1), 2), -149) (by constructor <;> intro _ <;> omega) rfl (List.nil_sublist _) rfl
    · replace hq9 := of_decide_eq_false hq9
      refine GC.skip ?_
      refine GE.thenN ?_
      refine GC.seq ?_
      refine GC.drawP [⟨bq2, [(.int .i64 0), (.bool false), (.slice none 0 0), (.int .i64 0), (.bool false)], 38, true⟩, ⟨bq1, [(.int .i64 23), (.int .i64 8)], 67, true⟩] T.mixed (by kernel_rfl) (by kernel_rfl) (fuel := 13) rfl rfl ?_
      refine GH.take 0 (v := (.bool (decide ((a / 2147483648 % 2) = 1)))) rfl (by kernel_rfl) (by kernel_rfl) (by kernel_rfl) (fun _ _ _ h => h) (Ex.move rfl) (ulC (ulC ulN)) (by decide) ?_
      refine GH.take 1 (v := (.int .u64 (a % 8388608))) rfl (by kernel_rfl) (by kernel_rfl) (by kernel_rfl) (fun _ _ _ h => h) (Ex.move rfl) (ulC (ulC ulN)) (by decide) ?_
      refine GH.take 2 (v := (.pointer (some ⟨bq1, 0, none⟩))) rfl (by kernel_rfl) (by kernel_rfl) (by kernel_rfl) (fun _ _ _ h => h) (Ex.cast (Ex.fieldAddr rfl Try.underlying67 rfl T.sz3 (by decide)) rfl) (ulC (ulC ulN)) (by decide) ?_
      refine GH.take 3 (v := (.int .i64 23)) rfl (by kernel_rfl) (by kernel_rfl) (by kernel_rfl) (fun _ _ _ h => h) (Ex.load rfl T.ag3 (i := 1) rfl rfl) (ulC (ulC ulN)) (by decide) ?_
      refine GH.take 4 (v := (.int .u64 8388608)) rfl (by kernel_rfl) (by kernel_rfl) (by kernel_rfl) (fun _ _ _ h => h) (Ex.shl rfl (m := 23) rfl (by decide) (Z := 8388608) (by decide)) (ulC (ulC ulN)) (by decide) ?_
      refine GH.take 5 (v := (.int .u64 (a % 8388608 + 8388608))) rfl (by kernel_rfl) (by kernel_rfl) (by kernel_rfl) (fun _ _ _ h => h) (Ex.bits rfl rfl (by simp) (Z := a % 8388608 + 8388608) (orm64 23 (by omega) (by omega) rfl rfl)) (ulC (ulC ulN)) (by decide) ?_
      refine GH.take 7 (v := (.int .u64 (a / 8388608 % 256))) rfl (by kernel_rfl) (by kernel_rfl) (by kernel_rfl) (fun _ _ _ h => h) (Ex.move rfl) (ulC (ulC ulN)) (by decide) ?_
      refine GH.take 8 (v := (.int .i64 (a / 8388608 % 256))) rfl (by kernel_rfl) (by kernel_rfl) (by kernel_rfl) (fun _ _ _ h => h) (Ex.conv rfl Try.underlying70 Try.underlying3 (Z := a / 8388608 % 256) (w64 (by omega))) (ulC (ulC ulN)) (by decide) ?_
      refine GH.take 9 (v := (.agg #[(.int .i64 23), (.int .i64 8)])) rfl (by kernel_rfl) (by kernel_rfl) (by kernel_rfl) (fun _ _ _ h => h) (Ex.loadA rfl T.ag67 T.sz67 (i := 1) rfl (vs := [(.int .i64 23), (.int .i64 8)]) rfl rfl) (ulC (ulC ulN)) (by decide) ?_
      refine GH.one 6 rfl (by kernel_rfl) (Stp.callR (vs := [(.int .u64 (a % 8388608 + 8388608))]) rfl rfl T.own62 (by decide) (fun wc hw => natof_r (a % 8388608 + 8388608) wc (by omega))) (fun _ => (ulS (ulC (ulC ulN)))) (fun xq14 hq15 => ?_)
      refine GH.one 10 rfl (by kernel_rfl) (Stp.callR (vs := [(.agg #[(.int .i64 23), (.int .i64 8)])]) rfl rfl T.own83 (by decide) (fun wc hw => j83_2  wc )) (fun _ => (ulS (ulC (ulC ulN)))) (fun xq16 hq17 => ?_)
      refine GH.take 11 (v := (.int .i64 ((a / 8388608 % 256) - 150))) rfl (by kernel_rfl) (by kernel_rfl) (by kernel_rfl) (fun _ _ _ h => h) (Ex.sub' rfl rfl (Z := (a / 8388608 % 256) - 150) (w64 (by omega))) (ulS (ulC (ulC ulN))) (by decide) ?_
      refine GH.take 12 (v := (.agg #[(.int .i64 2), (.bool (decide ((a / 2147483648 % 2) = 1))), (.slice (some ⟨xq14, 0, none⟩) ((if a % 8388608 + 8388608 = 0 then 0 else 1)) 2), (.int .i64 ((a / 8388608 % 256) - 150)), (.bool false)])) rfl (by kernel_rfl) (by kernel_rfl) (by kernel_rfl) (fun _ _ _ h => h) (Ex.build (vs := [(0, (.int .i64 2)), (1, (.bool (decide ((a / 2147483648 % 2) = 1)))), (2, (.slice (some ⟨xq14, 0, none⟩) ((if a % 8388608 + 8388608 = 0 then 0 else 1)) 2)), (3, (.int .i64 ((a / 8388608 % 256) - 150)))]) rfl (by first | rfl | kernel_rfl)) (ulS (ulC (ulC ulN))) (by decide) ?_
      refine GH.done (by kernel_rfl) ?_
      refine GE.thenN ?_
      refine GE.tail rfl (Stp.st1 (cs' := [(.int .i64 2), (.bool (decide ((a / 2147483648 % 2) = 1))), (.slice (some ⟨xq14, 0, none⟩) ((if a % 8388608 + 8388608 = 0 then 0 else 1)) 2), (.int .i64 ((a / 8388608 % 256) - 150)), (.bool false)]) rfl rfl rfl T.sz38 rfl rfl rfl) (fun _ _ => ?_)
      refine GE.thenN ?_
      refine GC.ret ?_
      refine GC.ret1 rfl (Rv.cellA rfl T.ag38 T.sz38 (L := _) (i := 1) rfl (vs := [(.int .i64 2), (.bool (decide ((a / 2147483648 % 2) = 1))), (.slice (some ⟨xq14, 0, none⟩) ((if a % 8388608 + 8388608 = 0 then 0 else 1)) 2), (.int .i64 ((a / 8388608 % 256) - 150)), (.bool false)]) rfl rfl) (fun wN HN => ?_)
      exact HN.ret (2, decide ((a / 2147483648 % 2) = 1), ((some ⟨xq14, 0, none⟩), (if a % 8388608 + 8388608 = 0 then 0 else 1), 2), (a / 8388608 % 256) - 150) (by constructor <;> intro _ <;> omega) rfl (List.nil_sublist _) rfl

set_option maxRecDepth 100000 in
set_option maxHeartbeats 1000000 in
theorem num_r (a : Int) (w : World) (ha : 0 ≤ a ∧ a < 4294967296) :
    Calls Try.prog 68 #[(.int .u32 a)] w (Ret w (fun x : Int × Bool × (Option Addr × Nat × Nat) × Int => (x.1 = 0 ↔ 2139095040 < a % 2147483648)) (fun x => (.agg #[(.int .i64 x.1), (.bool x.2.1), (.slice x.2.2.1.1 x.2.2.1.2.1 x.2.2.1.2.2), (.int .i64 x.2.2.2), (.bool false)])) (fun x => [])) := by
  refine enter (M := None) (L := []) (n := 7) (l := [(0, (.int .u32 a))]) Try.func68 rfl rfl (Args.cons rfl (Args.nil _)) (Hp.start _ _) ?_
  refine GC.seq ?_
  refine GC.region ?_
  refine GL.step (Stp.alloc T.zr38 (by decide)) (fun bq1 _ => ?_)
  refine GL.nil ?_
  refine GE.thenN ?_
  refine GC.seq ?_
  refine GC.region ?_
  refine GL.step (Stp.callR (vs := []) rfl rfl T.own58 (by decide) (fun wc hw => j58_3  wc )) (fun xq2 hq3 => ?_)
  refine GL.val (Ex.move rfl) (by decide) ?_
  refine GL.val (v := (.int .u64 a)) (Ex.conv rfl Try.underlying23 Try.underlying70 (Z := a) (wu64b (by omega))) (by decide) ?_
  refine GL.step (Stp.callR (vs := [(.agg #[(.int .i64 23), (.int .i64 8)]), (.int .u64 a)]) rfl rfl T.own59 (by decide) (fun wc hw => of_r a wc (by omega))) (fun xq4 hq5 => ?_)
  refine GL.step (Stp.st0 (cs' := [(.int .i64 xq4.1), (.bool xq4.2.1), (.slice xq4.2.2.1.1 xq4.2.2.1.2.1 xq4.2.2.1.2.2), (.int .i64 xq4.2.2.2), (.bool false)]) rfl rfl rfl T.sz38 rfl rfl rfl) (fun _ _ => ?_)
  refine GL.nil ?_
  refine GE.thenN ?_
  refine GC.ret ?_
  refine GC.ret1 rfl (Rv.cellA rfl T.ag38 T.sz38 (L := _) (i := 0) rfl (vs := [(.int .i64 xq4.1), (.bool xq4.2.1), (.slice xq4.2.2.1.1 xq4.2.2.1.2.1 xq4.2.2.1.2.2), (.int .i64 xq4.2.2.2), (.bool false)]) rfl rfl) (fun wN HN => ?_)
  exact HN.ret xq4 hq5 rfl (List.nil_sublist _) rfl

set_option maxRecDepth 100000 in
set_option maxHeartbeats 1000000 in
theorem isnan_r (a : Int) (w : World) (ha : 0 ≤ a ∧ a < 4294967296) :
    Calls Try.prog 38 #[(.int .u32 a)] w (Ret w (fun _ : Unit => True) (fun _ => (.bool (decide (2139095040 < a % 2147483648)))) (fun _ => [])) := by
  refine enter (M := None) (L := []) (n := 7) (l := [(0, (.int .u32 a))]) Try.func38 rfl rfl (Args.cons rfl (Args.nil _)) (Hp.start _ _) ?_
  refine GC.seq ?_
  refine GC.region ?_
  refine GL.val (Ex.assign rfl) (by decide) ?_
  refine GL.nil ?_
  refine GE.thenN ?_
  refine GC.seq ?_
  refine GC.region ?_
  refine GL.val (Ex.move rfl) (by decide) ?_
  refine GL.step (Stp.callR (vs := [(.int .u32 a)]) rfl rfl T.own68 (by decide) (fun wc hw => num_r a wc (by omega))) (fun xq1 hq2 => ?_)
  refine GL.val (v := (.int .i64 xq1.1)) (Ex.field1 rfl Try.underlying38 rfl T.ag3 rfl) (by decide) ?_
  refine GL.val (v := (.bool (decide (xq1.1 = 0)))) (Ex.eql rfl rfl) (by decide) ?_
  refine GL.val (Ex.assign rfl) (by decide) ?_
  refine GL.nil ?_
  refine GE.thenN ?_
  refine GC.ret ?_
  refine GC.ret1 rfl (Rv.tmp rfl) (fun wN HN => ?_)
  exact HN.ret () trivial (by first | rw [decide_eq_decide.2 hq2] | rw [decide_eq_decide.2 (Iff.symm hq2)]) (List.nil_sublist _) rfl

set_option maxRecDepth 100000 in
set_option maxHeartbeats 1000000 in
theorem exp_p (a : Int) (w : World) (ha : 0 ≤ a ∧ a < 4294967296) :
    Calls Try.prog 20 #[(.int .u32 a)] w (Ret w (fun _ : Unit => True) (fun _ => (.int .u32 ((Sl.EX a)))) (fun _ => [])) := by
  refine enter (M := None) (L := []) (n := 22) (l := [(0, (.int .u32 a))]) Try.func20 rfl rfl (Args.cons rfl (Args.nil _)) (Hp.start _ _) ?_
  refine GC.seq ?_
  refine GC.region ?_
  refine GL.val (Ex.assign rfl) (by decide) ?_
  refine GL.nil ?_
  refine GE.thenN ?_
  refine GC.seq ?_
  refine GC.region ?_
  refine GL.val (Ex.move rfl) (by decide) ?_
  refine GL.step (Stp.callR (vs := [(.int .u32 a)]) rfl rfl T.own39 (by decide) (fun wc hw => value_p a wc)) (fun xq1 hq2 => ?_)
  refine GL.val (Ex.assign rfl) (by decide) ?_
  refine GL.nil ?_
  refine GE.thenN ?_
  refine GC.seq ?_
  refine GC.block ?_
  refine GC.seq ?_
  refine GC.region ?_
  refine GL.val (Ex.move rfl) (by decide) ?_
  refine GL.val (Ex.move rfl) (by decide) ?_
  refine GL.val (v := (.bool ((Fv.V a).isNone))) (Ex.fneq (r := (Fv.V a).isNone) rfl rfl (Eq.trans (congrArg (fun o : Option Ordering => (o != some .eq)) (Fv.ord_eq hq2 hq2)) (Fv.neq_self hq2))) (by decide) ?_
  refine GL.val (Ex.assign rfl) (by decide) ?_
  refine GL.nil ?_
  refine GE.thenN ?_
  refine GC.cond rfl (fun hq3 => ?_) (fun hq3 => ?_)
  · refine GC.seq ?_
    refine GC.region ?_
    refine GL.val (Ex.assign rfl) (by decide) ?_
    refine GL.nil ?_
    refine GE.thenN ?_
    refine GC.ret ?_
    refine GE.blockR ?_
    refine GE.thenR ?_
    refine GC.ret1 rfl (Rv.tmp rfl) (fun wN HN => ?_)
    exact HN.ret () trivial (by unfold Sl.EX; rw [if_pos hq3]) (List.nil_sublist _) rfl
  · refine GC.seq ?_
    refine GC.region ?_
    refine GL.val (Ex.move rfl) (by decide) ?_
    refine GL.val (v := (.bool ((Fv.ord .f64 (Fv.V a) (some 4638707616191610880) == some .gt || Fv.ord .f64 (Fv.V a) (some 4638707616191610880) == some .eq)))) (Ex.fgeq (r := (Fv.ord .f64 (Fv.V a) (some 4638707616191610880) == some .gt || Fv.ord .f64 (Fv.V a) (some 4638707616191610880) == some .eq)) rfl rfl (congrArg (fun o : Option Ordering => (o == some .gt || o == some .eq)) (Fv.ord_eq hq2 ⟨rfl, by decide +kernel⟩))) (by decide) ?_
    refine GL.val (Ex.assign rfl) (by decide) ?_
    refine GL.nil ?_
    refine GE.thenN ?_
    refine GC.cond rfl (fun hq4 => ?_) (fun hq4 => ?_)
    · refine GC.seq ?_
      refine GC.region ?_
      refine GL.val (Ex.assign rfl) (by decide) ?_
      refine GL.nil ?_
      refine GE.thenN ?_
      refine GC.ret ?_
      refine GE.blockR ?_
      refine GE.thenR ?_
      refine GC.ret1 rfl (Rv.tmp rfl) (fun wN HN => ?_)
      exact HN.ret () trivial (by unfold Sl.EX; rw [if_neg (by rw [hq3]; decide), if_pos hq4]) (List.nil_sublist _) rfl
    · refine GC.seq ?_
      refine GC.region ?_
      refine GL.val (Ex.move rfl) (by decide) ?_
      refine GL.val (v := (.bool ((Fv.ord .f64 (Fv.V a) (some 13862009284302209024) == some .lt)))) (Ex.flss (r := (Fv.ord .f64 (Fv.V a) (some 13862009284302209024) == some .lt)) rfl rfl (congrArg (fun o : Option Ordering => (o == some .lt)) (Fv.ord_eq hq2 ⟨rfl, by decide +kernel⟩))) (by decide) ?_
      refine GL.val (Ex.assign rfl) (by decide) ?_
      refine GL.nil ?_
      refine GE.thenN ?_
      refine GC.cond rfl (fun hq5 => ?_) (fun hq5 => ?_)
      · refine GC.seq ?_
        refine GC.region ?_
        refine GL.val (Ex.assign rfl) (by decide) ?_
        refine GL.nil ?_
        refine GE.thenN ?_
        refine GC.ret ?_
        refine GE.blockR ?_
        refine GE.thenR ?_
        refine GC.ret1 rfl (Rv.tmp rfl) (fun wN HN => ?_)
        exact HN.ret () trivial (by unfold Sl.EX; rw [if_neg (by rw [hq3]; decide), if_neg (by rw [hq4]; decide), if_pos hq5]) (List.nil_sublist _) rfl
      · refine GC.skip ?_
        refine GE.blockN ?_
        refine GE.thenN ?_
        refine GC.seq ?_
        have hI := Sl.exp_in ha hq3 hq4 hq5
        have hA := Sl.ex_at ha hI.1 hI.2
        have hB := hA.2
        have hC := Sl.RI_at hA.1
        refine GC.region ?_
        refine GL.val (Ex.move rfl) (by decide) ?_
        refine GL.step (Stp.fop (fx := (Fv.V a)) (fy := (some 4710765210229538816)) rfl rfl rfl hq2 ⟨rfl, by decide +kernel⟩ (by decide)) (fun xq6 hq7 => ?_)
        refine GL.val (v := (.float .f64 ((Sl.RE xq6)))) (Ex.ext (vs := [(.float .f64 xq6)]) rfl rfl T.ext48 (Sl.rte hA.1 hq7 (by omega)).1) (by decide) ?_
        refine GL.val (v := (.int .i64 ((Sl.RI (Sl.ex a))))) (Ex.cfi (m := (Sl.RI (Sl.ex a))) rfl Try.underlying50 Try.underlying3 (Sl.rte (P := Try.prog) hA.1 hq7 (by omega)).2) (by decide) ?_
        refine GL.val (v := (.int .i64 (((Sl.RI (Sl.ex a))) + 1065353216))) (Ex.add rfl rfl (Z := ((Sl.RI (Sl.ex a))) + 1065353216) (w64 (by omega))) (by decide) ?_
        refine GL.val (v := (.int .u32 (((Sl.RI (Sl.ex a))) + 1065353216))) (Ex.conv rfl Try.underlying3 Try.underlying23 (Z := ((Sl.RI (Sl.ex a))) + 1065353216) (wu32b (by omega))) (by decide) ?_
        refine GL.val (Ex.assign rfl) (by decide) ?_
        refine GL.nil ?_
        refine GE.thenN ?_
        refine GC.ret ?_
        refine GC.ret1 rfl (Rv.tmp rfl) (fun wN HN => ?_)
        exact HN.ret () trivial (by unfold Sl.EX; rw [if_neg (by rw [hq3]; decide), if_neg (by rw [hq4]; decide), if_neg (by rw [hq5]; decide)]) (List.nil_sublist _) rfl

set_option maxRecDepth 100000 in
set_option maxHeartbeats 1000000 in
theorem lawRises (a b : Int) (w : World) (ha : 0 ≤ a ∧ a < 4294967296) (hb : 0 ≤ b ∧ b < 4294967296) :
    Calls Try.prog 11 #[(.int .u32 a), (.int .u32 b)] w (Ret w (fun _ : Unit => True) (fun _ => .bool true) (fun _ => [])) := by
  refine enter (M := None) (L := []) (n := 39) (l := [(0, (.int .u32 a)), (1, (.int .u32 b))]) Try.func11 rfl rfl (Args.cons rfl (Args.cons rfl (Args.nil _))) (Hp.start _ _) ?_
  refine GC.seq ?_
  refine GC.region ?_
  refine GL.val (Ex.assign rfl) (by decide) ?_
  refine GL.nil ?_
  refine GE.thenN ?_
  refine GC.seq ?_
  refine GC.seq ?_
  refine GC.region ?_
  refine GL.step (Stp.callR (vs := []) rfl rfl T.own13 (by decide) (fun wc hw => known wc)) (fun xq1 hq2 => ?_)
  refine GL.val (v := (.bool false)) (Ex.cast (Ex.not rfl) rfl) (by decide) ?_
  refine GL.nil ?_
  refine GE.thenN ?_
  refine GC.cond rfl (fun hq3 => by cases hq3) (fun _ => ?_)
  refine GC.skip ?_
  refine GE.thenN ?_
  refine GC.seq ?_
  refine GC.seq ?_
  refine GC.region ?_
  refine GL.val (Ex.move rfl) (by decide) ?_
  refine GL.step (Stp.callR (vs := [(.int .u32 a)]) rfl rfl T.own38 (by decide) (fun wc hw => isnan_r a wc (by omega))) (fun xq4 hq5 => ?_)
  by_cases hq6 : (2139095040 < a % 2147483648)
  · refine GL.val (v := (.bool true)) (Ex.cast (Ex.move rfl) (congrArg Value.bool (decide_eq_true hq6))) (by decide) ?_
    refine GL.skipG (tj := 9) rfl rfl rfl (by decide) ?_
    refine GL.skipG (tj := 9) rfl rfl rfl (by decide) ?_
    refine GL.val (v := (.bool true)) (Ex.pickT rfl rfl) (by decide) ?_
    refine GL.nil ?_
    refine GE.thenN ?_
    refine GC.cond rfl (fun _ => ?_) (fun hq7 => by cases hq7)
    refine GC.seq ?_
    refine GC.region ?_
    refine GL.val (Ex.assign rfl) (by decide) ?_
    refine GL.nil ?_
    refine GE.thenN ?_
    refine GC.ret ?_
    refine GE.thenR ?_
    refine GC.ret1 rfl (Rv.tmp rfl) (fun wN HN => ?_)
    exact HN.ret () trivial (by first | rfl | simp) (List.nil_sublist _) rfl
  · refine GL.val (v := (.bool false)) (Ex.cast (Ex.move rfl) (congrArg Value.bool (decide_eq_false hq6))) (by decide) ?_
    refine GL.stepG (tj := 9) rfl rfl (Ex.wp (v := (.int .u32 b)) (Ex.move rfl) (by decide)) (fun _ _ => ?_)
    refine GL.stepG (tj := 9) rfl rfl (Stp.callR (vs := [(.int .u32 b)]) rfl rfl T.own38 (by decide) (fun wc hw => isnan_r b wc (by omega))) (fun xq8 hq9 => ?_)
    refine GL.val (v := (.bool (decide (2139095040 < b % 2147483648)))) (Ex.pickF rfl rfl) (by decide) ?_
    refine GL.nil ?_
    refine GE.thenN ?_
    refine GC.cond rfl (fun hq10 => ?_) (fun hq10 => ?_)
    · replace hq10 := of_decide_eq_true hq10
      refine GC.seq ?_
      refine GC.region ?_
      refine GL.val (Ex.assign rfl) (by decide) ?_
      refine GL.nil ?_
      refine GE.thenN ?_
      refine GC.ret ?_
      refine GE.thenR ?_
      refine GC.ret1 rfl (Rv.tmp rfl) (fun wN HN => ?_)
      exact HN.ret () trivial (by first | rfl | simp) (List.nil_sublist _) rfl
    · replace hq10 := of_decide_eq_false hq10
      refine GC.skip ?_
      refine GE.thenN ?_
      refine GC.seq ?_
      refine GC.seq ?_
      have na : (Fv.rk a).natAbs ≤ 2139095040 := by unfold Fv.rk; split <;> omega
      have nb : (Fv.rk b).natAbs ≤ 2139095040 := by unfold Fv.rk; split <;> omega
      refine GC.region ?_
      refine GL.val (Ex.move rfl) (by decide) ?_
      refine GL.step (Stp.callR (vs := [(.int .u32 a)]) rfl rfl T.own36 (by decide) (fun wc hw => key_l a wc (by first | assumption | omega | exact Bt.lst_bd (by assumption) (by assumption) | exact Bt.gst_bd (by assumption) (by assumption) | exact Bt.key_bd (by assumption) | exact Bt.unkey_bd (by assumption) | exact Bt.nxt_bd (by assumption) | exact Bt.lst_bd (Bt.gst_bd (by assumption) (by assumption)) (by assumption) | exact Bt.btw_bd (by assumption) (Bt.lst_bd (by assumption) (by assumption)) (Bt.gst_bd (by assumption) (by assumption))))) (fun xq11 hq12 => ?_)
      refine GL.val (Ex.move rfl) (by decide) ?_
      refine GL.step (Stp.callR (vs := [(.int .u32 b)]) rfl rfl T.own36 (by decide) (fun wc hw => key_l b wc (by first | assumption | omega | exact Bt.lst_bd (by assumption) (by assumption) | exact Bt.gst_bd (by assumption) (by assumption) | exact Bt.key_bd (by assumption) | exact Bt.unkey_bd (by assumption) | exact Bt.nxt_bd (by assumption) | exact Bt.lst_bd (Bt.gst_bd (by assumption) (by assumption)) (by assumption) | exact Bt.btw_bd (by assumption) (Bt.lst_bd (by assumption) (by assumption)) (Bt.gst_bd (by assumption) (by assumption))))) (fun xq13 hq14 => ?_)
      refine GL.val (v := (.bool (decide (((Fv.rk b)) < ((Fv.rk a)))))) (Ex.gtr rfl rfl) (by decide) ?_
      refine GL.nil ?_
      refine GE.thenN ?_
      refine GC.cond rfl (fun hq15 => ?_) (fun hq15 => ?_)
      · replace hq15 := of_decide_eq_true hq15
        refine GC.region ?_
        refine GL.val (Ex.move rfl) (by decide) ?_
        refine GL.val (Ex.move rfl) (by decide) ?_
        refine GL.val (Ex.assign rfl) (by decide) ?_
        refine GL.val (Ex.assign rfl) (by decide) ?_
        refine GL.nil ?_
        refine GE.thenN ?_
        refine GC.seq ?_
        refine GC.seq ?_
        have ea := Sl.EX_bd ha
        have eb := Sl.EX_bd hb
        refine GC.region ?_
        refine GL.val (Ex.move rfl) (by decide) ?_
        refine GL.step (Stp.callR (vs := [(.int .u32 b)]) rfl rfl T.own20 (by decide) (fun wc hw => exp_p b wc (by omega))) (fun xq16 hq17 => ?_)
        refine GL.step (Stp.callR (vs := [(.int .u32 ((Sl.EX b)))]) rfl rfl T.own36 (by decide) (fun wc hw => key_l ((Sl.EX b)) wc (by first | assumption | omega | exact Bt.lst_bd (by assumption) (by assumption) | exact Bt.gst_bd (by assumption) (by assumption) | exact Bt.key_bd (by assumption) | exact Bt.unkey_bd (by assumption) | exact Bt.nxt_bd (by assumption) | exact Bt.lst_bd (Bt.gst_bd (by assumption) (by assumption)) (by assumption) | exact Bt.btw_bd (by assumption) (Bt.lst_bd (by assumption) (by assumption)) (Bt.gst_bd (by assumption) (by assumption))))) (fun xq18 hq19 => ?_)
        refine GL.val (Ex.move rfl) (by decide) ?_
        refine GL.step (Stp.callR (vs := [(.int .u32 a)]) rfl rfl T.own20 (by decide) (fun wc hw => exp_p a wc (by omega))) (fun xq20 hq21 => ?_)
        refine GL.step (Stp.callR (vs := [(.int .u32 ((Sl.EX a)))]) rfl rfl T.own36 (by decide) (fun wc hw => key_l ((Sl.EX a)) wc (by first | assumption | omega | exact Bt.lst_bd (by assumption) (by assumption) | exact Bt.gst_bd (by assumption) (by assumption) | exact Bt.key_bd (by assumption) | exact Bt.unkey_bd (by assumption) | exact Bt.nxt_bd (by assumption) | exact Bt.lst_bd (Bt.gst_bd (by assumption) (by assumption)) (by assumption) | exact Bt.btw_bd (by assumption) (Bt.lst_bd (by assumption) (by assumption)) (Bt.gst_bd (by assumption) (by assumption))))) (fun xq22 hq23 => ?_)
        refine GL.val (v := (.bool false)) (Ex.cast (Ex.gtr rfl rfl) (congrArg Value.bool (decide_eq_false (by have := Sl.EX_mono hb ha (by omega) (by omega) (show Fv.rk b ≤ Fv.rk a by omega); omega)))) (by decide) ?_
        refine GL.nil ?_
        refine GE.thenN ?_
        refine GC.cond rfl (fun hq24 => by cases hq24) (fun _ => ?_)
        refine GC.skip ?_
        refine GE.thenN ?_
        refine GC.seq ?_
        have la := Sl.LG_u32 ha
        have lb := Sl.LG_u32 hb
        refine GC.region ?_
        refine GL.val (Ex.move rfl) (by decide) ?_
        refine GL.step (Stp.callR (vs := [(.int .u32 b)]) rfl rfl T.own36 (by decide) (fun wc hw => key_l b wc (by first | assumption | omega | exact Bt.lst_bd (by assumption) (by assumption) | exact Bt.gst_bd (by assumption) (by assumption) | exact Bt.key_bd (by assumption) | exact Bt.unkey_bd (by assumption) | exact Bt.nxt_bd (by assumption) | exact Bt.lst_bd (Bt.gst_bd (by assumption) (by assumption)) (by assumption) | exact Bt.btw_bd (by assumption) (Bt.lst_bd (by assumption) (by assumption)) (Bt.gst_bd (by assumption) (by assumption))))) (fun xq25 hq26 => ?_)
        by_cases hq27 : ((Fv.rk b)) < 0
        · refine GL.val (v := (.bool true)) (Ex.cast (Ex.lss rfl rfl) (congrArg Value.bool (decide_eq_true hq27))) (by decide) ?_
          refine GL.val (Ex.move rfl) (by decide) ?_
          refine GL.skipG (tj := 30) rfl rfl rfl (by decide) ?_
          refine GL.skipG (tj := 30) rfl rfl rfl (by decide) ?_
          refine GL.skipG (tj := 30) rfl rfl rfl (by decide) ?_
          refine GL.skipG (tj := 30) rfl rfl rfl (by decide) ?_
          refine GL.skipG (tj := 30) rfl rfl rfl (by decide) ?_
          refine GL.skipG (tj := 30) rfl rfl rfl (by decide) ?_
          refine GL.skipG (tj := 30) rfl rfl rfl (by decide) ?_
          refine GL.val (v := (.bool true)) (Ex.pickT rfl rfl) (by decide) ?_
          refine GL.val (Ex.assign rfl) (by decide) ?_
          refine GL.nil ?_
          refine GE.thenN ?_
          refine GC.ret ?_
          refine GC.ret1 rfl (Rv.tmp rfl) (fun wN HN => ?_)
          exact HN.ret () trivial (by first | rfl | simp) (List.nil_sublist _) rfl
        · refine GL.val (v := (.bool false)) (Ex.cast (Ex.lss rfl rfl) (congrArg Value.bool (decide_eq_false hq27))) (by decide) ?_
          refine GL.val (Ex.move rfl) (by decide) ?_
          refine GL.stepG (tj := 30) rfl rfl (Ex.wp (v := (.int .u32 b)) (Ex.move rfl) (by decide)) (fun _ _ => ?_)
          refine GL.stepG (tj := 30) rfl rfl (Stp.callR (vs := [(.int .u32 b)]) rfl rfl T.own18 (by decide) (fun wc hw => log_p b wc (by omega))) (fun xq28 hq29 => ?_)
          refine GL.stepG (tj := 30) rfl rfl (Stp.callR (vs := [(.int .u32 ((Sl.LG b)))]) rfl rfl T.own36 (by decide) (fun wc hw => key_l ((Sl.LG b)) wc (by first | assumption | omega | exact Bt.lst_bd (by assumption) (by assumption) | exact Bt.gst_bd (by assumption) (by assumption) | exact Bt.key_bd (by assumption) | exact Bt.unkey_bd (by assumption) | exact Bt.nxt_bd (by assumption) | exact Bt.lst_bd (Bt.gst_bd (by assumption) (by assumption)) (by assumption) | exact Bt.btw_bd (by assumption) (Bt.lst_bd (by assumption) (by assumption)) (Bt.gst_bd (by assumption) (by assumption))))) (fun xq30 hq31 => ?_)
          refine GL.stepG (tj := 30) rfl rfl (Ex.wp (v := (.int .u32 a)) (Ex.move rfl) (by decide)) (fun _ _ => ?_)
          refine GL.stepG (tj := 30) rfl rfl (Stp.callR (vs := [(.int .u32 a)]) rfl rfl T.own18 (by decide) (fun wc hw => log_p a wc (by omega))) (fun xq32 hq33 => ?_)
          refine GL.stepG (tj := 30) rfl rfl (Stp.callR (vs := [(.int .u32 ((Sl.LG a)))]) rfl rfl T.own36 (by decide) (fun wc hw => key_l ((Sl.LG a)) wc (by first | assumption | omega | exact Bt.lst_bd (by assumption) (by assumption) | exact Bt.gst_bd (by assumption) (by assumption) | exact Bt.key_bd (by assumption) | exact Bt.unkey_bd (by assumption) | exact Bt.nxt_bd (by assumption) | exact Bt.lst_bd (Bt.gst_bd (by assumption) (by assumption)) (by assumption) | exact Bt.btw_bd (by assumption) (Bt.lst_bd (by assumption) (by assumption)) (Bt.gst_bd (by assumption) (by assumption))))) (fun xq34 hq35 => ?_)
          refine GL.stepG (tj := 30) rfl rfl (Ex.wp (v := (.bool true)) (Ex.cast (Ex.leq rfl rfl) (congrArg Value.bool (decide_eq_true (by exact Sl.LG_mono hb ha (by omega) (by omega) (by omega))))) (by decide)) (fun _ _ => ?_)
          refine GL.val (v := (.bool true)) (Ex.pickF rfl rfl) (by decide) ?_
          refine GL.val (Ex.assign rfl) (by decide) ?_
          refine GL.nil ?_
          refine GE.thenN ?_
          refine GC.ret ?_
          refine GC.ret1 rfl (Rv.tmp rfl) (fun wN HN => ?_)
          exact HN.ret () trivial (by first | rfl | simp) (List.nil_sublist _) rfl
      · replace hq15 := of_decide_eq_false hq15
        refine GC.skip ?_
        refine GE.thenN ?_
        refine GC.seq ?_
        refine GC.seq ?_
        have ea := Sl.EX_bd ha
        have eb := Sl.EX_bd hb
        refine GC.region ?_
        refine GL.val (Ex.move rfl) (by decide) ?_
        refine GL.step (Stp.callR (vs := [(.int .u32 a)]) rfl rfl T.own20 (by decide) (fun wc hw => exp_p a wc (by omega))) (fun xq36 hq37 => ?_)
        refine GL.step (Stp.callR (vs := [(.int .u32 ((Sl.EX a)))]) rfl rfl T.own36 (by decide) (fun wc hw => key_l ((Sl.EX a)) wc (by first | assumption | omega | exact Bt.lst_bd (by assumption) (by assumption) | exact Bt.gst_bd (by assumption) (by assumption) | exact Bt.key_bd (by assumption) | exact Bt.unkey_bd (by assumption) | exact Bt.nxt_bd (by assumption) | exact Bt.lst_bd (Bt.gst_bd (by assumption) (by assumption)) (by assumption) | exact Bt.btw_bd (by assumption) (Bt.lst_bd (by assumption) (by assumption)) (Bt.gst_bd (by assumption) (by assumption))))) (fun xq38 hq39 => ?_)
        refine GL.val (Ex.move rfl) (by decide) ?_
        refine GL.step (Stp.callR (vs := [(.int .u32 b)]) rfl rfl T.own20 (by decide) (fun wc hw => exp_p b wc (by omega))) (fun xq40 hq41 => ?_)
        refine GL.step (Stp.callR (vs := [(.int .u32 ((Sl.EX b)))]) rfl rfl T.own36 (by decide) (fun wc hw => key_l ((Sl.EX b)) wc (by first | assumption | omega | exact Bt.lst_bd (by assumption) (by assumption) | exact Bt.gst_bd (by assumption) (by assumption) | exact Bt.key_bd (by assumption) | exact Bt.unkey_bd (by assumption) | exact Bt.nxt_bd (by assumption) | exact Bt.lst_bd (Bt.gst_bd (by assumption) (by assumption)) (by assumption) | exact Bt.btw_bd (by assumption) (Bt.lst_bd (by assumption) (by assumption)) (Bt.gst_bd (by assumption) (by assumption))))) (fun xq42 hq43 => ?_)
        refine GL.val (v := (.bool false)) (Ex.cast (Ex.gtr rfl rfl) (congrArg Value.bool (decide_eq_false (by have := Sl.EX_mono ha hb (by omega) (by omega) (show Fv.rk a ≤ Fv.rk b by omega); omega)))) (by decide) ?_
        refine GL.nil ?_
        refine GE.thenN ?_
        refine GC.cond rfl (fun hq44 => by cases hq44) (fun _ => ?_)
        refine GC.skip ?_
        refine GE.thenN ?_
        refine GC.seq ?_
        have la := Sl.LG_u32 ha
        have lb := Sl.LG_u32 hb
        refine GC.region ?_
        refine GL.val (Ex.move rfl) (by decide) ?_
        refine GL.step (Stp.callR (vs := [(.int .u32 a)]) rfl rfl T.own36 (by decide) (fun wc hw => key_l a wc (by first | assumption | omega | exact Bt.lst_bd (by assumption) (by assumption) | exact Bt.gst_bd (by assumption) (by assumption) | exact Bt.key_bd (by assumption) | exact Bt.unkey_bd (by assumption) | exact Bt.nxt_bd (by assumption) | exact Bt.lst_bd (Bt.gst_bd (by assumption) (by assumption)) (by assumption) | exact Bt.btw_bd (by assumption) (Bt.lst_bd (by assumption) (by assumption)) (Bt.gst_bd (by assumption) (by assumption))))) (fun xq45 hq46 => ?_)
        by_cases hq47 : ((Fv.rk a)) < 0
        · refine GL.val (v := (.bool true)) (Ex.cast (Ex.lss rfl rfl) (congrArg Value.bool (decide_eq_true hq47))) (by decide) ?_
          refine GL.val (Ex.move rfl) (by decide) ?_
          refine GL.skipG (tj := 30) rfl rfl rfl (by decide) ?_
          refine GL.skipG (tj := 30) rfl rfl rfl (by decide) ?_
          refine GL.skipG (tj := 30) rfl rfl rfl (by decide) ?_
          refine GL.skipG (tj := 30) rfl rfl rfl (by decide) ?_
          refine GL.skipG (tj := 30) rfl rfl rfl (by decide) ?_
          refine GL.skipG (tj := 30) rfl rfl rfl (by decide) ?_
          refine GL.skipG (tj := 30) rfl rfl rfl (by decide) ?_
          refine GL.val (v := (.bool true)) (Ex.pickT rfl rfl) (by decide) ?_
          refine GL.val (Ex.assign rfl) (by decide) ?_
          refine GL.nil ?_
          refine GE.thenN ?_
          refine GC.ret ?_
          refine GC.ret1 rfl (Rv.tmp rfl) (fun wN HN => ?_)
          exact HN.ret () trivial (by first | rfl | simp) (List.nil_sublist _) rfl
        · refine GL.val (v := (.bool false)) (Ex.cast (Ex.lss rfl rfl) (congrArg Value.bool (decide_eq_false hq47))) (by decide) ?_
          refine GL.val (Ex.move rfl) (by decide) ?_
          refine GL.stepG (tj := 30) rfl rfl (Ex.wp (v := (.int .u32 a)) (Ex.move rfl) (by decide)) (fun _ _ => ?_)
          refine GL.stepG (tj := 30) rfl rfl (Stp.callR (vs := [(.int .u32 a)]) rfl rfl T.own18 (by decide) (fun wc hw => log_p a wc (by omega))) (fun xq48 hq49 => ?_)
          refine GL.stepG (tj := 30) rfl rfl (Stp.callR (vs := [(.int .u32 ((Sl.LG a)))]) rfl rfl T.own36 (by decide) (fun wc hw => key_l ((Sl.LG a)) wc (by first | assumption | omega | exact Bt.lst_bd (by assumption) (by assumption) | exact Bt.gst_bd (by assumption) (by assumption) | exact Bt.key_bd (by assumption) | exact Bt.unkey_bd (by assumption) | exact Bt.nxt_bd (by assumption) | exact Bt.lst_bd (Bt.gst_bd (by assumption) (by assumption)) (by assumption) | exact Bt.btw_bd (by assumption) (Bt.lst_bd (by assumption) (by assumption)) (Bt.gst_bd (by assumption) (by assumption))))) (fun xq50 hq51 => ?_)
          refine GL.stepG (tj := 30) rfl rfl (Ex.wp (v := (.int .u32 b)) (Ex.move rfl) (by decide)) (fun _ _ => ?_)
          refine GL.stepG (tj := 30) rfl rfl (Stp.callR (vs := [(.int .u32 b)]) rfl rfl T.own18 (by decide) (fun wc hw => log_p b wc (by omega))) (fun xq52 hq53 => ?_)
          refine GL.stepG (tj := 30) rfl rfl (Stp.callR (vs := [(.int .u32 ((Sl.LG b)))]) rfl rfl T.own36 (by decide) (fun wc hw => key_l ((Sl.LG b)) wc (by first | assumption | omega | exact Bt.lst_bd (by assumption) (by assumption) | exact Bt.gst_bd (by assumption) (by assumption) | exact Bt.key_bd (by assumption) | exact Bt.unkey_bd (by assumption) | exact Bt.nxt_bd (by assumption) | exact Bt.lst_bd (Bt.gst_bd (by assumption) (by assumption)) (by assumption) | exact Bt.btw_bd (by assumption) (Bt.lst_bd (by assumption) (by assumption)) (Bt.gst_bd (by assumption) (by assumption))))) (fun xq54 hq55 => ?_)
          refine GL.stepG (tj := 30) rfl rfl (Ex.wp (v := (.bool true)) (Ex.cast (Ex.leq rfl rfl) (congrArg Value.bool (decide_eq_true (by exact Sl.LG_mono ha hb (by omega) (by omega) (by omega))))) (by decide)) (fun _ _ => ?_)
          refine GL.val (v := (.bool true)) (Ex.pickF rfl rfl) (by decide) ?_
          refine GL.val (Ex.assign rfl) (by decide) ?_
          refine GL.nil ?_
          refine GE.thenN ?_
          refine GC.ret ?_
          refine GC.ret1 rfl (Rv.tmp rfl) (fun wN HN => ?_)
          exact HN.ret () trivial (by first | rfl | simp) (List.nil_sublist _) rfl

end Go.Proofs.Ytbhjadkgeadpiaa.C
