/- Space: floats, walked. -/
import Derived.Test.YtbhjadkgeadpiaaD1
import Derived.Test.YtbhjadkgeadpiaaSl
namespace Go.Proofs.Ytbhjadkgeadpiaa.C
open Go Go.RowKit Sx
set_option linter.unusedVariables false
set_option maxRecDepth 100000 in
set_option maxHeartbeats 1000000 in
theorem value_p (a : Int) (w : World) :
    Calls Try.prog 39 #[(.int .u32 a)] w (Ret w (fun z : Nat => Fv.Is .f64 z (Fv.V a)) (fun z => .float .f64 z) (fun _ => [])) := by
  refine enter (M := None) (L := []) (n := 6) (l := [(0, (.int .u32 a))]) Try.func39 rfl rfl (Args.cons rfl (Args.nil _)) (Hp.start _ _) ?_
  refine GC.seq ?_
  refine GC.region ?_
  refine GL.val (Ex.assign rfl) (by decide) ?_
  refine GL.nil ?_
  refine GE.thenN ?_
  refine GC.seq ?_
  refine GC.region ?_
  refine GL.val (Ex.move rfl) (by decide) ?_
  refine GL.val (v := (.float .f32 a.toNat)) (Ex.ext (vs := [(.int .u32 a)]) rfl rfl T.ext69 (fun _ => rfl)) (by decide) ?_
  refine GL.step (Stp.fcv (fx := (Fv.rd .f32 a.toNat)) (by decide) rfl Try.underlying76 Try.underlying50 (Fv.Is.rd _ _) Fv.holds_up (by decide)) (fun xq1 hq2 => ?_)
  refine GL.val (Ex.assign rfl) (by decide) ?_
  refine GL.nil ?_
  refine GE.thenN ?_
  refine GC.ret ?_
  refine GC.ret1 rfl (Rv.tmp rfl) (fun wN HN => ?_)
  exact HN.ret xq1 hq2 rfl (List.nil_sublist _) rfl

set_option maxRecDepth 100000 in
set_option maxHeartbeats 1000000 in
theorem told_a (z : Nat) (fx : Option Nat) (w : World) (hz : Fv.Is .f32 z fx) :
    Calls Try.prog 84 #[(.float .f32 z)] w (Ret w (fun _ : Unit => True) (fun _ => (.int .u32 ((Fv.T32 fx)))) (fun _ => [])) := by
  refine enter (M := None) (L := []) (n := 8) (l := [(0, (.float .f32 z))]) Try.func84 rfl rfl (Args.cons rfl (Args.nil _)) (Hp.start _ _) ?_
  refine GC.seq ?_
  refine GC.region ?_
  refine GL.val (Ex.assign rfl) (by decide) ?_
  refine GL.nil ?_
  refine GE.thenN ?_
  refine GC.seq ?_
  refine GC.seq ?_
  refine GC.region ?_
  refine GL.val (Ex.move rfl) (by decide) ?_
  refine GL.val (Ex.move rfl) (by decide) ?_
  refine GL.val (v := (.bool fx.isNone)) (Ex.fneq (r := fx.isNone) rfl rfl (Eq.trans (congrArg (fun o : Option Ordering => (o != some .eq)) (Fv.ord_eq hz hz)) (Fv.neq_self hz))) (by decide) ?_
  refine GL.nil ?_
  refine GE.thenN ?_
  refine GC.cond rfl (fun hq1 => ?_) (fun hq1 => ?_)
  · refine GC.seq ?_
    refine GC.region ?_
    refine GL.val (Ex.assign rfl) (by decide) ?_
    refine GL.nil ?_
    refine GE.thenN ?_
    refine GC.ret ?_
    refine GE.thenR ?_
    refine GC.ret1 rfl (Rv.tmp rfl) (fun wN HN => ?_)
    exact HN.ret () trivial (by rw [Fv.T32_none hq1]) (List.nil_sublist _) rfl
  · refine GC.skip ?_
    refine GE.thenN ?_
    refine GC.seq ?_
    refine GC.region ?_
    refine GL.val (Ex.move rfl) (by decide) ?_
    refine GL.val (v := (.int .u32 (((z : Nat) : Int)))) (Ex.ext (vs := [(.float .f32 z)]) rfl rfl T.ext92 (fun _ => rfl)) (by decide) ?_
    refine GL.val (Ex.assign rfl) (by decide) ?_
    refine GL.nil ?_
    refine GE.thenN ?_
    refine GC.ret ?_
    refine GC.ret1 rfl (Rv.tmp rfl) (fun wN HN => ?_)
    exact HN.ret () trivial (by rw [Fv.T32_some hz hq1]) (List.nil_sublist _) rfl

set_option maxRecDepth 100000 in
set_option maxHeartbeats 1000000 in
theorem narrow_p (z : Nat) (fx : Option Nat) (w : World) (hz : Fv.Is .f64 z fx) (hH : Fv.Holds .f64 .f32 fx) :
    Calls Try.prog 70 #[(.int .u64 (((z : Nat) : Int)))] w (Ret w (fun _ : Unit => True) (fun _ => (.int .u32 ((Fv.T fx)))) (fun _ => [])) := by
  refine enter (M := None) (L := []) (n := 7) (l := [(0, (.int .u64 (((z : Nat) : Int))))]) Try.func70 rfl rfl (Args.cons rfl (Args.nil _)) (Hp.start _ _) ?_
  refine GC.seq ?_
  refine GC.region ?_
  refine GL.val (Ex.assign rfl) (by decide) ?_
  refine GL.nil ?_
  refine GE.thenN ?_
  refine GC.seq ?_
  refine GC.region ?_
  refine GL.val (Ex.move rfl) (by decide) ?_
  refine GL.val (v := (.float .f64 z)) (Ex.ext (vs := [(.int .u64 (((z : Nat) : Int)))]) rfl rfl T.ext85 (fun _ => rfl)) (by decide) ?_
  refine GL.step (Stp.fcv (fx := fx) (by decide) rfl Try.underlying50 Try.underlying76 hz hH (by decide)) (fun xq1 hq2 => ?_)
  refine GL.step (Stp.callR (vs := [(.float .f32 xq1)]) rfl rfl T.own84 (by decide) (fun wc hw => told_a xq1 (Fv.cv .f64 .f32 fx) wc hq2)) (fun xq3 hq4 => ?_)
  refine GL.val (Ex.assign rfl) (by decide) ?_
  refine GL.nil ?_
  refine GE.thenN ?_
  refine GC.ret ?_
  refine GC.ret1 rfl (Rv.tmp rfl) (fun wN HN => ?_)
  exact HN.ret () trivial (by rfl) (List.nil_sublist _) rfl

set_option maxRecDepth 100000 in
set_option maxHeartbeats 1000000 in
theorem told_p (z : Nat) (fx : Option Nat) (w : World) (hz : Fv.Is .f64 z fx) (hH : Fv.Holds .f64 .f32 fx) :
    Calls Try.prog 40 #[(.float .f64 z)] w (Ret w (fun _ : Unit => True) (fun _ => (.int .u32 ((Fv.T fx)))) (fun _ => [])) := by
  refine enter (M := None) (L := []) (n := 6) (l := [(0, (.float .f64 z))]) Try.func40 rfl rfl (Args.cons rfl (Args.nil _)) (Hp.start _ _) ?_
  refine GC.seq ?_
  refine GC.region ?_
  refine GL.val (Ex.assign rfl) (by decide) ?_
  refine GL.nil ?_
  refine GE.thenN ?_
  refine GC.seq ?_
  refine GC.region ?_
  refine GL.val (Ex.move rfl) (by decide) ?_
  refine GL.val (v := (.int .u64 (((z : Nat) : Int)))) (Ex.ext (vs := [(.float .f64 z)]) rfl rfl T.ext71 (fun _ => rfl)) (by decide) ?_
  refine GL.step (Stp.callR (vs := [(.int .u64 (((z : Nat) : Int)))]) rfl rfl T.own70 (by decide) (fun wc hw => narrow_p z fx wc hz hH)) (fun xq1 hq2 => ?_)
  refine GL.val (Ex.assign rfl) (by decide) ?_
  refine GL.nil ?_
  refine GE.thenN ?_
  refine GC.ret ?_
  refine GC.ret1 rfl (Rv.tmp rfl) (fun wN HN => ?_)
  exact HN.ret () trivial (by rfl) (List.nil_sublist _) rfl

set_option maxRecDepth 100000 in
set_option maxHeartbeats 1000000 in
theorem toycc_p (r g b : Int) (w : World) (hY : Fv.Holds .f64 .f32 (Sl.yy r g b)) (hG : Fv.Holds .f64 .f32 (Sl.yg r g b)) (hO : Fv.Holds .f64 .f32 (Sl.yo r g b)) :
    Calls Try.prog 14 #[(.int .u32 r), (.int .u32 g), (.int .u32 b)] w (Ret w (fun _ : Unit => True) (fun _ => (.tuple #[(.int .u32 ((Fv.T (Sl.yy r g b)))), (.int .u32 ((Fv.T (Sl.yg r g b)))), (.int .u32 ((Fv.T (Sl.yo r g b))))])) (fun _ => [])) := by
  refine enter (M := None) (L := []) (n := 36) (l := [(0, (.int .u32 r)), (1, (.int .u32 g)), (2, (.int .u32 b))]) Try.func14 rfl rfl (Args.cons rfl (Args.cons rfl (Args.cons rfl (Args.nil _)))) (Hp.start _ _) ?_
  refine GC.seq ?_
  refine GC.region ?_
  refine GL.val (Ex.assign rfl) (by decide) ?_
  refine GL.val (Ex.assign rfl) (by decide) ?_
  refine GL.val (Ex.assign rfl) (by decide) ?_
  refine GL.nil ?_
  refine GE.thenN ?_
  refine GC.seq ?_
  refine GC.region ?_
  refine GL.val (Ex.move rfl) (by decide) ?_
  refine GL.step (Stp.callR (vs := [(.int .u32 r)]) rfl rfl T.own39 (by decide) (fun wc hw => value_p r wc)) (fun xq1 hq2 => ?_)
  refine GL.val (Ex.move rfl) (by decide) ?_
  refine GL.step (Stp.callR (vs := [(.int .u32 b)]) rfl rfl T.own39 (by decide) (fun wc hw => value_p b wc)) (fun xq3 hq4 => ?_)
  refine GL.step (Stp.fop (fx := (Fv.V r)) (fy := (Fv.V b)) rfl rfl rfl hq2 hq4 (by decide)) (fun xq5 hq6 => ?_)
  refine GL.val (Ex.move rfl) (by decide) ?_
  refine GL.step (Stp.callR (vs := [(.int .u32 g)]) rfl rfl T.own39 (by decide) (fun wc hw => value_p g wc)) (fun xq7 hq8 => ?_)
  refine GL.step (Stp.fop (fx := (Fv.V g)) (fy := (some 4611686018427387904)) rfl rfl rfl hq8 ⟨rfl, by decide +kernel⟩ (by decide)) (fun xq9 hq10 => ?_)
  refine GL.val (Ex.assign rfl) (by decide) ?_
  refine GL.val (Ex.assign rfl) (by decide) ?_
  refine GL.nil ?_
  refine GE.thenN ?_
  refine GC.seq ?_
  refine GC.region ?_
  refine GL.val (Ex.move rfl) (by decide) ?_
  refine GL.val (Ex.move rfl) (by decide) ?_
  refine GL.step (Stp.fop (fx := (Fv.op .add .f64 (Fv.V r) (Fv.V b))) (fy := (Fv.op .mul .f64 (Fv.V g) (some 4611686018427387904))) rfl rfl rfl hq6 hq10 (by decide)) (fun xq11 hq12 => ?_)
  refine GL.step (Stp.fop (fx := (Fv.op .add .f64 (Fv.op .add .f64 (Fv.V r) (Fv.V b)) (Fv.op .mul .f64 (Fv.V g) (some 4611686018427387904)))) (fy := (some 4616189618054758400)) rfl rfl rfl hq12 ⟨rfl, by decide +kernel⟩ (by decide)) (fun xq13 hq14 => ?_)
  refine GL.step (Stp.callR (vs := [(.float .f64 xq13)]) rfl rfl T.own40 (by decide) (fun wc hw => told_p xq13 (Fv.op .quo .f64 (Fv.op .add .f64 (Fv.op .add .f64 (Fv.V r) (Fv.V b)) (Fv.op .mul .f64 (Fv.V g) (some 4611686018427387904))) (some 4616189618054758400)) wc hq14 hY)) (fun xq15 hq16 => ?_)
  refine GL.val (Ex.move rfl) (by decide) ?_
  refine GL.val (Ex.move rfl) (by decide) ?_
  refine GL.step (Stp.fop (fx := (Fv.op .mul .f64 (Fv.V g) (some 4611686018427387904))) (fy := (Fv.op .add .f64 (Fv.V r) (Fv.V b))) rfl rfl rfl hq10 hq6 (by decide)) (fun xq17 hq18 => ?_)
  refine GL.step (Stp.fop (fx := (Fv.op .sub .f64 (Fv.op .mul .f64 (Fv.V g) (some 4611686018427387904)) (Fv.op .add .f64 (Fv.V r) (Fv.V b)))) (fy := (some 4616189618054758400)) rfl rfl rfl hq18 ⟨rfl, by decide +kernel⟩ (by decide)) (fun xq19 hq20 => ?_)
  refine GL.step (Stp.callR (vs := [(.float .f64 xq19)]) rfl rfl T.own40 (by decide) (fun wc hw => told_p xq19 (Fv.op .quo .f64 (Fv.op .sub .f64 (Fv.op .mul .f64 (Fv.V g) (some 4611686018427387904)) (Fv.op .add .f64 (Fv.V r) (Fv.V b))) (some 4616189618054758400)) wc hq20 hG)) (fun xq21 hq22 => ?_)
  refine GL.val (Ex.move rfl) (by decide) ?_
  refine GL.step (Stp.callR (vs := [(.int .u32 r)]) rfl rfl T.own39 (by decide) (fun wc hw => value_p r wc)) (fun xq23 hq24 => ?_)
  refine GL.val (Ex.move rfl) (by decide) ?_
  refine GL.step (Stp.callR (vs := [(.int .u32 b)]) rfl rfl T.own39 (by decide) (fun wc hw => value_p b wc)) (fun xq25 hq26 => ?_)
  refine GL.step (Stp.fop (fx := (Fv.V r)) (fy := (Fv.V b)) rfl rfl rfl hq24 hq26 (by decide)) (fun xq27 hq28 => ?_)
  refine GL.step (Stp.fop (fx := (Fv.op .sub .f64 (Fv.V r) (Fv.V b))) (fy := (some 4611686018427387904)) rfl rfl rfl hq28 ⟨rfl, by decide +kernel⟩ (by decide)) (fun xq29 hq30 => ?_)
  refine GL.step (Stp.callR (vs := [(.float .f64 xq29)]) rfl rfl T.own40 (by decide) (fun wc hw => told_p xq29 (Fv.op .quo .f64 (Fv.op .sub .f64 (Fv.V r) (Fv.V b)) (some 4611686018427387904)) wc hq30 hO)) (fun xq31 hq32 => ?_)
  refine GL.val (Ex.assign rfl) (by decide) ?_
  refine GL.val (Ex.assign rfl) (by decide) ?_
  refine GL.val (Ex.assign rfl) (by decide) ?_
  refine GL.nil ?_
  refine GE.thenN ?_
  refine GC.ret ?_
  refine GC.ret3 rfl (Rv.tmp rfl) (Rv.tmp rfl) (Rv.tmp rfl) (fun wN HN => ?_)
  exact HN.ret () trivial (by rfl) (List.nil_sublist _) rfl

set_option maxRecDepth 100000 in
set_option maxHeartbeats 1000000 in
theorem log_p (a : Int) (w : World) (ha : 0 ≤ a ∧ a < 4294967296) :
    Calls Try.prog 18 #[(.int .u32 a)] w (Ret w (fun _ : Unit => True) (fun _ => (.int .u32 ((Sl.LG a)))) (fun _ => [])) := by
  refine enter (M := None) (L := []) (n := 23) (l := [(0, (.int .u32 a))]) Try.func18 rfl rfl (Args.cons rfl (Args.nil _)) (Hp.start _ _) ?_
  refine GC.seq ?_
  refine GC.region ?_
  refine GL.val (Ex.assign rfl) (by decide) ?_
  refine GL.nil ?_
  refine GE.thenN ?_
  refine GC.seq ?_
  refine GC.seq ?_
  refine GC.region ?_
  refine GL.val (Ex.move rfl) (by decide) ?_
  refine GL.step (Stp.callR (vs := [(.int .u32 a)]) rfl rfl T.own39 (by decide) (fun wc hw => value_p a wc)) (fun xq1 hq2 => ?_)
  refine GL.val (Ex.assign rfl) (by decide) ?_
  refine GL.nil ?_
  refine GE.thenN ?_
  refine GC.block ?_
  refine GC.seq ?_
  refine GC.region ?_
  refine GL.val (Ex.move rfl) (by decide) ?_
  refine GL.val (v := (.bool ((Fv.ord .f64 (Fv.V a) (some 0) == some .eq)))) (Ex.feql (r := (Fv.ord .f64 (Fv.V a) (some 0) == some .eq)) rfl rfl (congrArg (fun o : Option Ordering => (o == some .eq)) (Fv.ord_eq hq2 ⟨rfl, by decide +kernel⟩))) (by decide) ?_
  refine GL.val (Ex.assign rfl) (by decide) ?_
  refine GL.nil ?_
  refine GE.thenN ?_
  refine GC.cond rfl (fun hq3 => ?_) (fun hq3 => ?_)
  · refine GC.seq ?_
    refine GC.region ?_
    refine GL.val (Ex.assign rfl) (by decide) ?_
    refine GL.nil ?_
    refine GE.thenN ?_
    refine GC.ret ?_
    refine GE.blockR ?_
    refine GE.thenR ?_
    refine GC.ret1 rfl (Rv.tmp rfl) (fun wN HN => ?_)
    exact HN.ret () trivial (by unfold Sl.LG; rw [if_pos hq3]) (List.nil_sublist _) rfl
  · refine GC.seq ?_
    refine GC.region ?_
    refine GL.val (Ex.move rfl) (by decide) ?_
    refine GL.val (v := (.bool ((Fv.ord .f64 (Fv.V a) (some 0) == some .gt)))) (Ex.fgtr (r := (Fv.ord .f64 (Fv.V a) (some 0) == some .gt)) rfl rfl (congrArg (fun o : Option Ordering => (o == some .gt)) (Fv.ord_eq hq2 ⟨rfl, by decide +kernel⟩))) (by decide) ?_
    refine GL.val (v := (.bool (!((Fv.ord .f64 (Fv.V a) (some 0) == some .gt))))) (Ex.not rfl) (by decide) ?_
    refine GL.val (Ex.assign rfl) (by decide) ?_
    refine GL.nil ?_
    refine GE.thenN ?_
    refine GC.cond rfl (fun hq4 => ?_) (fun hq4 => ?_)
    · refine GC.seq ?_
      refine GC.region ?_
      refine GL.val (Ex.assign rfl) (by decide) ?_
      refine GL.nil ?_
      refine GE.thenN ?_
      refine GC.ret ?_
      refine GE.blockR ?_
      refine GE.thenR ?_
      refine GC.ret1 rfl (Rv.tmp rfl) (fun wN HN => ?_)
      exact HN.ret () trivial (by unfold Sl.LG; rw [if_neg (by rw [hq3]; decide), if_pos hq4]) (List.nil_sublist _) rfl
    · refine GC.seq ?_
      refine GC.region ?_
      refine GL.val (Ex.move rfl) (by decide) ?_
      refine GL.val (v := (.bool (decide (a = 2139095040)))) (Ex.eql rfl rfl) (by decide) ?_
      refine GL.val (Ex.assign rfl) (by decide) ?_
      refine GL.nil ?_
      refine GE.thenN ?_
      refine GC.cond rfl (fun hq5 => ?_) (fun hq5 => ?_)
      · replace hq5 := of_decide_eq_true hq5
        refine GC.seq ?_
        refine GC.region ?_
        refine GL.val (Ex.move rfl) (by decide) ?_
        refine GL.val (Ex.assign rfl) (by decide) ?_
        refine GL.nil ?_
        refine GE.thenN ?_
        refine GC.ret ?_
        refine GE.blockR ?_
        refine GE.thenR ?_
        refine GC.ret1 rfl (Rv.tmp rfl) (fun wN HN => ?_)
        exact HN.ret () trivial (by unfold Sl.LG; rw [if_neg (by rw [hq3]; decide), if_neg (by rw [hq4]; decide), if_pos hq5]) (List.nil_sublist _) rfl
      · replace hq5 := of_decide_eq_false hq5
        refine GC.skip ?_
        refine GE.blockN ?_
        refine GE.thenN ?_
        refine GC.seq ?_
        refine GC.region ?_
        refine GL.val (Ex.move rfl) (by decide) ?_
        refine GL.val (v := (.int .i64 a)) (Ex.conv rfl Try.underlying23 Try.underlying3 (Z := a) (w64 (by omega))) (by decide) ?_
        refine GL.val (v := (.int .i64 (a - 1065353216))) (Ex.sub' rfl rfl (Z := a - 1065353216) (w64 (by omega))) (by decide) ?_
        refine GL.val (v := (.float .f64 ((floatOfInt .f64 (a - 1065353216))))) (Ex.cif rfl Try.underlying3 Try.underlying50) (by decide) ?_
        refine GL.step (Stp.fop (fx := (some (floatOfInt .f64 (a - 1065353216)))) (fy := (some 4710765210229538816)) rfl rfl rfl ⟨rfl, Fv.ofInt_ne _ _⟩ ⟨rfl, by decide +kernel⟩ (by decide)) (fun xq6 hq7 => ?_)
        refine GL.step (Stp.callR (vs := [(.float .f64 xq6)]) rfl rfl T.own40 (by decide) (fun wc hw => told_p xq6 (Fv.op .quo .f64 (some (floatOfInt .f64 (a - 1065353216))) (some 4710765210229538816)) wc hq7 (Sl.log_holds ha))) (fun xq8 hq9 => ?_)
        refine GL.val (Ex.assign rfl) (by decide) ?_
        refine GL.nil ?_
        refine GE.thenN ?_
        refine GC.ret ?_
        refine GC.ret1 rfl (Rv.tmp rfl) (fun wN HN => ?_)
        exact HN.ret () trivial (by unfold Sl.LG; rw [if_neg (by rw [hq3]; decide), if_neg (by rw [hq4]; decide), if_neg hq5]; rfl) (List.nil_sublist _) rfl

set_option maxRecDepth 100000 in
set_option maxHeartbeats 1000000 in
theorem key_l (a : Int) (w : World) (ha : 0 ≤ a ∧ a < 4294967296) :
    Calls Try.prog 36 #[(.int .u32 a)] w (Ret w (fun _ : Unit => True) (fun _ => (.int .i64 ((Fv.rk a)))) (fun _ => [])) := by
  refine enter (M := None) (L := []) (n := 12) (l := [(0, (.int .u32 a))]) Try.func36 rfl rfl (Args.cons rfl (Args.nil _)) (Hp.start _ _) ?_
  refine GC.seq ?_
  refine GC.region ?_
  refine GL.val (Ex.assign rfl) (by decide) ?_
  refine GL.nil ?_
  refine GE.thenN ?_
  refine GC.seq ?_
  refine GC.seq ?_
  refine GC.region ?_
  refine GL.val (Ex.move rfl) (by decide) ?_
  refine GL.val (v := (.int .u32 (a / 2147483648))) (Ex.shr rfl (m := 31) rfl (by decide) (Z := a / 2147483648) rfl) (by decide) ?_
  refine GL.val (v := (.bool (decide ((a / 2147483648) = 1)))) (Ex.eql rfl rfl) (by decide) ?_
  refine GL.nil ?_
  refine GE.thenN ?_
  refine GC.cond rfl (fun hq1 => ?_) (fun hq1 => ?_)
  · replace hq1 := of_decide_eq_true hq1
    refine GC.seq ?_
    refine GC.region ?_
    refine GL.val (Ex.move rfl) (by decide) ?_
    refine GL.val (v := (.int .u32 (a % 2147483648))) (Ex.bits rfl rfl (by simp) (Z := a % 2147483648) (andm 31 (by omega) (by omega) (by decide) rfl rfl)) (by decide) ?_
    refine GL.val (v := (.int .i64 (a % 2147483648))) (Ex.conv rfl Try.underlying23 Try.underlying3 (Z := a % 2147483648) (w64 (by omega))) (by decide) ?_
    refine GL.val (v := (.int .i64 (-(a % 2147483648)))) (Ex.neg rfl (Z := -(a % 2147483648)) (by rw [w64 (by omega)]; omega)) (by decide) ?_
    refine GL.val (Ex.assign rfl) (by decide) ?_
    refine GL.nil ?_
    refine GE.thenN ?_
    refine GC.ret ?_
    refine GE.thenR ?_
    refine GC.ret1 rfl (Rv.tmp rfl) (fun wN HN => ?_)
    exact HN.ret () trivial (by unfold Fv.rk; first | rw [if_pos (by omega)] | (rw [if_neg (by omega)]; refine congrArg (Value.int .i64) ?_; omega)) (List.nil_sublist _) rfl
  · replace hq1 := of_decide_eq_false hq1
    refine GC.skip ?_
    refine GE.thenN ?_
    refine GC.seq ?_
    refine GC.region ?_
    refine GL.val (Ex.move rfl) (by decide) ?_
    refine GL.val (v := (.int .i64 a)) (Ex.conv rfl Try.underlying23 Try.underlying3 (Z := a) (w64 (by omega))) (by decide) ?_
    refine GL.val (Ex.assign rfl) (by decide) ?_
    refine GL.nil ?_
    refine GE.thenN ?_
    refine GC.ret ?_
    refine GC.ret1 rfl (Rv.tmp rfl) (fun wN HN => ?_)
    exact HN.ret () trivial (by unfold Fv.rk; first | rw [if_pos (by omega)] | (rw [if_neg (by omega)]; refine congrArg (Value.int .i64) ?_; omega)) (List.nil_sublist _) rfl

set_option maxRecDepth 100000 in
set_option maxHeartbeats 1000000 in
theorem finite_l (a : Int) (w : World) (ha : 0 ≤ a ∧ a < 4294967296) :
    Calls Try.prog 28 #[(.int .u32 a)] w (Ret w (fun _ : Unit => True) (fun _ => (.bool (decide (a % 2147483648 < 2139095040)))) (fun _ => [])) := by
  refine enter (M := None) (L := []) (n := 6) (l := [(0, (.int .u32 a))]) Try.func28 rfl rfl (Args.cons rfl (Args.nil _)) (Hp.start _ _) ?_
  refine GC.seq ?_
  refine GC.region ?_
  refine GL.val (Ex.assign rfl) (by decide) ?_
  refine GL.nil ?_
  refine GE.thenN ?_
  refine GC.seq ?_
  refine GC.region ?_
  refine GL.val (Ex.move rfl) (by decide) ?_
  refine GL.val (v := (.int .u32 (a % 2147483648))) (Ex.bits rfl rfl (by simp) (Z := a % 2147483648) (andm 31 (by omega) (by omega) (by decide) rfl rfl)) (by decide) ?_
  refine GL.val (v := (.bool (decide ((a % 2147483648) < 2139095040)))) (Ex.lss rfl rfl) (by decide) ?_
  refine GL.val (Ex.assign rfl) (by decide) ?_
  refine GL.nil ?_
  refine GE.thenN ?_
  refine GC.ret ?_
  refine GC.ret1 rfl (Rv.tmp rfl) (fun wN HN => ?_)
  exact HN.ret () trivial (by rfl) (List.nil_sublist _) rfl

set_option maxRecDepth 100000 in
set_option maxHeartbeats 1000000 in
theorem lawMean (r g b : Int) (w : World) (hr : 0 ≤ r ∧ r < 4294967296) (hg : 0 ≤ g ∧ g < 4294967296) (hb : 0 ≤ b ∧ b < 4294967296) :
    Calls Try.prog 12 #[(.int .u32 r), (.int .u32 g), (.int .u32 b)] w (Ret w (fun _ : Unit => True) (fun _ => .bool true) (fun _ => [])) := by
  refine enter (M := None) (L := []) (n := 83) (l := [(0, (.int .u32 r)), (1, (.int .u32 g)), (2, (.int .u32 b))]) Try.func12 rfl rfl (Args.cons rfl (Args.cons rfl (Args.cons rfl (Args.nil _)))) (Hp.start _ _) ?_
  refine GC.seq ?_
  refine GC.region ?_
  refine GL.val (Ex.assign rfl) (by decide) ?_
  refine GL.nil ?_
  refine GE.thenN ?_
  refine GC.seq ?_
  refine GC.seq ?_
  refine GC.region ?_
  refine GL.step (Stp.callR (vs := []) rfl rfl T.own13 (by decide) (fun wc hw => known wc)) (fun xq1 hq2 => ?_)
  refine GL.val (v := (.bool false)) (Ex.cast (Ex.not rfl) rfl) (by decide) ?_
  refine GL.nil ?_
  refine GE.thenN ?_
  refine GC.cond rfl (fun hq3 => by cases hq3) (fun _ => ?_)
  refine GC.skip ?_
  refine GE.thenN ?_
  refine GC.seq ?_
  refine GC.seq ?_
  refine GC.region ?_
  refine GL.val (Ex.move rfl) (by decide) ?_
  by_cases hq4 : r < 2139095040
  · refine GL.val (v := (.bool true)) (Ex.cast (Ex.lss rfl rfl) (congrArg Value.bool (decide_eq_true hq4))) (by decide) ?_
    refine GL.val (Ex.move rfl) (by decide) ?_
    refine GL.stepG (tj := 15) rfl rfl (Ex.wp (v := (.int .u32 r)) (Ex.move rfl) (by decide)) (fun _ _ => ?_)
    refine GL.stepG (tj := 15) rfl rfl (Ex.wp (v := (.bool (decide (0 < r)))) (Ex.gtr rfl rfl) (by decide)) (fun _ _ => ?_)
    refine GL.val (v := (.bool (decide (0 < r)))) (Ex.pickT rfl rfl) (by decide) ?_
    refine GL.nil ?_
    refine GE.thenN ?_
    refine GC.cond rfl (fun hq5 => ?_) (fun hq5 => ?_)
    · replace hq5 := of_decide_eq_true hq5
      refine GC.seq ?_
      refine GC.region ?_
      refine GL.val (Ex.move rfl) (by decide) ?_
      refine GL.step (Stp.callR (vs := [(.int .u32 r)]) rfl rfl T.own18 (by decide) (fun wc hw => log_p r wc (by omega))) (fun xq6 hq7 => ?_)
      refine GL.val (Ex.assign rfl) (by decide) ?_
      refine GL.nil ?_
      refine GE.thenN ?_
      refine GC.seq ?_
      have c1 : Fv.rk 3271426048 = -1123942400 := by decide
      have c2 : Fv.rk 1124073472 = 1124073472 := by decide
      have hLG := Sl.LG_bd (a := r) (by omega)
      refine GC.region ?_
      refine GL.val (Ex.move rfl) (by decide) ?_
      refine GL.step (Stp.callR (vs := [(.int .u32 ((Sl.LG r)))]) rfl rfl T.own28 (by decide) (fun wc hw => finite_l ((Sl.LG r)) wc (by first | assumption | omega | exact Bt.lst_bd (by assumption) (by assumption) | exact Bt.gst_bd (by assumption) (by assumption) | exact Bt.key_bd (by assumption) | exact Bt.unkey_bd (by assumption) | exact Bt.nxt_bd (by assumption) | exact Bt.lst_bd (Bt.gst_bd (by assumption) (by assumption)) (by assumption) | exact Bt.btw_bd (by assumption) (Bt.lst_bd (by assumption) (by assumption)) (Bt.gst_bd (by assumption) (by assumption))))) (fun xq8 hq9 => ?_)
      refine GL.val (v := (.bool false)) (Ex.cast (Ex.not rfl) (congrArg Value.bool (congrArg (fun z => !z) (decide_eq_true (by omega))))) (by decide) ?_
      refine GL.val (Ex.move rfl) (by decide) ?_
      refine GL.stepG (tj := 24) rfl rfl (Ex.wp (v := (.int .u32 ((Sl.LG r)))) (Ex.move rfl) (by decide)) (fun _ _ => ?_)
      refine GL.stepG (tj := 24) rfl rfl (Stp.callR (vs := [(.int .u32 ((Sl.LG r)))]) rfl rfl T.own36 (by decide) (fun wc hw => key_l ((Sl.LG r)) wc (by first | assumption | omega | exact Bt.lst_bd (by assumption) (by assumption) | exact Bt.gst_bd (by assumption) (by assumption) | exact Bt.key_bd (by assumption) | exact Bt.unkey_bd (by assumption) | exact Bt.nxt_bd (by assumption) | exact Bt.lst_bd (Bt.gst_bd (by assumption) (by assumption)) (by assumption) | exact Bt.btw_bd (by assumption) (Bt.lst_bd (by assumption) (by assumption)) (Bt.gst_bd (by assumption) (by assumption))))) (fun xq10 hq11 => ?_)
      refine GL.stepG (tj := 24) rfl rfl (Stp.callR (vs := [(.int .u32 3271426048)]) rfl rfl T.own36 (by decide) (fun wc hw => key_l 3271426048 wc (by first | assumption | omega | exact Bt.lst_bd (by assumption) (by assumption) | exact Bt.gst_bd (by assumption) (by assumption) | exact Bt.key_bd (by assumption) | exact Bt.unkey_bd (by assumption) | exact Bt.nxt_bd (by assumption) | exact Bt.lst_bd (Bt.gst_bd (by assumption) (by assumption)) (by assumption) | exact Bt.btw_bd (by assumption) (Bt.lst_bd (by assumption) (by assumption)) (Bt.gst_bd (by assumption) (by assumption))))) (fun xq12 hq13 => ?_)
      refine GL.stepG (tj := 24) rfl rfl (Ex.wp (v := (.bool false)) (Ex.cast (Ex.lss rfl rfl) (congrArg Value.bool (decide_eq_false (by omega)))) (by decide)) (fun _ _ => ?_)
      refine GL.val (v := (.bool false)) (Ex.pickF rfl rfl) (by decide) ?_
      refine GL.val (Ex.move rfl) (by decide) ?_
      refine GL.stepG (tj := 30) rfl rfl (Ex.wp (v := (.int .u32 ((Sl.LG r)))) (Ex.move rfl) (by decide)) (fun _ _ => ?_)
      refine GL.stepG (tj := 30) rfl rfl (Stp.callR (vs := [(.int .u32 ((Sl.LG r)))]) rfl rfl T.own36 (by decide) (fun wc hw => key_l ((Sl.LG r)) wc (by first | assumption | omega | exact Bt.lst_bd (by assumption) (by assumption) | exact Bt.gst_bd (by assumption) (by assumption) | exact Bt.key_bd (by assumption) | exact Bt.unkey_bd (by assumption) | exact Bt.nxt_bd (by assumption) | exact Bt.lst_bd (Bt.gst_bd (by assumption) (by assumption)) (by assumption) | exact Bt.btw_bd (by assumption) (Bt.lst_bd (by assumption) (by assumption)) (Bt.gst_bd (by assumption) (by assumption))))) (fun xq14 hq15 => ?_)
      refine GL.stepG (tj := 30) rfl rfl (Stp.callR (vs := [(.int .u32 1124073472)]) rfl rfl T.own36 (by decide) (fun wc hw => key_l 1124073472 wc (by first | assumption | omega | exact Bt.lst_bd (by assumption) (by assumption) | exact Bt.gst_bd (by assumption) (by assumption) | exact Bt.key_bd (by assumption) | exact Bt.unkey_bd (by assumption) | exact Bt.nxt_bd (by assumption) | exact Bt.lst_bd (Bt.gst_bd (by assumption) (by assumption)) (by assumption) | exact Bt.btw_bd (by assumption) (Bt.lst_bd (by assumption) (by assumption)) (Bt.gst_bd (by assumption) (by assumption))))) (fun xq16 hq17 => ?_)
      refine GL.stepG (tj := 30) rfl rfl (Ex.wp (v := (.bool false)) (Ex.cast (Ex.gtr rfl rfl) (congrArg Value.bool (decide_eq_false (by omega)))) (by decide)) (fun _ _ => ?_)
      refine GL.val (v := (.bool false)) (Ex.pickF rfl rfl) (by decide) ?_
      refine GL.nil ?_
      refine GE.thenN ?_
      refine GC.cond rfl (fun hq18 => by cases hq18) (fun _ => ?_)
      refine GC.skip ?_
      refine GE.thenN ?_
      refine GC.seq ?_
      refine GC.seq ?_
      refine GC.region ?_
      refine GL.val (Ex.move rfl) (by decide) ?_
      refine GL.step (Stp.callR (vs := [(.int .u32 r)]) rfl rfl T.own28 (by decide) (fun wc hw => finite_l r wc (by first | assumption | omega | exact Bt.lst_bd (by assumption) (by assumption) | exact Bt.gst_bd (by assumption) (by assumption) | exact Bt.key_bd (by assumption) | exact Bt.unkey_bd (by assumption) | exact Bt.nxt_bd (by assumption) | exact Bt.lst_bd (Bt.gst_bd (by assumption) (by assumption)) (by assumption) | exact Bt.btw_bd (by assumption) (Bt.lst_bd (by assumption) (by assumption)) (Bt.gst_bd (by assumption) (by assumption))))) (fun xq19 hq20 => ?_)
      by_cases hq21 : (r % 2147483648 < 2139095040)
      · refine GL.val (v := (.bool false)) (Ex.cast (Ex.not rfl) (congrArg Value.bool (congrArg (fun z => !z) (decide_eq_true hq21)))) (by decide) ?_
        refine GL.val (Ex.move rfl) (by decide) ?_
        refine GL.stepG (tj := 39) rfl rfl (Ex.wp (v := (.int .u32 g)) (Ex.move rfl) (by decide)) (fun _ _ => ?_)
        refine GL.stepG (tj := 39) rfl rfl (Stp.callR (vs := [(.int .u32 g)]) rfl rfl T.own28 (by decide) (fun wc hw => finite_l g wc (by first | assumption | omega | exact Bt.lst_bd (by assumption) (by assumption) | exact Bt.gst_bd (by assumption) (by assumption) | exact Bt.key_bd (by assumption) | exact Bt.unkey_bd (by assumption) | exact Bt.nxt_bd (by assumption) | exact Bt.lst_bd (Bt.gst_bd (by assumption) (by assumption)) (by assumption) | exact Bt.btw_bd (by assumption) (Bt.lst_bd (by assumption) (by assumption)) (Bt.gst_bd (by assumption) (by assumption))))) (fun xq22 hq23 => ?_)
        by_cases hq24 : (g % 2147483648 < 2139095040)
        · refine GL.stepG (tj := 39) rfl rfl (Ex.wp (v := (.bool false)) (Ex.cast (Ex.not rfl) (congrArg Value.bool (congrArg (fun z => !z) (decide_eq_true hq24)))) (by decide)) (fun _ _ => ?_)
          refine GL.val (v := (.bool false)) (Ex.pickF rfl rfl) (by decide) ?_
          refine GL.val (Ex.move rfl) (by decide) ?_
          refine GL.stepG (tj := 44) rfl rfl (Ex.wp (v := (.int .u32 b)) (Ex.move rfl) (by decide)) (fun _ _ => ?_)
          refine GL.stepG (tj := 44) rfl rfl (Stp.callR (vs := [(.int .u32 b)]) rfl rfl T.own28 (by decide) (fun wc hw => finite_l b wc (by first | assumption | omega | exact Bt.lst_bd (by assumption) (by assumption) | exact Bt.gst_bd (by assumption) (by assumption) | exact Bt.key_bd (by assumption) | exact Bt.unkey_bd (by assumption) | exact Bt.nxt_bd (by assumption) | exact Bt.lst_bd (Bt.gst_bd (by assumption) (by assumption)) (by assumption) | exact Bt.btw_bd (by assumption) (Bt.lst_bd (by assumption) (by assumption)) (Bt.gst_bd (by assumption) (by assumption))))) (fun xq25 hq26 => ?_)
          refine GL.stepG (tj := 44) rfl rfl (Ex.wp (v := (.bool (!(decide (b % 2147483648 < 2139095040))))) (Ex.not rfl) (by decide)) (fun _ _ => ?_)
          refine GL.val (v := (.bool (!(decide (b % 2147483648 < 2139095040))))) (Ex.pickF rfl rfl) (by decide) ?_
          refine GL.nil ?_
          refine GE.thenN ?_
          refine GC.cond rfl (fun hq27 => ?_) (fun hq27 => ?_)
          · replace hq27 := of_decide_eq_false ((Bool.not_eq_true' _).mp hq27)
            refine GC.seq ?_
            refine GC.region ?_
            refine GL.val (Ex.assign rfl) (by decide) ?_
            refine GL.nil ?_
            refine GE.thenN ?_
            refine GC.ret ?_
            refine GE.thenR ?_
            refine GC.ret1 rfl (Rv.tmp rfl) (fun wN HN => ?_)
            exact HN.ret () trivial (by first | rfl | simp) (List.nil_sublist _) rfl
          · replace hq27 := of_decide_eq_true ((Bool.not_eq_false' _).mp hq27)
            refine GC.skip ?_
            refine GE.thenN ?_
            refine GC.seq ?_
            have fr := (Sl.fin_rk hr).2 (by omega)
            have fg := (Sl.fin_rk hg).2 (by omega)
            have fb := (Sl.fin_rk hb).2 (by omega)
            have hM := Sl.mean (lo := min (min (Fv.rk r) (Fv.rk g)) (Fv.rk b)) (hi := max (max (Fv.rk r) (Fv.rk g)) (Fv.rk b)) hr hg hb (by omega) (by omega) (by omega) (by omega) (by omega) (by omega) (by omega) (by omega)
            have hD := Sl.diffs hr hg hb fr fg fb
            have hK := (Sl.fin_rk (s := Fv.T (Sl.yy r g b)) (by omega)).1 (by omega)
            refine GC.region ?_
            refine GL.val (Ex.move rfl) (by decide) ?_
            refine GL.val (Ex.move rfl) (by decide) ?_
            refine GL.val (Ex.move rfl) (by decide) ?_
            refine GL.step (Stp.callR (vs := [(.int .u32 r), (.int .u32 g), (.int .u32 b)]) rfl rfl T.own14 (by decide) (fun wc hw => toycc_p r g b wc hM.1 hD.1 hD.2)) (fun xq28 hq29 => ?_)
            refine GL.val (Ex.move rfl) (by decide) ?_
            refine GL.val (Ex.extract rfl rfl) (by decide) ?_
            refine GL.val (Ex.extract rfl rfl) (by decide) ?_
            refine GL.val (Ex.extract rfl rfl) (by decide) ?_
            refine GL.val (Ex.assign rfl) (by decide) ?_
            refine GL.val (Ex.assign rfl) (by decide) ?_
            refine GL.val (Ex.assign rfl) (by decide) ?_
            refine GL.nil ?_
            refine GE.thenN ?_
            refine GC.seq ?_
            refine GC.region ?_
            refine GL.val (Ex.move rfl) (by decide) ?_
            refine GL.step (Stp.callR (vs := [(.int .u32 ((Fv.T (Sl.yy r g b))))]) rfl rfl T.own28 (by decide) (fun wc hw => finite_l ((Fv.T (Sl.yy r g b))) wc (by first | assumption | omega | exact Bt.lst_bd (by assumption) (by assumption) | exact Bt.gst_bd (by assumption) (by assumption) | exact Bt.key_bd (by assumption) | exact Bt.unkey_bd (by assumption) | exact Bt.nxt_bd (by assumption) | exact Bt.lst_bd (Bt.gst_bd (by assumption) (by assumption)) (by assumption) | exact Bt.btw_bd (by assumption) (Bt.lst_bd (by assumption) (by assumption)) (Bt.gst_bd (by assumption) (by assumption))))) (fun xq30 hq31 => ?_)
            refine GL.val (v := (.bool true)) (Ex.cast (Ex.move rfl) (congrArg Value.bool (decide_eq_true (by omega)))) (by decide) ?_
            refine GL.stepG (tj := 59) rfl rfl (Ex.wp (v := (.int .u32 ((Fv.T (Sl.yy r g b))))) (Ex.move rfl) (by decide)) (fun _ _ => ?_)
            refine GL.stepG (tj := 59) rfl rfl (Stp.callR (vs := [(.int .u32 ((Fv.T (Sl.yy r g b))))]) rfl rfl T.own36 (by decide) (fun wc hw => key_l ((Fv.T (Sl.yy r g b))) wc (by first | assumption | omega | exact Bt.lst_bd (by assumption) (by assumption) | exact Bt.gst_bd (by assumption) (by assumption) | exact Bt.key_bd (by assumption) | exact Bt.unkey_bd (by assumption) | exact Bt.nxt_bd (by assumption) | exact Bt.lst_bd (Bt.gst_bd (by assumption) (by assumption)) (by assumption) | exact Bt.btw_bd (by assumption) (Bt.lst_bd (by assumption) (by assumption)) (Bt.gst_bd (by assumption) (by assumption))))) (fun xq32 hq33 => ?_)
            refine GL.stepG (tj := 59) rfl rfl (Ex.wp (v := (.int .u32 r)) (Ex.move rfl) (by decide)) (fun _ _ => ?_)
            refine GL.stepG (tj := 59) rfl rfl (Stp.callR (vs := [(.int .u32 r)]) rfl rfl T.own36 (by decide) (fun wc hw => key_l r wc (by first | assumption | omega | exact Bt.lst_bd (by assumption) (by assumption) | exact Bt.gst_bd (by assumption) (by assumption) | exact Bt.key_bd (by assumption) | exact Bt.unkey_bd (by assumption) | exact Bt.nxt_bd (by assumption) | exact Bt.lst_bd (Bt.gst_bd (by assumption) (by assumption)) (by assumption) | exact Bt.btw_bd (by assumption) (Bt.lst_bd (by assumption) (by assumption)) (Bt.gst_bd (by assumption) (by assumption))))) (fun xq34 hq35 => ?_)
            refine GL.stepG (tj := 59) rfl rfl (Ex.wp (v := (.int .u32 g)) (Ex.move rfl) (by decide)) (fun _ _ => ?_)
            refine GL.stepG (tj := 59) rfl rfl (Stp.callR (vs := [(.int .u32 g)]) rfl rfl T.own36 (by decide) (fun wc hw => key_l g wc (by first | assumption | omega | exact Bt.lst_bd (by assumption) (by assumption) | exact Bt.gst_bd (by assumption) (by assumption) | exact Bt.key_bd (by assumption) | exact Bt.unkey_bd (by assumption) | exact Bt.nxt_bd (by assumption) | exact Bt.lst_bd (Bt.gst_bd (by assumption) (by assumption)) (by assumption) | exact Bt.btw_bd (by assumption) (Bt.lst_bd (by assumption) (by assumption)) (Bt.gst_bd (by assumption) (by assumption))))) (fun xq36 hq37 => ?_)
            refine GL.stepG (tj := 59) rfl rfl (Ex.wp (v := (.int .u32 b)) (Ex.move rfl) (by decide)) (fun _ _ => ?_)
            refine GL.stepG (tj := 59) rfl rfl (Stp.callR (vs := [(.int .u32 b)]) rfl rfl T.own36 (by decide) (fun wc hw => key_l b wc (by first | assumption | omega | exact Bt.lst_bd (by assumption) (by assumption) | exact Bt.gst_bd (by assumption) (by assumption) | exact Bt.key_bd (by assumption) | exact Bt.unkey_bd (by assumption) | exact Bt.nxt_bd (by assumption) | exact Bt.lst_bd (Bt.gst_bd (by assumption) (by assumption)) (by assumption) | exact Bt.btw_bd (by assumption) (Bt.lst_bd (by assumption) (by assumption)) (Bt.gst_bd (by assumption) (by assumption))))) (fun xq38 hq39 => ?_)
            refine GL.stepG (tj := 59) rfl rfl (Ex.wp (v := (.int .i64 (min (min ((Fv.rk r)) ((Fv.rk g))) ((Fv.rk b))))) (Ex.minI3 rfl rfl rfl (Z := min (min ((Fv.rk r)) ((Fv.rk g))) ((Fv.rk b))) (min643 _ _ _)) (by decide)) (fun _ _ => ?_)
            refine GL.stepG (tj := 59) rfl rfl (Ex.wp (v := (.bool true)) (Ex.cast (Ex.geq rfl rfl) (congrArg Value.bool (decide_eq_true (by omega)))) (by decide)) (fun _ _ => ?_)
            refine GL.val (v := (.bool true)) (Ex.pickT rfl rfl) (by decide) ?_
            refine GL.val (Ex.move rfl) (by decide) ?_
            refine GL.stepG (tj := 71) rfl rfl (Ex.wp (v := (.int .u32 ((Fv.T (Sl.yy r g b))))) (Ex.move rfl) (by decide)) (fun _ _ => ?_)
            refine GL.stepG (tj := 71) rfl rfl (Stp.callR (vs := [(.int .u32 ((Fv.T (Sl.yy r g b))))]) rfl rfl T.own36 (by decide) (fun wc hw => key_l ((Fv.T (Sl.yy r g b))) wc (by first | assumption | omega | exact Bt.lst_bd (by assumption) (by assumption) | exact Bt.gst_bd (by assumption) (by assumption) | exact Bt.key_bd (by assumption) | exact Bt.unkey_bd (by assumption) | exact Bt.nxt_bd (by assumption) | exact Bt.lst_bd (Bt.gst_bd (by assumption) (by assumption)) (by assumption) | exact Bt.btw_bd (by assumption) (Bt.lst_bd (by assumption) (by assumption)) (Bt.gst_bd (by assumption) (by assumption))))) (fun xq40 hq41 => ?_)
            refine GL.stepG (tj := 71) rfl rfl (Ex.wp (v := (.int .u32 r)) (Ex.move rfl) (by decide)) (fun _ _ => ?_)
            refine GL.stepG (tj := 71) rfl rfl (Stp.callR (vs := [(.int .u32 r)]) rfl rfl T.own36 (by decide) (fun wc hw => key_l r wc (by first | assumption | omega | exact Bt.lst_bd (by assumption) (by assumption) | exact Bt.gst_bd (by assumption) (by assumption) | exact Bt.key_bd (by assumption) | exact Bt.unkey_bd (by assumption) | exact Bt.nxt_bd (by assumption) | exact Bt.lst_bd (Bt.gst_bd (by assumption) (by assumption)) (by assumption) | exact Bt.btw_bd (by assumption) (Bt.lst_bd (by assumption) (by assumption)) (Bt.gst_bd (by assumption) (by assumption))))) (fun xq42 hq43 => ?_)
            refine GL.stepG (tj := 71) rfl rfl (Ex.wp (v := (.int .u32 g)) (Ex.move rfl) (by decide)) (fun _ _ => ?_)
            refine GL.stepG (tj := 71) rfl rfl (Stp.callR (vs := [(.int .u32 g)]) rfl rfl T.own36 (by decide) (fun wc hw => key_l g wc (by first | assumption | omega | exact Bt.lst_bd (by assumption) (by assumption) | exact Bt.gst_bd (by assumption) (by assumption) | exact Bt.key_bd (by assumption) | exact Bt.unkey_bd (by assumption) | exact Bt.nxt_bd (by assumption) | exact Bt.lst_bd (Bt.gst_bd (by assumption) (by assumption)) (by assumption) | exact Bt.btw_bd (by assumption) (Bt.lst_bd (by assumption) (by assumption)) (Bt.gst_bd (by assumption) (by assumption))))) (fun xq44 hq45 => ?_)
            refine GL.stepG (tj := 71) rfl rfl (Ex.wp (v := (.int .u32 b)) (Ex.move rfl) (by decide)) (fun _ _ => ?_)
            refine GL.stepG (tj := 71) rfl rfl (Stp.callR (vs := [(.int .u32 b)]) rfl rfl T.own36 (by decide) (fun wc hw => key_l b wc (by first | assumption | omega | exact Bt.lst_bd (by assumption) (by assumption) | exact Bt.gst_bd (by assumption) (by assumption) | exact Bt.key_bd (by assumption) | exact Bt.unkey_bd (by assumption) | exact Bt.nxt_bd (by assumption) | exact Bt.lst_bd (Bt.gst_bd (by assumption) (by assumption)) (by assumption) | exact Bt.btw_bd (by assumption) (Bt.lst_bd (by assumption) (by assumption)) (Bt.gst_bd (by assumption) (by assumption))))) (fun xq46 hq47 => ?_)
            refine GL.stepG (tj := 71) rfl rfl (Ex.wp (v := (.int .i64 (max (max ((Fv.rk r)) ((Fv.rk g))) ((Fv.rk b))))) (Ex.maxI3 rfl rfl rfl (Z := max (max ((Fv.rk r)) ((Fv.rk g))) ((Fv.rk b))) (max643 _ _ _)) (by decide)) (fun _ _ => ?_)
            refine GL.stepG (tj := 71) rfl rfl (Ex.wp (v := (.bool true)) (Ex.cast (Ex.leq rfl rfl) (congrArg Value.bool (decide_eq_true (by omega)))) (by decide)) (fun _ _ => ?_)
            refine GL.val (v := (.bool true)) (Ex.pickT rfl rfl) (by decide) ?_
            refine GL.val (Ex.assign rfl) (by decide) ?_
            refine GL.nil ?_
            refine GE.thenN ?_
            refine GC.ret ?_
            refine GC.ret1 rfl (Rv.tmp rfl) (fun wN HN => ?_)
            exact HN.ret () trivial (by first | rfl | simp) (List.nil_sublist _) rfl
        · refine GL.stepG (tj := 39) rfl rfl (Ex.wp (v := (.bool true)) (Ex.cast (Ex.not rfl) (congrArg Value.bool (congrArg (fun z => !z) (decide_eq_false hq24)))) (by decide)) (fun _ _ => ?_)
          refine GL.val (v := (.bool true)) (Ex.pickF rfl rfl) (by decide) ?_
          refine GL.val (Ex.move rfl) (by decide) ?_
          refine GL.skipG (tj := 44) rfl rfl rfl (by decide) ?_
          refine GL.skipG (tj := 44) rfl rfl rfl (by decide) ?_
          refine GL.skipG (tj := 44) rfl rfl rfl (by decide) ?_
          refine GL.val (v := (.bool true)) (Ex.pickT rfl rfl) (by decide) ?_
          refine GL.nil ?_
          refine GE.thenN ?_
          refine GC.cond rfl (fun _ => ?_) (fun hq48 => by cases hq48)
          refine GC.seq ?_
          refine GC.region ?_
          refine GL.val (Ex.assign rfl) (by decide) ?_
          refine GL.nil ?_
          refine GE.thenN ?_
          refine GC.ret ?_
          refine GE.thenR ?_
          refine GC.ret1 rfl (Rv.tmp rfl) (fun wN HN => ?_)
          exact HN.ret () trivial (by first | rfl | simp) (List.nil_sublist _) rfl
      · refine GL.val (v := (.bool true)) (Ex.cast (Ex.not rfl) (congrArg Value.bool (congrArg (fun z => !z) (decide_eq_false hq21)))) (by decide) ?_
        refine GL.val (Ex.move rfl) (by decide) ?_
        refine GL.skipG (tj := 39) rfl rfl rfl (by decide) ?_
        refine GL.skipG (tj := 39) rfl rfl rfl (by decide) ?_
        refine GL.skipG (tj := 39) rfl rfl rfl (by decide) ?_
        refine GL.val (v := (.bool true)) (Ex.pickT rfl rfl) (by decide) ?_
        refine GL.val (Ex.move rfl) (by decide) ?_
        refine GL.skipG (tj := 44) rfl rfl rfl (by decide) ?_
        refine GL.skipG (tj := 44) rfl rfl rfl (by decide) ?_
        refine GL.skipG (tj := 44) rfl rfl rfl (by decide) ?_
        refine GL.val (v := (.bool true)) (Ex.pickT rfl rfl) (by decide) ?_
        refine GL.nil ?_
        refine GE.thenN ?_
        refine GC.cond rfl (fun _ => ?_) (fun hq49 => by cases hq49)
        refine GC.seq ?_
        refine GC.region ?_
        refine GL.val (Ex.assign rfl) (by decide) ?_
        refine GL.nil ?_
        refine GE.thenN ?_
        refine GC.ret ?_
        refine GE.thenR ?_
        refine GC.ret1 rfl (Rv.tmp rfl) (fun wN HN => ?_)
        exact HN.ret () trivial (by first | rfl | simp) (List.nil_sublist _) rfl
    · replace hq5 := of_decide_eq_false hq5
      refine GC.skip ?_
      refine GE.thenN ?_
      refine GC.seq ?_
      refine GC.seq ?_
      refine GC.region ?_
      refine GL.val (Ex.move rfl) (by decide) ?_
      refine GL.step (Stp.callR (vs := [(.int .u32 r)]) rfl rfl T.own28 (by decide) (fun wc hw => finite_l r wc (by first | assumption | omega | exact Bt.lst_bd (by assumption) (by assumption) | exact Bt.gst_bd (by assumption) (by assumption) | exact Bt.key_bd (by assumption) | exact Bt.unkey_bd (by assumption) | exact Bt.nxt_bd (by assumption) | exact Bt.lst_bd (Bt.gst_bd (by assumption) (by assumption)) (by assumption) | exact Bt.btw_bd (by assumption) (Bt.lst_bd (by assumption) (by assumption)) (Bt.gst_bd (by assumption) (by assumption))))) (fun xq50 hq51 => ?_)
      by_cases hq52 : (r % 2147483648 < 2139095040)
      · refine GL.val (v := (.bool false)) (Ex.cast (Ex.not rfl) (congrArg Value.bool (congrArg (fun z => !z) (decide_eq_true hq52)))) (by decide) ?_
        refine GL.val (Ex.move rfl) (by decide) ?_
        refine GL.stepG (tj := 39) rfl rfl (Ex.wp (v := (.int .u32 g)) (Ex.move rfl) (by decide)) (fun _ _ => ?_)
        refine GL.stepG (tj := 39) rfl rfl (Stp.callR (vs := [(.int .u32 g)]) rfl rfl T.own28 (by decide) (fun wc hw => finite_l g wc (by first | assumption | omega | exact Bt.lst_bd (by assumption) (by assumption) | exact Bt.gst_bd (by assumption) (by assumption) | exact Bt.key_bd (by assumption) | exact Bt.unkey_bd (by assumption) | exact Bt.nxt_bd (by assumption) | exact Bt.lst_bd (Bt.gst_bd (by assumption) (by assumption)) (by assumption) | exact Bt.btw_bd (by assumption) (Bt.lst_bd (by assumption) (by assumption)) (Bt.gst_bd (by assumption) (by assumption))))) (fun xq53 hq54 => ?_)
        by_cases hq55 : (g % 2147483648 < 2139095040)
        · refine GL.stepG (tj := 39) rfl rfl (Ex.wp (v := (.bool false)) (Ex.cast (Ex.not rfl) (congrArg Value.bool (congrArg (fun z => !z) (decide_eq_true hq55)))) (by decide)) (fun _ _ => ?_)
          refine GL.val (v := (.bool false)) (Ex.pickF rfl rfl) (by decide) ?_
          refine GL.val (Ex.move rfl) (by decide) ?_
          refine GL.stepG (tj := 44) rfl rfl (Ex.wp (v := (.int .u32 b)) (Ex.move rfl) (by decide)) (fun _ _ => ?_)
          refine GL.stepG (tj := 44) rfl rfl (Stp.callR (vs := [(.int .u32 b)]) rfl rfl T.own28 (by decide) (fun wc hw => finite_l b wc (by first | assumption | omega | exact Bt.lst_bd (by assumption) (by assumption) | exact Bt.gst_bd (by assumption) (by assumption) | exact Bt.key_bd (by assumption) | exact Bt.unkey_bd (by assumption) | exact Bt.nxt_bd (by assumption) | exact Bt.lst_bd (Bt.gst_bd (by assumption) (by assumption)) (by assumption) | exact Bt.btw_bd (by assumption) (Bt.lst_bd (by assumption) (by assumption)) (Bt.gst_bd (by assumption) (by assumption))))) (fun xq56 hq57 => ?_)
          refine GL.stepG (tj := 44) rfl rfl (Ex.wp (v := (.bool (!(decide (b % 2147483648 < 2139095040))))) (Ex.not rfl) (by decide)) (fun _ _ => ?_)
          refine GL.val (v := (.bool (!(decide (b % 2147483648 < 2139095040))))) (Ex.pickF rfl rfl) (by decide) ?_
          refine GL.nil ?_
          refine GE.thenN ?_
          refine GC.cond rfl (fun hq58 => ?_) (fun hq58 => ?_)
          · replace hq58 := of_decide_eq_false ((Bool.not_eq_true' _).mp hq58)
            refine GC.seq ?_
            refine GC.region ?_
            refine GL.val (Ex.assign rfl) (by decide) ?_
            refine GL.nil ?_
            refine GE.thenN ?_
            refine GC.ret ?_
            refine GE.thenR ?_
            refine GC.ret1 rfl (Rv.tmp rfl) (fun wN HN => ?_)
            exact HN.ret () trivial (by first | rfl | simp) (List.nil_sublist _) rfl
          · replace hq58 := of_decide_eq_true ((Bool.not_eq_false' _).mp hq58)
            refine GC.skip ?_
            refine GE.thenN ?_
            refine GC.seq ?_
            have fr := (Sl.fin_rk hr).2 (by omega)
            have fg := (Sl.fin_rk hg).2 (by omega)
            have fb := (Sl.fin_rk hb).2 (by omega)
            have hM := Sl.mean (lo := min (min (Fv.rk r) (Fv.rk g)) (Fv.rk b)) (hi := max (max (Fv.rk r) (Fv.rk g)) (Fv.rk b)) hr hg hb (by omega) (by omega) (by omega) (by omega) (by omega) (by omega) (by omega) (by omega)
            have hD := Sl.diffs hr hg hb fr fg fb
            have hK := (Sl.fin_rk (s := Fv.T (Sl.yy r g b)) (by omega)).1 (by omega)
            refine GC.region ?_
            refine GL.val (Ex.move rfl) (by decide) ?_
            refine GL.val (Ex.move rfl) (by decide) ?_
            refine GL.val (Ex.move rfl) (by decide) ?_
            refine GL.step (Stp.callR (vs := [(.int .u32 r), (.int .u32 g), (.int .u32 b)]) rfl rfl T.own14 (by decide) (fun wc hw => toycc_p r g b wc hM.1 hD.1 hD.2)) (fun xq59 hq60 => ?_)
            refine GL.val (Ex.move rfl) (by decide) ?_
            refine GL.val (Ex.extract rfl rfl) (by decide) ?_
            refine GL.val (Ex.extract rfl rfl) (by decide) ?_
            refine GL.val (Ex.extract rfl rfl) (by decide) ?_
            refine GL.val (Ex.assign rfl) (by decide) ?_
            refine GL.val (Ex.assign rfl) (by decide) ?_
            refine GL.val (Ex.assign rfl) (by decide) ?_
            refine GL.nil ?_
            refine GE.thenN ?_
            refine GC.seq ?_
            refine GC.region ?_
            refine GL.val (Ex.move rfl) (by decide) ?_
            refine GL.step (Stp.callR (vs := [(.int .u32 ((Fv.T (Sl.yy r g b))))]) rfl rfl T.own28 (by decide) (fun wc hw => finite_l ((Fv.T (Sl.yy r g b))) wc (by first | assumption | omega | exact Bt.lst_bd (by assumption) (by assumption) | exact Bt.gst_bd (by assumption) (by assumption) | exact Bt.key_bd (by assumption) | exact Bt.unkey_bd (by assumption) | exact Bt.nxt_bd (by assumption) | exact Bt.lst_bd (Bt.gst_bd (by assumption) (by assumption)) (by assumption) | exact Bt.btw_bd (by assumption) (Bt.lst_bd (by assumption) (by assumption)) (Bt.gst_bd (by assumption) (by assumption))))) (fun xq61 hq62 => ?_)
            refine GL.val (v := (.bool true)) (Ex.cast (Ex.move rfl) (congrArg Value.bool (decide_eq_true (by omega)))) (by decide) ?_
            refine GL.stepG (tj := 59) rfl rfl (Ex.wp (v := (.int .u32 ((Fv.T (Sl.yy r g b))))) (Ex.move rfl) (by decide)) (fun _ _ => ?_)
            refine GL.stepG (tj := 59) rfl rfl (Stp.callR (vs := [(.int .u32 ((Fv.T (Sl.yy r g b))))]) rfl rfl T.own36 (by decide) (fun wc hw => key_l ((Fv.T (Sl.yy r g b))) wc (by first | assumption | omega | exact Bt.lst_bd (by assumption) (by assumption) | exact Bt.gst_bd (by assumption) (by assumption) | exact Bt.key_bd (by assumption) | exact Bt.unkey_bd (by assumption) | exact Bt.nxt_bd (by assumption) | exact Bt.lst_bd (Bt.gst_bd (by assumption) (by assumption)) (by assumption) | exact Bt.btw_bd (by assumption) (Bt.lst_bd (by assumption) (by assumption)) (Bt.gst_bd (by assumption) (by assumption))))) (fun xq63 hq64 => ?_)
            refine GL.stepG (tj := 59) rfl rfl (Ex.wp (v := (.int .u32 r)) (Ex.move rfl) (by decide)) (fun _ _ => ?_)
            refine GL.stepG (tj := 59) rfl rfl (Stp.callR (vs := [(.int .u32 r)]) rfl rfl T.own36 (by decide) (fun wc hw => key_l r wc (by first | assumption | omega | exact Bt.lst_bd (by assumption) (by assumption) | exact Bt.gst_bd (by assumption) (by assumption) | exact Bt.key_bd (by assumption) | exact Bt.unkey_bd (by assumption) | exact Bt.nxt_bd (by assumption) | exact Bt.lst_bd (Bt.gst_bd (by assumption) (by assumption)) (by assumption) | exact Bt.btw_bd (by assumption) (Bt.lst_bd (by assumption) (by assumption)) (Bt.gst_bd (by assumption) (by assumption))))) (fun xq65 hq66 => ?_)
            refine GL.stepG (tj := 59) rfl rfl (Ex.wp (v := (.int .u32 g)) (Ex.move rfl) (by decide)) (fun _ _ => ?_)
            refine GL.stepG (tj := 59) rfl rfl (Stp.callR (vs := [(.int .u32 g)]) rfl rfl T.own36 (by decide) (fun wc hw => key_l g wc (by first | assumption | omega | exact Bt.lst_bd (by assumption) (by assumption) | exact Bt.gst_bd (by assumption) (by assumption) | exact Bt.key_bd (by assumption) | exact Bt.unkey_bd (by assumption) | exact Bt.nxt_bd (by assumption) | exact Bt.lst_bd (Bt.gst_bd (by assumption) (by assumption)) (by assumption) | exact Bt.btw_bd (by assumption) (Bt.lst_bd (by assumption) (by assumption)) (Bt.gst_bd (by assumption) (by assumption))))) (fun xq67 hq68 => ?_)
            refine GL.stepG (tj := 59) rfl rfl (Ex.wp (v := (.int .u32 b)) (Ex.move rfl) (by decide)) (fun _ _ => ?_)
            refine GL.stepG (tj := 59) rfl rfl (Stp.callR (vs := [(.int .u32 b)]) rfl rfl T.own36 (by decide) (fun wc hw => key_l b wc (by first | assumption | omega | exact Bt.lst_bd (by assumption) (by assumption) | exact Bt.gst_bd (by assumption) (by assumption) | exact Bt.key_bd (by assumption) | exact Bt.unkey_bd (by assumption) | exact Bt.nxt_bd (by assumption) | exact Bt.lst_bd (Bt.gst_bd (by assumption) (by assumption)) (by assumption) | exact Bt.btw_bd (by assumption) (Bt.lst_bd (by assumption) (by assumption)) (Bt.gst_bd (by assumption) (by assumption))))) (fun xq69 hq70 => ?_)
            refine GL.stepG (tj := 59) rfl rfl (Ex.wp (v := (.int .i64 (min (min ((Fv.rk r)) ((Fv.rk g))) ((Fv.rk b))))) (Ex.minI3 rfl rfl rfl (Z := min (min ((Fv.rk r)) ((Fv.rk g))) ((Fv.rk b))) (min643 _ _ _)) (by decide)) (fun _ _ => ?_)
            refine GL.stepG (tj := 59) rfl rfl (Ex.wp (v := (.bool true)) (Ex.cast (Ex.geq rfl rfl) (congrArg Value.bool (decide_eq_true (by omega)))) (by decide)) (fun _ _ => ?_)
            refine GL.val (v := (.bool true)) (Ex.pickT rfl rfl) (by decide) ?_
            refine GL.val (Ex.move rfl) (by decide) ?_
            refine GL.stepG (tj := 71) rfl rfl (Ex.wp (v := (.int .u32 ((Fv.T (Sl.yy r g b))))) (Ex.move rfl) (by decide)) (fun _ _ => ?_)
            refine GL.stepG (tj := 71) rfl rfl (Stp.callR (vs := [(.int .u32 ((Fv.T (Sl.yy r g b))))]) rfl rfl T.own36 (by decide) (fun wc hw => key_l ((Fv.T (Sl.yy r g b))) wc (by first | assumption | omega | exact Bt.lst_bd (by assumption) (by assumption) | exact Bt.gst_bd (by assumption) (by assumption) | exact Bt.key_bd (by assumption) | exact Bt.unkey_bd (by assumption) | exact Bt.nxt_bd (by assumption) | exact Bt.lst_bd (Bt.gst_bd (by assumption) (by assumption)) (by assumption) | exact Bt.btw_bd (by assumption) (Bt.lst_bd (by assumption) (by assumption)) (Bt.gst_bd (by assumption) (by assumption))))) (fun xq71 hq72 => ?_)
            refine GL.stepG (tj := 71) rfl rfl (Ex.wp (v := (.int .u32 r)) (Ex.move rfl) (by decide)) (fun _ _ => ?_)
            refine GL.stepG (tj := 71) rfl rfl (Stp.callR (vs := [(.int .u32 r)]) rfl rfl T.own36 (by decide) (fun wc hw => key_l r wc (by first | assumption | omega | exact Bt.lst_bd (by assumption) (by assumption) | exact Bt.gst_bd (by assumption) (by assumption) | exact Bt.key_bd (by assumption) | exact Bt.unkey_bd (by assumption) | exact Bt.nxt_bd (by assumption) | exact Bt.lst_bd (Bt.gst_bd (by assumption) (by assumption)) (by assumption) | exact Bt.btw_bd (by assumption) (Bt.lst_bd (by assumption) (by assumption)) (Bt.gst_bd (by assumption) (by assumption))))) (fun xq73 hq74 => ?_)
            refine GL.stepG (tj := 71) rfl rfl (Ex.wp (v := (.int .u32 g)) (Ex.move rfl) (by decide)) (fun _ _ => ?_)
            refine GL.stepG (tj := 71) rfl rfl (Stp.callR (vs := [(.int .u32 g)]) rfl rfl T.own36 (by decide) (fun wc hw => key_l g wc (by first | assumption | omega | exact Bt.lst_bd (by assumption) (by assumption) | exact Bt.gst_bd (by assumption) (by assumption) | exact Bt.key_bd (by assumption) | exact Bt.unkey_bd (by assumption) | exact Bt.nxt_bd (by assumption) | exact Bt.lst_bd (Bt.gst_bd (by assumption) (by assumption)) (by assumption) | exact Bt.btw_bd (by assumption) (Bt.lst_bd (by assumption) (by assumption)) (Bt.gst_bd (by assumption) (by assumption))))) (fun xq75 hq76 => ?_)
            refine GL.stepG (tj := 71) rfl rfl (Ex.wp (v := (.int .u32 b)) (Ex.move rfl) (by decide)) (fun _ _ => ?_)
            refine GL.stepG (tj := 71) rfl rfl (Stp.callR (vs := [(.int .u32 b)]) rfl rfl T.own36 (by decide) (fun wc hw => key_l b wc (by first | assumption | omega | exact Bt.lst_bd (by assumption) (by assumption) | exact Bt.gst_bd (by assumption) (by assumption) | exact Bt.key_bd (by assumption) | exact Bt.unkey_bd (by assumption) | exact Bt.nxt_bd (by assumption) | exact Bt.lst_bd (Bt.gst_bd (by assumption) (by assumption)) (by assumption) | exact Bt.btw_bd (by assumption) (Bt.lst_bd (by assumption) (by assumption)) (Bt.gst_bd (by assumption) (by assumption))))) (fun xq77 hq78 => ?_)
            refine GL.stepG (tj := 71) rfl rfl (Ex.wp (v := (.int .i64 (max (max ((Fv.rk r)) ((Fv.rk g))) ((Fv.rk b))))) (Ex.maxI3 rfl rfl rfl (Z := max (max ((Fv.rk r)) ((Fv.rk g))) ((Fv.rk b))) (max643 _ _ _)) (by decide)) (fun _ _ => ?_)
            refine GL.stepG (tj := 71) rfl rfl (Ex.wp (v := (.bool true)) (Ex.cast (Ex.leq rfl rfl) (congrArg Value.bool (decide_eq_true (by omega)))) (by decide)) (fun _ _ => ?_)
            refine GL.val (v := (.bool true)) (Ex.pickT rfl rfl) (by decide) ?_
            refine GL.val (Ex.assign rfl) (by decide) ?_
            refine GL.nil ?_
            refine GE.thenN ?_
            refine GC.ret ?_
            refine GC.ret1 rfl (Rv.tmp rfl) (fun wN HN => ?_)
            exact HN.ret () trivial (by first | rfl | simp) (List.nil_sublist _) rfl
        · refine GL.stepG (tj := 39) rfl rfl (Ex.wp (v := (.bool true)) (Ex.cast (Ex.not rfl) (congrArg Value.bool (congrArg (fun z => !z) (decide_eq_false hq55)))) (by decide)) (fun _ _ => ?_)
          refine GL.val (v := (.bool true)) (Ex.pickF rfl rfl) (by decide) ?_
          refine GL.val (Ex.move rfl) (by decide) ?_
          refine GL.skipG (tj := 44) rfl rfl rfl (by decide) ?_
          refine GL.skipG (tj := 44) rfl rfl rfl (by decide) ?_
          refine GL.skipG (tj := 44) rfl rfl rfl (by decide) ?_
          refine GL.val (v := (.bool true)) (Ex.pickT rfl rfl) (by decide) ?_
          refine GL.nil ?_
          refine GE.thenN ?_
          refine GC.cond rfl (fun _ => ?_) (fun hq79 => by cases hq79)
          refine GC.seq ?_
          refine GC.region ?_
          refine GL.val (Ex.assign rfl) (by decide) ?_
          refine GL.nil ?_
          refine GE.thenN ?_
          refine GC.ret ?_
          refine GE.thenR ?_
          refine GC.ret1 rfl (Rv.tmp rfl) (fun wN HN => ?_)
          exact HN.ret () trivial (by first | rfl | simp) (List.nil_sublist _) rfl
      · refine GL.val (v := (.bool true)) (Ex.cast (Ex.not rfl) (congrArg Value.bool (congrArg (fun z => !z) (decide_eq_false hq52)))) (by decide) ?_
        refine GL.val (Ex.move rfl) (by decide) ?_
        refine GL.skipG (tj := 39) rfl rfl rfl (by decide) ?_
        refine GL.skipG (tj := 39) rfl rfl rfl (by decide) ?_
        refine GL.skipG (tj := 39) rfl rfl rfl (by decide) ?_
        refine GL.val (v := (.bool true)) (Ex.pickT rfl rfl) (by decide) ?_
        refine GL.val (Ex.move rfl) (by decide) ?_
        refine GL.skipG (tj := 44) rfl rfl rfl (by decide) ?_
        refine GL.skipG (tj := 44) rfl rfl rfl (by decide) ?_
        refine GL.skipG (tj := 44) rfl rfl rfl (by decide) ?_
        refine GL.val (v := (.bool true)) (Ex.pickT rfl rfl) (by decide) ?_
        refine GL.nil ?_
        refine GE.thenN ?_
        refine GC.cond rfl (fun _ => ?_) (fun hq80 => by cases hq80)
        refine GC.seq ?_
        refine GC.region ?_
        refine GL.val (Ex.assign rfl) (by decide) ?_
        refine GL.nil ?_
        refine GE.thenN ?_
        refine GC.ret ?_
        refine GE.thenR ?_
        refine GC.ret1 rfl (Rv.tmp rfl) (fun wN HN => ?_)
        exact HN.ret () trivial (by first | rfl | simp) (List.nil_sublist _) rfl
  · refine GL.val (v := (.bool false)) (Ex.cast (Ex.lss rfl rfl) (congrArg Value.bool (decide_eq_false hq4))) (by decide) ?_
    refine GL.val (Ex.move rfl) (by decide) ?_
    refine GL.skipG (tj := 15) rfl rfl rfl (by decide) ?_
    refine GL.skipG (tj := 15) rfl rfl rfl (by decide) ?_
    refine GL.val (v := (.bool false)) (Ex.pickF rfl rfl) (by decide) ?_
    refine GL.nil ?_
    refine GE.thenN ?_
    refine GC.cond rfl (fun hq81 => by cases hq81) (fun _ => ?_)
    refine GC.skip ?_
    refine GE.thenN ?_
    refine GC.seq ?_
    refine GC.seq ?_
    refine GC.region ?_
    refine GL.val (Ex.move rfl) (by decide) ?_
    refine GL.step (Stp.callR (vs := [(.int .u32 r)]) rfl rfl T.own28 (by decide) (fun wc hw => finite_l r wc (by first | assumption | omega | exact Bt.lst_bd (by assumption) (by assumption) | exact Bt.gst_bd (by assumption) (by assumption) | exact Bt.key_bd (by assumption) | exact Bt.unkey_bd (by assumption) | exact Bt.nxt_bd (by assumption) | exact Bt.lst_bd (Bt.gst_bd (by assumption) (by assumption)) (by assumption) | exact Bt.btw_bd (by assumption) (Bt.lst_bd (by assumption) (by assumption)) (Bt.gst_bd (by assumption) (by assumption))))) (fun xq82 hq83 => ?_)
    by_cases hq84 : (r % 2147483648 < 2139095040)
    · refine GL.val (v := (.bool false)) (Ex.cast (Ex.not rfl) (congrArg Value.bool (congrArg (fun z => !z) (decide_eq_true hq84)))) (by decide) ?_
      refine GL.val (Ex.move rfl) (by decide) ?_
      refine GL.stepG (tj := 39) rfl rfl (Ex.wp (v := (.int .u32 g)) (Ex.move rfl) (by decide)) (fun _ _ => ?_)
      refine GL.stepG (tj := 39) rfl rfl (Stp.callR (vs := [(.int .u32 g)]) rfl rfl T.own28 (by decide) (fun wc hw => finite_l g wc (by first | assumption | omega | exact Bt.lst_bd (by assumption) (by assumption) | exact Bt.gst_bd (by assumption) (by assumption) | exact Bt.key_bd (by assumption) | exact Bt.unkey_bd (by assumption) | exact Bt.nxt_bd (by assumption) | exact Bt.lst_bd (Bt.gst_bd (by assumption) (by assumption)) (by assumption) | exact Bt.btw_bd (by assumption) (Bt.lst_bd (by assumption) (by assumption)) (Bt.gst_bd (by assumption) (by assumption))))) (fun xq85 hq86 => ?_)
      by_cases hq87 : (g % 2147483648 < 2139095040)
      · refine GL.stepG (tj := 39) rfl rfl (Ex.wp (v := (.bool false)) (Ex.cast (Ex.not rfl) (congrArg Value.bool (congrArg (fun z => !z) (decide_eq_true hq87)))) (by decide)) (fun _ _ => ?_)
        refine GL.val (v := (.bool false)) (Ex.pickF rfl rfl) (by decide) ?_
        refine GL.val (Ex.move rfl) (by decide) ?_
        refine GL.stepG (tj := 44) rfl rfl (Ex.wp (v := (.int .u32 b)) (Ex.move rfl) (by decide)) (fun _ _ => ?_)
        refine GL.stepG (tj := 44) rfl rfl (Stp.callR (vs := [(.int .u32 b)]) rfl rfl T.own28 (by decide) (fun wc hw => finite_l b wc (by first | assumption | omega | exact Bt.lst_bd (by assumption) (by assumption) | exact Bt.gst_bd (by assumption) (by assumption) | exact Bt.key_bd (by assumption) | exact Bt.unkey_bd (by assumption) | exact Bt.nxt_bd (by assumption) | exact Bt.lst_bd (Bt.gst_bd (by assumption) (by assumption)) (by assumption) | exact Bt.btw_bd (by assumption) (Bt.lst_bd (by assumption) (by assumption)) (Bt.gst_bd (by assumption) (by assumption))))) (fun xq88 hq89 => ?_)
        refine GL.stepG (tj := 44) rfl rfl (Ex.wp (v := (.bool (!(decide (b % 2147483648 < 2139095040))))) (Ex.not rfl) (by decide)) (fun _ _ => ?_)
        refine GL.val (v := (.bool (!(decide (b % 2147483648 < 2139095040))))) (Ex.pickF rfl rfl) (by decide) ?_
        refine GL.nil ?_
        refine GE.thenN ?_
        refine GC.cond rfl (fun hq90 => ?_) (fun hq90 => ?_)
        · replace hq90 := of_decide_eq_false ((Bool.not_eq_true' _).mp hq90)
          refine GC.seq ?_
          refine GC.region ?_
          refine GL.val (Ex.assign rfl) (by decide) ?_
          refine GL.nil ?_
          refine GE.thenN ?_
          refine GC.ret ?_
          refine GE.thenR ?_
          refine GC.ret1 rfl (Rv.tmp rfl) (fun wN HN => ?_)
          exact HN.ret () trivial (by first | rfl | simp) (List.nil_sublist _) rfl
        · replace hq90 := of_decide_eq_true ((Bool.not_eq_false' _).mp hq90)
          refine GC.skip ?_
          refine GE.thenN ?_
          refine GC.seq ?_
          have fr := (Sl.fin_rk hr).2 (by omega)
          have fg := (Sl.fin_rk hg).2 (by omega)
          have fb := (Sl.fin_rk hb).2 (by omega)
          have hM := Sl.mean (lo := min (min (Fv.rk r) (Fv.rk g)) (Fv.rk b)) (hi := max (max (Fv.rk r) (Fv.rk g)) (Fv.rk b)) hr hg hb (by omega) (by omega) (by omega) (by omega) (by omega) (by omega) (by omega) (by omega)
          have hD := Sl.diffs hr hg hb fr fg fb
          have hK := (Sl.fin_rk (s := Fv.T (Sl.yy r g b)) (by omega)).1 (by omega)
          refine GC.region ?_
          refine GL.val (Ex.move rfl) (by decide) ?_
          refine GL.val (Ex.move rfl) (by decide) ?_
          refine GL.val (Ex.move rfl) (by decide) ?_
          refine GL.step (Stp.callR (vs := [(.int .u32 r), (.int .u32 g), (.int .u32 b)]) rfl rfl T.own14 (by decide) (fun wc hw => toycc_p r g b wc hM.1 hD.1 hD.2)) (fun xq91 hq92 => ?_)
          refine GL.val (Ex.move rfl) (by decide) ?_
          refine GL.val (Ex.extract rfl rfl) (by decide) ?_
          refine GL.val (Ex.extract rfl rfl) (by decide) ?_
          refine GL.val (Ex.extract rfl rfl) (by decide) ?_
          refine GL.val (Ex.assign rfl) (by decide) ?_
          refine GL.val (Ex.assign rfl) (by decide) ?_
          refine GL.val (Ex.assign rfl) (by decide) ?_
          refine GL.nil ?_
          refine GE.thenN ?_
          refine GC.seq ?_
          refine GC.region ?_
          refine GL.val (Ex.move rfl) (by decide) ?_
          refine GL.step (Stp.callR (vs := [(.int .u32 ((Fv.T (Sl.yy r g b))))]) rfl rfl T.own28 (by decide) (fun wc hw => finite_l ((Fv.T (Sl.yy r g b))) wc (by first | assumption | omega | exact Bt.lst_bd (by assumption) (by assumption) | exact Bt.gst_bd (by assumption) (by assumption) | exact Bt.key_bd (by assumption) | exact Bt.unkey_bd (by assumption) | exact Bt.nxt_bd (by assumption) | exact Bt.lst_bd (Bt.gst_bd (by assumption) (by assumption)) (by assumption) | exact Bt.btw_bd (by assumption) (Bt.lst_bd (by assumption) (by assumption)) (Bt.gst_bd (by assumption) (by assumption))))) (fun xq93 hq94 => ?_)
          refine GL.val (v := (.bool true)) (Ex.cast (Ex.move rfl) (congrArg Value.bool (decide_eq_true (by omega)))) (by decide) ?_
          refine GL.stepG (tj := 59) rfl rfl (Ex.wp (v := (.int .u32 ((Fv.T (Sl.yy r g b))))) (Ex.move rfl) (by decide)) (fun _ _ => ?_)
          refine GL.stepG (tj := 59) rfl rfl (Stp.callR (vs := [(.int .u32 ((Fv.T (Sl.yy r g b))))]) rfl rfl T.own36 (by decide) (fun wc hw => key_l ((Fv.T (Sl.yy r g b))) wc (by first | assumption | omega | exact Bt.lst_bd (by assumption) (by assumption) | exact Bt.gst_bd (by assumption) (by assumption) | exact Bt.key_bd (by assumption) | exact Bt.unkey_bd (by assumption) | exact Bt.nxt_bd (by assumption) | exact Bt.lst_bd (Bt.gst_bd (by assumption) (by assumption)) (by assumption) | exact Bt.btw_bd (by assumption) (Bt.lst_bd (by assumption) (by assumption)) (Bt.gst_bd (by assumption) (by assumption))))) (fun xq95 hq96 => ?_)
          refine GL.stepG (tj := 59) rfl rfl (Ex.wp (v := (.int .u32 r)) (Ex.move rfl) (by decide)) (fun _ _ => ?_)
          refine GL.stepG (tj := 59) rfl rfl (Stp.callR (vs := [(.int .u32 r)]) rfl rfl T.own36 (by decide) (fun wc hw => key_l r wc (by first | assumption | omega | exact Bt.lst_bd (by assumption) (by assumption) | exact Bt.gst_bd (by assumption) (by assumption) | exact Bt.key_bd (by assumption) | exact Bt.unkey_bd (by assumption) | exact Bt.nxt_bd (by assumption) | exact Bt.lst_bd (Bt.gst_bd (by assumption) (by assumption)) (by assumption) | exact Bt.btw_bd (by assumption) (Bt.lst_bd (by assumption) (by assumption)) (Bt.gst_bd (by assumption) (by assumption))))) (fun xq97 hq98 => ?_)
          refine GL.stepG (tj := 59) rfl rfl (Ex.wp (v := (.int .u32 g)) (Ex.move rfl) (by decide)) (fun _ _ => ?_)
          refine GL.stepG (tj := 59) rfl rfl (Stp.callR (vs := [(.int .u32 g)]) rfl rfl T.own36 (by decide) (fun wc hw => key_l g wc (by first | assumption | omega | exact Bt.lst_bd (by assumption) (by assumption) | exact Bt.gst_bd (by assumption) (by assumption) | exact Bt.key_bd (by assumption) | exact Bt.unkey_bd (by assumption) | exact Bt.nxt_bd (by assumption) | exact Bt.lst_bd (Bt.gst_bd (by assumption) (by assumption)) (by assumption) | exact Bt.btw_bd (by assumption) (Bt.lst_bd (by assumption) (by assumption)) (Bt.gst_bd (by assumption) (by assumption))))) (fun xq99 hq100 => ?_)
          refine GL.stepG (tj := 59) rfl rfl (Ex.wp (v := (.int .u32 b)) (Ex.move rfl) (by decide)) (fun _ _ => ?_)
          refine GL.stepG (tj := 59) rfl rfl (Stp.callR (vs := [(.int .u32 b)]) rfl rfl T.own36 (by decide) (fun wc hw => key_l b wc (by first | assumption | omega | exact Bt.lst_bd (by assumption) (by assumption) | exact Bt.gst_bd (by assumption) (by assumption) | exact Bt.key_bd (by assumption) | exact Bt.unkey_bd (by assumption) | exact Bt.nxt_bd (by assumption) | exact Bt.lst_bd (Bt.gst_bd (by assumption) (by assumption)) (by assumption) | exact Bt.btw_bd (by assumption) (Bt.lst_bd (by assumption) (by assumption)) (Bt.gst_bd (by assumption) (by assumption))))) (fun xq101 hq102 => ?_)
          refine GL.stepG (tj := 59) rfl rfl (Ex.wp (v := (.int .i64 (min (min ((Fv.rk r)) ((Fv.rk g))) ((Fv.rk b))))) (Ex.minI3 rfl rfl rfl (Z := min (min ((Fv.rk r)) ((Fv.rk g))) ((Fv.rk b))) (min643 _ _ _)) (by decide)) (fun _ _ => ?_)
          refine GL.stepG (tj := 59) rfl rfl (Ex.wp (v := (.bool true)) (Ex.cast (Ex.geq rfl rfl) (congrArg Value.bool (decide_eq_true (by omega)))) (by decide)) (fun _ _ => ?_)
          refine GL.val (v := (.bool true)) (Ex.pickT rfl rfl) (by decide) ?_
          refine GL.val (Ex.move rfl) (by decide) ?_
          refine GL.stepG (tj := 71) rfl rfl (Ex.wp (v := (.int .u32 ((Fv.T (Sl.yy r g b))))) (Ex.move rfl) (by decide)) (fun _ _ => ?_)
          refine GL.stepG (tj := 71) rfl rfl (Stp.callR (vs := [(.int .u32 ((Fv.T (Sl.yy r g b))))]) rfl rfl T.own36 (by decide) (fun wc hw => key_l ((Fv.T (Sl.yy r g b))) wc (by first | assumption | omega | exact Bt.lst_bd (by assumption) (by assumption) | exact Bt.gst_bd (by assumption) (by assumption) | exact Bt.key_bd (by assumption) | exact Bt.unkey_bd (by assumption) | exact Bt.nxt_bd (by assumption) | exact Bt.lst_bd (Bt.gst_bd (by assumption) (by assumption)) (by assumption) | exact Bt.btw_bd (by assumption) (Bt.lst_bd (by assumption) (by assumption)) (Bt.gst_bd (by assumption) (by assumption))))) (fun xq103 hq104 => ?_)
          refine GL.stepG (tj := 71) rfl rfl (Ex.wp (v := (.int .u32 r)) (Ex.move rfl) (by decide)) (fun _ _ => ?_)
          refine GL.stepG (tj := 71) rfl rfl (Stp.callR (vs := [(.int .u32 r)]) rfl rfl T.own36 (by decide) (fun wc hw => key_l r wc (by first | assumption | omega | exact Bt.lst_bd (by assumption) (by assumption) | exact Bt.gst_bd (by assumption) (by assumption) | exact Bt.key_bd (by assumption) | exact Bt.unkey_bd (by assumption) | exact Bt.nxt_bd (by assumption) | exact Bt.lst_bd (Bt.gst_bd (by assumption) (by assumption)) (by assumption) | exact Bt.btw_bd (by assumption) (Bt.lst_bd (by assumption) (by assumption)) (Bt.gst_bd (by assumption) (by assumption))))) (fun xq105 hq106 => ?_)
          refine GL.stepG (tj := 71) rfl rfl (Ex.wp (v := (.int .u32 g)) (Ex.move rfl) (by decide)) (fun _ _ => ?_)
          refine GL.stepG (tj := 71) rfl rfl (Stp.callR (vs := [(.int .u32 g)]) rfl rfl T.own36 (by decide) (fun wc hw => key_l g wc (by first | assumption | omega | exact Bt.lst_bd (by assumption) (by assumption) | exact Bt.gst_bd (by assumption) (by assumption) | exact Bt.key_bd (by assumption) | exact Bt.unkey_bd (by assumption) | exact Bt.nxt_bd (by assumption) | exact Bt.lst_bd (Bt.gst_bd (by assumption) (by assumption)) (by assumption) | exact Bt.btw_bd (by assumption) (Bt.lst_bd (by assumption) (by assumption)) (Bt.gst_bd (by assumption) (by assumption))))) (fun xq107 hq108 => ?_)
          refine GL.stepG (tj := 71) rfl rfl (Ex.wp (v := (.int .u32 b)) (Ex.move rfl) (by decide)) (fun _ _ => ?_)
          refine GL.stepG (tj := 71) rfl rfl (Stp.callR (vs := [(.int .u32 b)]) rfl rfl T.own36 (by decide) (fun wc hw => key_l b wc (by first | assumption | omega | exact Bt.lst_bd (by assumption) (by assumption) | exact Bt.gst_bd (by assumption) (by assumption) | exact Bt.key_bd (by assumption) | exact Bt.unkey_bd (by assumption) | exact Bt.nxt_bd (by assumption) | exact Bt.lst_bd (Bt.gst_bd (by assumption) (by assumption)) (by assumption) | exact Bt.btw_bd (by assumption) (Bt.lst_bd (by assumption) (by assumption)) (Bt.gst_bd (by assumption) (by assumption))))) (fun xq109 hq110 => ?_)
          refine GL.stepG (tj := 71) rfl rfl (Ex.wp (v := (.int .i64 (max (max ((Fv.rk r)) ((Fv.rk g))) ((Fv.rk b))))) (Ex.maxI3 rfl rfl rfl (Z := max (max ((Fv.rk r)) ((Fv.rk g))) ((Fv.rk b))) (max643 _ _ _)) (by decide)) (fun _ _ => ?_)
          refine GL.stepG (tj := 71) rfl rfl (Ex.wp (v := (.bool true)) (Ex.cast (Ex.leq rfl rfl) (congrArg Value.bool (decide_eq_true (by omega)))) (by decide)) (fun _ _ => ?_)
          refine GL.val (v := (.bool true)) (Ex.pickT rfl rfl) (by decide) ?_
          refine GL.val (Ex.assign rfl) (by decide) ?_
          refine GL.nil ?_
          refine GE.thenN ?_
          refine GC.ret ?_
          refine GC.ret1 rfl (Rv.tmp rfl) (fun wN HN => ?_)
          exact HN.ret () trivial (by first | rfl | simp) (List.nil_sublist _) rfl
      · refine GL.stepG (tj := 39) rfl rfl (Ex.wp (v := (.bool true)) (Ex.cast (Ex.not rfl) (congrArg Value.bool (congrArg (fun z => !z) (decide_eq_false hq87)))) (by decide)) (fun _ _ => ?_)
        refine GL.val (v := (.bool true)) (Ex.pickF rfl rfl) (by decide) ?_
        refine GL.val (Ex.move rfl) (by decide) ?_
        refine GL.skipG (tj := 44) rfl rfl rfl (by decide) ?_
        refine GL.skipG (tj := 44) rfl rfl rfl (by decide) ?_
        refine GL.skipG (tj := 44) rfl rfl rfl (by decide) ?_
        refine GL.val (v := (.bool true)) (Ex.pickT rfl rfl) (by decide) ?_
        refine GL.nil ?_
        refine GE.thenN ?_
        refine GC.cond rfl (fun _ => ?_) (fun hq111 => by cases hq111)
        refine GC.seq ?_
        refine GC.region ?_
        refine GL.val (Ex.assign rfl) (by decide) ?_
        refine GL.nil ?_
        refine GE.thenN ?_
        refine GC.ret ?_
        refine GE.thenR ?_
        refine GC.ret1 rfl (Rv.tmp rfl) (fun wN HN => ?_)
        exact HN.ret () trivial (by first | rfl | simp) (List.nil_sublist _) rfl
    · refine GL.val (v := (.bool true)) (Ex.cast (Ex.not rfl) (congrArg Value.bool (congrArg (fun z => !z) (decide_eq_false hq84)))) (by decide) ?_
      refine GL.val (Ex.move rfl) (by decide) ?_
      refine GL.skipG (tj := 39) rfl rfl rfl (by decide) ?_
      refine GL.skipG (tj := 39) rfl rfl rfl (by decide) ?_
      refine GL.skipG (tj := 39) rfl rfl rfl (by decide) ?_
      refine GL.val (v := (.bool true)) (Ex.pickT rfl rfl) (by decide) ?_
      refine GL.val (Ex.move rfl) (by decide) ?_
      refine GL.skipG (tj := 44) rfl rfl rfl (by decide) ?_
      refine GL.skipG (tj := 44) rfl rfl rfl (by decide) ?_
      refine GL.skipG (tj := 44) rfl rfl rfl (by decide) ?_
      refine GL.val (v := (.bool true)) (Ex.pickT rfl rfl) (by decide) ?_
      refine GL.nil ?_
      refine GE.thenN ?_
      refine GC.cond rfl (fun _ => ?_) (fun hq112 => by cases hq112)
      refine GC.seq ?_
      refine GC.region ?_
      refine GL.val (Ex.assign rfl) (by decide) ?_
      refine GL.nil ?_
      refine GE.thenN ?_
      refine GC.ret ?_
      refine GE.thenR ?_
      refine GC.ret1 rfl (Rv.tmp rfl) (fun wN HN => ?_)
      exact HN.ret () trivial (by first | rfl | simp) (List.nil_sublist _) rfl

end Go.Proofs.Ytbhjadkgeadpiaa.C
