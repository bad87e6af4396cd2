/- PlaneExtends: what its code does, walked. -/
import Derived.Test.YtileciohbhoehaaKExtends3
namespace Go.Proofs.Ytileciohbhoehaa.C
open Go Go.RowKit Sx
set_option linter.unusedVariables false
set_option maxRecDepth 100000 in
set_option maxHeartbeats 1000000 in
theorem ref_extend_neg (W H : Int) (ad : Option Addr) (n cap : Nat) (kd l t r u : Int) (w : World) (hc : chk W H n = 0) (hk : (bord kd 1 0).2 = 0) (hm : l < 0 ∨ t < 0 ∨ r < 0 ∨ u < 0) :
    Calls Try.prog 18 #[(.agg #[(.int .i64 W), (.int .i64 H), (.slice ad n cap)]), (.int .i64 kd), (.int .i64 l), (.int .i64 t), (.int .i64 r), (.int .i64 u)] w (Ret w (fun _ : Unit => True) (fun _ => .tuple #[(.agg #[(.int .i64 0), (.int .i64 0), (.slice none 0 0)]), .int .i64 52]) (fun _ => [])) := by
  refine enter (M := None) (L := []) (n := 137) (l := [(0, (.agg #[(.int .i64 W), (.int .i64 H), (.slice ad n cap)])), (1, (.int .i64 kd)), (2, (.int .i64 l)), (3, (.int .i64 t)), (4, (.int .i64 r)), (5, (.int .i64 u))]) Try.func18 rfl rfl (Args.cons rfl (Args.cons rfl (Args.cons rfl (Args.cons rfl (Args.cons rfl (Args.cons rfl (Args.nil _))))))) (Hp.start _ _) ?_
  refine GC.seq ?_
  refine GC.region ?_
  refine GL.step (Stp.box (cs := [(.int .i64 W), (.int .i64 H), (.slice ad n cap)]) rfl rfl (by decide)) (fun bq1 _ => ?_)
  refine GL.step (Stp.alloc T.zr32 (by decide)) (fun bq2 _ => ?_)
  refine GL.val (v := (.int .i64 0)) (Ex.assign rfl) (by decide) ?_
  refine GL.nil ?_
  refine GE.thenN ?_
  refine GC.seq ?_
  refine GC.region ?_
  refine GL.val (v := (.agg #[(.int .i64 W), (.int .i64 H), (.slice ad n cap)])) (Ex.loadA rfl T.ag32 T.sz32 (i := 1) rfl (vs := [(.int .i64 W), (.int .i64 H), (.slice ad n cap)]) rfl rfl) (by decide) ?_
  refine GL.step (Stp.callR (σ := Unit) (p := fun rz => True) (v := fun rz => (.int .i64 (chk W H n))) (N := fun rz => []) (vs := [(.agg #[(.int .i64 W), (.int .i64 H), (.slice ad n cap)])]) rfl rfl T.own35 (by decide) (fun wc hw => ref_check W H ad n cap wc)) (fun xq3 hq4 => ?_)
  refine GL.val (v := (.int .i64 (chk W H n))) (Ex.assign rfl) (by decide) ?_
  refine GL.nil ?_
  refine GE.thenN ?_
  refine GC.seq ?_
  refine GC.seq ?_
  refine GC.region ?_
  refine GL.val (v := (.int .i64 (chk W H n))) (Ex.move rfl) (by decide) ?_
  refine GL.val (v := (.bool (decide ((chk W H n) ≠ 0)))) (Ex.neq rfl rfl) (by decide) ?_
  refine GL.nil ?_
  refine GE.thenN ?_
  refine GC.cond rfl (fun hq5 => by exfalso; have hq5 := of_decide_eq_true hq5; omega) (fun _ => ?_)
  refine GC.skip ?_
  refine GE.thenN ?_
  refine GC.seq ?_
  refine GC.region ?_
  refine GL.val (v := (.int .i64 kd)) (Ex.move rfl) (by decide) ?_
  refine GL.step (Stp.callR (σ := Unit) (p := fun rz => True) (v := fun rz => (.tuple #[(.int .i64 ((bord kd 1 0).1)), (.int .i64 ((bord kd 1 0).2))])) (N := fun rz => []) (vs := [(.int .i64 kd), (.int .i64 1), (.int .i64 0)]) rfl rfl T.own15 (by decide) (fun wc hw => ref_border kd 1 0 wc)) (fun xq6 hq7 => ?_)
  refine GL.val (v := (.tuple #[(.int .i64 ((bord kd 1 0).1)), (.int .i64 ((bord kd 1 0).2))])) (Ex.move rfl) (by decide) ?_
  refine GL.val (v := (.int .i64 ((bord kd 1 0).1))) (Ex.extract rfl rfl) (by decide) ?_
  refine GL.val (v := (.int .i64 ((bord kd 1 0).2))) (Ex.extract rfl rfl) (by decide) ?_
  refine GL.val (v := (.int .i64 ((bord kd 1 0).2))) (Ex.assign rfl) (by decide) ?_
  refine GL.nil ?_
  refine GE.thenN ?_
  refine GC.seq ?_
  refine GC.seq ?_
  refine GC.region ?_
  refine GL.val (v := (.int .i64 ((bord kd 1 0).2))) (Ex.move rfl) (by decide) ?_
  refine GL.val (v := (.bool (decide (((bord kd 1 0).2) ≠ 0)))) (Ex.neq rfl rfl) (by decide) ?_
  refine GL.nil ?_
  refine GE.thenN ?_
  refine GC.cond rfl (fun hq8 => by exfalso; have hq8 := of_decide_eq_true hq8; omega) (fun _ => ?_)
  refine GC.skip ?_
  refine GE.thenN ?_
  refine GC.seq ?_
  refine GC.seq ?_
  refine GC.region ?_
  refine GL.val (v := (.int .i64 l)) (Ex.move rfl) (by decide) ?_
  by_cases hq9 : l < 0
  · refine GL.val (v := (.bool true)) (Ex.cast (Ex.lss rfl rfl) (congrArg Value.bool (decide_eq_true hq9))) (by decide) ?_
    refine GL.val (v := (.bool true)) (Ex.move rfl) (by decide) ?_
    refine GL.skipG (tj := 38) rfl rfl rfl (by decide) ?_
    refine GL.skipG (tj := 38) rfl rfl rfl (by decide) ?_
    refine GL.val (v := (.bool true)) (Ex.pickT rfl rfl) (by decide) ?_
    refine GL.val (v := (.bool true)) (Ex.move rfl) (by decide) ?_
    refine GL.skipG (tj := 42) rfl rfl rfl (by decide) ?_
    refine GL.skipG (tj := 42) rfl rfl rfl (by decide) ?_
    refine GL.val (v := (.bool true)) (Ex.pickT rfl rfl) (by decide) ?_
    refine GL.val (v := (.bool true)) (Ex.move rfl) (by decide) ?_
    refine GL.skipG (tj := 46) rfl rfl rfl (by decide) ?_
    refine GL.skipG (tj := 46) rfl rfl rfl (by decide) ?_
    refine GL.val (v := (.bool true)) (Ex.pickT rfl rfl) (by decide) ?_
    refine GL.nil ?_
    refine GE.thenN ?_
    refine GC.cond rfl (fun _ => ?_) (fun hq10 => by cases hq10)
    refine GC.seq ?_
    refine GC.region ?_
    refine GL.val (v := (.agg #[(.int .i64 0), (.int .i64 0), (.slice none 0 0)])) (Ex.build (vs := []) rfl (by first | rfl | kernel_rfl)) (by decide) ?_
    refine GL.step (Stp.storeL (i := 0) (L1 := [⟨bq2, [(.int .i64 0), (.int .i64 0), (.slice none 0 0)], 32, true⟩, ⟨bq1, [(.int .i64 W), (.int .i64 H), (.slice ad n cap)], 32, true⟩]) rfl rfl rfl T.sz32 rfl rfl rfl rfl) (fun _ _ => ?_)
    refine GL.val (v := (.int .i64 52)) (Ex.assign rfl) (by decide) ?_
    refine GL.nil ?_
    refine GE.thenN ?_
    refine GC.ret ?_
    refine GE.thenR ?_
    refine GC.ret2 rfl (Rv.cellA rfl T.ag32 T.sz32 (L := _) (i := 0) rfl (vs := [(.int .i64 0), (.int .i64 0), (.slice none 0 0)]) rfl rfl) (Rv.tmp rfl) (fun wN HN => ?_)
    exact HN.ret () trivial rfl (List.nil_sublist _) rfl
  · refine GL.val (v := (.bool false)) (Ex.cast (Ex.lss rfl rfl) (congrArg Value.bool (decide_eq_false hq9))) (by decide) ?_
    refine GL.val (v := (.bool false)) (Ex.move rfl) (by decide) ?_
    refine GL.stepG (tj := 38) rfl rfl (Ex.wp (v := (.int .i64 t)) (Ex.move rfl) (by decide)) (fun _ _ => ?_)
    by_cases hq11 : t < 0
    · refine GL.stepG (tj := 38) rfl rfl (Ex.wp (v := (.bool true)) (Ex.cast (Ex.lss rfl rfl) (congrArg Value.bool (decide_eq_true hq11))) (by decide)) (fun _ _ => ?_)
      refine GL.val (v := (.bool true)) (Ex.pickF rfl rfl) (by decide) ?_
      refine GL.val (v := (.bool true)) (Ex.move rfl) (by decide) ?_
      refine GL.skipG (tj := 42) rfl rfl rfl (by decide) ?_
      refine GL.skipG (tj := 42) rfl rfl rfl (by decide) ?_
      refine GL.val (v := (.bool true)) (Ex.pickT rfl rfl) (by decide) ?_
      refine GL.val (v := (.bool true)) (Ex.move rfl) (by decide) ?_
      refine GL.skipG (tj := 46) rfl rfl rfl (by decide) ?_
      refine GL.skipG (tj := 46) rfl rfl rfl (by decide) ?_
      refine GL.val (v := (.bool true)) (Ex.pickT rfl rfl) (by decide) ?_
      refine GL.nil ?_
      refine GE.thenN ?_
      refine GC.cond rfl (fun _ => ?_) (fun hq12 => by cases hq12)
      refine GC.seq ?_
      refine GC.region ?_
      refine GL.val (v := (.agg #[(.int .i64 0), (.int .i64 0), (.slice none 0 0)])) (Ex.build (vs := []) rfl (by first | rfl | kernel_rfl)) (by decide) ?_
      refine GL.step (Stp.storeL (i := 0) (L1 := [⟨bq2, [(.int .i64 0), (.int .i64 0), (.slice none 0 0)], 32, true⟩, ⟨bq1, [(.int .i64 W), (.int .i64 H), (.slice ad n cap)], 32, true⟩]) rfl rfl rfl T.sz32 rfl rfl rfl rfl) (fun _ _ => ?_)
      refine GL.val (v := (.int .i64 52)) (Ex.assign rfl) (by decide) ?_
      refine GL.nil ?_
      refine GE.thenN ?_
      refine GC.ret ?_
      refine GE.thenR ?_
      refine GC.ret2 rfl (Rv.cellA rfl T.ag32 T.sz32 (L := _) (i := 0) rfl (vs := [(.int .i64 0), (.int .i64 0), (.slice none 0 0)]) rfl rfl) (Rv.tmp rfl) (fun wN HN => ?_)
      exact HN.ret () trivial rfl (List.nil_sublist _) rfl
    · refine GL.stepG (tj := 38) rfl rfl (Ex.wp (v := (.bool false)) (Ex.cast (Ex.lss rfl rfl) (congrArg Value.bool (decide_eq_false hq11))) (by decide)) (fun _ _ => ?_)
      refine GL.val (v := (.bool false)) (Ex.pickF rfl rfl) (by decide) ?_
      refine GL.val (v := (.bool false)) (Ex.move rfl) (by decide) ?_
      refine GL.stepG (tj := 42) rfl rfl (Ex.wp (v := (.int .i64 r)) (Ex.move rfl) (by decide)) (fun _ _ => ?_)
      by_cases hq13 : r < 0
      · refine GL.stepG (tj := 42) rfl rfl (Ex.wp (v := (.bool true)) (Ex.cast (Ex.lss rfl rfl) (congrArg Value.bool (decide_eq_true hq13))) (by decide)) (fun _ _ => ?_)
        refine GL.val (v := (.bool true)) (Ex.pickF rfl rfl) (by decide) ?_
        refine GL.val (v := (.bool true)) (Ex.move rfl) (by decide) ?_
        refine GL.skipG (tj := 46) rfl rfl rfl (by decide) ?_
        refine GL.skipG (tj := 46) rfl rfl rfl (by decide) ?_
        refine GL.val (v := (.bool true)) (Ex.pickT rfl rfl) (by decide) ?_
        refine GL.nil ?_
        refine GE.thenN ?_
        refine GC.cond rfl (fun _ => ?_) (fun hq14 => by cases hq14)
        refine GC.seq ?_
        refine GC.region ?_
        refine GL.val (v := (.agg #[(.int .i64 0), (.int .i64 0), (.slice none 0 0)])) (Ex.build (vs := []) rfl (by first | rfl | kernel_rfl)) (by decide) ?_
        refine GL.step (Stp.storeL (i := 0) (L1 := [⟨bq2, [(.int .i64 0), (.int .i64 0), (.slice none 0 0)], 32, true⟩, ⟨bq1, [(.int .i64 W), (.int .i64 H), (.slice ad n cap)], 32, true⟩]) rfl rfl rfl T.sz32 rfl rfl rfl rfl) (fun _ _ => ?_)
        refine GL.val (v := (.int .i64 52)) (Ex.assign rfl) (by decide) ?_
        refine GL.nil ?_
        refine GE.thenN ?_
        refine GC.ret ?_
        refine GE.thenR ?_
        refine GC.ret2 rfl (Rv.cellA rfl T.ag32 T.sz32 (L := _) (i := 0) rfl (vs := [(.int .i64 0), (.int .i64 0), (.slice none 0 0)]) rfl rfl) (Rv.tmp rfl) (fun wN HN => ?_)
        exact HN.ret () trivial rfl (List.nil_sublist _) rfl
      · refine GL.stepG (tj := 42) rfl rfl (Ex.wp (v := (.bool false)) (Ex.cast (Ex.lss rfl rfl) (congrArg Value.bool (decide_eq_false hq13))) (by decide)) (fun _ _ => ?_)
        refine GL.val (v := (.bool false)) (Ex.pickF rfl rfl) (by decide) ?_
        refine GL.val (v := (.bool false)) (Ex.move rfl) (by decide) ?_
        refine GL.stepG (tj := 46) rfl rfl (Ex.wp (v := (.int .i64 u)) (Ex.move rfl) (by decide)) (fun _ _ => ?_)
        refine GL.stepG (tj := 46) rfl rfl (Ex.wp (v := (.bool (decide (u < 0)))) (Ex.lss rfl rfl) (by decide)) (fun _ _ => ?_)
        refine GL.val (v := (.bool (decide (u < 0)))) (Ex.pickF rfl rfl) (by decide) ?_
        refine GL.nil ?_
        refine GE.thenN ?_
        refine GC.cond rfl (fun hq15 => ?_) (fun hq15 => ?_)
        · replace hq15 := of_decide_eq_true hq15
          refine GC.seq ?_
          refine GC.region ?_
          refine GL.val (v := (.agg #[(.int .i64 0), (.int .i64 0), (.slice none 0 0)])) (Ex.build (vs := []) rfl (by first | rfl | kernel_rfl)) (by decide) ?_
          refine GL.step (Stp.storeL (i := 0) (L1 := [⟨bq2, [(.int .i64 0), (.int .i64 0), (.slice none 0 0)], 32, true⟩, ⟨bq1, [(.int .i64 W), (.int .i64 H), (.slice ad n cap)], 32, true⟩]) rfl rfl rfl T.sz32 rfl rfl rfl rfl) (fun _ _ => ?_)
          refine GL.val (v := (.int .i64 52)) (Ex.assign rfl) (by decide) ?_
          refine GL.nil ?_
          refine GE.thenN ?_
          refine GC.ret ?_
          refine GE.thenR ?_
          refine GC.ret2 rfl (Rv.cellA rfl T.ag32 T.sz32 (L := _) (i := 0) rfl (vs := [(.int .i64 0), (.int .i64 0), (.slice none 0 0)]) rfl rfl) (Rv.tmp rfl) (fun wN HN => ?_)
          exact HN.ret () trivial rfl (List.nil_sublist _) rfl
        · replace hq15 := of_decide_eq_false hq15
          exfalso; omega

set_option maxRecDepth 100000 in
set_option maxHeartbeats 1000000 in
theorem ref_extend_big (W H : Int) (ad : Option Addr) (n cap : Nat) (kd l t r u : Int) (w : World) (hc : chk W H n = 0) (hk : (bord kd 1 0).2 = 0) (hm : 0 ≤ l ∧ 0 ≤ t ∧ 0 ≤ r ∧ 0 ≤ u) (hs : ¬ ((l ≤ 1024 ∧ t ≤ 1024 ∧ r ≤ 1024 ∧ u ≤ 1024) ∧ sizeB (l + W + r) (t + H + u) = true)) :
    Calls Try.prog 18 #[(.agg #[(.int .i64 W), (.int .i64 H), (.slice ad n cap)]), (.int .i64 kd), (.int .i64 l), (.int .i64 t), (.int .i64 r), (.int .i64 u)] w (Ret w (fun _ : Unit => True) (fun _ => .tuple #[(.agg #[(.int .i64 0), (.int .i64 0), (.slice none 0 0)]), .int .i64 50]) (fun _ => [])) := by
  obtain ⟨w', h', hw', hh', hok, hn⟩ := chk_zero hc
  have hW2 := hok.2.2.1
  have hH2 := hok.2.2.2.1
  refine enter (M := None) (L := []) (n := 137) (l := [(0, (.agg #[(.int .i64 W), (.int .i64 H), (.slice ad n cap)])), (1, (.int .i64 kd)), (2, (.int .i64 l)), (3, (.int .i64 t)), (4, (.int .i64 r)), (5, (.int .i64 u))]) Try.func18 rfl rfl (Args.cons rfl (Args.cons rfl (Args.cons rfl (Args.cons rfl (Args.cons rfl (Args.cons rfl (Args.nil _))))))) (Hp.start _ _) ?_
  refine GC.seq ?_
  refine GC.region ?_
  refine GL.step (Stp.box (cs := [(.int .i64 W), (.int .i64 H), (.slice ad n cap)]) rfl rfl (by decide)) (fun bq1 _ => ?_)
  refine GL.step (Stp.alloc T.zr32 (by decide)) (fun bq2 _ => ?_)
  refine GL.val (v := (.int .i64 0)) (Ex.assign rfl) (by decide) ?_
  refine GL.nil ?_
  refine GE.thenN ?_
  refine GC.seq ?_
  refine GC.region ?_
  refine GL.val (v := (.agg #[(.int .i64 W), (.int .i64 H), (.slice ad n cap)])) (Ex.loadA rfl T.ag32 T.sz32 (i := 1) rfl (vs := [(.int .i64 W), (.int .i64 H), (.slice ad n cap)]) rfl rfl) (by decide) ?_
  refine GL.step (Stp.callR (σ := Unit) (p := fun rz => True) (v := fun rz => (.int .i64 (chk W H n))) (N := fun rz => []) (vs := [(.agg #[(.int .i64 W), (.int .i64 H), (.slice ad n cap)])]) rfl rfl T.own35 (by decide) (fun wc hw => ref_check W H ad n cap wc)) (fun xq3 hq4 => ?_)
  refine GL.val (v := (.int .i64 (chk W H n))) (Ex.assign rfl) (by decide) ?_
  refine GL.nil ?_
  refine GE.thenN ?_
  refine GC.seq ?_
  refine GC.seq ?_
  refine GC.region ?_
  refine GL.val (v := (.int .i64 (chk W H n))) (Ex.move rfl) (by decide) ?_
  refine GL.val (v := (.bool (decide ((chk W H n) ≠ 0)))) (Ex.neq rfl rfl) (by decide) ?_
  refine GL.nil ?_
  refine GE.thenN ?_
  refine GC.cond rfl (fun hq5 => by exfalso; have hq5 := of_decide_eq_true hq5; omega) (fun _ => ?_)
  refine GC.skip ?_
  refine GE.thenN ?_
  refine GC.seq ?_
  refine GC.region ?_
  refine GL.val (v := (.int .i64 kd)) (Ex.move rfl) (by decide) ?_
  refine GL.step (Stp.callR (σ := Unit) (p := fun rz => True) (v := fun rz => (.tuple #[(.int .i64 ((bord kd 1 0).1)), (.int .i64 ((bord kd 1 0).2))])) (N := fun rz => []) (vs := [(.int .i64 kd), (.int .i64 1), (.int .i64 0)]) rfl rfl T.own15 (by decide) (fun wc hw => ref_border kd 1 0 wc)) (fun xq6 hq7 => ?_)
  refine GL.val (v := (.tuple #[(.int .i64 ((bord kd 1 0).1)), (.int .i64 ((bord kd 1 0).2))])) (Ex.move rfl) (by decide) ?_
  refine GL.val (v := (.int .i64 ((bord kd 1 0).1))) (Ex.extract rfl rfl) (by decide) ?_
  refine GL.val (v := (.int .i64 ((bord kd 1 0).2))) (Ex.extract rfl rfl) (by decide) ?_
  refine GL.val (v := (.int .i64 ((bord kd 1 0).2))) (Ex.assign rfl) (by decide) ?_
  refine GL.nil ?_
  refine GE.thenN ?_
  refine GC.seq ?_
  refine GC.seq ?_
  refine GC.region ?_
  refine GL.val (v := (.int .i64 ((bord kd 1 0).2))) (Ex.move rfl) (by decide) ?_
  refine GL.val (v := (.bool (decide (((bord kd 1 0).2) ≠ 0)))) (Ex.neq rfl rfl) (by decide) ?_
  refine GL.nil ?_
  refine GE.thenN ?_
  refine GC.cond rfl (fun hq8 => by exfalso; have hq8 := of_decide_eq_true hq8; omega) (fun _ => ?_)
  refine GC.skip ?_
  refine GE.thenN ?_
  refine GC.seq ?_
  refine GC.seq ?_
  refine GC.region ?_
  refine GL.val (v := (.int .i64 l)) (Ex.move rfl) (by decide) ?_
  refine GL.val (v := (.bool false)) (Ex.cast (Ex.lss rfl rfl) (congrArg Value.bool (decide_eq_false (by omega)))) (by decide) ?_
  refine GL.val (v := (.bool false)) (Ex.move rfl) (by decide) ?_
  refine GL.stepG (tj := 38) rfl rfl (Ex.wp (v := (.int .i64 t)) (Ex.move rfl) (by decide)) (fun _ _ => ?_)
  refine GL.stepG (tj := 38) rfl rfl (Ex.wp (v := (.bool false)) (Ex.cast (Ex.lss rfl rfl) (congrArg Value.bool (decide_eq_false (by omega)))) (by decide)) (fun _ _ => ?_)
  refine GL.val (v := (.bool false)) (Ex.pickF rfl rfl) (by decide) ?_
  refine GL.val (v := (.bool false)) (Ex.move rfl) (by decide) ?_
  refine GL.stepG (tj := 42) rfl rfl (Ex.wp (v := (.int .i64 r)) (Ex.move rfl) (by decide)) (fun _ _ => ?_)
  refine GL.stepG (tj := 42) rfl rfl (Ex.wp (v := (.bool false)) (Ex.cast (Ex.lss rfl rfl) (congrArg Value.bool (decide_eq_false (by omega)))) (by decide)) (fun _ _ => ?_)
  refine GL.val (v := (.bool false)) (Ex.pickF rfl rfl) (by decide) ?_
  refine GL.val (v := (.bool false)) (Ex.move rfl) (by decide) ?_
  refine GL.stepG (tj := 46) rfl rfl (Ex.wp (v := (.int .i64 u)) (Ex.move rfl) (by decide)) (fun _ _ => ?_)
  refine GL.stepG (tj := 46) rfl rfl (Ex.wp (v := (.bool false)) (Ex.cast (Ex.lss rfl rfl) (congrArg Value.bool (decide_eq_false (by omega)))) (by decide)) (fun _ _ => ?_)
  refine GL.val (v := (.bool false)) (Ex.pickF rfl rfl) (by decide) ?_
  refine GL.nil ?_
  refine GE.thenN ?_
  refine GC.cond rfl (fun hq9 => by cases hq9) (fun _ => ?_)
  refine GC.skip ?_
  refine GE.thenN ?_
  refine GC.seq ?_
  refine GC.seq ?_
  refine GC.region ?_
  refine GL.val (v := (.int .i64 l)) (Ex.move rfl) (by decide) ?_
  by_cases hq10 : 1024 < l
  · refine GL.val (v := (.bool true)) (Ex.cast (Ex.gtr rfl rfl) (congrArg Value.bool (decide_eq_true hq10))) (by decide) ?_
    refine GL.val (v := (.bool true)) (Ex.move rfl) (by decide) ?_
    refine GL.skipG (tj := 53) rfl rfl rfl (by decide) ?_
    refine GL.skipG (tj := 53) rfl rfl rfl (by decide) ?_
    refine GL.val (v := (.bool true)) (Ex.pickT rfl rfl) (by decide) ?_
    refine GL.val (v := (.bool true)) (Ex.move rfl) (by decide) ?_
    refine GL.skipG (tj := 57) rfl rfl rfl (by decide) ?_
    refine GL.skipG (tj := 57) rfl rfl rfl (by decide) ?_
    refine GL.val (v := (.bool true)) (Ex.pickT rfl rfl) (by decide) ?_
    refine GL.val (v := (.bool true)) (Ex.move rfl) (by decide) ?_
    refine GL.skipG (tj := 61) rfl rfl rfl (by decide) ?_
    refine GL.skipG (tj := 61) rfl rfl rfl (by decide) ?_
    refine GL.val (v := (.bool true)) (Ex.pickT rfl rfl) (by decide) ?_
    refine GL.val (v := (.bool true)) (Ex.move rfl) (by decide) ?_
    refine GL.skipG (tj := 65) rfl rfl rfl (by decide) ?_
    refine GL.skipG (tj := 65) rfl rfl rfl (by decide) ?_
    refine GL.skipG (tj := 65) rfl rfl rfl (by decide) ?_
    refine GL.skipG (tj := 65) rfl rfl rfl (by decide) ?_
    refine GL.skipG (tj := 65) rfl rfl rfl (by decide) ?_
    refine GL.skipG (tj := 65) rfl rfl rfl (by decide) ?_
    refine GL.skipG (tj := 65) rfl rfl rfl (by decide) ?_
    refine GL.skipG (tj := 65) rfl rfl rfl (by decide) ?_
    refine GL.skipG (tj := 65) rfl rfl rfl (by decide) ?_
    refine GL.skipG (tj := 65) rfl rfl rfl (by decide) ?_
    refine GL.skipG (tj := 65) rfl rfl rfl (by decide) ?_
    refine GL.skipG (tj := 65) rfl rfl rfl (by decide) ?_
    refine GL.skipG (tj := 65) rfl rfl rfl (by decide) ?_
    refine GL.skipG (tj := 65) rfl rfl rfl (by decide) ?_
    refine GL.val (v := (.bool true)) (Ex.pickT rfl rfl) (by decide) ?_
    refine GL.nil ?_
    refine GE.thenN ?_
    refine GC.cond rfl (fun _ => ?_) (fun hq11 => by cases hq11)
    refine GC.seq ?_
    refine GC.region ?_
    refine GL.val (v := (.agg #[(.int .i64 0), (.int .i64 0), (.slice none 0 0)])) (Ex.build (vs := []) rfl (by first | rfl | kernel_rfl)) (by decide) ?_
    refine GL.step (Stp.storeL (i := 0) (L1 := [⟨bq2, [(.int .i64 0), (.int .i64 0), (.slice none 0 0)], 32, true⟩, ⟨bq1, [(.int .i64 W), (.int .i64 H), (.slice ad n cap)], 32, true⟩]) rfl rfl rfl T.sz32 rfl rfl rfl rfl) (fun _ _ => ?_)
    refine GL.val (v := (.int .i64 50)) (Ex.assign rfl) (by decide) ?_
    refine GL.nil ?_
    refine GE.thenN ?_
    refine GC.ret ?_
    refine GE.thenR ?_
    refine GC.ret2 rfl (Rv.cellA rfl T.ag32 T.sz32 (L := _) (i := 0) rfl (vs := [(.int .i64 0), (.int .i64 0), (.slice none 0 0)]) rfl rfl) (Rv.tmp rfl) (fun wN HN => ?_)
    exact HN.ret () trivial rfl (List.nil_sublist _) rfl
  · refine GL.val (v := (.bool false)) (Ex.cast (Ex.gtr rfl rfl) (congrArg Value.bool (decide_eq_false hq10))) (by decide) ?_
    refine GL.val (v := (.bool false)) (Ex.move rfl) (by decide) ?_
    refine GL.stepG (tj := 53) rfl rfl (Ex.wp (v := (.int .i64 t)) (Ex.move rfl) (by decide)) (fun _ _ => ?_)
    by_cases hq12 : 1024 < t
    · refine GL.stepG (tj := 53) rfl rfl (Ex.wp (v := (.bool true)) (Ex.cast (Ex.gtr rfl rfl) (congrArg Value.bool (decide_eq_true hq12))) (by decide)) (fun _ _ => ?_)
      refine GL.val (v := (.bool true)) (Ex.pickF rfl rfl) (by decide) ?_
      refine GL.val (v := (.bool true)) (Ex.move rfl) (by decide) ?_
      refine GL.skipG (tj := 57) rfl rfl rfl (by decide) ?_
      refine GL.skipG (tj := 57) rfl rfl rfl (by decide) ?_
      refine GL.val (v := (.bool true)) (Ex.pickT rfl rfl) (by decide) ?_
      refine GL.val (v := (.bool true)) (Ex.move rfl) (by decide) ?_
      refine GL.skipG (tj := 61) rfl rfl rfl (by decide) ?_
      refine GL.skipG (tj := 61) rfl rfl rfl (by decide) ?_
      refine GL.val (v := (.bool true)) (Ex.pickT rfl rfl) (by decide) ?_
      refine GL.val (v := (.bool true)) (Ex.move rfl) (by decide) ?_
      refine GL.skipG (tj := 65) rfl rfl rfl (by decide) ?_
      refine GL.skipG (tj := 65) rfl rfl rfl (by decide) ?_
      refine GL.skipG (tj := 65) rfl rfl rfl (by decide) ?_
      refine GL.skipG (tj := 65) rfl rfl rfl (by decide) ?_
      refine GL.skipG (tj := 65) rfl rfl rfl (by decide) ?_
      refine GL.skipG (tj := 65) rfl rfl rfl (by decide) ?_
      refine GL.skipG (tj := 65) rfl rfl rfl (by decide) ?_
      refine GL.skipG (tj := 65) rfl rfl rfl (by decide) ?_
      refine GL.skipG (tj := 65) rfl rfl rfl (by decide) ?_
      refine GL.skipG (tj := 65) rfl rfl rfl (by decide) ?_
      refine GL.skipG (tj := 65) rfl rfl rfl (by decide) ?_
      refine GL.skipG (tj := 65) rfl rfl rfl (by decide) ?_
      refine GL.skipG (tj := 65) rfl rfl rfl (by decide) ?_
      refine GL.skipG (tj := 65) rfl rfl rfl (by decide) ?_
      refine GL.val (v := (.bool true)) (Ex.pickT rfl rfl) (by decide) ?_
      refine GL.nil ?_
      refine GE.thenN ?_
      refine GC.cond rfl (fun _ => ?_) (fun hq13 => by cases hq13)
      refine GC.seq ?_
      refine GC.region ?_
      refine GL.val (v := (.agg #[(.int .i64 0), (.int .i64 0), (.slice none 0 0)])) (Ex.build (vs := []) rfl (by first | rfl | kernel_rfl)) (by decide) ?_
      refine GL.step (Stp.storeL (i := 0) (L1 := [⟨bq2, [(.int .i64 0), (.int .i64 0), (.slice none 0 0)], 32, true⟩, ⟨bq1, [(.int .i64 W), (.int .i64 H), (.slice ad n cap)], 32, true⟩]) rfl rfl rfl T.sz32 rfl rfl rfl rfl) (fun _ _ => ?_)
      refine GL.val (v := (.int .i64 50)) (Ex.assign rfl) (by decide) ?_
      refine GL.nil ?_
      refine GE.thenN ?_
      refine GC.ret ?_
      refine GE.thenR ?_
      refine GC.ret2 rfl (Rv.cellA rfl T.ag32 T.sz32 (L := _) (i := 0) rfl (vs := [(.int .i64 0), (.int .i64 0), (.slice none 0 0)]) rfl rfl) (Rv.tmp rfl) (fun wN HN => ?_)
      exact HN.ret () trivial rfl (List.nil_sublist _) rfl
    · refine GL.stepG (tj := 53) rfl rfl (Ex.wp (v := (.bool false)) (Ex.cast (Ex.gtr rfl rfl) (congrArg Value.bool (decide_eq_false hq12))) (by decide)) (fun _ _ => ?_)
      refine GL.val (v := (.bool false)) (Ex.pickF rfl rfl) (by decide) ?_
      refine GL.val (v := (.bool false)) (Ex.move rfl) (by decide) ?_
      refine GL.stepG (tj := 57) rfl rfl (Ex.wp (v := (.int .i64 r)) (Ex.move rfl) (by decide)) (fun _ _ => ?_)
      by_cases hq14 : 1024 < r
      · refine GL.stepG (tj := 57) rfl rfl (Ex.wp (v := (.bool true)) (Ex.cast (Ex.gtr rfl rfl) (congrArg Value.bool (decide_eq_true hq14))) (by decide)) (fun _ _ => ?_)
        refine GL.val (v := (.bool true)) (Ex.pickF rfl rfl) (by decide) ?_
        refine GL.val (v := (.bool true)) (Ex.move rfl) (by decide) ?_
        refine GL.skipG (tj := 61) rfl rfl rfl (by decide) ?_
        refine GL.skipG (tj := 61) rfl rfl rfl (by decide) ?_
        refine GL.val (v := (.bool true)) (Ex.pickT rfl rfl) (by decide) ?_
        refine GL.val (v := (.bool true)) (Ex.move rfl) (by decide) ?_
        refine GL.skipG (tj := 65) rfl rfl rfl (by decide) ?_
        refine GL.skipG (tj := 65) rfl rfl rfl (by decide) ?_
        refine GL.skipG (tj := 65) rfl rfl rfl (by decide) ?_
        refine GL.skipG (tj := 65) rfl rfl rfl (by decide) ?_
        refine GL.skipG (tj := 65) rfl rfl rfl (by decide) ?_
        refine GL.skipG (tj := 65) rfl rfl rfl (by decide) ?_
        refine GL.skipG (tj := 65) rfl rfl rfl (by decide) ?_
        refine GL.skipG (tj := 65) rfl rfl rfl (by decide) ?_
        refine GL.skipG (tj := 65) rfl rfl rfl (by decide) ?_
        refine GL.skipG (tj := 65) rfl rfl rfl (by decide) ?_
        refine GL.skipG (tj := 65) rfl rfl rfl (by decide) ?_
        refine GL.skipG (tj := 65) rfl rfl rfl (by decide) ?_
        refine GL.skipG (tj := 65) rfl rfl rfl (by decide) ?_
        refine GL.skipG (tj := 65) rfl rfl rfl (by decide) ?_
        refine GL.val (v := (.bool true)) (Ex.pickT rfl rfl) (by decide) ?_
        refine GL.nil ?_
        refine GE.thenN ?_
        refine GC.cond rfl (fun _ => ?_) (fun hq15 => by cases hq15)
        refine GC.seq ?_
        refine GC.region ?_
        refine GL.val (v := (.agg #[(.int .i64 0), (.int .i64 0), (.slice none 0 0)])) (Ex.build (vs := []) rfl (by first | rfl | kernel_rfl)) (by decide) ?_
        refine GL.step (Stp.storeL (i := 0) (L1 := [⟨bq2, [(.int .i64 0), (.int .i64 0), (.slice none 0 0)], 32, true⟩, ⟨bq1, [(.int .i64 W), (.int .i64 H), (.slice ad n cap)], 32, true⟩]) rfl rfl rfl T.sz32 rfl rfl rfl rfl) (fun _ _ => ?_)
        refine GL.val (v := (.int .i64 50)) (Ex.assign rfl) (by decide) ?_
        refine GL.nil ?_
        refine GE.thenN ?_
        refine GC.ret ?_
        refine GE.thenR ?_
        refine GC.ret2 rfl (Rv.cellA rfl T.ag32 T.sz32 (L := _) (i := 0) rfl (vs := [(.int .i64 0), (.int .i64 0), (.slice none 0 0)]) rfl rfl) (Rv.tmp rfl) (fun wN HN => ?_)
        exact HN.ret () trivial rfl (List.nil_sublist _) rfl
      · refine GL.stepG (tj := 57) rfl rfl (Ex.wp (v := (.bool false)) (Ex.cast (Ex.gtr rfl rfl) (congrArg Value.bool (decide_eq_false hq14))) (by decide)) (fun _ _ => ?_)
        refine GL.val (v := (.bool false)) (Ex.pickF rfl rfl) (by decide) ?_
        refine GL.val (v := (.bool false)) (Ex.move rfl) (by decide) ?_
        refine GL.stepG (tj := 61) rfl rfl (Ex.wp (v := (.int .i64 u)) (Ex.move rfl) (by decide)) (fun _ _ => ?_)
        by_cases hq16 : 1024 < u
        · refine GL.stepG (tj := 61) rfl rfl (Ex.wp (v := (.bool true)) (Ex.cast (Ex.gtr rfl rfl) (congrArg Value.bool (decide_eq_true hq16))) (by decide)) (fun _ _ => ?_)
          refine GL.val (v := (.bool true)) (Ex.pickF rfl rfl) (by decide) ?_
          refine GL.val (v := (.bool true)) (Ex.move rfl) (by decide) ?_
          refine GL.skipG (tj := 65) rfl rfl rfl (by decide) ?_
          refine GL.skipG (tj := 65) rfl rfl rfl (by decide) ?_
          refine GL.skipG (tj := 65) rfl rfl rfl (by decide) ?_
          refine GL.skipG (tj := 65) rfl rfl rfl (by decide) ?_
          refine GL.skipG (tj := 65) rfl rfl rfl (by decide) ?_
          refine GL.skipG (tj := 65) rfl rfl rfl (by decide) ?_
          refine GL.skipG (tj := 65) rfl rfl rfl (by decide) ?_
          refine GL.skipG (tj := 65) rfl rfl rfl (by decide) ?_
          refine GL.skipG (tj := 65) rfl rfl rfl (by decide) ?_
          refine GL.skipG (tj := 65) rfl rfl rfl (by decide) ?_
          refine GL.skipG (tj := 65) rfl rfl rfl (by decide) ?_
          refine GL.skipG (tj := 65) rfl rfl rfl (by decide) ?_
          refine GL.skipG (tj := 65) rfl rfl rfl (by decide) ?_
          refine GL.skipG (tj := 65) rfl rfl rfl (by decide) ?_
          refine GL.val (v := (.bool true)) (Ex.pickT rfl rfl) (by decide) ?_
          refine GL.nil ?_
          refine GE.thenN ?_
          refine GC.cond rfl (fun _ => ?_) (fun hq17 => by cases hq17)
          refine GC.seq ?_
          refine GC.region ?_
          refine GL.val (v := (.agg #[(.int .i64 0), (.int .i64 0), (.slice none 0 0)])) (Ex.build (vs := []) rfl (by first | rfl | kernel_rfl)) (by decide) ?_
          refine GL.step (Stp.storeL (i := 0) (L1 := [⟨bq2, [(.int .i64 0), (.int .i64 0), (.slice none 0 0)], 32, true⟩, ⟨bq1, [(.int .i64 W), (.int .i64 H), (.slice ad n cap)], 32, true⟩]) rfl rfl rfl T.sz32 rfl rfl rfl rfl) (fun _ _ => ?_)
          refine GL.val (v := (.int .i64 50)) (Ex.assign rfl) (by decide) ?_
          refine GL.nil ?_
          refine GE.thenN ?_
          refine GC.ret ?_
          refine GE.thenR ?_
          refine GC.ret2 rfl (Rv.cellA rfl T.ag32 T.sz32 (L := _) (i := 0) rfl (vs := [(.int .i64 0), (.int .i64 0), (.slice none 0 0)]) rfl rfl) (Rv.tmp rfl) (fun wN HN => ?_)
          exact HN.ret () trivial rfl (List.nil_sublist _) rfl
        · refine GL.stepG (tj := 61) rfl rfl (Ex.wp (v := (.bool false)) (Ex.cast (Ex.gtr rfl rfl) (congrArg Value.bool (decide_eq_false hq16))) (by decide)) (fun _ _ => ?_)
          refine GL.val (v := (.bool false)) (Ex.pickF rfl rfl) (by decide) ?_
          refine GL.val (v := (.bool false)) (Ex.move rfl) (by decide) ?_
          refine GL.stepG (tj := 65) rfl rfl (Ex.wp (v := (.int .i64 l)) (Ex.move rfl) (by decide)) (fun _ _ => ?_)
          refine GL.stepG (tj := 65) rfl rfl (Ex.wp (v := (.pointer (some ⟨bq1, 0, none⟩))) (Ex.cast (Ex.fieldAddr rfl Try.underlying32 rfl T.sz3 (by decide)) rfl) (by decide)) (fun _ _ => ?_)
          refine GL.stepG (tj := 65) rfl rfl (Ex.wp (v := (.int .i64 W)) (Ex.load rfl T.ag3 (i := 1) rfl rfl) (by decide)) (fun _ _ => ?_)
          refine GL.stepG (tj := 65) rfl rfl (Ex.wp (v := (.int .i64 (l + W))) (Ex.add rfl rfl (Z := l + W) (w64 (by omega))) (by decide)) (fun _ _ => ?_)
          refine GL.stepG (tj := 65) rfl rfl (Ex.wp (v := (.int .i64 r)) (Ex.move rfl) (by decide)) (fun _ _ => ?_)
          refine GL.stepG (tj := 65) rfl rfl (Ex.wp (v := (.int .i64 ((l + W) + r))) (Ex.add rfl rfl (Z := (l + W) + r) (w64 (by omega))) (by decide)) (fun _ _ => ?_)
          refine GL.stepG (tj := 65) rfl rfl (Ex.wp (v := (.int .i64 t)) (Ex.move rfl) (by decide)) (fun _ _ => ?_)
          refine GL.stepG (tj := 65) rfl rfl (Ex.wp (v := (.pointer (some ⟨bq1, 1, none⟩))) (Ex.cast (Ex.fieldAddr rfl Try.underlying32 rfl T.sz3 (by decide)) rfl) (by decide)) (fun _ _ => ?_)
          refine GL.stepG (tj := 65) rfl rfl (Ex.wp (v := (.int .i64 H)) (Ex.load rfl T.ag3 (i := 1) rfl rfl) (by decide)) (fun _ _ => ?_)
          refine GL.stepG (tj := 65) rfl rfl (Ex.wp (v := (.int .i64 (t + H))) (Ex.add rfl rfl (Z := t + H) (w64 (by omega))) (by decide)) (fun _ _ => ?_)
          refine GL.stepG (tj := 65) rfl rfl (Ex.wp (v := (.int .i64 u)) (Ex.move rfl) (by decide)) (fun _ _ => ?_)
          refine GL.stepG (tj := 65) rfl rfl (Ex.wp (v := (.int .i64 ((t + H) + u))) (Ex.add rfl rfl (Z := (t + H) + u) (w64 (by omega))) (by decide)) (fun _ _ => ?_)
          refine GL.stepG (tj := 65) rfl rfl (Stp.callR (σ := Unit) (p := fun rz => True) (v := fun rz => (.bool false)) (N := fun rz => []) (vs := [(.int .i64 ((l + W) + r)), (.int .i64 ((t + H) + u))]) rfl rfl T.own47 (by decide) (fun wc hw => (by have h := ref_size (l + W + r) (t + H + u) wc; rw [show sizeB (l + W + r) (t + H + u) = false from Bool.eq_false_iff.2 (fun e => hs ⟨⟨by omega, by omega, by omega, by omega⟩, e⟩)] at h; exact h))) (fun xq18 hq19 => ?_)
          refine GL.stepG (tj := 65) rfl rfl (Ex.wp (v := (.bool true)) (Ex.cast (Ex.not rfl) rfl) (by decide)) (fun _ _ => ?_)
          refine GL.val (v := (.bool true)) (Ex.pickF rfl rfl) (by decide) ?_
          refine GL.nil ?_
          refine GE.thenN ?_
          refine GC.cond rfl (fun _ => ?_) (fun hq20 => by cases hq20)
          refine GC.seq ?_
          refine GC.region ?_
          refine GL.val (v := (.agg #[(.int .i64 0), (.int .i64 0), (.slice none 0 0)])) (Ex.build (vs := []) rfl (by first | rfl | kernel_rfl)) (by decide) ?_
          refine GL.step (Stp.storeL (i := 0) (L1 := [⟨bq2, [(.int .i64 0), (.int .i64 0), (.slice none 0 0)], 32, true⟩, ⟨bq1, [(.int .i64 W), (.int .i64 H), (.slice ad n cap)], 32, true⟩]) rfl rfl rfl T.sz32 rfl rfl rfl rfl) (fun _ _ => ?_)
          refine GL.val (v := (.int .i64 50)) (Ex.assign rfl) (by decide) ?_
          refine GL.nil ?_
          refine GE.thenN ?_
          refine GC.ret ?_
          refine GE.thenR ?_
          refine GC.ret2 rfl (Rv.cellA rfl T.ag32 T.sz32 (L := _) (i := 0) rfl (vs := [(.int .i64 0), (.int .i64 0), (.slice none 0 0)]) rfl rfl) (Rv.tmp rfl) (fun wN HN => ?_)
          exact HN.ret () trivial rfl (List.nil_sublist _) rfl

set_option maxRecDepth 100000 in
set_option maxHeartbeats 1000000 in
theorem ref_eq_ne (W1 H1 : Int) (ad1 : Option Addr) (n1 cap1 : Nat) (W2 H2 : Int) (ad2 : Option Addr) (n2 cap2 : Nat) (w : World) (h : n1 ≠ n2 ∨ n1 = 0) :
    Calls Try.prog 26 #[(.agg #[(.int .i64 W1), (.int .i64 H1), (.slice ad1 n1 cap1)]), (.agg #[(.int .i64 W2), (.int .i64 H2), (.slice ad2 n2 cap2)])] w (Ret w (fun _ : Unit => True) (fun _ => .bool (decide (W1 = W2 ∧ H1 = H2 ∧ n1 = n2))) (fun _ => [])) := by
  refine enter (M := None) (L := []) (n := 45) (l := [(0, (.agg #[(.int .i64 W1), (.int .i64 H1), (.slice ad1 n1 cap1)])), (1, (.agg #[(.int .i64 W2), (.int .i64 H2), (.slice ad2 n2 cap2)]))]) Try.func26 rfl rfl (Args.cons rfl (Args.cons rfl (Args.nil _))) (Hp.start _ _) ?_
  refine GC.seq ?_
  refine GC.region ?_
  refine GL.step (Stp.box (cs := [(.int .i64 W1), (.int .i64 H1), (.slice ad1 n1 cap1)]) rfl rfl (by decide)) (fun bq1 _ => ?_)
  refine GL.step (Stp.box (cs := [(.int .i64 W2), (.int .i64 H2), (.slice ad2 n2 cap2)]) rfl rfl (by decide)) (fun bq2 _ => ?_)
  refine GL.val (v := (.bool false)) (Ex.assign rfl) (by decide) ?_
  refine GL.nil ?_
  refine GE.thenN ?_
  refine GC.seq ?_
  refine GC.seq ?_
  refine GC.region ?_
  refine GL.val (v := (.pointer (some ⟨bq1, 0, none⟩))) (Ex.cast (Ex.fieldAddr rfl Try.underlying32 rfl T.sz3 (by decide)) rfl) (by decide) ?_
  refine GL.val (v := (.int .i64 W1)) (Ex.load rfl T.ag3 (i := 1) rfl rfl) (by decide) ?_
  refine GL.val (v := (.pointer (some ⟨bq2, 0, none⟩))) (Ex.cast (Ex.fieldAddr rfl Try.underlying32 rfl T.sz3 (by decide)) rfl) (by decide) ?_
  refine GL.val (v := (.int .i64 W2)) (Ex.load rfl T.ag3 (i := 0) rfl rfl) (by decide) ?_
  by_cases hq3 : W1 ≠ W2
  · refine GL.val (v := (.bool true)) (Ex.cast (Ex.neq rfl rfl) (congrArg Value.bool (decide_eq_true hq3))) (by decide) ?_
    refine GL.val (v := (.bool true)) (Ex.move rfl) (by decide) ?_
    refine GL.skipG (tj := 11) rfl rfl rfl (by decide) ?_
    refine GL.skipG (tj := 11) rfl rfl rfl (by decide) ?_
    refine GL.skipG (tj := 11) rfl rfl rfl (by decide) ?_
    refine GL.skipG (tj := 11) rfl rfl rfl (by decide) ?_
    refine GL.skipG (tj := 11) rfl rfl rfl (by decide) ?_
    refine GL.val (v := (.bool true)) (Ex.pickT rfl rfl) (by decide) ?_
    refine GL.val (v := (.bool true)) (Ex.move rfl) (by decide) ?_
    refine GL.skipG (tj := 18) rfl rfl rfl (by decide) ?_
    refine GL.skipG (tj := 18) rfl rfl rfl (by decide) ?_
    refine GL.skipG (tj := 18) rfl rfl rfl (by decide) ?_
    refine GL.skipG (tj := 18) rfl rfl rfl (by decide) ?_
    refine GL.skipG (tj := 18) rfl rfl rfl (by decide) ?_
    refine GL.skipG (tj := 18) rfl rfl rfl (by decide) ?_
    refine GL.skipG (tj := 18) rfl rfl rfl (by decide) ?_
    refine GL.val (v := (.bool true)) (Ex.pickT rfl rfl) (by decide) ?_
    refine GL.nil ?_
    refine GE.thenN ?_
    refine GC.cond rfl (fun _ => ?_) (fun hq4 => by cases hq4)
    refine GC.seq ?_
    refine GC.region ?_
    refine GL.val (v := (.bool false)) (Ex.assign rfl) (by decide) ?_
    refine GL.nil ?_
    refine GE.thenN ?_
    refine GC.ret ?_
    refine GE.thenR ?_
    refine GC.ret1 rfl (Rv.tmp rfl) (fun wN HN => ?_)
    exact HN.ret () trivial (congrArg Value.bool (by first | exact (decide_eq_true (by omega)).symm | exact (decide_eq_false (by omega)).symm)) (List.nil_sublist _) rfl
  · refine GL.val (v := (.bool false)) (Ex.cast (Ex.neq rfl rfl) (congrArg Value.bool (decide_eq_false hq3))) (by decide) ?_
    refine GL.val (v := (.bool false)) (Ex.move rfl) (by decide) ?_
    refine GL.stepG (tj := 11) rfl rfl (Ex.wp (v := (.pointer (some ⟨bq1, 1, none⟩))) (Ex.cast (Ex.fieldAddr rfl Try.underlying32 rfl T.sz3 (by decide)) rfl) (by decide)) (fun _ _ => ?_)
    refine GL.stepG (tj := 11) rfl rfl (Ex.wp (v := (.int .i64 H1)) (Ex.load rfl T.ag3 (i := 1) rfl rfl) (by decide)) (fun _ _ => ?_)
    refine GL.stepG (tj := 11) rfl rfl (Ex.wp (v := (.pointer (some ⟨bq2, 1, none⟩))) (Ex.cast (Ex.fieldAddr rfl Try.underlying32 rfl T.sz3 (by decide)) rfl) (by decide)) (fun _ _ => ?_)
    refine GL.stepG (tj := 11) rfl rfl (Ex.wp (v := (.int .i64 H2)) (Ex.load rfl T.ag3 (i := 0) rfl rfl) (by decide)) (fun _ _ => ?_)
    by_cases hq5 : H1 ≠ H2
    · refine GL.stepG (tj := 11) rfl rfl (Ex.wp (v := (.bool true)) (Ex.cast (Ex.neq rfl rfl) (congrArg Value.bool (decide_eq_true hq5))) (by decide)) (fun _ _ => ?_)
      refine GL.val (v := (.bool true)) (Ex.pickF rfl rfl) (by decide) ?_
      refine GL.val (v := (.bool true)) (Ex.move rfl) (by decide) ?_
      refine GL.skipG (tj := 18) rfl rfl rfl (by decide) ?_
      refine GL.skipG (tj := 18) rfl rfl rfl (by decide) ?_
      refine GL.skipG (tj := 18) rfl rfl rfl (by decide) ?_
      refine GL.skipG (tj := 18) rfl rfl rfl (by decide) ?_
      refine GL.skipG (tj := 18) rfl rfl rfl (by decide) ?_
      refine GL.skipG (tj := 18) rfl rfl rfl (by decide) ?_
      refine GL.skipG (tj := 18) rfl rfl rfl (by decide) ?_
      refine GL.val (v := (.bool true)) (Ex.pickT rfl rfl) (by decide) ?_
      refine GL.nil ?_
      refine GE.thenN ?_
      refine GC.cond rfl (fun _ => ?_) (fun hq6 => by cases hq6)
      refine GC.seq ?_
      refine GC.region ?_
      refine GL.val (v := (.bool false)) (Ex.assign rfl) (by decide) ?_
      refine GL.nil ?_
      refine GE.thenN ?_
      refine GC.ret ?_
      refine GE.thenR ?_
      refine GC.ret1 rfl (Rv.tmp rfl) (fun wN HN => ?_)
      exact HN.ret () trivial (congrArg Value.bool (by first | exact (decide_eq_true (by omega)).symm | exact (decide_eq_false (by omega)).symm)) (List.nil_sublist _) rfl
    · refine GL.stepG (tj := 11) rfl rfl (Ex.wp (v := (.bool false)) (Ex.cast (Ex.neq rfl rfl) (congrArg Value.bool (decide_eq_false hq5))) (by decide)) (fun _ _ => ?_)
      refine GL.val (v := (.bool false)) (Ex.pickF rfl rfl) (by decide) ?_
      refine GL.val (v := (.bool false)) (Ex.move rfl) (by decide) ?_
      refine GL.stepG (tj := 18) rfl rfl (Ex.wp (v := (.pointer (some ⟨bq1, 2, none⟩))) (Ex.cast (Ex.fieldAddr rfl Try.underlying32 rfl T.sz30 (by decide)) rfl) (by decide)) (fun _ _ => ?_)
      refine GL.stepG (tj := 18) rfl rfl (Ex.wp (v := (.slice ad1 n1 cap1)) (Ex.load rfl T.ag30 (i := 1) rfl rfl) (by decide)) (fun _ _ => ?_)
      refine GL.stepG (tj := 18) rfl rfl (Ex.wp (v := (.int .i64 ((n1 : Int)))) (Ex.len rfl Try.underlying30) (by decide)) (fun _ _ => ?_)
      refine GL.stepG (tj := 18) rfl rfl (Ex.wp (v := (.pointer (some ⟨bq2, 2, none⟩))) (Ex.cast (Ex.fieldAddr rfl Try.underlying32 rfl T.sz30 (by decide)) rfl) (by decide)) (fun _ _ => ?_)
      refine GL.stepG (tj := 18) rfl rfl (Ex.wp (v := (.slice ad2 n2 cap2)) (Ex.load rfl T.ag30 (i := 0) rfl rfl) (by decide)) (fun _ _ => ?_)
      refine GL.stepG (tj := 18) rfl rfl (Ex.wp (v := (.int .i64 ((n2 : Int)))) (Ex.len rfl Try.underlying30) (by decide)) (fun _ _ => ?_)
      refine GL.stepG (tj := 18) rfl rfl (Ex.wp (v := (.bool (decide (((n1 : Int)) ≠ ((n2 : Int)))))) (Ex.neq rfl rfl) (by decide)) (fun _ _ => ?_)
      refine GL.val (v := (.bool (decide (((n1 : Int)) ≠ ((n2 : Int)))))) (Ex.pickF rfl rfl) (by decide) ?_
      refine GL.nil ?_
      refine GE.thenN ?_
      refine GC.cond rfl (fun hq7 => ?_) (fun hq7 => ?_)
      · replace hq7 := of_decide_eq_true hq7
        refine GC.seq ?_
        refine GC.region ?_
        refine GL.val (v := (.bool false)) (Ex.assign rfl) (by decide) ?_
        refine GL.nil ?_
        refine GE.thenN ?_
        refine GC.ret ?_
        refine GE.thenR ?_
        refine GC.ret1 rfl (Rv.tmp rfl) (fun wN HN => ?_)
        exact HN.ret () trivial (congrArg Value.bool (by first | exact (decide_eq_true (by omega)).symm | exact (decide_eq_false (by omega)).symm)) (List.nil_sublist _) rfl
      · replace hq7 := of_decide_eq_false hq7
        refine GC.skip ?_
        refine GE.thenN ?_
        refine GC.seq ?_
        refine GC.seq ?_
        refine GC.region ?_
        refine GL.val (v := (.int .i64 0)) (Ex.assign rfl) (by decide) ?_
        refine GL.nil ?_
        refine GE.thenN ?_
        refine GC.block ?_
        refine GC.unroll 1 ?_
        refine GE.round ?_
        refine GC.seq ?_
        refine GC.seq ?_
        refine GC.region ?_
        refine GL.val (v := (.int .i64 0)) (Ex.move rfl) (by decide) ?_
        refine GL.val (v := (.pointer (some ⟨bq1, 2, none⟩))) (Ex.cast (Ex.fieldAddr rfl Try.underlying32 rfl T.sz30 (by decide)) rfl) (by decide) ?_
        refine GL.val (v := (.slice ad1 n1 cap1)) (Ex.load rfl T.ag30 (i := 1) rfl rfl) (by decide) ?_
        refine GL.val (v := (.int .i64 ((n1 : Int)))) (Ex.len rfl Try.underlying30) (by decide) ?_
        refine GL.val (v := (.bool (decide (0 < ((n1 : Int)))))) (Ex.lss rfl rfl) (by decide) ?_
        refine GL.nil ?_
        refine GE.thenN ?_
        refine GC.cond rfl (fun hq8 => by exfalso; have hq8 := of_decide_eq_true hq8; omega) (fun _ => ?_)
        refine GC.exit ?_
        refine GE.thenE ?_
        refine GE.thenE ?_
        refine GE.blockE ?_
        refine GE.thenN ?_
        refine GC.seq ?_
        refine GC.region ?_
        refine GL.val (v := (.bool true)) (Ex.assign rfl) (by decide) ?_
        refine GL.nil ?_
        refine GE.thenN ?_
        refine GC.ret ?_
        refine GC.ret1 rfl (Rv.tmp rfl) (fun wN HN => ?_)
        exact HN.ret () trivial (congrArg Value.bool (by first | exact (decide_eq_true (by omega)).symm | exact (decide_eq_false (by omega)).symm)) (List.nil_sublist _) rfl

theorem ref_eq_any (W1 H1 : Int) (ad1 : Option Addr) (n1 cap1 : Nat) (W2 H2 : Int) (ad2 : Option Addr) (n2 cap2 : Nat) (xs ys : List Int) (w : World) (hb : n1 ≤ 35184372088832) (h1 : LsR w ad1 n1 xs) (h2 : LsR w ad2 n2 ys) :
    Calls Try.prog 26 #[.agg #[.int .i64 W1, .int .i64 H1, .slice ad1 n1 cap1], .agg #[.int .i64 W2, .int .i64 H2, .slice ad2 n2 cap2]] w (Ret w (fun _ : Unit => True) (fun _ => .bool (eqB W1 H1 xs W2 H2 ys)) (fun _ => [])) := by
  have a1 := h1.1; have a2 := h2.1
  by_cases hn : n1 ≠ n2 ∨ n1 = 0
  · have h := ref_eq_ne W1 H1 ad1 n1 cap1 W2 H2 ad2 n2 cap2 w hn
    rw [show decide (W1 = W2 ∧ H1 = H2 ∧ n1 = n2) = eqB W1 H1 xs W2 H2 ys from decide_eq_decide.2 ⟨fun e => ⟨e.1, e.2.1, ?_⟩, fun e => ⟨e.1, e.2.1, ?_⟩⟩] at h
    · exact h
    · rcases hn with hn | hn
      · exact absurd e.2.2 hn
      · rw [List.eq_nil_of_length_eq_zero (show xs.length = 0 by omega), List.eq_nil_of_length_eq_zero (show ys.length = 0 by omega)]
    · rw [← a1, ← a2, e.2.2]
  · rcases h1.2 with h | ⟨b1, o1, rfl, hr1⟩
    · exact absurd (Or.inr h) hn
    · rcases h2.2 with h | ⟨b2, o2, rfl, hr2⟩
      · exfalso; omega
      · exact ref_eq W1 H1 W2 H2 b1 o1 n1 cap1 b2 o2 n2 cap2 xs ys w a1 a2 hr1 hr2 hb

set_option maxRecDepth 100000 in
set_option maxHeartbeats 1000000 in
theorem same_ (W1 H1 : Int) (ad1 : Option Addr) (n1 cap1 : Nat) (W2 H2 : Int) (ad2 : Option Addr) (n2 cap2 : Nat) (e : Int) (xs ys : List Int) (w : World) (hb : n1 ≤ 35184372088832) (h1 : LsR w ad1 n1 xs) (h2 : LsR w ad2 n2 ys) (hw1 : W1 = W2) (hh1 : H1 = H2) (hxy : xs = ys) :
    Calls Try.prog 20 #[(.agg #[(.int .i64 W1), (.int .i64 H1), (.slice ad1 n1 cap1)]), (.int .i64 e), (.agg #[(.int .i64 W2), (.int .i64 H2), (.slice ad2 n2 cap2)]), (.int .i64 e)] w (Ret w (fun _ : Unit => True) (fun _ => .bool true) (fun _ => [])) := by
  refine enter (M := None) (L := []) (n := 18) (l := [(0, (.agg #[(.int .i64 W1), (.int .i64 H1), (.slice ad1 n1 cap1)])), (1, (.int .i64 e)), (2, (.agg #[(.int .i64 W2), (.int .i64 H2), (.slice ad2 n2 cap2)])), (3, (.int .i64 e))]) Try.func20 rfl rfl (Args.cons rfl (Args.cons rfl (Args.cons rfl (Args.cons rfl (Args.nil _))))) (Hp.start _ _) ?_
  refine GC.seq ?_
  refine GC.region ?_
  refine GL.step (Stp.box (cs := [(.int .i64 W1), (.int .i64 H1), (.slice ad1 n1 cap1)]) rfl rfl (by decide)) (fun bq1 _ => ?_)
  refine GL.step (Stp.box (cs := [(.int .i64 W2), (.int .i64 H2), (.slice ad2 n2 cap2)]) rfl rfl (by decide)) (fun bq2 _ => ?_)
  refine GL.val (v := (.bool false)) (Ex.assign rfl) (by decide) ?_
  refine GL.nil ?_
  refine GE.thenN ?_
  refine GC.seq ?_
  refine GC.region ?_
  refine GL.val (v := (.int .i64 e)) (Ex.move rfl) (by decide) ?_
  refine GL.step (Stp.callR (σ := Unit) (p := fun rz => True) (v := fun rz => (.int .i64 e)) (N := fun rz => []) (vs := [(.int .i64 e)]) rfl rfl T.own16 (by decide) (fun wc hw => num e wc)) (fun xq3 hq4 => ?_)
  refine GL.val (v := (.int .i64 e)) (Ex.move rfl) (by decide) ?_
  refine GL.val (v := (.bool true)) (Ex.cast (Ex.eql rfl rfl) (congrArg Value.bool (decide_eq_true (by simp)))) (by decide) ?_
  refine GL.val (v := (.bool true)) (Ex.move rfl) (by decide) ?_
  refine GL.stepG (tj := 13) rfl rfl (Ex.wp (v := (.agg #[(.int .i64 W1), (.int .i64 H1), (.slice ad1 n1 cap1)])) (Ex.loadA rfl T.ag32 T.sz32 (i := 1) rfl (vs := [(.int .i64 W1), (.int .i64 H1), (.slice ad1 n1 cap1)]) rfl rfl) (by decide)) (fun _ _ => ?_)
  refine GL.stepG (tj := 13) rfl rfl (Ex.wp (v := (.agg #[(.int .i64 W2), (.int .i64 H2), (.slice ad2 n2 cap2)])) (Ex.loadA rfl T.ag32 T.sz32 (i := 0) rfl (vs := [(.int .i64 W2), (.int .i64 H2), (.slice ad2 n2 cap2)]) rfl rfl) (by decide)) (fun _ _ => ?_)
  refine GL.stepG (tj := 13) rfl rfl (Stp.callR (σ := Unit) (p := fun rz => True) (v := fun rz => (.bool (eqB W1 H1 xs W2 H2 ys))) (N := fun rz => []) (vs := [(.agg #[(.int .i64 W1), (.int .i64 H1), (.slice ad1 n1 cap1)]), (.agg #[(.int .i64 W2), (.int .i64 H2), (.slice ad2 n2 cap2)])]) rfl rfl T.own26 (by decide) (fun wc hw => ref_eq_any W1 H1 ad1 n1 cap1 W2 H2 ad2 n2 cap2 xs ys wc hb (h1.later hw.1) (h2.later hw.1))) (fun xq5 hq6 => ?_)
  refine GL.val (v := (.bool (eqB W1 H1 xs W2 H2 ys))) (Ex.pickT rfl rfl) (by decide) ?_
  refine GL.val (v := (.bool (eqB W1 H1 xs W2 H2 ys))) (Ex.assign rfl) (by decide) ?_
  refine GL.nil ?_
  refine GE.thenN ?_
  refine GC.ret ?_
  refine GC.ret1 rfl (Rv.tmp rfl) (fun wN HN => ?_)
  exact HN.ret () trivial (congrArg Value.bool (eqB_self hw1 hh1 hxy)) (List.nil_sublist _) rfl

set_option maxRecDepth 100000 in
set_option maxHeartbeats 1000000 in
theorem ext_ok (W H n cap b o : Nat) (xs : List Int) (kd : Int) (l t r u : Nat) (w : World) (hok : okP W H) (hn : n = W * H) (hl : Lst w (some ⟨b, o, none⟩) n xs) (hr : Rd w b o (xs.map u32)) (hb : n ≤ 35184372087808) (hk : 1 ≤ kd ∧ kd ≤ 3) (hlm : l ≤ 1024 ∧ t ≤ 1024 ∧ r ≤ 1024 ∧ u ≤ 1024) (hok2 : okP (l + W + r) (t + H + u)) :
    Calls Try.prog 5 #[(.agg #[(.int .i64 (((W : Nat) : Int))), (.int .i64 (((H : Nat) : Int))), (.slice (some ⟨b, o, none⟩) n cap)]), (.int .i64 kd), (.int .i64 (((l : Nat) : Int))), (.int .i64 (((t : Nat) : Int))), (.int .i64 (((r : Nat) : Int))), (.int .i64 (((u : Nat) : Int)))] w (Ret w (fun _ : Unit => True) (fun _ => .bool true) (fun _ => [])) := by
  have hx := hl.1
  refine enter (M := None) (L := []) (n := 70) (l := [(0, (.agg #[(.int .i64 (((W : Nat) : Int))), (.int .i64 (((H : Nat) : Int))), (.slice (some ⟨b, o, none⟩) n cap)])), (1, (.int .i64 kd)), (2, (.int .i64 (((l : Nat) : Int)))), (3, (.int .i64 (((t : Nat) : Int)))), (4, (.int .i64 (((r : Nat) : Int)))), (5, (.int .i64 (((u : Nat) : Int))))]) Try.func5 rfl rfl (Args.cons rfl (Args.cons rfl (Args.cons rfl (Args.cons rfl (Args.cons rfl (Args.cons rfl (Args.nil _))))))) (Hp.start _ _) ?_
  refine GC.seq ?_
  refine GC.region ?_
  refine GL.step (Stp.box (cs := [(.int .i64 (((W : Nat) : Int))), (.int .i64 (((H : Nat) : Int))), (.slice (some ⟨b, o, none⟩) n cap)]) rfl rfl (by decide)) (fun bq1 _ => ?_)
  refine GL.val (v := (.bool false)) (Ex.assign rfl) (by decide) ?_
  refine GL.nil ?_
  refine GE.thenN ?_
  refine GC.seq ?_
  refine GC.seq ?_
  refine GC.region ?_
  refine GL.step (Stp.callR (σ := Unit) (p := fun rz => True) (v := fun rz => (.bool true)) (N := fun rz => []) (vs := []) rfl rfl T.own13 (by decide) (fun wc hw => known wc)) (fun xq2 hq3 => ?_)
  refine GL.val (v := (.bool false)) (Ex.cast (Ex.not rfl) rfl) (by decide) ?_
  refine GL.nil ?_
  refine GE.thenN ?_
  refine GC.cond rfl (fun hq4 => by cases hq4) (fun _ => ?_)
  refine GC.skip ?_
  refine GE.thenN ?_
  refine GC.seq ?_
  refine GC.region ?_
  refine GL.val (v := (.agg #[(.slice none 0 0), (.slice none 0 0), (.slice none 0 0), (.slice none 0 0), (.slice none 0 0), (.slice none 0 0), (.slice none 0 0), (.slice none 0 0)])) (Ex.build (vs := []) rfl (by first | rfl | kernel_rfl)) (by decide) ?_
  refine GL.step (Stp.box (cs := [(.slice none 0 0), (.slice none 0 0), (.slice none 0 0), (.slice none 0 0), (.slice none 0 0), (.slice none 0 0), (.slice none 0 0), (.slice none 0 0)]) rfl rfl (by decide)) (fun bq5 _ => ?_)
  refine GL.val (v := (.pointer (some ⟨bq5, 0, none⟩))) (Ex.assign rfl) (by decide) ?_
  refine GL.nil ?_
  refine GE.thenN ?_
  refine GC.seq ?_
  refine GC.region ?_
  refine GL.val (v := (.agg #[(.slice none 0 0), (.slice none 0 0), (.slice none 0 0), (.slice none 0 0), (.slice none 0 0), (.slice none 0 0), (.slice none 0 0), (.slice none 0 0)])) (Ex.build (vs := []) rfl (by first | rfl | kernel_rfl)) (by decide) ?_
  refine GL.step (Stp.box (cs := [(.slice none 0 0), (.slice none 0 0), (.slice none 0 0), (.slice none 0 0), (.slice none 0 0), (.slice none 0 0), (.slice none 0 0), (.slice none 0 0)]) rfl rfl (by decide)) (fun bq6 _ => ?_)
  refine GL.val (v := (.pointer (some ⟨bq6, 0, none⟩))) (Ex.assign rfl) (by decide) ?_
  refine GL.nil ?_
  refine GE.thenN ?_
  refine GC.seq ?_
  refine GC.region ?_
  refine GL.val (v := (.pointer (some ⟨bq6, 0, none⟩))) (Ex.move rfl) (by decide) ?_
  refine GL.val (v := (.agg #[(.int .i64 (((W : Nat) : Int))), (.int .i64 (((H : Nat) : Int))), (.slice (some ⟨b, o, none⟩) n cap)])) (Ex.loadA rfl T.ag32 T.sz32 (i := 2) rfl (vs := [(.int .i64 (((W : Nat) : Int))), (.int .i64 (((H : Nat) : Int))), (.slice (some ⟨b, o, none⟩) n cap)]) rfl rfl) (by decide) ?_
  refine GL.step (Stp.call (σ := (Nat × Nat × List Value) × (Nat × Nat × List Value) × (Nat × Nat × List Value) × Nat) (p := fun rz => ([(Value.slice (some ⟨rz.2.2.2, 0, none⟩) (n + 5) (n + 5))] ++ rz.2.2.1.2.2 : List Value).length = rz.2.2.1.2.1 * 1 ∧ ([(Value.slice (some ⟨rz.2.1.1, 0, none⟩) (n + 5) rz.2.1.2.1)] ++ rz.1.2.2 : List Value).length = rz.1.2.1 * 1) (v := fun rz => (.agg #[(.int .i64 (((W : Nat) : Int))), (.int .i64 (((H : Nat) : Int))), (.slice (some ⟨rz.2.2.2, 0, none⟩) n (n + 5))])) (L' := fun rz => [⟨rz.1.1, [(Value.slice (some ⟨rz.2.1.1, 0, none⟩) (n + 5) rz.2.1.2.1)] ++ rz.1.2.2, 30, true⟩, ⟨rz.2.1.1, (roomL xs).map u32 ++ rz.2.1.2.2, 72, true⟩, ⟨rz.2.2.1.1, [(Value.slice (some ⟨rz.2.2.2, 0, none⟩) (n + 5) (n + 5))] ++ rz.2.2.1.2.2, 30, true⟩, ⟨rz.2.2.2, (roomL xs).map u32, 72, true⟩, ⟨bq6, [(.slice (some ⟨rz.2.2.1.1, 0, none⟩) 1 rz.2.2.1.2.1), (.slice (some ⟨rz.1.1, 0, none⟩) 1 rz.1.2.1), (.slice none 0 0), (.slice none 0 0), (.slice none 0 0), (.slice none 0 0), (.slice none 0 0), (.slice none 0 0)], 44, true⟩, ⟨bq5, [(.slice none 0 0), (.slice none 0 0), (.slice none 0 0), (.slice none 0 0), (.slice none 0 0), (.slice none 0 0), (.slice none 0 0), (.slice none 0 0)], 41, true⟩, ⟨bq1, [(.int .i64 (((W : Nat) : Int))), (.int .i64 (((H : Nat) : Int))), (.slice (some ⟨b, o, none⟩) n cap)], 32, true⟩]) (vs := [(.pointer (some ⟨bq6, 0, none⟩)), (.agg #[(.int .i64 (((W : Nat) : Int))), (.int .i64 (((H : Nat) : Int))), (.slice (some ⟨b, o, none⟩) n cap)])]) rfl rfl T.own17 (by decide) (fun wc hw => room_p0 w [⟨bq5, [(.slice none 0 0), (.slice none 0 0), (.slice none 0 0), (.slice none 0 0), (.slice none 0 0), (.slice none 0 0), (.slice none 0 0), (.slice none 0 0)], 41, true⟩, ⟨bq1, [(.int .i64 (((W : Nat) : Int))), (.int .i64 (((H : Nat) : Int))), (.slice (some ⟨b, o, none⟩) n cap)], 32, true⟩] (((W : Nat) : Int)) (((H : Nat) : Int)) bq6 n cap (some ⟨b, o, none⟩) xs wc hl hb (hw.pick (idx := [0, 1, 2]) (by decide) rfl))) (fun xq7 hq8 => ?_)
  refine GL.step (Stp.alloc T.zr32 (by decide)) (fun bq9 _ => ?_)
  refine GL.step (Stp.storeL (i := 0) (L1 := [⟨bq9, [(.int .i64 (((W : Nat) : Int))), (.int .i64 (((H : Nat) : Int))), (.slice (some ⟨xq7.2.2.2, 0, none⟩) n (n + 5))], 32, true⟩, ⟨xq7.1.1, [(Value.slice (some ⟨xq7.2.1.1, 0, none⟩) (n + 5) xq7.2.1.2.1)] ++ xq7.1.2.2, 30, true⟩, ⟨xq7.2.1.1, (roomL xs).map u32 ++ xq7.2.1.2.2, 72, true⟩, ⟨xq7.2.2.1.1, [(Value.slice (some ⟨xq7.2.2.2, 0, none⟩) (n + 5) (n + 5))] ++ xq7.2.2.1.2.2, 30, true⟩, ⟨xq7.2.2.2, (roomL xs).map u32, 72, true⟩, ⟨bq6, [(.slice (some ⟨xq7.2.2.1.1, 0, none⟩) 1 xq7.2.2.1.2.1), (.slice (some ⟨xq7.1.1, 0, none⟩) 1 xq7.1.2.1), (.slice none 0 0), (.slice none 0 0), (.slice none 0 0), (.slice none 0 0), (.slice none 0 0), (.slice none 0 0)], 44, true⟩, ⟨bq5, [(.slice none 0 0), (.slice none 0 0), (.slice none 0 0), (.slice none 0 0), (.slice none 0 0), (.slice none 0 0), (.slice none 0 0), (.slice none 0 0)], 41, true⟩, ⟨bq1, [(.int .i64 (((W : Nat) : Int))), (.int .i64 (((H : Nat) : Int))), (.slice (some ⟨b, o, none⟩) n cap)], 32, true⟩]) rfl rfl rfl T.sz32 rfl rfl rfl rfl) (fun _ _ => ?_)
  refine GL.nil ?_
  refine GE.thenN ?_
  refine GC.seq ?_
  refine GC.region ?_
  refine GL.val (v := (.agg #[(.int .i64 (((W : Nat) : Int))), (.int .i64 (((H : Nat) : Int))), (.slice (some ⟨b, o, none⟩) n cap)])) (Ex.loadA rfl T.ag32 T.sz32 (i := 7) rfl (vs := [(.int .i64 (((W : Nat) : Int))), (.int .i64 (((H : Nat) : Int))), (.slice (some ⟨b, o, none⟩) n cap)]) rfl rfl) (by decide) ?_
  refine GL.val (v := (.int .i64 kd)) (Ex.move rfl) (by decide) ?_
  refine GL.val (v := (.int .i64 (((l : Nat) : Int)))) (Ex.move rfl) (by decide) ?_
  refine GL.val (v := (.int .i64 (((t : Nat) : Int)))) (Ex.move rfl) (by decide) ?_
  refine GL.val (v := (.int .i64 (((r : Nat) : Int)))) (Ex.move rfl) (by decide) ?_
  refine GL.val (v := (.int .i64 (((u : Nat) : Int)))) (Ex.move rfl) (by decide) ?_
  refine GL.step (Stp.callR (σ := Nat) (p := fun rz => True) (v := fun rz => (.tuple #[(.agg #[(.int .i64 (((l + W + r : Nat) : Int))), (.int .i64 (((t + H + u : Nat) : Int))), (.slice (some ⟨rz, 0, none⟩) ((l + W + r) * (t + H + u)) ((l + W + r) * (t + H + u)))]), (.int .i64 0)])) (N := fun rz => [⟨rz, (extd xs W H l t r u kd).map u32, 72, true⟩]) (vs := [(.agg #[(.int .i64 (((W : Nat) : Int))), (.int .i64 (((H : Nat) : Int))), (.slice (some ⟨b, o, none⟩) n cap)]), (.int .i64 kd), (.int .i64 (((l : Nat) : Int))), (.int .i64 (((t : Nat) : Int))), (.int .i64 (((r : Nat) : Int))), (.int .i64 (((u : Nat) : Int)))]) rfl rfl T.own18 (by decide) (fun wc hw => ref_extend W H n cap b o l t r u xs kd wc hok hn hx (hw.rd hr (fun x => x)) hk hlm hok2)) (fun xq10 hq11 => ?_)
  refine GL.val (v := (.tuple #[(.agg #[(.int .i64 (((l + W + r : Nat) : Int))), (.int .i64 (((t + H + u : Nat) : Int))), (.slice (some ⟨xq10, 0, none⟩) ((l + W + r) * (t + H + u)) ((l + W + r) * (t + H + u)))]), (.int .i64 0)])) (Ex.move rfl) (by decide) ?_
  refine GL.val (v := (.agg #[(.int .i64 (((l + W + r : Nat) : Int))), (.int .i64 (((t + H + u : Nat) : Int))), (.slice (some ⟨xq10, 0, none⟩) ((l + W + r) * (t + H + u)) ((l + W + r) * (t + H + u)))])) (Ex.extract rfl rfl) (by decide) ?_
  refine GL.val (v := (.int .i64 0)) (Ex.extract rfl rfl) (by decide) ?_
  refine GL.step (Stp.alloc T.zr32 (by decide)) (fun bq12 _ => ?_)
  refine GL.step (Stp.storeL (i := 0) (L1 := [⟨bq12, [(.int .i64 (((l + W + r : Nat) : Int))), (.int .i64 (((t + H + u : Nat) : Int))), (.slice (some ⟨xq10, 0, none⟩) ((l + W + r) * (t + H + u)) ((l + W + r) * (t + H + u)))], 32, true⟩, ⟨xq10, (extd xs W H l t r u kd).map u32, 72, true⟩, ⟨bq9, [(.int .i64 (((W : Nat) : Int))), (.int .i64 (((H : Nat) : Int))), (.slice (some ⟨xq7.2.2.2, 0, none⟩) n (n + 5))], 32, true⟩, ⟨xq7.1.1, [(Value.slice (some ⟨xq7.2.1.1, 0, none⟩) (n + 5) xq7.2.1.2.1)] ++ xq7.1.2.2, 30, true⟩, ⟨xq7.2.1.1, (roomL xs).map u32 ++ xq7.2.1.2.2, 72, true⟩, ⟨xq7.2.2.1.1, [(Value.slice (some ⟨xq7.2.2.2, 0, none⟩) (n + 5) (n + 5))] ++ xq7.2.2.1.2.2, 30, true⟩, ⟨xq7.2.2.2, (roomL xs).map u32, 72, true⟩, ⟨bq6, [(.slice (some ⟨xq7.2.2.1.1, 0, none⟩) 1 xq7.2.2.1.2.1), (.slice (some ⟨xq7.1.1, 0, none⟩) 1 xq7.1.2.1), (.slice none 0 0), (.slice none 0 0), (.slice none 0 0), (.slice none 0 0), (.slice none 0 0), (.slice none 0 0)], 44, true⟩, ⟨bq5, [(.slice none 0 0), (.slice none 0 0), (.slice none 0 0), (.slice none 0 0), (.slice none 0 0), (.slice none 0 0), (.slice none 0 0), (.slice none 0 0)], 41, true⟩, ⟨bq1, [(.int .i64 (((W : Nat) : Int))), (.int .i64 (((H : Nat) : Int))), (.slice (some ⟨b, o, none⟩) n cap)], 32, true⟩]) rfl rfl rfl T.sz32 rfl rfl rfl rfl) (fun _ _ => ?_)
  refine GL.val (v := (.int .i64 0)) (Ex.assign rfl) (by decide) ?_
  refine GL.nil ?_
  refine GE.thenN ?_
  refine GC.seq ?_
  refine GC.seq ?_
  refine GC.region ?_
  refine GL.val (v := (.int .i64 0)) (Ex.assign rfl) (by decide) ?_
  refine GL.nil ?_
  refine GE.thenN ?_
  refine GC.block ?_
  refine GC.unroll 3 ?_
  refine GE.round ?_
  refine GC.seq ?_
  refine GC.seq ?_
  refine GC.region ?_
  refine GL.val (v := (.int .i64 0)) (Ex.move rfl) (by decide) ?_
  refine GL.val (v := (.bool true)) (Ex.cast (Ex.lss rfl rfl) rfl) (by decide) ?_
  refine GL.nil ?_
  refine GE.thenN ?_
  refine GC.cond rfl (fun _ => ?_) (fun hq13 => by cases hq13)
  refine GC.skip ?_
  refine GE.thenN ?_
  refine GC.seq ?_
  refine GC.block ?_
  refine GC.seq ?_
  refine GC.region ?_
  refine GL.val (v := (.agg #[(.int .i64 (((W : Nat) : Int))), (.int .i64 (((H : Nat) : Int))), (.slice (some ⟨xq7.2.2.2, 0, none⟩) n (n + 5))])) (Ex.loadA rfl T.ag32 T.sz32 (i := 2) rfl (vs := [(.int .i64 (((W : Nat) : Int))), (.int .i64 (((H : Nat) : Int))), (.slice (some ⟨xq7.2.2.2, 0, none⟩) n (n + 5))]) rfl rfl) (by decide) ?_
  refine GL.val (v := (.int .i64 kd)) (Ex.move rfl) (by decide) ?_
  refine GL.val (v := (.int .i64 (((l : Nat) : Int)))) (Ex.move rfl) (by decide) ?_
  refine GL.val (v := (.int .i64 (((t : Nat) : Int)))) (Ex.move rfl) (by decide) ?_
  refine GL.val (v := (.int .i64 (((r : Nat) : Int)))) (Ex.move rfl) (by decide) ?_
  refine GL.val (v := (.int .i64 (((u : Nat) : Int)))) (Ex.move rfl) (by decide) ?_
  refine GL.step (Stp.callR (σ := Nat) (p := fun rz => True) (v := fun rz => (.tuple #[(.agg #[(.int .i64 (((l + W + r : Nat) : Int))), (.int .i64 (((t + H + u : Nat) : Int))), (.slice (some ⟨rz, 0, none⟩) ((l + W + r) * (t + H + u)) ((l + W + r) * (t + H + u)))]), (.int .i64 0)])) (N := fun rz => [⟨rz, (extd xs W H l t r u kd).map u32, 72, true⟩]) (vs := [(.agg #[(.int .i64 (((W : Nat) : Int))), (.int .i64 (((H : Nat) : Int))), (.slice (some ⟨xq7.2.2.2, 0, none⟩) n (n + 5))]), (.int .i64 kd), (.int .i64 (((l : Nat) : Int))), (.int .i64 (((t : Nat) : Int))), (.int .i64 (((r : Nat) : Int))), (.int .i64 (((u : Nat) : Int)))]) rfl rfl T.own19 (by decide) (fun wc hw => extend W H n (n + 5) xq7.2.2.2 0 l t r u xs kd wc hok hn hx (Rd.lent (hw.rdOf (i := 6) rfl 0)) hk hlm hok2)) (fun xq14 hq15 => ?_)
  refine GL.val (v := (.tuple #[(.agg #[(.int .i64 (((l + W + r : Nat) : Int))), (.int .i64 (((t + H + u : Nat) : Int))), (.slice (some ⟨xq14, 0, none⟩) ((l + W + r) * (t + H + u)) ((l + W + r) * (t + H + u)))]), (.int .i64 0)])) (Ex.move rfl) (by decide) ?_
  refine GL.val (v := (.agg #[(.int .i64 (((l + W + r : Nat) : Int))), (.int .i64 (((t + H + u : Nat) : Int))), (.slice (some ⟨xq14, 0, none⟩) ((l + W + r) * (t + H + u)) ((l + W + r) * (t + H + u)))])) (Ex.extract rfl rfl) (by decide) ?_
  refine GL.val (v := (.int .i64 0)) (Ex.extract rfl rfl) (by decide) ?_
  refine GL.step (Stp.alloc T.zr32 (by decide)) (fun bq16 _ => ?_)
  refine GL.step (Stp.storeL (i := 0) (L1 := [⟨bq16, [(.int .i64 (((l + W + r : Nat) : Int))), (.int .i64 (((t + H + u : Nat) : Int))), (.slice (some ⟨xq14, 0, none⟩) ((l + W + r) * (t + H + u)) ((l + W + r) * (t + H + u)))], 32, true⟩, ⟨xq14, (extd xs W H l t r u kd).map u32, 72, true⟩, ⟨bq12, [(.int .i64 (((l + W + r : Nat) : Int))), (.int .i64 (((t + H + u : Nat) : Int))), (.slice (some ⟨xq10, 0, none⟩) ((l + W + r) * (t + H + u)) ((l + W + r) * (t + H + u)))], 32, true⟩, ⟨xq10, (extd xs W H l t r u kd).map u32, 72, true⟩, ⟨bq9, [(.int .i64 (((W : Nat) : Int))), (.int .i64 (((H : Nat) : Int))), (.slice (some ⟨xq7.2.2.2, 0, none⟩) n (n + 5))], 32, true⟩, ⟨xq7.1.1, [(Value.slice (some ⟨xq7.2.1.1, 0, none⟩) (n + 5) xq7.2.1.2.1)] ++ xq7.1.2.2, 30, true⟩, ⟨xq7.2.1.1, (roomL xs).map u32 ++ xq7.2.1.2.2, 72, true⟩, ⟨xq7.2.2.1.1, [(Value.slice (some ⟨xq7.2.2.2, 0, none⟩) (n + 5) (n + 5))] ++ xq7.2.2.1.2.2, 30, true⟩, ⟨xq7.2.2.2, (roomL xs).map u32, 72, true⟩, ⟨bq6, [(.slice (some ⟨xq7.2.2.1.1, 0, none⟩) 1 xq7.2.2.1.2.1), (.slice (some ⟨xq7.1.1, 0, none⟩) 1 xq7.1.2.1), (.slice none 0 0), (.slice none 0 0), (.slice none 0 0), (.slice none 0 0), (.slice none 0 0), (.slice none 0 0)], 44, true⟩, ⟨bq5, [(.slice none 0 0), (.slice none 0 0), (.slice none 0 0), (.slice none 0 0), (.slice none 0 0), (.slice none 0 0), (.slice none 0 0), (.slice none 0 0)], 41, true⟩, ⟨bq1, [(.int .i64 (((W : Nat) : Int))), (.int .i64 (((H : Nat) : Int))), (.slice (some ⟨b, o, none⟩) n cap)], 32, true⟩]) rfl rfl rfl T.sz32 rfl rfl rfl rfl) (fun _ _ => ?_)
  refine GL.val (v := (.int .i64 0)) (Ex.assign rfl) (by decide) ?_
  refine GL.nil ?_
  refine GE.thenN ?_
  refine GC.seq ?_
  refine GC.seq ?_
  refine GC.region ?_
  refine GL.val (v := (.agg #[(.int .i64 (((l + W + r : Nat) : Int))), (.int .i64 (((t + H + u : Nat) : Int))), (.slice (some ⟨xq14, 0, none⟩) ((l + W + r) * (t + H + u)) ((l + W + r) * (t + H + u)))])) (Ex.loadA rfl T.ag32 T.sz32 (i := 0) rfl (vs := [(.int .i64 (((l + W + r : Nat) : Int))), (.int .i64 (((t + H + u : Nat) : Int))), (.slice (some ⟨xq14, 0, none⟩) ((l + W + r) * (t + H + u)) ((l + W + r) * (t + H + u)))]) rfl rfl) (by decide) ?_
  refine GL.val (v := (.int .i64 0)) (Ex.move rfl) (by decide) ?_
  refine GL.val (v := (.agg #[(.int .i64 (((l + W + r : Nat) : Int))), (.int .i64 (((t + H + u : Nat) : Int))), (.slice (some ⟨xq10, 0, none⟩) ((l + W + r) * (t + H + u)) ((l + W + r) * (t + H + u)))])) (Ex.loadA rfl T.ag32 T.sz32 (i := 2) rfl (vs := [(.int .i64 (((l + W + r : Nat) : Int))), (.int .i64 (((t + H + u : Nat) : Int))), (.slice (some ⟨xq10, 0, none⟩) ((l + W + r) * (t + H + u)) ((l + W + r) * (t + H + u)))]) rfl rfl) (by decide) ?_
  refine GL.val (v := (.int .i64 0)) (Ex.move rfl) (by decide) ?_
  refine GL.step (Stp.callR (σ := Unit) (p := fun rz => True) (v := fun rz => (.bool true)) (N := fun rz => []) (vs := [(.agg #[(.int .i64 (((l + W + r : Nat) : Int))), (.int .i64 (((t + H + u : Nat) : Int))), (.slice (some ⟨xq14, 0, none⟩) ((l + W + r) * (t + H + u)) ((l + W + r) * (t + H + u)))]), (.int .i64 0), (.agg #[(.int .i64 (((l + W + r : Nat) : Int))), (.int .i64 (((t + H + u : Nat) : Int))), (.slice (some ⟨xq10, 0, none⟩) ((l + W + r) * (t + H + u)) ((l + W + r) * (t + H + u)))]), (.int .i64 0)]) rfl rfl T.own20 (by decide) (fun wc hw => same_ (((l + W + r : Nat) : Int)) (((t + H + u : Nat) : Int)) (some ⟨xq14, 0, none⟩) ((l + W + r) * (t + H + u)) ((l + W + r) * (t + H + u)) (((l + W + r : Nat) : Int)) (((t + H + u : Nat) : Int)) (some ⟨xq10, 0, none⟩) ((l + W + r) * (t + H + u)) ((l + W + r) * (t + H + u)) 0 (extd xs W H l t r u kd) (extd xs W H l t r u kd) wc (by have h' := (hok2).2.2.2.2; omega) (LsR.blk (tab_len _ _ _) (hw.rdOf (i := 1) rfl 0)) (LsR.blk (tab_len _ _ _) (hw.rdOf (i := 3) rfl 0)) (by first | rfl | omega) (by first | rfl | omega) (by first | rfl | (simp only [Nat.add_zero])))) (fun xq17 hq18 => ?_)
  refine GL.val (v := (.bool false)) (Ex.cast (Ex.not rfl) rfl) (by decide) ?_
  refine GL.nil ?_
  refine GE.thenN ?_
  refine GC.cond rfl (fun hq19 => by cases hq19) (fun _ => ?_)
  refine GC.skip ?_
  refine GE.thenN ?_
  refine GC.region ?_
  refine GL.val (v := (.pointer (some ⟨bq5, 0, none⟩))) (Ex.move rfl) (by decide) ?_
  refine GL.val (v := (.agg #[(.int .i64 (((l + W + r : Nat) : Int))), (.int .i64 (((t + H + u : Nat) : Int))), (.slice (some ⟨xq14, 0, none⟩) ((l + W + r) * (t + H + u)) ((l + W + r) * (t + H + u)))])) (Ex.loadA rfl T.ag32 T.sz32 (i := 0) rfl (vs := [(.int .i64 (((l + W + r : Nat) : Int))), (.int .i64 (((t + H + u : Nat) : Int))), (.slice (some ⟨xq14, 0, none⟩) ((l + W + r) * (t + H + u)) ((l + W + r) * (t + H + u)))]) rfl rfl) (by decide) ?_
  refine GL.val (v := (.int .i64 0)) (Ex.move rfl) (by decide) ?_
  refine GL.step (Stp.call (σ := (Nat × Nat × List Value) × (Nat × Nat × List Value)) (p := fun rz => ([(Value.slice (some ⟨xq14, 0, none⟩) ((l + W + r) * (t + H + u)) ((l + W + r) * (t + H + u)))] ++ rz.2.2.2 : List Value).length = rz.2.2.1 * 1 ∧ ([(Value.int .i64 0)] ++ rz.1.2.2 : List Value).length = rz.1.2.1 * 1) (v := fun rz => (.tuple #[])) (L' := fun rz => [⟨rz.1.1, [(Value.int .i64 0)] ++ rz.1.2.2, 3, true⟩, ⟨rz.2.1, [(Value.slice (some ⟨xq14, 0, none⟩) ((l + W + r) * (t + H + u)) ((l + W + r) * (t + H + u)))] ++ rz.2.2.2, 30, true⟩, ⟨bq5, [(.slice (some ⟨rz.2.1, 0, none⟩) 1 rz.2.2.1), (.slice none 0 0), (.slice none 0 0), (.slice none 0 0), (.slice (some ⟨rz.1.1, 0, none⟩) 1 rz.1.2.1), (.slice none 0 0), (.slice none 0 0), (.slice none 0 0)], 41, true⟩, ⟨xq14, (mks 0 ((l + W + r) * (t + H + u))).map u32, 72, true⟩, ⟨bq16, [(.int .i64 (((l + W + r : Nat) : Int))), (.int .i64 (((t + H + u : Nat) : Int))), (.slice (some ⟨xq14, 0, none⟩) ((l + W + r) * (t + H + u)) ((l + W + r) * (t + H + u)))], 32, true⟩, ⟨bq12, [(.int .i64 (((l + W + r : Nat) : Int))), (.int .i64 (((t + H + u : Nat) : Int))), (.slice (some ⟨xq10, 0, none⟩) ((l + W + r) * (t + H + u)) ((l + W + r) * (t + H + u)))], 32, true⟩, ⟨xq10, (extd xs W H l t r u kd).map u32, 72, true⟩, ⟨bq9, [(.int .i64 (((W : Nat) : Int))), (.int .i64 (((H : Nat) : Int))), (.slice (some ⟨xq7.2.2.2, 0, none⟩) n (n + 5))], 32, true⟩, ⟨xq7.1.1, [(Value.slice (some ⟨xq7.2.1.1, 0, none⟩) (n + 5) xq7.2.1.2.1)] ++ xq7.1.2.2, 30, true⟩, ⟨xq7.2.1.1, (roomL xs).map u32 ++ xq7.2.1.2.2, 72, true⟩, ⟨xq7.2.2.1.1, [(Value.slice (some ⟨xq7.2.2.2, 0, none⟩) (n + 5) (n + 5))] ++ xq7.2.2.1.2.2, 30, true⟩, ⟨xq7.2.2.2, (roomL xs).map u32, 72, true⟩, ⟨bq6, [(.slice (some ⟨xq7.2.2.1.1, 0, none⟩) 1 xq7.2.2.1.2.1), (.slice (some ⟨xq7.1.1, 0, none⟩) 1 xq7.1.2.1), (.slice none 0 0), (.slice none 0 0), (.slice none 0 0), (.slice none 0 0), (.slice none 0 0), (.slice none 0 0)], 44, true⟩, ⟨bq1, [(.int .i64 (((W : Nat) : Int))), (.int .i64 (((H : Nat) : Int))), (.slice (some ⟨b, o, none⟩) n cap)], 32, true⟩]) (vs := [(.pointer (some ⟨bq5, 0, none⟩)), (.agg #[(.int .i64 (((l + W + r : Nat) : Int))), (.int .i64 (((t + H + u : Nat) : Int))), (.slice (some ⟨xq14, 0, none⟩) ((l + W + r) * (t + H + u)) ((l + W + r) * (t + H + u)))]), (.int .i64 0)]) rfl rfl T.own21 (by decide) (fun wc hw => book_p01 w [⟨bq16, [(.int .i64 (((l + W + r : Nat) : Int))), (.int .i64 (((t + H + u : Nat) : Int))), (.slice (some ⟨xq14, 0, none⟩) ((l + W + r) * (t + H + u)) ((l + W + r) * (t + H + u)))], 32, true⟩, ⟨bq12, [(.int .i64 (((l + W + r : Nat) : Int))), (.int .i64 (((t + H + u : Nat) : Int))), (.slice (some ⟨xq10, 0, none⟩) ((l + W + r) * (t + H + u)) ((l + W + r) * (t + H + u)))], 32, true⟩, ⟨xq10, (extd xs W H l t r u kd).map u32, 72, true⟩, ⟨bq9, [(.int .i64 (((W : Nat) : Int))), (.int .i64 (((H : Nat) : Int))), (.slice (some ⟨xq7.2.2.2, 0, none⟩) n (n + 5))], 32, true⟩, ⟨xq7.1.1, [(Value.slice (some ⟨xq7.2.1.1, 0, none⟩) (n + 5) xq7.2.1.2.1)] ++ xq7.1.2.2, 30, true⟩, ⟨xq7.2.1.1, (roomL xs).map u32 ++ xq7.2.1.2.2, 72, true⟩, ⟨xq7.2.2.1.1, [(Value.slice (some ⟨xq7.2.2.2, 0, none⟩) (n + 5) (n + 5))] ++ xq7.2.2.1.2.2, 30, true⟩, ⟨xq7.2.2.2, (roomL xs).map u32, 72, true⟩, ⟨bq6, [(.slice (some ⟨xq7.2.2.1.1, 0, none⟩) 1 xq7.2.2.1.2.1), (.slice (some ⟨xq7.1.1, 0, none⟩) 1 xq7.1.2.1), (.slice none 0 0), (.slice none 0 0), (.slice none 0 0), (.slice none 0 0), (.slice none 0 0), (.slice none 0 0)], 44, true⟩, ⟨bq1, [(.int .i64 (((W : Nat) : Int))), (.int .i64 (((H : Nat) : Int))), (.slice (some ⟨b, o, none⟩) n cap)], 32, true⟩] (((l + W + r : Nat) : Int)) (((t + H + u : Nat) : Int)) bq5 0 xq14 ((l + W + r) * (t + H + u)) ((l + W + r) * (t + H + u)) ((extd xs W H l t r u kd).map u32) wc (by rw [List.length_map]; exact (tab_len _ _ _)) (by have h' := (hok2).2.2.2.2; omega) (hw.pick (idx := [10, 1, 0, 2, 3, 4, 5, 6, 7, 8, 9, 11]) (by decide) rfl))) (fun xq20 hq21 => ?_)
  refine GL.nil ?_
  refine GE.blockN ?_
  refine GE.thenN ?_
  refine GC.region ?_
  refine GL.val (v := (.int .i64 0)) (Ex.move rfl) (by decide) ?_
  refine GL.val (v := (.int .i64 1)) (Ex.add rfl rfl (Z := 1) (by decide)) (by decide) ?_
  refine GL.val (v := (.int .i64 1)) (Ex.assign rfl) (by decide) ?_
  refine GL.nil ?_
  refine GE.thenN ?_
  refine GE.round ?_
  refine GC.seq ?_
  refine GC.seq ?_
  refine GC.region ?_
  refine GL.val (v := (.int .i64 1)) (Ex.move rfl) (by decide) ?_
  refine GL.val (v := (.bool true)) (Ex.cast (Ex.lss rfl rfl) rfl) (by decide) ?_
  refine GL.nil ?_
  refine GE.thenN ?_
  refine GC.cond rfl (fun _ => ?_) (fun hq22 => by cases hq22)
  refine GC.skip ?_
  refine GE.thenN ?_
  refine GC.seq ?_
  refine GC.block ?_
  refine GC.seq ?_
  refine GC.region ?_
  refine GL.val (v := (.agg #[(.int .i64 (((W : Nat) : Int))), (.int .i64 (((H : Nat) : Int))), (.slice (some ⟨xq7.2.2.2, 0, none⟩) n (n + 5))])) (Ex.loadA rfl T.ag32 T.sz32 (i := 7) rfl (vs := [(.int .i64 (((W : Nat) : Int))), (.int .i64 (((H : Nat) : Int))), (.slice (some ⟨xq7.2.2.2, 0, none⟩) n (n + 5))]) rfl rfl) (by decide) ?_
  refine GL.val (v := (.int .i64 kd)) (Ex.move rfl) (by decide) ?_
  refine GL.val (v := (.int .i64 (((l : Nat) : Int)))) (Ex.move rfl) (by decide) ?_
  refine GL.val (v := (.int .i64 (((t : Nat) : Int)))) (Ex.move rfl) (by decide) ?_
  refine GL.val (v := (.int .i64 (((r : Nat) : Int)))) (Ex.move rfl) (by decide) ?_
  refine GL.val (v := (.int .i64 (((u : Nat) : Int)))) (Ex.move rfl) (by decide) ?_
  refine GL.step (Stp.callR (σ := Nat) (p := fun rz => True) (v := fun rz => (.tuple #[(.agg #[(.int .i64 (((l + W + r : Nat) : Int))), (.int .i64 (((t + H + u : Nat) : Int))), (.slice (some ⟨rz, 0, none⟩) ((l + W + r) * (t + H + u)) ((l + W + r) * (t + H + u)))]), (.int .i64 0)])) (N := fun rz => [⟨rz, (extd xs W H l t r u kd).map u32, 72, true⟩]) (vs := [(.agg #[(.int .i64 (((W : Nat) : Int))), (.int .i64 (((H : Nat) : Int))), (.slice (some ⟨xq7.2.2.2, 0, none⟩) n (n + 5))]), (.int .i64 kd), (.int .i64 (((l : Nat) : Int))), (.int .i64 (((t : Nat) : Int))), (.int .i64 (((r : Nat) : Int))), (.int .i64 (((u : Nat) : Int)))]) rfl rfl T.own19 (by decide) (fun wc hw => extend W H n (n + 5) xq7.2.2.2 0 l t r u xs kd wc hok hn hx (Rd.lent (hw.rdOf (i := 11) rfl 0)) hk hlm hok2)) (fun xq23 hq24 => ?_)
  refine GL.val (v := (.tuple #[(.agg #[(.int .i64 (((l + W + r : Nat) : Int))), (.int .i64 (((t + H + u : Nat) : Int))), (.slice (some ⟨xq23, 0, none⟩) ((l + W + r) * (t + H + u)) ((l + W + r) * (t + H + u)))]), (.int .i64 0)])) (Ex.move rfl) (by decide) ?_
  refine GL.val (v := (.agg #[(.int .i64 (((l + W + r : Nat) : Int))), (.int .i64 (((t + H + u : Nat) : Int))), (.slice (some ⟨xq23, 0, none⟩) ((l + W + r) * (t + H + u)) ((l + W + r) * (t + H + u)))])) (Ex.extract rfl rfl) (by decide) ?_
  refine GL.val (v := (.int .i64 0)) (Ex.extract rfl rfl) (by decide) ?_
  refine GL.step (Stp.alloc T.zr32 (by decide)) (fun bq25 _ => ?_)
  refine GL.step (Stp.storeL (i := 0) (L1 := [⟨bq25, [(.int .i64 (((l + W + r : Nat) : Int))), (.int .i64 (((t + H + u : Nat) : Int))), (.slice (some ⟨xq23, 0, none⟩) ((l + W + r) * (t + H + u)) ((l + W + r) * (t + H + u)))], 32, true⟩, ⟨xq23, (extd xs W H l t r u kd).map u32, 72, true⟩, ⟨xq20.1.1, [(Value.int .i64 0)] ++ xq20.1.2.2, 3, true⟩, ⟨xq20.2.1, [(Value.slice (some ⟨xq14, 0, none⟩) ((l + W + r) * (t + H + u)) ((l + W + r) * (t + H + u)))] ++ xq20.2.2.2, 30, true⟩, ⟨bq5, [(.slice (some ⟨xq20.2.1, 0, none⟩) 1 xq20.2.2.1), (.slice none 0 0), (.slice none 0 0), (.slice none 0 0), (.slice (some ⟨xq20.1.1, 0, none⟩) 1 xq20.1.2.1), (.slice none 0 0), (.slice none 0 0), (.slice none 0 0)], 41, true⟩, ⟨xq14, (mks 0 ((l + W + r) * (t + H + u))).map u32, 72, true⟩, ⟨bq16, [(.int .i64 (((l + W + r : Nat) : Int))), (.int .i64 (((t + H + u : Nat) : Int))), (.slice (some ⟨xq14, 0, none⟩) ((l + W + r) * (t + H + u)) ((l + W + r) * (t + H + u)))], 32, true⟩, ⟨bq12, [(.int .i64 (((l + W + r : Nat) : Int))), (.int .i64 (((t + H + u : Nat) : Int))), (.slice (some ⟨xq10, 0, none⟩) ((l + W + r) * (t + H + u)) ((l + W + r) * (t + H + u)))], 32, true⟩, ⟨xq10, (extd xs W H l t r u kd).map u32, 72, true⟩, ⟨bq9, [(.int .i64 (((W : Nat) : Int))), (.int .i64 (((H : Nat) : Int))), (.slice (some ⟨xq7.2.2.2, 0, none⟩) n (n + 5))], 32, true⟩, ⟨xq7.1.1, [(Value.slice (some ⟨xq7.2.1.1, 0, none⟩) (n + 5) xq7.2.1.2.1)] ++ xq7.1.2.2, 30, true⟩, ⟨xq7.2.1.1, (roomL xs).map u32 ++ xq7.2.1.2.2, 72, true⟩, ⟨xq7.2.2.1.1, [(Value.slice (some ⟨xq7.2.2.2, 0, none⟩) (n + 5) (n + 5))] ++ xq7.2.2.1.2.2, 30, true⟩, ⟨xq7.2.2.2, (roomL xs).map u32, 72, true⟩, ⟨bq6, [(.slice (some ⟨xq7.2.2.1.1, 0, none⟩) 1 xq7.2.2.1.2.1), (.slice (some ⟨xq7.1.1, 0, none⟩) 1 xq7.1.2.1), (.slice none 0 0), (.slice none 0 0), (.slice none 0 0), (.slice none 0 0), (.slice none 0 0), (.slice none 0 0)], 44, true⟩, ⟨bq1, [(.int .i64 (((W : Nat) : Int))), (.int .i64 (((H : Nat) : Int))), (.slice (some ⟨b, o, none⟩) n cap)], 32, true⟩]) rfl rfl rfl T.sz32 rfl rfl rfl rfl) (fun _ _ => ?_)
  refine GL.val (v := (.int .i64 0)) (Ex.assign rfl) (by decide) ?_
  refine GL.nil ?_
  refine GE.thenN ?_
  refine GC.seq ?_
  refine GC.seq ?_
  refine GC.region ?_
  refine GL.val (v := (.agg #[(.int .i64 (((l + W + r : Nat) : Int))), (.int .i64 (((t + H + u : Nat) : Int))), (.slice (some ⟨xq23, 0, none⟩) ((l + W + r) * (t + H + u)) ((l + W + r) * (t + H + u)))])) (Ex.loadA rfl T.ag32 T.sz32 (i := 0) rfl (vs := [(.int .i64 (((l + W + r : Nat) : Int))), (.int .i64 (((t + H + u : Nat) : Int))), (.slice (some ⟨xq23, 0, none⟩) ((l + W + r) * (t + H + u)) ((l + W + r) * (t + H + u)))]) rfl rfl) (by decide) ?_
  refine GL.val (v := (.int .i64 0)) (Ex.move rfl) (by decide) ?_
  refine GL.val (v := (.agg #[(.int .i64 (((l + W + r : Nat) : Int))), (.int .i64 (((t + H + u : Nat) : Int))), (.slice (some ⟨xq10, 0, none⟩) ((l + W + r) * (t + H + u)) ((l + W + r) * (t + H + u)))])) (Ex.loadA rfl T.ag32 T.sz32 (i := 7) rfl (vs := [(.int .i64 (((l + W + r : Nat) : Int))), (.int .i64 (((t + H + u : Nat) : Int))), (.slice (some ⟨xq10, 0, none⟩) ((l + W + r) * (t + H + u)) ((l + W + r) * (t + H + u)))]) rfl rfl) (by decide) ?_
  refine GL.val (v := (.int .i64 0)) (Ex.move rfl) (by decide) ?_
  refine GL.step (Stp.callR (σ := Unit) (p := fun rz => True) (v := fun rz => (.bool true)) (N := fun rz => []) (vs := [(.agg #[(.int .i64 (((l + W + r : Nat) : Int))), (.int .i64 (((t + H + u : Nat) : Int))), (.slice (some ⟨xq23, 0, none⟩) ((l + W + r) * (t + H + u)) ((l + W + r) * (t + H + u)))]), (.int .i64 0), (.agg #[(.int .i64 (((l + W + r : Nat) : Int))), (.int .i64 (((t + H + u : Nat) : Int))), (.slice (some ⟨xq10, 0, none⟩) ((l + W + r) * (t + H + u)) ((l + W + r) * (t + H + u)))]), (.int .i64 0)]) rfl rfl T.own20 (by decide) (fun wc hw => same_ (((l + W + r : Nat) : Int)) (((t + H + u : Nat) : Int)) (some ⟨xq23, 0, none⟩) ((l + W + r) * (t + H + u)) ((l + W + r) * (t + H + u)) (((l + W + r : Nat) : Int)) (((t + H + u : Nat) : Int)) (some ⟨xq10, 0, none⟩) ((l + W + r) * (t + H + u)) ((l + W + r) * (t + H + u)) 0 (extd xs W H l t r u kd) (extd xs W H l t r u kd) wc (by have h' := (hok2).2.2.2.2; omega) (LsR.blk (tab_len _ _ _) (hw.rdOf (i := 1) rfl 0)) (LsR.blk (tab_len _ _ _) (hw.rdOf (i := 8) rfl 0)) (by first | rfl | omega) (by first | rfl | omega) (by first | rfl | (simp only [Nat.add_zero])))) (fun xq26 hq27 => ?_)
  refine GL.val (v := (.bool false)) (Ex.cast (Ex.not rfl) rfl) (by decide) ?_
  refine GL.nil ?_
  refine GE.thenN ?_
  refine GC.cond rfl (fun hq28 => by cases hq28) (fun _ => ?_)
  refine GC.skip ?_
  refine GE.thenN ?_
  refine GC.region ?_
  refine GL.val (v := (.pointer (some ⟨bq5, 0, none⟩))) (Ex.move rfl) (by decide) ?_
  refine GL.val (v := (.agg #[(.int .i64 (((l + W + r : Nat) : Int))), (.int .i64 (((t + H + u : Nat) : Int))), (.slice (some ⟨xq23, 0, none⟩) ((l + W + r) * (t + H + u)) ((l + W + r) * (t + H + u)))])) (Ex.loadA rfl T.ag32 T.sz32 (i := 0) rfl (vs := [(.int .i64 (((l + W + r : Nat) : Int))), (.int .i64 (((t + H + u : Nat) : Int))), (.slice (some ⟨xq23, 0, none⟩) ((l + W + r) * (t + H + u)) ((l + W + r) * (t + H + u)))]) rfl rfl) (by decide) ?_
  refine GL.val (v := (.int .i64 1)) (Ex.move rfl) (by decide) ?_
  refine GL.step (Stp.call (σ := (Nat × Nat × List Value) × (Nat × Nat × List Value)) (p := fun rz => (([(Value.slice (some ⟨xq14, 0, none⟩) ((l + W + r) * (t + H + u)) ((l + W + r) * (t + H + u)))]) ++ [(Value.slice (some ⟨xq23, 0, none⟩) ((l + W + r) * (t + H + u)) ((l + W + r) * (t + H + u)))] ++ rz.2.2.2 : List Value).length = rz.2.2.1 * 1 ∧ (([(Value.int .i64 0)]) ++ [(Value.int .i64 1)] ++ rz.1.2.2 : List Value).length = rz.1.2.1 * 1) (v := fun rz => (.tuple #[])) (L' := fun rz => [⟨rz.1.1, ([(Value.int .i64 0)]) ++ [(Value.int .i64 1)] ++ rz.1.2.2, 3, true⟩, ⟨rz.2.1, ([(Value.slice (some ⟨xq14, 0, none⟩) ((l + W + r) * (t + H + u)) ((l + W + r) * (t + H + u)))]) ++ [(Value.slice (some ⟨xq23, 0, none⟩) ((l + W + r) * (t + H + u)) ((l + W + r) * (t + H + u)))] ++ rz.2.2.2, 30, true⟩, ⟨bq5, [(.slice (some ⟨rz.2.1, 0, none⟩) 2 rz.2.2.1), (.slice none 0 0), (.slice none 0 0), (.slice none 0 0), (.slice (some ⟨rz.1.1, 0, none⟩) 2 rz.1.2.1), (.slice none 0 0), (.slice none 0 0), (.slice none 0 0)], 41, true⟩, ⟨xq23, (mks 1 ((l + W + r) * (t + H + u))).map u32, 72, true⟩, ⟨bq25, [(.int .i64 (((l + W + r : Nat) : Int))), (.int .i64 (((t + H + u : Nat) : Int))), (.slice (some ⟨xq23, 0, none⟩) ((l + W + r) * (t + H + u)) ((l + W + r) * (t + H + u)))], 32, true⟩, ⟨xq14, (mks 0 ((l + W + r) * (t + H + u))).map u32, 72, true⟩, ⟨bq16, [(.int .i64 (((l + W + r : Nat) : Int))), (.int .i64 (((t + H + u : Nat) : Int))), (.slice (some ⟨xq14, 0, none⟩) ((l + W + r) * (t + H + u)) ((l + W + r) * (t + H + u)))], 32, true⟩, ⟨bq12, [(.int .i64 (((l + W + r : Nat) : Int))), (.int .i64 (((t + H + u : Nat) : Int))), (.slice (some ⟨xq10, 0, none⟩) ((l + W + r) * (t + H + u)) ((l + W + r) * (t + H + u)))], 32, true⟩, ⟨xq10, (extd xs W H l t r u kd).map u32, 72, true⟩, ⟨bq9, [(.int .i64 (((W : Nat) : Int))), (.int .i64 (((H : Nat) : Int))), (.slice (some ⟨xq7.2.2.2, 0, none⟩) n (n + 5))], 32, true⟩, ⟨xq7.1.1, [(Value.slice (some ⟨xq7.2.1.1, 0, none⟩) (n + 5) xq7.2.1.2.1)] ++ xq7.1.2.2, 30, true⟩, ⟨xq7.2.1.1, (roomL xs).map u32 ++ xq7.2.1.2.2, 72, true⟩, ⟨xq7.2.2.1.1, [(Value.slice (some ⟨xq7.2.2.2, 0, none⟩) (n + 5) (n + 5))] ++ xq7.2.2.1.2.2, 30, true⟩, ⟨xq7.2.2.2, (roomL xs).map u32, 72, true⟩, ⟨bq6, [(.slice (some ⟨xq7.2.2.1.1, 0, none⟩) 1 xq7.2.2.1.2.1), (.slice (some ⟨xq7.1.1, 0, none⟩) 1 xq7.1.2.1), (.slice none 0 0), (.slice none 0 0), (.slice none 0 0), (.slice none 0 0), (.slice none 0 0), (.slice none 0 0)], 44, true⟩, ⟨bq1, [(.int .i64 (((W : Nat) : Int))), (.int .i64 (((H : Nat) : Int))), (.slice (some ⟨b, o, none⟩) n cap)], 32, true⟩]) (vs := [(.pointer (some ⟨bq5, 0, none⟩)), (.agg #[(.int .i64 (((l + W + r : Nat) : Int))), (.int .i64 (((t + H + u : Nat) : Int))), (.slice (some ⟨xq23, 0, none⟩) ((l + W + r) * (t + H + u)) ((l + W + r) * (t + H + u)))]), (.int .i64 1)]) rfl rfl T.own21 (by decide) (fun wc hw => book_p11 w [⟨bq25, [(.int .i64 (((l + W + r : Nat) : Int))), (.int .i64 (((t + H + u : Nat) : Int))), (.slice (some ⟨xq23, 0, none⟩) ((l + W + r) * (t + H + u)) ((l + W + r) * (t + H + u)))], 32, true⟩, ⟨xq14, (mks 0 ((l + W + r) * (t + H + u))).map u32, 72, true⟩, ⟨bq16, [(.int .i64 (((l + W + r : Nat) : Int))), (.int .i64 (((t + H + u : Nat) : Int))), (.slice (some ⟨xq14, 0, none⟩) ((l + W + r) * (t + H + u)) ((l + W + r) * (t + H + u)))], 32, true⟩, ⟨bq12, [(.int .i64 (((l + W + r : Nat) : Int))), (.int .i64 (((t + H + u : Nat) : Int))), (.slice (some ⟨xq10, 0, none⟩) ((l + W + r) * (t + H + u)) ((l + W + r) * (t + H + u)))], 32, true⟩, ⟨xq10, (extd xs W H l t r u kd).map u32, 72, true⟩, ⟨bq9, [(.int .i64 (((W : Nat) : Int))), (.int .i64 (((H : Nat) : Int))), (.slice (some ⟨xq7.2.2.2, 0, none⟩) n (n + 5))], 32, true⟩, ⟨xq7.1.1, [(Value.slice (some ⟨xq7.2.1.1, 0, none⟩) (n + 5) xq7.2.1.2.1)] ++ xq7.1.2.2, 30, true⟩, ⟨xq7.2.1.1, (roomL xs).map u32 ++ xq7.2.1.2.2, 72, true⟩, ⟨xq7.2.2.1.1, [(Value.slice (some ⟨xq7.2.2.2, 0, none⟩) (n + 5) (n + 5))] ++ xq7.2.2.1.2.2, 30, true⟩, ⟨xq7.2.2.2, (roomL xs).map u32, 72, true⟩, ⟨bq6, [(.slice (some ⟨xq7.2.2.1.1, 0, none⟩) 1 xq7.2.2.1.2.1), (.slice (some ⟨xq7.1.1, 0, none⟩) 1 xq7.1.2.1), (.slice none 0 0), (.slice none 0 0), (.slice none 0 0), (.slice none 0 0), (.slice none 0 0), (.slice none 0 0)], 44, true⟩, ⟨bq1, [(.int .i64 (((W : Nat) : Int))), (.int .i64 (((H : Nat) : Int))), (.slice (some ⟨b, o, none⟩) n cap)], 32, true⟩] (((l + W + r : Nat) : Int)) (((t + H + u : Nat) : Int)) bq5 1 xq23 ((l + W + r) * (t + H + u)) ((l + W + r) * (t + H + u)) ((extd xs W H l t r u kd).map u32) 1 xq20.2.1 xq20.2.2.1 xq20.1.1 xq20.1.2.1 ([(Value.slice (some ⟨xq14, 0, none⟩) ((l + W + r) * (t + H + u)) ((l + W + r) * (t + H + u)))]) xq20.2.2.2 ([(Value.int .i64 0)]) xq20.1.2.2 wc (by rw [List.length_map]; exact (tab_len _ _ _)) (by have h' := (hok2).2.2.2.2; omega) (by first | decide | omega) (by first | rfl | omega) (by first | rfl | omega) hq21.1 hq21.2 (hw.pick (idx := [4, 3, 2, 1, 0, 5, 6, 7, 8, 9, 10, 11, 12, 13, 14, 15]) (by decide) rfl))) (fun xq29 hq30 => ?_)
  refine GL.nil ?_
  refine GE.blockN ?_
  refine GE.thenN ?_
  refine GC.region ?_
  refine GL.val (v := (.int .i64 1)) (Ex.move rfl) (by decide) ?_
  refine GL.val (v := (.int .i64 2)) (Ex.add rfl rfl (Z := 2) (by decide)) (by decide) ?_
  refine GL.val (v := (.int .i64 2)) (Ex.assign rfl) (by decide) ?_
  refine GL.nil ?_
  refine GE.thenN ?_
  refine GE.round ?_
  refine GC.seq ?_
  refine GC.seq ?_
  refine GC.region ?_
  refine GL.val (v := (.int .i64 2)) (Ex.move rfl) (by decide) ?_
  refine GL.val (v := (.bool false)) (Ex.cast (Ex.lss rfl rfl) rfl) (by decide) ?_
  refine GL.nil ?_
  refine GE.thenN ?_
  refine GC.cond rfl (fun hq31 => by cases hq31) (fun _ => ?_)
  refine GC.exit ?_
  refine GE.thenE ?_
  refine GE.thenE ?_
  refine GE.blockE ?_
  refine GE.thenN ?_
  refine GC.seq ?_
  refine GC.region ?_
  refine GL.val (v := (.pointer (some ⟨bq5, 0, none⟩))) (Ex.move rfl) (by decide) ?_
  refine GL.step (Stp.callR (σ := Unit) (p := fun rz => True) (v := fun rz => (.bool true)) (N := fun rz => []) (vs := [(.pointer (some ⟨bq5, 0, none⟩))]) rfl rfl T.own22 (by decide) (fun wc hw => book_hold bq5 2 xq29.2.1 xq29.2.2.1 xq29.1.1 xq29.1.2.1 ([⟨(some ⟨xq14, 0, none⟩), (l + W + r) * (t + H + u), 0⟩, ⟨(some ⟨xq23, 0, none⟩), (l + W + r) * (t + H + u), 1⟩] : List It) xq29.2.2.2 xq29.1.2.2 wc rfl (by decide) (it_cons (it_blk (by have h' := (hok2).2.2.2.2; omega) (hw.rdOf (i := 5) rfl 0)) (it_cons (it_blk (by have h' := (hok2).2.2.2.2; omega) (hw.rdOf (i := 3) rfl 0)) it_all)) (Has.cons (hw.hasOf (i := 2) rfl) (Has.cons (hw.hasOf (i := 1) rfl) (Has.cons (hw.hasOf (i := 0) rfl) (Has.nil _)))))) (fun xq32 hq33 => ?_)
  refine GL.val (v := (.bool true)) (Ex.move rfl) (by decide) ?_
  refine GL.stepG (tj := 66) rfl rfl (Ex.wp (v := (.pointer (some ⟨bq6, 0, none⟩))) (Ex.move rfl) (by decide)) (fun _ _ => ?_)
  refine GL.stepG (tj := 66) rfl rfl (Stp.callR (σ := Unit) (p := fun rz => True) (v := fun rz => (.bool true)) (N := fun rz => []) (vs := [(.pointer (some ⟨bq6, 0, none⟩))]) rfl rfl T.own23 (by decide) (fun wc hw => room_hold1 bq6 xq7.2.2.1.1 xq7.1.1 xq7.2.2.1.2.1 xq7.1.2.1 xq7.2.2.1.2.2 xq7.1.2.2 xq7.2.2.2 xq7.2.1.1 n xq7.2.1.2.1 xs xq7.2.1.2.2 wc ⟨hl.1, hb⟩ (Has.cons (hw.hasOf (i := 14) rfl) (Has.cons (hw.hasOf (i := 12) rfl) (Has.cons (hw.hasOf (i := 10) rfl) (Has.cons (hw.hasOf (i := 13) rfl) (Has.cons (hw.hasOf (i := 11) rfl) (Has.nil _)))))))) (fun xq34 hq35 => ?_)
  refine GL.val (v := (.bool true)) (Ex.pickT rfl rfl) (by decide) ?_
  refine GL.val (v := (.bool true)) (Ex.assign rfl) (by decide) ?_
  refine GL.nil ?_
  refine GE.thenN ?_
  refine GC.ret ?_
  refine GC.ret1 rfl (Rv.tmp rfl) (fun wN HN => ?_)
  exact HN.ret () trivial rfl (List.nil_sublist _) rfl

set_option maxRecDepth 100000 in
set_option maxHeartbeats 1000000 in
theorem ext_inv (W H : Int) (ad : Option Addr) (n cap : Nat) (xs : List Int) (kd l t r u : Int) (w : World) (hl : Lst w ad n xs) (hb : n ≤ 35184372087808) (hc : chk W H n ≠ 0) :
    Calls Try.prog 5 #[(.agg #[(.int .i64 W), (.int .i64 H), (.slice ad n cap)]), (.int .i64 kd), (.int .i64 l), (.int .i64 t), (.int .i64 r), (.int .i64 u)] w (Ret w (fun _ : Unit => True) (fun _ => .bool true) (fun _ => [])) := by
  refine enter (M := None) (L := []) (n := 70) (l := [(0, (.agg #[(.int .i64 W), (.int .i64 H), (.slice ad n cap)])), (1, (.int .i64 kd)), (2, (.int .i64 l)), (3, (.int .i64 t)), (4, (.int .i64 r)), (5, (.int .i64 u))]) Try.func5 rfl rfl (Args.cons rfl (Args.cons rfl (Args.cons rfl (Args.cons rfl (Args.cons rfl (Args.cons rfl (Args.nil _))))))) (Hp.start _ _) ?_
  refine GC.seq ?_
  refine GC.region ?_
  refine GL.step (Stp.box (cs := [(.int .i64 W), (.int .i64 H), (.slice ad n cap)]) rfl rfl (by decide)) (fun bq1 _ => ?_)
  refine GL.val (v := (.bool false)) (Ex.assign rfl) (by decide) ?_
  refine GL.nil ?_
  refine GE.thenN ?_
  refine GC.seq ?_
  refine GC.seq ?_
  refine GC.region ?_
  refine GL.step (Stp.callR (σ := Unit) (p := fun rz => True) (v := fun rz => (.bool true)) (N := fun rz => []) (vs := []) rfl rfl T.own13 (by decide) (fun wc hw => known wc)) (fun xq2 hq3 => ?_)
  refine GL.val (v := (.bool false)) (Ex.cast (Ex.not rfl) rfl) (by decide) ?_
  refine GL.nil ?_
  refine GE.thenN ?_
  refine GC.cond rfl (fun hq4 => by cases hq4) (fun _ => ?_)
  refine GC.skip ?_
  refine GE.thenN ?_
  refine GC.seq ?_
  refine GC.region ?_
  refine GL.val (v := (.agg #[(.slice none 0 0), (.slice none 0 0), (.slice none 0 0), (.slice none 0 0), (.slice none 0 0), (.slice none 0 0), (.slice none 0 0), (.slice none 0 0)])) (Ex.build (vs := []) rfl (by first | rfl | kernel_rfl)) (by decide) ?_
  refine GL.step (Stp.box (cs := [(.slice none 0 0), (.slice none 0 0), (.slice none 0 0), (.slice none 0 0), (.slice none 0 0), (.slice none 0 0), (.slice none 0 0), (.slice none 0 0)]) rfl rfl (by decide)) (fun bq5 _ => ?_)
  refine GL.val (v := (.pointer (some ⟨bq5, 0, none⟩))) (Ex.assign rfl) (by decide) ?_
  refine GL.nil ?_
  refine GE.thenN ?_
  refine GC.seq ?_
  refine GC.region ?_
  refine GL.val (v := (.agg #[(.slice none 0 0), (.slice none 0 0), (.slice none 0 0), (.slice none 0 0), (.slice none 0 0), (.slice none 0 0), (.slice none 0 0), (.slice none 0 0)])) (Ex.build (vs := []) rfl (by first | rfl | kernel_rfl)) (by decide) ?_
  refine GL.step (Stp.box (cs := [(.slice none 0 0), (.slice none 0 0), (.slice none 0 0), (.slice none 0 0), (.slice none 0 0), (.slice none 0 0), (.slice none 0 0), (.slice none 0 0)]) rfl rfl (by decide)) (fun bq6 _ => ?_)
  refine GL.val (v := (.pointer (some ⟨bq6, 0, none⟩))) (Ex.assign rfl) (by decide) ?_
  refine GL.nil ?_
  refine GE.thenN ?_
  refine GC.seq ?_
  refine GC.region ?_
  refine GL.val (v := (.pointer (some ⟨bq6, 0, none⟩))) (Ex.move rfl) (by decide) ?_
  refine GL.val (v := (.agg #[(.int .i64 W), (.int .i64 H), (.slice ad n cap)])) (Ex.loadA rfl T.ag32 T.sz32 (i := 2) rfl (vs := [(.int .i64 W), (.int .i64 H), (.slice ad n cap)]) rfl rfl) (by decide) ?_
  refine GL.step (Stp.call (σ := (Nat × Nat × List Value) × (Nat × Nat × List Value) × (Nat × Nat × List Value) × Nat) (p := fun rz => ([(Value.slice (some ⟨rz.2.2.2, 0, none⟩) (n + 5) (n + 5))] ++ rz.2.2.1.2.2 : List Value).length = rz.2.2.1.2.1 * 1 ∧ ([(Value.slice (some ⟨rz.2.1.1, 0, none⟩) (n + 5) rz.2.1.2.1)] ++ rz.1.2.2 : List Value).length = rz.1.2.1 * 1) (v := fun rz => (.agg #[(.int .i64 W), (.int .i64 H), (.slice (some ⟨rz.2.2.2, 0, none⟩) n (n + 5))])) (L' := fun rz => [⟨rz.1.1, [(Value.slice (some ⟨rz.2.1.1, 0, none⟩) (n + 5) rz.2.1.2.1)] ++ rz.1.2.2, 30, true⟩, ⟨rz.2.1.1, (roomL xs).map u32 ++ rz.2.1.2.2, 72, true⟩, ⟨rz.2.2.1.1, [(Value.slice (some ⟨rz.2.2.2, 0, none⟩) (n + 5) (n + 5))] ++ rz.2.2.1.2.2, 30, true⟩, ⟨rz.2.2.2, (roomL xs).map u32, 72, true⟩, ⟨bq6, [(.slice (some ⟨rz.2.2.1.1, 0, none⟩) 1 rz.2.2.1.2.1), (.slice (some ⟨rz.1.1, 0, none⟩) 1 rz.1.2.1), (.slice none 0 0), (.slice none 0 0), (.slice none 0 0), (.slice none 0 0), (.slice none 0 0), (.slice none 0 0)], 44, true⟩, ⟨bq5, [(.slice none 0 0), (.slice none 0 0), (.slice none 0 0), (.slice none 0 0), (.slice none 0 0), (.slice none 0 0), (.slice none 0 0), (.slice none 0 0)], 41, true⟩, ⟨bq1, [(.int .i64 W), (.int .i64 H), (.slice ad n cap)], 32, true⟩]) (vs := [(.pointer (some ⟨bq6, 0, none⟩)), (.agg #[(.int .i64 W), (.int .i64 H), (.slice ad n cap)])]) rfl rfl T.own17 (by decide) (fun wc hw => room_p0 w [⟨bq5, [(.slice none 0 0), (.slice none 0 0), (.slice none 0 0), (.slice none 0 0), (.slice none 0 0), (.slice none 0 0), (.slice none 0 0), (.slice none 0 0)], 41, true⟩, ⟨bq1, [(.int .i64 W), (.int .i64 H), (.slice ad n cap)], 32, true⟩] W H bq6 n cap ad xs wc hl hb (hw.pick (idx := [0, 1, 2]) (by decide) rfl))) (fun xq7 hq8 => ?_)
  refine GL.step (Stp.alloc T.zr32 (by decide)) (fun bq9 _ => ?_)
  refine GL.step (Stp.storeL (i := 0) (L1 := [⟨bq9, [(.int .i64 W), (.int .i64 H), (.slice (some ⟨xq7.2.2.2, 0, none⟩) n (n + 5))], 32, true⟩, ⟨xq7.1.1, [(Value.slice (some ⟨xq7.2.1.1, 0, none⟩) (n + 5) xq7.2.1.2.1)] ++ xq7.1.2.2, 30, true⟩, ⟨xq7.2.1.1, (roomL xs).map u32 ++ xq7.2.1.2.2, 72, true⟩, ⟨xq7.2.2.1.1, [(Value.slice (some ⟨xq7.2.2.2, 0, none⟩) (n + 5) (n + 5))] ++ xq7.2.2.1.2.2, 30, true⟩, ⟨xq7.2.2.2, (roomL xs).map u32, 72, true⟩, ⟨bq6, [(.slice (some ⟨xq7.2.2.1.1, 0, none⟩) 1 xq7.2.2.1.2.1), (.slice (some ⟨xq7.1.1, 0, none⟩) 1 xq7.1.2.1), (.slice none 0 0), (.slice none 0 0), (.slice none 0 0), (.slice none 0 0), (.slice none 0 0), (.slice none 0 0)], 44, true⟩, ⟨bq5, [(.slice none 0 0), (.slice none 0 0), (.slice none 0 0), (.slice none 0 0), (.slice none 0 0), (.slice none 0 0), (.slice none 0 0), (.slice none 0 0)], 41, true⟩, ⟨bq1, [(.int .i64 W), (.int .i64 H), (.slice ad n cap)], 32, true⟩]) rfl rfl rfl T.sz32 rfl rfl rfl rfl) (fun _ _ => ?_)
  refine GL.nil ?_
  refine GE.thenN ?_
  refine GC.seq ?_
  refine GC.region ?_
  refine GL.val (v := (.agg #[(.int .i64 W), (.int .i64 H), (.slice ad n cap)])) (Ex.loadA rfl T.ag32 T.sz32 (i := 7) rfl (vs := [(.int .i64 W), (.int .i64 H), (.slice ad n cap)]) rfl rfl) (by decide) ?_
  refine GL.val (v := (.int .i64 kd)) (Ex.move rfl) (by decide) ?_
  refine GL.val (v := (.int .i64 l)) (Ex.move rfl) (by decide) ?_
  refine GL.val (v := (.int .i64 t)) (Ex.move rfl) (by decide) ?_
  refine GL.val (v := (.int .i64 r)) (Ex.move rfl) (by decide) ?_
  refine GL.val (v := (.int .i64 u)) (Ex.move rfl) (by decide) ?_
  refine GL.step (Stp.callR (σ := Unit) (p := fun rz => True) (v := fun rz => (.tuple #[(.agg #[(.int .i64 0), (.int .i64 0), (.slice none 0 0)]), (.int .i64 (chk W H n))])) (N := fun rz => []) (vs := [(.agg #[(.int .i64 W), (.int .i64 H), (.slice ad n cap)]), (.int .i64 kd), (.int .i64 l), (.int .i64 t), (.int .i64 r), (.int .i64 u)]) rfl rfl T.own18 (by decide) (fun wc hw => ref_extend_inv W H ad n cap kd l t r u wc hc)) (fun xq10 hq11 => ?_)
  refine GL.val (v := (.tuple #[(.agg #[(.int .i64 0), (.int .i64 0), (.slice none 0 0)]), (.int .i64 (chk W H n))])) (Ex.move rfl) (by decide) ?_
  refine GL.val (v := (.agg #[(.int .i64 0), (.int .i64 0), (.slice none 0 0)])) (Ex.extract rfl rfl) (by decide) ?_
  refine GL.val (v := (.int .i64 (chk W H n))) (Ex.extract rfl rfl) (by decide) ?_
  refine GL.step (Stp.alloc T.zr32 (by decide)) (fun bq12 _ => ?_)
  refine GL.step (Stp.storeL (i := 0) (L1 := [⟨bq12, [(.int .i64 0), (.int .i64 0), (.slice none 0 0)], 32, true⟩, ⟨bq9, [(.int .i64 W), (.int .i64 H), (.slice (some ⟨xq7.2.2.2, 0, none⟩) n (n + 5))], 32, true⟩, ⟨xq7.1.1, [(Value.slice (some ⟨xq7.2.1.1, 0, none⟩) (n + 5) xq7.2.1.2.1)] ++ xq7.1.2.2, 30, true⟩, ⟨xq7.2.1.1, (roomL xs).map u32 ++ xq7.2.1.2.2, 72, true⟩, ⟨xq7.2.2.1.1, [(Value.slice (some ⟨xq7.2.2.2, 0, none⟩) (n + 5) (n + 5))] ++ xq7.2.2.1.2.2, 30, true⟩, ⟨xq7.2.2.2, (roomL xs).map u32, 72, true⟩, ⟨bq6, [(.slice (some ⟨xq7.2.2.1.1, 0, none⟩) 1 xq7.2.2.1.2.1), (.slice (some ⟨xq7.1.1, 0, none⟩) 1 xq7.1.2.1), (.slice none 0 0), (.slice none 0 0), (.slice none 0 0), (.slice none 0 0), (.slice none 0 0), (.slice none 0 0)], 44, true⟩, ⟨bq5, [(.slice none 0 0), (.slice none 0 0), (.slice none 0 0), (.slice none 0 0), (.slice none 0 0), (.slice none 0 0), (.slice none 0 0), (.slice none 0 0)], 41, true⟩, ⟨bq1, [(.int .i64 W), (.int .i64 H), (.slice ad n cap)], 32, true⟩]) rfl rfl rfl T.sz32 rfl rfl rfl rfl) (fun _ _ => ?_)
  refine GL.val (v := (.int .i64 (chk W H n))) (Ex.assign rfl) (by decide) ?_
  refine GL.nil ?_
  refine GE.thenN ?_
  refine GC.seq ?_
  refine GC.seq ?_
  refine GC.region ?_
  refine GL.val (v := (.int .i64 0)) (Ex.assign rfl) (by decide) ?_
  refine GL.nil ?_
  refine GE.thenN ?_
  refine GC.block ?_
  refine GC.unroll 3 ?_
  refine GE.round ?_
  refine GC.seq ?_
  refine GC.seq ?_
  refine GC.region ?_
  refine GL.val (v := (.int .i64 0)) (Ex.move rfl) (by decide) ?_
  refine GL.val (v := (.bool true)) (Ex.cast (Ex.lss rfl rfl) rfl) (by decide) ?_
  refine GL.nil ?_
  refine GE.thenN ?_
  refine GC.cond rfl (fun _ => ?_) (fun hq13 => by cases hq13)
  refine GC.skip ?_
  refine GE.thenN ?_
  refine GC.seq ?_
  refine GC.block ?_
  refine GC.seq ?_
  refine GC.region ?_
  refine GL.val (v := (.agg #[(.int .i64 W), (.int .i64 H), (.slice (some ⟨xq7.2.2.2, 0, none⟩) n (n + 5))])) (Ex.loadA rfl T.ag32 T.sz32 (i := 1) rfl (vs := [(.int .i64 W), (.int .i64 H), (.slice (some ⟨xq7.2.2.2, 0, none⟩) n (n + 5))]) rfl rfl) (by decide) ?_
  refine GL.val (v := (.int .i64 kd)) (Ex.move rfl) (by decide) ?_
  refine GL.val (v := (.int .i64 l)) (Ex.move rfl) (by decide) ?_
  refine GL.val (v := (.int .i64 t)) (Ex.move rfl) (by decide) ?_
  refine GL.val (v := (.int .i64 r)) (Ex.move rfl) (by decide) ?_
  refine GL.val (v := (.int .i64 u)) (Ex.move rfl) (by decide) ?_
  refine GL.step (Stp.callR (σ := Unit) (p := fun rz => True) (v := fun rz => (.tuple #[(.agg #[(.int .i64 0), (.int .i64 0), (.slice none 0 0)]), (.int .i64 (chk W H n))])) (N := fun rz => []) (vs := [(.agg #[(.int .i64 W), (.int .i64 H), (.slice (some ⟨xq7.2.2.2, 0, none⟩) n (n + 5))]), (.int .i64 kd), (.int .i64 l), (.int .i64 t), (.int .i64 r), (.int .i64 u)]) rfl rfl T.own19 (by decide) (fun wc hw => extend_inv W H (some ⟨xq7.2.2.2, 0, none⟩) n (n + 5) kd l t r u wc hc)) (fun xq14 hq15 => ?_)
  refine GL.val (v := (.tuple #[(.agg #[(.int .i64 0), (.int .i64 0), (.slice none 0 0)]), (.int .i64 (chk W H n))])) (Ex.move rfl) (by decide) ?_
  refine GL.val (v := (.agg #[(.int .i64 0), (.int .i64 0), (.slice none 0 0)])) (Ex.extract rfl rfl) (by decide) ?_
  refine GL.val (v := (.int .i64 (chk W H n))) (Ex.extract rfl rfl) (by decide) ?_
  refine GL.step (Stp.alloc T.zr32 (by decide)) (fun bq16 _ => ?_)
  refine GL.step (Stp.storeL (i := 0) (L1 := [⟨bq16, [(.int .i64 0), (.int .i64 0), (.slice none 0 0)], 32, true⟩, ⟨bq12, [(.int .i64 0), (.int .i64 0), (.slice none 0 0)], 32, true⟩, ⟨bq9, [(.int .i64 W), (.int .i64 H), (.slice (some ⟨xq7.2.2.2, 0, none⟩) n (n + 5))], 32, true⟩, ⟨xq7.1.1, [(Value.slice (some ⟨xq7.2.1.1, 0, none⟩) (n + 5) xq7.2.1.2.1)] ++ xq7.1.2.2, 30, true⟩, ⟨xq7.2.1.1, (roomL xs).map u32 ++ xq7.2.1.2.2, 72, true⟩, ⟨xq7.2.2.1.1, [(Value.slice (some ⟨xq7.2.2.2, 0, none⟩) (n + 5) (n + 5))] ++ xq7.2.2.1.2.2, 30, true⟩, ⟨xq7.2.2.2, (roomL xs).map u32, 72, true⟩, ⟨bq6, [(.slice (some ⟨xq7.2.2.1.1, 0, none⟩) 1 xq7.2.2.1.2.1), (.slice (some ⟨xq7.1.1, 0, none⟩) 1 xq7.1.2.1), (.slice none 0 0), (.slice none 0 0), (.slice none 0 0), (.slice none 0 0), (.slice none 0 0), (.slice none 0 0)], 44, true⟩, ⟨bq5, [(.slice none 0 0), (.slice none 0 0), (.slice none 0 0), (.slice none 0 0), (.slice none 0 0), (.slice none 0 0), (.slice none 0 0), (.slice none 0 0)], 41, true⟩, ⟨bq1, [(.int .i64 W), (.int .i64 H), (.slice ad n cap)], 32, true⟩]) rfl rfl rfl T.sz32 rfl rfl rfl rfl) (fun _ _ => ?_)
  refine GL.val (v := (.int .i64 (chk W H n))) (Ex.assign rfl) (by decide) ?_
  refine GL.nil ?_
  refine GE.thenN ?_
  refine GC.seq ?_
  refine GC.seq ?_
  refine GC.region ?_
  refine GL.val (v := (.agg #[(.int .i64 0), (.int .i64 0), (.slice none 0 0)])) (Ex.loadA rfl T.ag32 T.sz32 (i := 0) rfl (vs := [(.int .i64 0), (.int .i64 0), (.slice none 0 0)]) rfl rfl) (by decide) ?_
  refine GL.val (v := (.int .i64 (chk W H n))) (Ex.move rfl) (by decide) ?_
  refine GL.val (v := (.agg #[(.int .i64 0), (.int .i64 0), (.slice none 0 0)])) (Ex.loadA rfl T.ag32 T.sz32 (i := 1) rfl (vs := [(.int .i64 0), (.int .i64 0), (.slice none 0 0)]) rfl rfl) (by decide) ?_
  refine GL.val (v := (.int .i64 (chk W H n))) (Ex.move rfl) (by decide) ?_
  refine GL.step (Stp.callR (σ := Unit) (p := fun rz => True) (v := fun rz => (.bool true)) (N := fun rz => []) (vs := [(.agg #[(.int .i64 0), (.int .i64 0), (.slice none 0 0)]), (.int .i64 (chk W H n)), (.agg #[(.int .i64 0), (.int .i64 0), (.slice none 0 0)]), (.int .i64 (chk W H n))]) rfl rfl T.own20 (by decide) (fun wc hw => same_ 0 0 none 0 0 0 0 none 0 0 (chk W H n) ([]) ([]) wc (by decide) (LsR.nil _ _) (LsR.nil _ _) (by first | rfl | omega) (by first | rfl | omega) (by first | rfl | (simp only [Nat.add_zero])))) (fun xq17 hq18 => ?_)
  refine GL.val (v := (.bool false)) (Ex.cast (Ex.not rfl) rfl) (by decide) ?_
  refine GL.nil ?_
  refine GE.thenN ?_
  refine GC.cond rfl (fun hq19 => by cases hq19) (fun _ => ?_)
  refine GC.skip ?_
  refine GE.thenN ?_
  refine GC.region ?_
  refine GL.val (v := (.pointer (some ⟨bq5, 0, none⟩))) (Ex.move rfl) (by decide) ?_
  refine GL.val (v := (.agg #[(.int .i64 0), (.int .i64 0), (.slice none 0 0)])) (Ex.loadA rfl T.ag32 T.sz32 (i := 0) rfl (vs := [(.int .i64 0), (.int .i64 0), (.slice none 0 0)]) rfl rfl) (by decide) ?_
  refine GL.val (v := (.int .i64 0)) (Ex.move rfl) (by decide) ?_
  refine GL.step (Stp.call (σ := (Nat × Nat × List Value) × (Nat × Nat × List Value)) (p := fun rz => ([(Value.slice none 0 0)] ++ rz.2.2.2 : List Value).length = rz.2.2.1 * 1 ∧ ([(Value.int .i64 0)] ++ rz.1.2.2 : List Value).length = rz.1.2.1 * 1) (v := fun rz => (.tuple #[])) (L' := fun rz => [⟨rz.1.1, [(Value.int .i64 0)] ++ rz.1.2.2, 3, true⟩, ⟨rz.2.1, [(Value.slice none 0 0)] ++ rz.2.2.2, 30, true⟩, ⟨bq5, [(.slice (some ⟨rz.2.1, 0, none⟩) 1 rz.2.2.1), (.slice none 0 0), (.slice none 0 0), (.slice none 0 0), (.slice (some ⟨rz.1.1, 0, none⟩) 1 rz.1.2.1), (.slice none 0 0), (.slice none 0 0), (.slice none 0 0)], 41, true⟩, ⟨bq16, [(.int .i64 0), (.int .i64 0), (.slice none 0 0)], 32, true⟩, ⟨bq12, [(.int .i64 0), (.int .i64 0), (.slice none 0 0)], 32, true⟩, ⟨bq9, [(.int .i64 W), (.int .i64 H), (.slice (some ⟨xq7.2.2.2, 0, none⟩) n (n + 5))], 32, true⟩, ⟨xq7.1.1, [(Value.slice (some ⟨xq7.2.1.1, 0, none⟩) (n + 5) xq7.2.1.2.1)] ++ xq7.1.2.2, 30, true⟩, ⟨xq7.2.1.1, (roomL xs).map u32 ++ xq7.2.1.2.2, 72, true⟩, ⟨xq7.2.2.1.1, [(Value.slice (some ⟨xq7.2.2.2, 0, none⟩) (n + 5) (n + 5))] ++ xq7.2.2.1.2.2, 30, true⟩, ⟨xq7.2.2.2, (roomL xs).map u32, 72, true⟩, ⟨bq6, [(.slice (some ⟨xq7.2.2.1.1, 0, none⟩) 1 xq7.2.2.1.2.1), (.slice (some ⟨xq7.1.1, 0, none⟩) 1 xq7.1.2.1), (.slice none 0 0), (.slice none 0 0), (.slice none 0 0), (.slice none 0 0), (.slice none 0 0), (.slice none 0 0)], 44, true⟩, ⟨bq1, [(.int .i64 W), (.int .i64 H), (.slice ad n cap)], 32, true⟩]) (vs := [(.pointer (some ⟨bq5, 0, none⟩)), (.agg #[(.int .i64 0), (.int .i64 0), (.slice none 0 0)]), (.int .i64 0)]) rfl rfl T.own21 (by decide) (fun wc hw => book_p00 w [⟨bq16, [(.int .i64 0), (.int .i64 0), (.slice none 0 0)], 32, true⟩, ⟨bq12, [(.int .i64 0), (.int .i64 0), (.slice none 0 0)], 32, true⟩, ⟨bq9, [(.int .i64 W), (.int .i64 H), (.slice (some ⟨xq7.2.2.2, 0, none⟩) n (n + 5))], 32, true⟩, ⟨xq7.1.1, [(Value.slice (some ⟨xq7.2.1.1, 0, none⟩) (n + 5) xq7.2.1.2.1)] ++ xq7.1.2.2, 30, true⟩, ⟨xq7.2.1.1, (roomL xs).map u32 ++ xq7.2.1.2.2, 72, true⟩, ⟨xq7.2.2.1.1, [(Value.slice (some ⟨xq7.2.2.2, 0, none⟩) (n + 5) (n + 5))] ++ xq7.2.2.1.2.2, 30, true⟩, ⟨xq7.2.2.2, (roomL xs).map u32, 72, true⟩, ⟨bq6, [(.slice (some ⟨xq7.2.2.1.1, 0, none⟩) 1 xq7.2.2.1.2.1), (.slice (some ⟨xq7.1.1, 0, none⟩) 1 xq7.1.2.1), (.slice none 0 0), (.slice none 0 0), (.slice none 0 0), (.slice none 0 0), (.slice none 0 0), (.slice none 0 0)], 44, true⟩, ⟨bq1, [(.int .i64 W), (.int .i64 H), (.slice ad n cap)], 32, true⟩] 0 0 bq5 0 wc (hw.pick (idx := [8, 0, 1, 2, 3, 4, 5, 6, 7, 9]) (by decide) rfl))) (fun xq20 hq21 => ?_)
  refine GL.nil ?_
  refine GE.blockN ?_
  refine GE.thenN ?_
  refine GC.region ?_
  refine GL.val (v := (.int .i64 0)) (Ex.move rfl) (by decide) ?_
  refine GL.val (v := (.int .i64 1)) (Ex.add rfl rfl (Z := 1) (by decide)) (by decide) ?_
  refine GL.val (v := (.int .i64 1)) (Ex.assign rfl) (by decide) ?_
  refine GL.nil ?_
  refine GE.thenN ?_
  refine GE.round ?_
  refine GC.seq ?_
  refine GC.seq ?_
  refine GC.region ?_
  refine GL.val (v := (.int .i64 1)) (Ex.move rfl) (by decide) ?_
  refine GL.val (v := (.bool true)) (Ex.cast (Ex.lss rfl rfl) rfl) (by decide) ?_
  refine GL.nil ?_
  refine GE.thenN ?_
  refine GC.cond rfl (fun _ => ?_) (fun hq22 => by cases hq22)
  refine GC.skip ?_
  refine GE.thenN ?_
  refine GC.seq ?_
  refine GC.block ?_
  refine GC.seq ?_
  refine GC.region ?_
  refine GL.val (v := (.agg #[(.int .i64 W), (.int .i64 H), (.slice (some ⟨xq7.2.2.2, 0, none⟩) n (n + 5))])) (Ex.loadA rfl T.ag32 T.sz32 (i := 5) rfl (vs := [(.int .i64 W), (.int .i64 H), (.slice (some ⟨xq7.2.2.2, 0, none⟩) n (n + 5))]) rfl rfl) (by decide) ?_
  refine GL.val (v := (.int .i64 kd)) (Ex.move rfl) (by decide) ?_
  refine GL.val (v := (.int .i64 l)) (Ex.move rfl) (by decide) ?_
  refine GL.val (v := (.int .i64 t)) (Ex.move rfl) (by decide) ?_
  refine GL.val (v := (.int .i64 r)) (Ex.move rfl) (by decide) ?_
  refine GL.val (v := (.int .i64 u)) (Ex.move rfl) (by decide) ?_
  refine GL.step (Stp.callR (σ := Unit) (p := fun rz => True) (v := fun rz => (.tuple #[(.agg #[(.int .i64 0), (.int .i64 0), (.slice none 0 0)]), (.int .i64 (chk W H n))])) (N := fun rz => []) (vs := [(.agg #[(.int .i64 W), (.int .i64 H), (.slice (some ⟨xq7.2.2.2, 0, none⟩) n (n + 5))]), (.int .i64 kd), (.int .i64 l), (.int .i64 t), (.int .i64 r), (.int .i64 u)]) rfl rfl T.own19 (by decide) (fun wc hw => extend_inv W H (some ⟨xq7.2.2.2, 0, none⟩) n (n + 5) kd l t r u wc hc)) (fun xq23 hq24 => ?_)
  refine GL.val (v := (.tuple #[(.agg #[(.int .i64 0), (.int .i64 0), (.slice none 0 0)]), (.int .i64 (chk W H n))])) (Ex.move rfl) (by decide) ?_
  refine GL.val (v := (.agg #[(.int .i64 0), (.int .i64 0), (.slice none 0 0)])) (Ex.extract rfl rfl) (by decide) ?_
  refine GL.val (v := (.int .i64 (chk W H n))) (Ex.extract rfl rfl) (by decide) ?_
  refine GL.step (Stp.alloc T.zr32 (by decide)) (fun bq25 _ => ?_)
  refine GL.step (Stp.storeL (i := 0) (L1 := [⟨bq25, [(.int .i64 0), (.int .i64 0), (.slice none 0 0)], 32, true⟩, ⟨xq20.1.1, [(Value.int .i64 0)] ++ xq20.1.2.2, 3, true⟩, ⟨xq20.2.1, [(Value.slice none 0 0)] ++ xq20.2.2.2, 30, true⟩, ⟨bq5, [(.slice (some ⟨xq20.2.1, 0, none⟩) 1 xq20.2.2.1), (.slice none 0 0), (.slice none 0 0), (.slice none 0 0), (.slice (some ⟨xq20.1.1, 0, none⟩) 1 xq20.1.2.1), (.slice none 0 0), (.slice none 0 0), (.slice none 0 0)], 41, true⟩, ⟨bq16, [(.int .i64 0), (.int .i64 0), (.slice none 0 0)], 32, true⟩, ⟨bq12, [(.int .i64 0), (.int .i64 0), (.slice none 0 0)], 32, true⟩, ⟨bq9, [(.int .i64 W), (.int .i64 H), (.slice (some ⟨xq7.2.2.2, 0, none⟩) n (n + 5))], 32, true⟩, ⟨xq7.1.1, [(Value.slice (some ⟨xq7.2.1.1, 0, none⟩) (n + 5) xq7.2.1.2.1)] ++ xq7.1.2.2, 30, true⟩, ⟨xq7.2.1.1, (roomL xs).map u32 ++ xq7.2.1.2.2, 72, true⟩, ⟨xq7.2.2.1.1, [(Value.slice (some ⟨xq7.2.2.2, 0, none⟩) (n + 5) (n + 5))] ++ xq7.2.2.1.2.2, 30, true⟩, ⟨xq7.2.2.2, (roomL xs).map u32, 72, true⟩, ⟨bq6, [(.slice (some ⟨xq7.2.2.1.1, 0, none⟩) 1 xq7.2.2.1.2.1), (.slice (some ⟨xq7.1.1, 0, none⟩) 1 xq7.1.2.1), (.slice none 0 0), (.slice none 0 0), (.slice none 0 0), (.slice none 0 0), (.slice none 0 0), (.slice none 0 0)], 44, true⟩, ⟨bq1, [(.int .i64 W), (.int .i64 H), (.slice ad n cap)], 32, true⟩]) rfl rfl rfl T.sz32 rfl rfl rfl rfl) (fun _ _ => ?_)
  refine GL.val (v := (.int .i64 (chk W H n))) (Ex.assign rfl) (by decide) ?_
  refine GL.nil ?_
  refine GE.thenN ?_
  refine GC.seq ?_
  refine GC.seq ?_
  refine GC.region ?_
  refine GL.val (v := (.agg #[(.int .i64 0), (.int .i64 0), (.slice none 0 0)])) (Ex.loadA rfl T.ag32 T.sz32 (i := 0) rfl (vs := [(.int .i64 0), (.int .i64 0), (.slice none 0 0)]) rfl rfl) (by decide) ?_
  refine GL.val (v := (.int .i64 (chk W H n))) (Ex.move rfl) (by decide) ?_
  refine GL.val (v := (.agg #[(.int .i64 0), (.int .i64 0), (.slice none 0 0)])) (Ex.loadA rfl T.ag32 T.sz32 (i := 5) rfl (vs := [(.int .i64 0), (.int .i64 0), (.slice none 0 0)]) rfl rfl) (by decide) ?_
  refine GL.val (v := (.int .i64 (chk W H n))) (Ex.move rfl) (by decide) ?_
  refine GL.step (Stp.callR (σ := Unit) (p := fun rz => True) (v := fun rz => (.bool true)) (N := fun rz => []) (vs := [(.agg #[(.int .i64 0), (.int .i64 0), (.slice none 0 0)]), (.int .i64 (chk W H n)), (.agg #[(.int .i64 0), (.int .i64 0), (.slice none 0 0)]), (.int .i64 (chk W H n))]) rfl rfl T.own20 (by decide) (fun wc hw => same_ 0 0 none 0 0 0 0 none 0 0 (chk W H n) ([]) ([]) wc (by decide) (LsR.nil _ _) (LsR.nil _ _) (by first | rfl | omega) (by first | rfl | omega) (by first | rfl | (simp only [Nat.add_zero])))) (fun xq26 hq27 => ?_)
  refine GL.val (v := (.bool false)) (Ex.cast (Ex.not rfl) rfl) (by decide) ?_
  refine GL.nil ?_
  refine GE.thenN ?_
  refine GC.cond rfl (fun hq28 => by cases hq28) (fun _ => ?_)
  refine GC.skip ?_
  refine GE.thenN ?_
  refine GC.region ?_
  refine GL.val (v := (.pointer (some ⟨bq5, 0, none⟩))) (Ex.move rfl) (by decide) ?_
  refine GL.val (v := (.agg #[(.int .i64 0), (.int .i64 0), (.slice none 0 0)])) (Ex.loadA rfl T.ag32 T.sz32 (i := 0) rfl (vs := [(.int .i64 0), (.int .i64 0), (.slice none 0 0)]) rfl rfl) (by decide) ?_
  refine GL.val (v := (.int .i64 1)) (Ex.move rfl) (by decide) ?_
  refine GL.step (Stp.call (σ := (Nat × Nat × List Value) × (Nat × Nat × List Value)) (p := fun rz => (([(Value.slice none 0 0)]) ++ [(Value.slice none 0 0)] ++ rz.2.2.2 : List Value).length = rz.2.2.1 * 1 ∧ (([(Value.int .i64 0)]) ++ [(Value.int .i64 1)] ++ rz.1.2.2 : List Value).length = rz.1.2.1 * 1) (v := fun rz => (.tuple #[])) (L' := fun rz => [⟨rz.1.1, ([(Value.int .i64 0)]) ++ [(Value.int .i64 1)] ++ rz.1.2.2, 3, true⟩, ⟨rz.2.1, ([(Value.slice none 0 0)]) ++ [(Value.slice none 0 0)] ++ rz.2.2.2, 30, true⟩, ⟨bq5, [(.slice (some ⟨rz.2.1, 0, none⟩) 2 rz.2.2.1), (.slice none 0 0), (.slice none 0 0), (.slice none 0 0), (.slice (some ⟨rz.1.1, 0, none⟩) 2 rz.1.2.1), (.slice none 0 0), (.slice none 0 0), (.slice none 0 0)], 41, true⟩, ⟨bq25, [(.int .i64 0), (.int .i64 0), (.slice none 0 0)], 32, true⟩, ⟨bq16, [(.int .i64 0), (.int .i64 0), (.slice none 0 0)], 32, true⟩, ⟨bq12, [(.int .i64 0), (.int .i64 0), (.slice none 0 0)], 32, true⟩, ⟨bq9, [(.int .i64 W), (.int .i64 H), (.slice (some ⟨xq7.2.2.2, 0, none⟩) n (n + 5))], 32, true⟩, ⟨xq7.1.1, [(Value.slice (some ⟨xq7.2.1.1, 0, none⟩) (n + 5) xq7.2.1.2.1)] ++ xq7.1.2.2, 30, true⟩, ⟨xq7.2.1.1, (roomL xs).map u32 ++ xq7.2.1.2.2, 72, true⟩, ⟨xq7.2.2.1.1, [(Value.slice (some ⟨xq7.2.2.2, 0, none⟩) (n + 5) (n + 5))] ++ xq7.2.2.1.2.2, 30, true⟩, ⟨xq7.2.2.2, (roomL xs).map u32, 72, true⟩, ⟨bq6, [(.slice (some ⟨xq7.2.2.1.1, 0, none⟩) 1 xq7.2.2.1.2.1), (.slice (some ⟨xq7.1.1, 0, none⟩) 1 xq7.1.2.1), (.slice none 0 0), (.slice none 0 0), (.slice none 0 0), (.slice none 0 0), (.slice none 0 0), (.slice none 0 0)], 44, true⟩, ⟨bq1, [(.int .i64 W), (.int .i64 H), (.slice ad n cap)], 32, true⟩]) (vs := [(.pointer (some ⟨bq5, 0, none⟩)), (.agg #[(.int .i64 0), (.int .i64 0), (.slice none 0 0)]), (.int .i64 1)]) rfl rfl T.own21 (by decide) (fun wc hw => book_p10 w [⟨bq25, [(.int .i64 0), (.int .i64 0), (.slice none 0 0)], 32, true⟩, ⟨bq16, [(.int .i64 0), (.int .i64 0), (.slice none 0 0)], 32, true⟩, ⟨bq12, [(.int .i64 0), (.int .i64 0), (.slice none 0 0)], 32, true⟩, ⟨bq9, [(.int .i64 W), (.int .i64 H), (.slice (some ⟨xq7.2.2.2, 0, none⟩) n (n + 5))], 32, true⟩, ⟨xq7.1.1, [(Value.slice (some ⟨xq7.2.1.1, 0, none⟩) (n + 5) xq7.2.1.2.1)] ++ xq7.1.2.2, 30, true⟩, ⟨xq7.2.1.1, (roomL xs).map u32 ++ xq7.2.1.2.2, 72, true⟩, ⟨xq7.2.2.1.1, [(Value.slice (some ⟨xq7.2.2.2, 0, none⟩) (n + 5) (n + 5))] ++ xq7.2.2.1.2.2, 30, true⟩, ⟨xq7.2.2.2, (roomL xs).map u32, 72, true⟩, ⟨bq6, [(.slice (some ⟨xq7.2.2.1.1, 0, none⟩) 1 xq7.2.2.1.2.1), (.slice (some ⟨xq7.1.1, 0, none⟩) 1 xq7.1.2.1), (.slice none 0 0), (.slice none 0 0), (.slice none 0 0), (.slice none 0 0), (.slice none 0 0), (.slice none 0 0)], 44, true⟩, ⟨bq1, [(.int .i64 W), (.int .i64 H), (.slice ad n cap)], 32, true⟩] 0 0 bq5 1 1 xq20.2.1 xq20.2.2.1 xq20.1.1 xq20.1.2.1 ([(Value.slice none 0 0)]) xq20.2.2.2 ([(Value.int .i64 0)]) xq20.1.2.2 wc (by first | decide | omega) (by first | rfl | omega) (by first | rfl | omega) hq21.1 hq21.2 (hw.pick (idx := [3, 2, 1, 0, 4, 5, 6, 7, 8, 9, 10, 11, 12]) (by decide) rfl))) (fun xq29 hq30 => ?_)
  refine GL.nil ?_
  refine GE.blockN ?_
  refine GE.thenN ?_
  refine GC.region ?_
  refine GL.val (v := (.int .i64 1)) (Ex.move rfl) (by decide) ?_
  refine GL.val (v := (.int .i64 2)) (Ex.add rfl rfl (Z := 2) (by decide)) (by decide) ?_
  refine GL.val (v := (.int .i64 2)) (Ex.assign rfl) (by decide) ?_
  refine GL.nil ?_
  refine GE.thenN ?_
  refine GE.round ?_
  refine GC.seq ?_
  refine GC.seq ?_
  refine GC.region ?_
  refine GL.val (v := (.int .i64 2)) (Ex.move rfl) (by decide) ?_
  refine GL.val (v := (.bool false)) (Ex.cast (Ex.lss rfl rfl) rfl) (by decide) ?_
  refine GL.nil ?_
  refine GE.thenN ?_
  refine GC.cond rfl (fun hq31 => by cases hq31) (fun _ => ?_)
  refine GC.exit ?_
  refine GE.thenE ?_
  refine GE.thenE ?_
  refine GE.blockE ?_
  refine GE.thenN ?_
  refine GC.seq ?_
  refine GC.region ?_
  refine GL.val (v := (.pointer (some ⟨bq5, 0, none⟩))) (Ex.move rfl) (by decide) ?_
  refine GL.step (Stp.callR (σ := Unit) (p := fun rz => True) (v := fun rz => (.bool true)) (N := fun rz => []) (vs := [(.pointer (some ⟨bq5, 0, none⟩))]) rfl rfl T.own22 (by decide) (fun wc hw => book_hold bq5 2 xq29.2.1 xq29.2.2.1 xq29.1.1 xq29.1.2.1 ([⟨none, 0, 0⟩, ⟨none, 0, 1⟩] : List It) xq29.2.2.2 xq29.1.2.2 wc rfl (by decide) (it_cons (it_nil _) (it_cons (it_nil _) it_all)) (Has.cons (hw.hasOf (i := 2) rfl) (Has.cons (hw.hasOf (i := 1) rfl) (Has.cons (hw.hasOf (i := 0) rfl) (Has.nil _)))))) (fun xq32 hq33 => ?_)
  refine GL.val (v := (.bool true)) (Ex.move rfl) (by decide) ?_
  refine GL.stepG (tj := 66) rfl rfl (Ex.wp (v := (.pointer (some ⟨bq6, 0, none⟩))) (Ex.move rfl) (by decide)) (fun _ _ => ?_)
  refine GL.stepG (tj := 66) rfl rfl (Stp.callR (σ := Unit) (p := fun rz => True) (v := fun rz => (.bool true)) (N := fun rz => []) (vs := [(.pointer (some ⟨bq6, 0, none⟩))]) rfl rfl T.own23 (by decide) (fun wc hw => room_hold1 bq6 xq7.2.2.1.1 xq7.1.1 xq7.2.2.1.2.1 xq7.1.2.1 xq7.2.2.1.2.2 xq7.1.2.2 xq7.2.2.2 xq7.2.1.1 n xq7.2.1.2.1 xs xq7.2.1.2.2 wc ⟨hl.1, hb⟩ (Has.cons (hw.hasOf (i := 11) rfl) (Has.cons (hw.hasOf (i := 9) rfl) (Has.cons (hw.hasOf (i := 7) rfl) (Has.cons (hw.hasOf (i := 10) rfl) (Has.cons (hw.hasOf (i := 8) rfl) (Has.nil _)))))))) (fun xq34 hq35 => ?_)
  refine GL.val (v := (.bool true)) (Ex.pickT rfl rfl) (by decide) ?_
  refine GL.val (v := (.bool true)) (Ex.assign rfl) (by decide) ?_
  refine GL.nil ?_
  refine GE.thenN ?_
  refine GC.ret ?_
  refine GC.ret1 rfl (Rv.tmp rfl) (fun wN HN => ?_)
  exact HN.ret () trivial rfl (List.nil_sublist _) rfl

set_option maxRecDepth 100000 in
set_option maxHeartbeats 1000000 in
theorem ext_k (W H : Int) (ad : Option Addr) (n cap : Nat) (xs : List Int) (kd l t r u : Int) (w : World) (hl : Lst w ad n xs) (hb : n ≤ 35184372087808) (hc : chk W H n = 0) (hk : (bord kd 1 0).2 ≠ 0) :
    Calls Try.prog 5 #[(.agg #[(.int .i64 W), (.int .i64 H), (.slice ad n cap)]), (.int .i64 kd), (.int .i64 l), (.int .i64 t), (.int .i64 r), (.int .i64 u)] w (Ret w (fun _ : Unit => True) (fun _ => .bool true) (fun _ => [])) := by
  refine enter (M := None) (L := []) (n := 70) (l := [(0, (.agg #[(.int .i64 W), (.int .i64 H), (.slice ad n cap)])), (1, (.int .i64 kd)), (2, (.int .i64 l)), (3, (.int .i64 t)), (4, (.int .i64 r)), (5, (.int .i64 u))]) Try.func5 rfl rfl (Args.cons rfl (Args.cons rfl (Args.cons rfl (Args.cons rfl (Args.cons rfl (Args.cons rfl (Args.nil _))))))) (Hp.start _ _) ?_
  refine GC.seq ?_
  refine GC.region ?_
  refine GL.step (Stp.box (cs := [(.int .i64 W), (.int .i64 H), (.slice ad n cap)]) rfl rfl (by decide)) (fun bq1 _ => ?_)
  refine GL.val (v := (.bool false)) (Ex.assign rfl) (by decide) ?_
  refine GL.nil ?_
  refine GE.thenN ?_
  refine GC.seq ?_
  refine GC.seq ?_
  refine GC.region ?_
  refine GL.step (Stp.callR (σ := Unit) (p := fun rz => True) (v := fun rz => (.bool true)) (N := fun rz => []) (vs := []) rfl rfl T.own13 (by decide) (fun wc hw => known wc)) (fun xq2 hq3 => ?_)
  refine GL.val (v := (.bool false)) (Ex.cast (Ex.not rfl) rfl) (by decide) ?_
  refine GL.nil ?_
  refine GE.thenN ?_
  refine GC.cond rfl (fun hq4 => by cases hq4) (fun _ => ?_)
  refine GC.skip ?_
  refine GE.thenN ?_
  refine GC.seq ?_
  refine GC.region ?_
  refine GL.val (v := (.agg #[(.slice none 0 0), (.slice none 0 0), (.slice none 0 0), (.slice none 0 0), (.slice none 0 0), (.slice none 0 0), (.slice none 0 0), (.slice none 0 0)])) (Ex.build (vs := []) rfl (by first | rfl | kernel_rfl)) (by decide) ?_
  refine GL.step (Stp.box (cs := [(.slice none 0 0), (.slice none 0 0), (.slice none 0 0), (.slice none 0 0), (.slice none 0 0), (.slice none 0 0), (.slice none 0 0), (.slice none 0 0)]) rfl rfl (by decide)) (fun bq5 _ => ?_)
  refine GL.val (v := (.pointer (some ⟨bq5, 0, none⟩))) (Ex.assign rfl) (by decide) ?_
  refine GL.nil ?_
  refine GE.thenN ?_
  refine GC.seq ?_
  refine GC.region ?_
  refine GL.val (v := (.agg #[(.slice none 0 0), (.slice none 0 0), (.slice none 0 0), (.slice none 0 0), (.slice none 0 0), (.slice none 0 0), (.slice none 0 0), (.slice none 0 0)])) (Ex.build (vs := []) rfl (by first | rfl | kernel_rfl)) (by decide) ?_
  refine GL.step (Stp.box (cs := [(.slice none 0 0), (.slice none 0 0), (.slice none 0 0), (.slice none 0 0), (.slice none 0 0), (.slice none 0 0), (.slice none 0 0), (.slice none 0 0)]) rfl rfl (by decide)) (fun bq6 _ => ?_)
  refine GL.val (v := (.pointer (some ⟨bq6, 0, none⟩))) (Ex.assign rfl) (by decide) ?_
  refine GL.nil ?_
  refine GE.thenN ?_
  refine GC.seq ?_
  refine GC.region ?_
  refine GL.val (v := (.pointer (some ⟨bq6, 0, none⟩))) (Ex.move rfl) (by decide) ?_
  refine GL.val (v := (.agg #[(.int .i64 W), (.int .i64 H), (.slice ad n cap)])) (Ex.loadA rfl T.ag32 T.sz32 (i := 2) rfl (vs := [(.int .i64 W), (.int .i64 H), (.slice ad n cap)]) rfl rfl) (by decide) ?_
  refine GL.step (Stp.call (σ := (Nat × Nat × List Value) × (Nat × Nat × List Value) × (Nat × Nat × List Value) × Nat) (p := fun rz => ([(Value.slice (some ⟨rz.2.2.2, 0, none⟩) (n + 5) (n + 5))] ++ rz.2.2.1.2.2 : List Value).length = rz.2.2.1.2.1 * 1 ∧ ([(Value.slice (some ⟨rz.2.1.1, 0, none⟩) (n + 5) rz.2.1.2.1)] ++ rz.1.2.2 : List Value).length = rz.1.2.1 * 1) (v := fun rz => (.agg #[(.int .i64 W), (.int .i64 H), (.slice (some ⟨rz.2.2.2, 0, none⟩) n (n + 5))])) (L' := fun rz => [⟨rz.1.1, [(Value.slice (some ⟨rz.2.1.1, 0, none⟩) (n + 5) rz.2.1.2.1)] ++ rz.1.2.2, 30, true⟩, ⟨rz.2.1.1, (roomL xs).map u32 ++ rz.2.1.2.2, 72, true⟩, ⟨rz.2.2.1.1, [(Value.slice (some ⟨rz.2.2.2, 0, none⟩) (n + 5) (n + 5))] ++ rz.2.2.1.2.2, 30, true⟩, ⟨rz.2.2.2, (roomL xs).map u32, 72, true⟩, ⟨bq6, [(.slice (some ⟨rz.2.2.1.1, 0, none⟩) 1 rz.2.2.1.2.1), (.slice (some ⟨rz.1.1, 0, none⟩) 1 rz.1.2.1), (.slice none 0 0), (.slice none 0 0), (.slice none 0 0), (.slice none 0 0), (.slice none 0 0), (.slice none 0 0)], 44, true⟩, ⟨bq5, [(.slice none 0 0), (.slice none 0 0), (.slice none 0 0), (.slice none 0 0), (.slice none 0 0), (.slice none 0 0), (.slice none 0 0), (.slice none 0 0)], 41, true⟩, ⟨bq1, [(.int .i64 W), (.int .i64 H), (.slice ad n cap)], 32, true⟩]) (vs := [(.pointer (some ⟨bq6, 0, none⟩)), (.agg #[(.int .i64 W), (.int .i64 H), (.slice ad n cap)])]) rfl rfl T.own17 (by decide) (fun wc hw => room_p0 w [⟨bq5, [(.slice none 0 0), (.slice none 0 0), (.slice none 0 0), (.slice none 0 0), (.slice none 0 0), (.slice none 0 0), (.slice none 0 0), (.slice none 0 0)], 41, true⟩, ⟨bq1, [(.int .i64 W), (.int .i64 H), (.slice ad n cap)], 32, true⟩] W H bq6 n cap ad xs wc hl hb (hw.pick (idx := [0, 1, 2]) (by decide) rfl))) (fun xq7 hq8 => ?_)
  refine GL.step (Stp.alloc T.zr32 (by decide)) (fun bq9 _ => ?_)
  refine GL.step (Stp.storeL (i := 0) (L1 := [⟨bq9, [(.int .i64 W), (.int .i64 H), (.slice (some ⟨xq7.2.2.2, 0, none⟩) n (n + 5))], 32, true⟩, ⟨xq7.1.1, [(Value.slice (some ⟨xq7.2.1.1, 0, none⟩) (n + 5) xq7.2.1.2.1)] ++ xq7.1.2.2, 30, true⟩, ⟨xq7.2.1.1, (roomL xs).map u32 ++ xq7.2.1.2.2, 72, true⟩, ⟨xq7.2.2.1.1, [(Value.slice (some ⟨xq7.2.2.2, 0, none⟩) (n + 5) (n + 5))] ++ xq7.2.2.1.2.2, 30, true⟩, ⟨xq7.2.2.2, (roomL xs).map u32, 72, true⟩, ⟨bq6, [(.slice (some ⟨xq7.2.2.1.1, 0, none⟩) 1 xq7.2.2.1.2.1), (.slice (some ⟨xq7.1.1, 0, none⟩) 1 xq7.1.2.1), (.slice none 0 0), (.slice none 0 0), (.slice none 0 0), (.slice none 0 0), (.slice none 0 0), (.slice none 0 0)], 44, true⟩, ⟨bq5, [(.slice none 0 0), (.slice none 0 0), (.slice none 0 0), (.slice none 0 0), (.slice none 0 0), (.slice none 0 0), (.slice none 0 0), (.slice none 0 0)], 41, true⟩, ⟨bq1, [(.int .i64 W), (.int .i64 H), (.slice ad n cap)], 32, true⟩]) rfl rfl rfl T.sz32 rfl rfl rfl rfl) (fun _ _ => ?_)
  refine GL.nil ?_
  refine GE.thenN ?_
  refine GC.seq ?_
  refine GC.region ?_
  refine GL.val (v := (.agg #[(.int .i64 W), (.int .i64 H), (.slice ad n cap)])) (Ex.loadA rfl T.ag32 T.sz32 (i := 7) rfl (vs := [(.int .i64 W), (.int .i64 H), (.slice ad n cap)]) rfl rfl) (by decide) ?_
  refine GL.val (v := (.int .i64 kd)) (Ex.move rfl) (by decide) ?_
  refine GL.val (v := (.int .i64 l)) (Ex.move rfl) (by decide) ?_
  refine GL.val (v := (.int .i64 t)) (Ex.move rfl) (by decide) ?_
  refine GL.val (v := (.int .i64 r)) (Ex.move rfl) (by decide) ?_
  refine GL.val (v := (.int .i64 u)) (Ex.move rfl) (by decide) ?_
  refine GL.step (Stp.callR (σ := Unit) (p := fun rz => True) (v := fun rz => (.tuple #[(.agg #[(.int .i64 0), (.int .i64 0), (.slice none 0 0)]), (.int .i64 ((bord kd 1 0).2))])) (N := fun rz => []) (vs := [(.agg #[(.int .i64 W), (.int .i64 H), (.slice ad n cap)]), (.int .i64 kd), (.int .i64 l), (.int .i64 t), (.int .i64 r), (.int .i64 u)]) rfl rfl T.own18 (by decide) (fun wc hw => ref_extend_k W H ad n cap kd l t r u wc hc hk)) (fun xq10 hq11 => ?_)
  refine GL.val (v := (.tuple #[(.agg #[(.int .i64 0), (.int .i64 0), (.slice none 0 0)]), (.int .i64 ((bord kd 1 0).2))])) (Ex.move rfl) (by decide) ?_
  refine GL.val (v := (.agg #[(.int .i64 0), (.int .i64 0), (.slice none 0 0)])) (Ex.extract rfl rfl) (by decide) ?_
  refine GL.val (v := (.int .i64 ((bord kd 1 0).2))) (Ex.extract rfl rfl) (by decide) ?_
  refine GL.step (Stp.alloc T.zr32 (by decide)) (fun bq12 _ => ?_)
  refine GL.step (Stp.storeL (i := 0) (L1 := [⟨bq12, [(.int .i64 0), (.int .i64 0), (.slice none 0 0)], 32, true⟩, ⟨bq9, [(.int .i64 W), (.int .i64 H), (.slice (some ⟨xq7.2.2.2, 0, none⟩) n (n + 5))], 32, true⟩, ⟨xq7.1.1, [(Value.slice (some ⟨xq7.2.1.1, 0, none⟩) (n + 5) xq7.2.1.2.1)] ++ xq7.1.2.2, 30, true⟩, ⟨xq7.2.1.1, (roomL xs).map u32 ++ xq7.2.1.2.2, 72, true⟩, ⟨xq7.2.2.1.1, [(Value.slice (some ⟨xq7.2.2.2, 0, none⟩) (n + 5) (n + 5))] ++ xq7.2.2.1.2.2, 30, true⟩, ⟨xq7.2.2.2, (roomL xs).map u32, 72, true⟩, ⟨bq6, [(.slice (some ⟨xq7.2.2.1.1, 0, none⟩) 1 xq7.2.2.1.2.1), (.slice (some ⟨xq7.1.1, 0, none⟩) 1 xq7.1.2.1), (.slice none 0 0), (.slice none 0 0), (.slice none 0 0), (.slice none 0 0), (.slice none 0 0), (.slice none 0 0)], 44, true⟩, ⟨bq5, [(.slice none 0 0), (.slice none 0 0), (.slice none 0 0), (.slice none 0 0), (.slice none 0 0), (.slice none 0 0), (.slice none 0 0), (.slice none 0 0)], 41, true⟩, ⟨bq1, [(.int .i64 W), (.int .i64 H), (.slice ad n cap)], 32, true⟩]) rfl rfl rfl T.sz32 rfl rfl rfl rfl) (fun _ _ => ?_)
  refine GL.val (v := (.int .i64 ((bord kd 1 0).2))) (Ex.assign rfl) (by decide) ?_
  refine GL.nil ?_
  refine GE.thenN ?_
  refine GC.seq ?_
  refine GC.seq ?_
  refine GC.region ?_
  refine GL.val (v := (.int .i64 0)) (Ex.assign rfl) (by decide) ?_
  refine GL.nil ?_
  refine GE.thenN ?_
  refine GC.block ?_
  refine GC.unroll 3 ?_
  refine GE.round ?_
  refine GC.seq ?_
  refine GC.seq ?_
  refine GC.region ?_
  refine GL.val (v := (.int .i64 0)) (Ex.move rfl) (by decide) ?_
  refine GL.val (v := (.bool true)) (Ex.cast (Ex.lss rfl rfl) rfl) (by decide) ?_
  refine GL.nil ?_
  refine GE.thenN ?_
  refine GC.cond rfl (fun _ => ?_) (fun hq13 => by cases hq13)
  refine GC.skip ?_
  refine GE.thenN ?_
  refine GC.seq ?_
  refine GC.block ?_
  refine GC.seq ?_
  refine GC.region ?_
  refine GL.val (v := (.agg #[(.int .i64 W), (.int .i64 H), (.slice (some ⟨xq7.2.2.2, 0, none⟩) n (n + 5))])) (Ex.loadA rfl T.ag32 T.sz32 (i := 1) rfl (vs := [(.int .i64 W), (.int .i64 H), (.slice (some ⟨xq7.2.2.2, 0, none⟩) n (n + 5))]) rfl rfl) (by decide) ?_
  refine GL.val (v := (.int .i64 kd)) (Ex.move rfl) (by decide) ?_
  refine GL.val (v := (.int .i64 l)) (Ex.move rfl) (by decide) ?_
  refine GL.val (v := (.int .i64 t)) (Ex.move rfl) (by decide) ?_
  refine GL.val (v := (.int .i64 r)) (Ex.move rfl) (by decide) ?_
  refine GL.val (v := (.int .i64 u)) (Ex.move rfl) (by decide) ?_
  refine GL.step (Stp.callR (σ := Unit) (p := fun rz => True) (v := fun rz => (.tuple #[(.agg #[(.int .i64 0), (.int .i64 0), (.slice none 0 0)]), (.int .i64 ((bord kd 1 0).2))])) (N := fun rz => []) (vs := [(.agg #[(.int .i64 W), (.int .i64 H), (.slice (some ⟨xq7.2.2.2, 0, none⟩) n (n + 5))]), (.int .i64 kd), (.int .i64 l), (.int .i64 t), (.int .i64 r), (.int .i64 u)]) rfl rfl T.own19 (by decide) (fun wc hw => extend_k W H (some ⟨xq7.2.2.2, 0, none⟩) n (n + 5) kd l t r u wc hc hk)) (fun xq14 hq15 => ?_)
  refine GL.val (v := (.tuple #[(.agg #[(.int .i64 0), (.int .i64 0), (.slice none 0 0)]), (.int .i64 ((bord kd 1 0).2))])) (Ex.move rfl) (by decide) ?_
  refine GL.val (v := (.agg #[(.int .i64 0), (.int .i64 0), (.slice none 0 0)])) (Ex.extract rfl rfl) (by decide) ?_
  refine GL.val (v := (.int .i64 ((bord kd 1 0).2))) (Ex.extract rfl rfl) (by decide) ?_
  refine GL.step (Stp.alloc T.zr32 (by decide)) (fun bq16 _ => ?_)
  refine GL.step (Stp.storeL (i := 0) (L1 := [⟨bq16, [(.int .i64 0), (.int .i64 0), (.slice none 0 0)], 32, true⟩, ⟨bq12, [(.int .i64 0), (.int .i64 0), (.slice none 0 0)], 32, true⟩, ⟨bq9, [(.int .i64 W), (.int .i64 H), (.slice (some ⟨xq7.2.2.2, 0, none⟩) n (n + 5))], 32, true⟩, ⟨xq7.1.1, [(Value.slice (some ⟨xq7.2.1.1, 0, none⟩) (n + 5) xq7.2.1.2.1)] ++ xq7.1.2.2, 30, true⟩, ⟨xq7.2.1.1, (roomL xs).map u32 ++ xq7.2.1.2.2, 72, true⟩, ⟨xq7.2.2.1.1, [(Value.slice (some ⟨xq7.2.2.2, 0, none⟩) (n + 5) (n + 5))] ++ xq7.2.2.1.2.2, 30, true⟩, ⟨xq7.2.2.2, (roomL xs).map u32, 72, true⟩, ⟨bq6, [(.slice (some ⟨xq7.2.2.1.1, 0, none⟩) 1 xq7.2.2.1.2.1), (.slice (some ⟨xq7.1.1, 0, none⟩) 1 xq7.1.2.1), (.slice none 0 0), (.slice none 0 0), (.slice none 0 0), (.slice none 0 0), (.slice none 0 0), (.slice none 0 0)], 44, true⟩, ⟨bq5, [(.slice none 0 0), (.slice none 0 0), (.slice none 0 0), (.slice none 0 0), (.slice none 0 0), (.slice none 0 0), (.slice none 0 0), (.slice none 0 0)], 41, true⟩, ⟨bq1, [(.int .i64 W), (.int .i64 H), (.slice ad n cap)], 32, true⟩]) rfl rfl rfl T.sz32 rfl rfl rfl rfl) (fun _ _ => ?_)
  refine GL.val (v := (.int .i64 ((bord kd 1 0).2))) (Ex.assign rfl) (by decide) ?_
  refine GL.nil ?_
  refine GE.thenN ?_
  refine GC.seq ?_
  refine GC.seq ?_
  refine GC.region ?_
  refine GL.val (v := (.agg #[(.int .i64 0), (.int .i64 0), (.slice none 0 0)])) (Ex.loadA rfl T.ag32 T.sz32 (i := 0) rfl (vs := [(.int .i64 0), (.int .i64 0), (.slice none 0 0)]) rfl rfl) (by decide) ?_
  refine GL.val (v := (.int .i64 ((bord kd 1 0).2))) (Ex.move rfl) (by decide) ?_
  refine GL.val (v := (.agg #[(.int .i64 0), (.int .i64 0), (.slice none 0 0)])) (Ex.loadA rfl T.ag32 T.sz32 (i := 1) rfl (vs := [(.int .i64 0), (.int .i64 0), (.slice none 0 0)]) rfl rfl) (by decide) ?_
  refine GL.val (v := (.int .i64 ((bord kd 1 0).2))) (Ex.move rfl) (by decide) ?_
  refine GL.step (Stp.callR (σ := Unit) (p := fun rz => True) (v := fun rz => (.bool true)) (N := fun rz => []) (vs := [(.agg #[(.int .i64 0), (.int .i64 0), (.slice none 0 0)]), (.int .i64 ((bord kd 1 0).2)), (.agg #[(.int .i64 0), (.int .i64 0), (.slice none 0 0)]), (.int .i64 ((bord kd 1 0).2))]) rfl rfl T.own20 (by decide) (fun wc hw => same_ 0 0 none 0 0 0 0 none 0 0 ((bord kd 1 0).2) ([]) ([]) wc (by decide) (LsR.nil _ _) (LsR.nil _ _) (by first | rfl | omega) (by first | rfl | omega) (by first | rfl | (simp only [Nat.add_zero])))) (fun xq17 hq18 => ?_)
  refine GL.val (v := (.bool false)) (Ex.cast (Ex.not rfl) rfl) (by decide) ?_
  refine GL.nil ?_
  refine GE.thenN ?_
  refine GC.cond rfl (fun hq19 => by cases hq19) (fun _ => ?_)
  refine GC.skip ?_
  refine GE.thenN ?_
  refine GC.region ?_
  refine GL.val (v := (.pointer (some ⟨bq5, 0, none⟩))) (Ex.move rfl) (by decide) ?_
  refine GL.val (v := (.agg #[(.int .i64 0), (.int .i64 0), (.slice none 0 0)])) (Ex.loadA rfl T.ag32 T.sz32 (i := 0) rfl (vs := [(.int .i64 0), (.int .i64 0), (.slice none 0 0)]) rfl rfl) (by decide) ?_
  refine GL.val (v := (.int .i64 0)) (Ex.move rfl) (by decide) ?_
  refine GL.step (Stp.call (σ := (Nat × Nat × List Value) × (Nat × Nat × List Value)) (p := fun rz => ([(Value.slice none 0 0)] ++ rz.2.2.2 : List Value).length = rz.2.2.1 * 1 ∧ ([(Value.int .i64 0)] ++ rz.1.2.2 : List Value).length = rz.1.2.1 * 1) (v := fun rz => (.tuple #[])) (L' := fun rz => [⟨rz.1.1, [(Value.int .i64 0)] ++ rz.1.2.2, 3, true⟩, ⟨rz.2.1, [(Value.slice none 0 0)] ++ rz.2.2.2, 30, true⟩, ⟨bq5, [(.slice (some ⟨rz.2.1, 0, none⟩) 1 rz.2.2.1), (.slice none 0 0), (.slice none 0 0), (.slice none 0 0), (.slice (some ⟨rz.1.1, 0, none⟩) 1 rz.1.2.1), (.slice none 0 0), (.slice none 0 0), (.slice none 0 0)], 41, true⟩, ⟨bq16, [(.int .i64 0), (.int .i64 0), (.slice none 0 0)], 32, true⟩, ⟨bq12, [(.int .i64 0), (.int .i64 0), (.slice none 0 0)], 32, true⟩, ⟨bq9, [(.int .i64 W), (.int .i64 H), (.slice (some ⟨xq7.2.2.2, 0, none⟩) n (n + 5))], 32, true⟩, ⟨xq7.1.1, [(Value.slice (some ⟨xq7.2.1.1, 0, none⟩) (n + 5) xq7.2.1.2.1)] ++ xq7.1.2.2, 30, true⟩, ⟨xq7.2.1.1, (roomL xs).map u32 ++ xq7.2.1.2.2, 72, true⟩, ⟨xq7.2.2.1.1, [(Value.slice (some ⟨xq7.2.2.2, 0, none⟩) (n + 5) (n + 5))] ++ xq7.2.2.1.2.2, 30, true⟩, ⟨xq7.2.2.2, (roomL xs).map u32, 72, true⟩, ⟨bq6, [(.slice (some ⟨xq7.2.2.1.1, 0, none⟩) 1 xq7.2.2.1.2.1), (.slice (some ⟨xq7.1.1, 0, none⟩) 1 xq7.1.2.1), (.slice none 0 0), (.slice none 0 0), (.slice none 0 0), (.slice none 0 0), (.slice none 0 0), (.slice none 0 0)], 44, true⟩, ⟨bq1, [(.int .i64 W), (.int .i64 H), (.slice ad n cap)], 32, true⟩]) (vs := [(.pointer (some ⟨bq5, 0, none⟩)), (.agg #[(.int .i64 0), (.int .i64 0), (.slice none 0 0)]), (.int .i64 0)]) rfl rfl T.own21 (by decide) (fun wc hw => book_p00 w [⟨bq16, [(.int .i64 0), (.int .i64 0), (.slice none 0 0)], 32, true⟩, ⟨bq12, [(.int .i64 0), (.int .i64 0), (.slice none 0 0)], 32, true⟩, ⟨bq9, [(.int .i64 W), (.int .i64 H), (.slice (some ⟨xq7.2.2.2, 0, none⟩) n (n + 5))], 32, true⟩, ⟨xq7.1.1, [(Value.slice (some ⟨xq7.2.1.1, 0, none⟩) (n + 5) xq7.2.1.2.1)] ++ xq7.1.2.2, 30, true⟩, ⟨xq7.2.1.1, (roomL xs).map u32 ++ xq7.2.1.2.2, 72, true⟩, ⟨xq7.2.2.1.1, [(Value.slice (some ⟨xq7.2.2.2, 0, none⟩) (n + 5) (n + 5))] ++ xq7.2.2.1.2.2, 30, true⟩, ⟨xq7.2.2.2, (roomL xs).map u32, 72, true⟩, ⟨bq6, [(.slice (some ⟨xq7.2.2.1.1, 0, none⟩) 1 xq7.2.2.1.2.1), (.slice (some ⟨xq7.1.1, 0, none⟩) 1 xq7.1.2.1), (.slice none 0 0), (.slice none 0 0), (.slice none 0 0), (.slice none 0 0), (.slice none 0 0), (.slice none 0 0)], 44, true⟩, ⟨bq1, [(.int .i64 W), (.int .i64 H), (.slice ad n cap)], 32, true⟩] 0 0 bq5 0 wc (hw.pick (idx := [8, 0, 1, 2, 3, 4, 5, 6, 7, 9]) (by decide) rfl))) (fun xq20 hq21 => ?_)
  refine GL.nil ?_
  refine GE.blockN ?_
  refine GE.thenN ?_
  refine GC.region ?_
  refine GL.val (v := (.int .i64 0)) (Ex.move rfl) (by decide) ?_
  refine GL.val (v := (.int .i64 1)) (Ex.add rfl rfl (Z := 1) (by decide)) (by decide) ?_
  refine GL.val (v := (.int .i64 1)) (Ex.assign rfl) (by decide) ?_
  refine GL.nil ?_
  refine GE.thenN ?_
  refine GE.round ?_
  refine GC.seq ?_
  refine GC.seq ?_
  refine GC.region ?_
  refine GL.val (v := (.int .i64 1)) (Ex.move rfl) (by decide) ?_
  refine GL.val (v := (.bool true)) (Ex.cast (Ex.lss rfl rfl) rfl) (by decide) ?_
  refine GL.nil ?_
  refine GE.thenN ?_
  refine GC.cond rfl (fun _ => ?_) (fun hq22 => by cases hq22)
  refine GC.skip ?_
  refine GE.thenN ?_
  refine GC.seq ?_
  refine GC.block ?_
  refine GC.seq ?_
  refine GC.region ?_
  refine GL.val (v := (.agg #[(.int .i64 W), (.int .i64 H), (.slice (some ⟨xq7.2.2.2, 0, none⟩) n (n + 5))])) (Ex.loadA rfl T.ag32 T.sz32 (i := 5) rfl (vs := [(.int .i64 W), (.int .i64 H), (.slice (some ⟨xq7.2.2.2, 0, none⟩) n (n + 5))]) rfl rfl) (by decide) ?_
  refine GL.val (v := (.int .i64 kd)) (Ex.move rfl) (by decide) ?_
  refine GL.val (v := (.int .i64 l)) (Ex.move rfl) (by decide) ?_
  refine GL.val (v := (.int .i64 t)) (Ex.move rfl) (by decide) ?_
  refine GL.val (v := (.int .i64 r)) (Ex.move rfl) (by decide) ?_
  refine GL.val (v := (.int .i64 u)) (Ex.move rfl) (by decide) ?_
  refine GL.step (Stp.callR (σ := Unit) (p := fun rz => True) (v := fun rz => (.tuple #[(.agg #[(.int .i64 0), (.int .i64 0), (.slice none 0 0)]), (.int .i64 ((bord kd 1 0).2))])) (N := fun rz => []) (vs := [(.agg #[(.int .i64 W), (.int .i64 H), (.slice (some ⟨xq7.2.2.2, 0, none⟩) n (n + 5))]), (.int .i64 kd), (.int .i64 l), (.int .i64 t), (.int .i64 r), (.int .i64 u)]) rfl rfl T.own19 (by decide) (fun wc hw => extend_k W H (some ⟨xq7.2.2.2, 0, none⟩) n (n + 5) kd l t r u wc hc hk)) (fun xq23 hq24 => ?_)
  refine GL.val (v := (.tuple #[(.agg #[(.int .i64 0), (.int .i64 0), (.slice none 0 0)]), (.int .i64 ((bord kd 1 0).2))])) (Ex.move rfl) (by decide) ?_
  refine GL.val (v := (.agg #[(.int .i64 0), (.int .i64 0), (.slice none 0 0)])) (Ex.extract rfl rfl) (by decide) ?_
  refine GL.val (v := (.int .i64 ((bord kd 1 0).2))) (Ex.extract rfl rfl) (by decide) ?_
  refine GL.step (Stp.alloc T.zr32 (by decide)) (fun bq25 _ => ?_)
  refine GL.step (Stp.storeL (i := 0) (L1 := [⟨bq25, [(.int .i64 0), (.int .i64 0), (.slice none 0 0)], 32, true⟩, ⟨xq20.1.1, [(Value.int .i64 0)] ++ xq20.1.2.2, 3, true⟩, ⟨xq20.2.1, [(Value.slice none 0 0)] ++ xq20.2.2.2, 30, true⟩, ⟨bq5, [(.slice (some ⟨xq20.2.1, 0, none⟩) 1 xq20.2.2.1), (.slice none 0 0), (.slice none 0 0), (.slice none 0 0), (.slice (some ⟨xq20.1.1, 0, none⟩) 1 xq20.1.2.1), (.slice none 0 0), (.slice none 0 0), (.slice none 0 0)], 41, true⟩, ⟨bq16, [(.int .i64 0), (.int .i64 0), (.slice none 0 0)], 32, true⟩, ⟨bq12, [(.int .i64 0), (.int .i64 0), (.slice none 0 0)], 32, true⟩, ⟨bq9, [(.int .i64 W), (.int .i64 H), (.slice (some ⟨xq7.2.2.2, 0, none⟩) n (n + 5))], 32, true⟩, ⟨xq7.1.1, [(Value.slice (some ⟨xq7.2.1.1, 0, none⟩) (n + 5) xq7.2.1.2.1)] ++ xq7.1.2.2, 30, true⟩, ⟨xq7.2.1.1, (roomL xs).map u32 ++ xq7.2.1.2.2, 72, true⟩, ⟨xq7.2.2.1.1, [(Value.slice (some ⟨xq7.2.2.2, 0, none⟩) (n + 5) (n + 5))] ++ xq7.2.2.1.2.2, 30, true⟩, ⟨xq7.2.2.2, (roomL xs).map u32, 72, true⟩, ⟨bq6, [(.slice (some ⟨xq7.2.2.1.1, 0, none⟩) 1 xq7.2.2.1.2.1), (.slice (some ⟨xq7.1.1, 0, none⟩) 1 xq7.1.2.1), (.slice none 0 0), (.slice none 0 0), (.slice none 0 0), (.slice none 0 0), (.slice none 0 0), (.slice none 0 0)], 44, true⟩, ⟨bq1, [(.int .i64 W), (.int .i64 H), (.slice ad n cap)], 32, true⟩]) rfl rfl rfl T.sz32 rfl rfl rfl rfl) (fun _ _ => ?_)
  refine GL.val (v := (.int .i64 ((bord kd 1 0).2))) (Ex.assign rfl) (by decide) ?_
  refine GL.nil ?_
  refine GE.thenN ?_
  refine GC.seq ?_
  refine GC.seq ?_
  refine GC.region ?_
  refine GL.val (v := (.agg #[(.int .i64 0), (.int .i64 0), (.slice none 0 0)])) (Ex.loadA rfl T.ag32 T.sz32 (i := 0) rfl (vs := [(.int .i64 0), (.int .i64 0), (.slice none 0 0)]) rfl rfl) (by decide) ?_
  refine GL.val (v := (.int .i64 ((bord kd 1 0).2))) (Ex.move rfl) (by decide) ?_
  refine GL.val (v := (.agg #[(.int .i64 0), (.int .i64 0), (.slice none 0 0)])) (Ex.loadA rfl T.ag32 T.sz32 (i := 5) rfl (vs := [(.int .i64 0), (.int .i64 0), (.slice none 0 0)]) rfl rfl) (by decide) ?_
  refine GL.val (v := (.int .i64 ((bord kd 1 0).2))) (Ex.move rfl) (by decide) ?_
  refine GL.step (Stp.callR (σ := Unit) (p := fun rz => True) (v := fun rz => (.bool true)) (N := fun rz => []) (vs := [(.agg #[(.int .i64 0), (.int .i64 0), (.slice none 0 0)]), (.int .i64 ((bord kd 1 0).2)), (.agg #[(.int .i64 0), (.int .i64 0), (.slice none 0 0)]), (.int .i64 ((bord kd 1 0).2))]) rfl rfl T.own20 (by decide) (fun wc hw => same_ 0 0 none 0 0 0 0 none 0 0 ((bord kd 1 0).2) ([]) ([]) wc (by decide) (LsR.nil _ _) (LsR.nil _ _) (by first | rfl | omega) (by first | rfl | omega) (by first | rfl | (simp only [Nat.add_zero])))) (fun xq26 hq27 => ?_)
  refine GL.val (v := (.bool false)) (Ex.cast (Ex.not rfl) rfl) (by decide) ?_
  refine GL.nil ?_
  refine GE.thenN ?_
  refine GC.cond rfl (fun hq28 => by cases hq28) (fun _ => ?_)
  refine GC.skip ?_
  refine GE.thenN ?_
  refine GC.region ?_
  refine GL.val (v := (.pointer (some ⟨bq5, 0, none⟩))) (Ex.move rfl) (by decide) ?_
  refine GL.val (v := (.agg #[(.int .i64 0), (.int .i64 0), (.slice none 0 0)])) (Ex.loadA rfl T.ag32 T.sz32 (i := 0) rfl (vs := [(.int .i64 0), (.int .i64 0), (.slice none 0 0)]) rfl rfl) (by decide) ?_
  refine GL.val (v := (.int .i64 1)) (Ex.move rfl) (by decide) ?_
  refine GL.step (Stp.call (σ := (Nat × Nat × List Value) × (Nat × Nat × List Value)) (p := fun rz => (([(Value.slice none 0 0)]) ++ [(Value.slice none 0 0)] ++ rz.2.2.2 : List Value).length = rz.2.2.1 * 1 ∧ (([(Value.int .i64 0)]) ++ [(Value.int .i64 1)] ++ rz.1.2.2 : List Value).length = rz.1.2.1 * 1) (v := fun rz => (.tuple #[])) (L' := fun rz => [⟨rz.1.1, ([(Value.int .i64 0)]) ++ [(Value.int .i64 1)] ++ rz.1.2.2, 3, true⟩, ⟨rz.2.1, ([(Value.slice none 0 0)]) ++ [(Value.slice none 0 0)] ++ rz.2.2.2, 30, true⟩, ⟨bq5, [(.slice (some ⟨rz.2.1, 0, none⟩) 2 rz.2.2.1), (.slice none 0 0), (.slice none 0 0), (.slice none 0 0), (.slice (some ⟨rz.1.1, 0, none⟩) 2 rz.1.2.1), (.slice none 0 0), (.slice none 0 0), (.slice none 0 0)], 41, true⟩, ⟨bq25, [(.int .i64 0), (.int .i64 0), (.slice none 0 0)], 32, true⟩, ⟨bq16, [(.int .i64 0), (.int .i64 0), (.slice none 0 0)], 32, true⟩, ⟨bq12, [(.int .i64 0), (.int .i64 0), (.slice none 0 0)], 32, true⟩, ⟨bq9, [(.int .i64 W), (.int .i64 H), (.slice (some ⟨xq7.2.2.2, 0, none⟩) n (n + 5))], 32, true⟩, ⟨xq7.1.1, [(Value.slice (some ⟨xq7.2.1.1, 0, none⟩) (n + 5) xq7.2.1.2.1)] ++ xq7.1.2.2, 30, true⟩, ⟨xq7.2.1.1, (roomL xs).map u32 ++ xq7.2.1.2.2, 72, true⟩, ⟨xq7.2.2.1.1, [(Value.slice (some ⟨xq7.2.2.2, 0, none⟩) (n + 5) (n + 5))] ++ xq7.2.2.1.2.2, 30, true⟩, ⟨xq7.2.2.2, (roomL xs).map u32, 72, true⟩, ⟨bq6, [(.slice (some ⟨xq7.2.2.1.1, 0, none⟩) 1 xq7.2.2.1.2.1), (.slice (some ⟨xq7.1.1, 0, none⟩) 1 xq7.1.2.1), (.slice none 0 0), (.slice none 0 0), (.slice none 0 0), (.slice none 0 0), (.slice none 0 0), (.slice none 0 0)], 44, true⟩, ⟨bq1, [(.int .i64 W), (.int .i64 H), (.slice ad n cap)], 32, true⟩]) (vs := [(.pointer (some ⟨bq5, 0, none⟩)), (.agg #[(.int .i64 0), (.int .i64 0), (.slice none 0 0)]), (.int .i64 1)]) rfl rfl T.own21 (by decide) (fun wc hw => book_p10 w [⟨bq25, [(.int .i64 0), (.int .i64 0), (.slice none 0 0)], 32, true⟩, ⟨bq16, [(.int .i64 0), (.int .i64 0), (.slice none 0 0)], 32, true⟩, ⟨bq12, [(.int .i64 0), (.int .i64 0), (.slice none 0 0)], 32, true⟩, ⟨bq9, [(.int .i64 W), (.int .i64 H), (.slice (some ⟨xq7.2.2.2, 0, none⟩) n (n + 5))], 32, true⟩, ⟨xq7.1.1, [(Value.slice (some ⟨xq7.2.1.1, 0, none⟩) (n + 5) xq7.2.1.2.1)] ++ xq7.1.2.2, 30, true⟩, ⟨xq7.2.1.1, (roomL xs).map u32 ++ xq7.2.1.2.2, 72, true⟩, ⟨xq7.2.2.1.1, [(Value.slice (some ⟨xq7.2.2.2, 0, none⟩) (n + 5) (n + 5))] ++ xq7.2.2.1.2.2, 30, true⟩, ⟨xq7.2.2.2, (roomL xs).map u32, 72, true⟩, ⟨bq6, [(.slice (some ⟨xq7.2.2.1.1, 0, none⟩) 1 xq7.2.2.1.2.1), (.slice (some ⟨xq7.1.1, 0, none⟩) 1 xq7.1.2.1), (.slice none 0 0), (.slice none 0 0), (.slice none 0 0), (.slice none 0 0), (.slice none 0 0), (.slice none 0 0)], 44, true⟩, ⟨bq1, [(.int .i64 W), (.int .i64 H), (.slice ad n cap)], 32, true⟩] 0 0 bq5 1 1 xq20.2.1 xq20.2.2.1 xq20.1.1 xq20.1.2.1 ([(Value.slice none 0 0)]) xq20.2.2.2 ([(Value.int .i64 0)]) xq20.1.2.2 wc (by first | decide | omega) (by first | rfl | omega) (by first | rfl | omega) hq21.1 hq21.2 (hw.pick (idx := [3, 2, 1, 0, 4, 5, 6, 7, 8, 9, 10, 11, 12]) (by decide) rfl))) (fun xq29 hq30 => ?_)
  refine GL.nil ?_
  refine GE.blockN ?_
  refine GE.thenN ?_
  refine GC.region ?_
  refine GL.val (v := (.int .i64 1)) (Ex.move rfl) (by decide) ?_
  refine GL.val (v := (.int .i64 2)) (Ex.add rfl rfl (Z := 2) (by decide)) (by decide) ?_
  refine GL.val (v := (.int .i64 2)) (Ex.assign rfl) (by decide) ?_
  refine GL.nil ?_
  refine GE.thenN ?_
  refine GE.round ?_
  refine GC.seq ?_
  refine GC.seq ?_
  refine GC.region ?_
  refine GL.val (v := (.int .i64 2)) (Ex.move rfl) (by decide) ?_
  refine GL.val (v := (.bool false)) (Ex.cast (Ex.lss rfl rfl) rfl) (by decide) ?_
  refine GL.nil ?_
  refine GE.thenN ?_
  refine GC.cond rfl (fun hq31 => by cases hq31) (fun _ => ?_)
  refine GC.exit ?_
  refine GE.thenE ?_
  refine GE.thenE ?_
  refine GE.blockE ?_
  refine GE.thenN ?_
  refine GC.seq ?_
  refine GC.region ?_
  refine GL.val (v := (.pointer (some ⟨bq5, 0, none⟩))) (Ex.move rfl) (by decide) ?_
  refine GL.step (Stp.callR (σ := Unit) (p := fun rz => True) (v := fun rz => (.bool true)) (N := fun rz => []) (vs := [(.pointer (some ⟨bq5, 0, none⟩))]) rfl rfl T.own22 (by decide) (fun wc hw => book_hold bq5 2 xq29.2.1 xq29.2.2.1 xq29.1.1 xq29.1.2.1 ([⟨none, 0, 0⟩, ⟨none, 0, 1⟩] : List It) xq29.2.2.2 xq29.1.2.2 wc rfl (by decide) (it_cons (it_nil _) (it_cons (it_nil _) it_all)) (Has.cons (hw.hasOf (i := 2) rfl) (Has.cons (hw.hasOf (i := 1) rfl) (Has.cons (hw.hasOf (i := 0) rfl) (Has.nil _)))))) (fun xq32 hq33 => ?_)
  refine GL.val (v := (.bool true)) (Ex.move rfl) (by decide) ?_
  refine GL.stepG (tj := 66) rfl rfl (Ex.wp (v := (.pointer (some ⟨bq6, 0, none⟩))) (Ex.move rfl) (by decide)) (fun _ _ => ?_)
  refine GL.stepG (tj := 66) rfl rfl (Stp.callR (σ := Unit) (p := fun rz => True) (v := fun rz => (.bool true)) (N := fun rz => []) (vs := [(.pointer (some ⟨bq6, 0, none⟩))]) rfl rfl T.own23 (by decide) (fun wc hw => room_hold1 bq6 xq7.2.2.1.1 xq7.1.1 xq7.2.2.1.2.1 xq7.1.2.1 xq7.2.2.1.2.2 xq7.1.2.2 xq7.2.2.2 xq7.2.1.1 n xq7.2.1.2.1 xs xq7.2.1.2.2 wc ⟨hl.1, hb⟩ (Has.cons (hw.hasOf (i := 11) rfl) (Has.cons (hw.hasOf (i := 9) rfl) (Has.cons (hw.hasOf (i := 7) rfl) (Has.cons (hw.hasOf (i := 10) rfl) (Has.cons (hw.hasOf (i := 8) rfl) (Has.nil _)))))))) (fun xq34 hq35 => ?_)
  refine GL.val (v := (.bool true)) (Ex.pickT rfl rfl) (by decide) ?_
  refine GL.val (v := (.bool true)) (Ex.assign rfl) (by decide) ?_
  refine GL.nil ?_
  refine GE.thenN ?_
  refine GC.ret ?_
  refine GC.ret1 rfl (Rv.tmp rfl) (fun wN HN => ?_)
  exact HN.ret () trivial rfl (List.nil_sublist _) rfl

set_option maxRecDepth 100000 in
set_option maxHeartbeats 1000000 in
theorem ext_neg (W H : Int) (ad : Option Addr) (n cap : Nat) (xs : List Int) (kd l t r u : Int) (w : World) (hl : Lst w ad n xs) (hb : n ≤ 35184372087808) (hc : chk W H n = 0) (hk : (bord kd 1 0).2 = 0) (hm : l < 0 ∨ t < 0 ∨ r < 0 ∨ u < 0) :
    Calls Try.prog 5 #[(.agg #[(.int .i64 W), (.int .i64 H), (.slice ad n cap)]), (.int .i64 kd), (.int .i64 l), (.int .i64 t), (.int .i64 r), (.int .i64 u)] w (Ret w (fun _ : Unit => True) (fun _ => .bool true) (fun _ => [])) := by
  refine enter (M := None) (L := []) (n := 70) (l := [(0, (.agg #[(.int .i64 W), (.int .i64 H), (.slice ad n cap)])), (1, (.int .i64 kd)), (2, (.int .i64 l)), (3, (.int .i64 t)), (4, (.int .i64 r)), (5, (.int .i64 u))]) Try.func5 rfl rfl (Args.cons rfl (Args.cons rfl (Args.cons rfl (Args.cons rfl (Args.cons rfl (Args.cons rfl (Args.nil _))))))) (Hp.start _ _) ?_
  refine GC.seq ?_
  refine GC.region ?_
  refine GL.step (Stp.box (cs := [(.int .i64 W), (.int .i64 H), (.slice ad n cap)]) rfl rfl (by decide)) (fun bq1 _ => ?_)
  refine GL.val (v := (.bool false)) (Ex.assign rfl) (by decide) ?_
  refine GL.nil ?_
  refine GE.thenN ?_
  refine GC.seq ?_
  refine GC.seq ?_
  refine GC.region ?_
  refine GL.step (Stp.callR (σ := Unit) (p := fun rz => True) (v := fun rz => (.bool true)) (N := fun rz => []) (vs := []) rfl rfl T.own13 (by decide) (fun wc hw => known wc)) (fun xq2 hq3 => ?_)
  refine GL.val (v := (.bool false)) (Ex.cast (Ex.not rfl) rfl) (by decide) ?_
  refine GL.nil ?_
  refine GE.thenN ?_
  refine GC.cond rfl (fun hq4 => by cases hq4) (fun _ => ?_)
  refine GC.skip ?_
  refine GE.thenN ?_
  refine GC.seq ?_
  refine GC.region ?_
  refine GL.val (v := (.agg #[(.slice none 0 0), (.slice none 0 0), (.slice none 0 0), (.slice none 0 0), (.slice none 0 0), (.slice none 0 0), (.slice none 0 0), (.slice none 0 0)])) (Ex.build (vs := []) rfl (by first | rfl | kernel_rfl)) (by decide) ?_
  refine GL.step (Stp.box (cs := [(.slice none 0 0), (.slice none 0 0), (.slice none 0 0), (.slice none 0 0), (.slice none 0 0), (.slice none 0 0), (.slice none 0 0), (.slice none 0 0)]) rfl rfl (by decide)) (fun bq5 _ => ?_)
  refine GL.val (v := (.pointer (some ⟨bq5, 0, none⟩))) (Ex.assign rfl) (by decide) ?_
  refine GL.nil ?_
  refine GE.thenN ?_
  refine GC.seq ?_
  refine GC.region ?_
  refine GL.val (v := (.agg #[(.slice none 0 0), (.slice none 0 0), (.slice none 0 0), (.slice none 0 0), (.slice none 0 0), (.slice none 0 0), (.slice none 0 0), (.slice none 0 0)])) (Ex.build (vs := []) rfl (by first | rfl | kernel_rfl)) (by decide) ?_
  refine GL.step (Stp.box (cs := [(.slice none 0 0), (.slice none 0 0), (.slice none 0 0), (.slice none 0 0), (.slice none 0 0), (.slice none 0 0), (.slice none 0 0), (.slice none 0 0)]) rfl rfl (by decide)) (fun bq6 _ => ?_)
  refine GL.val (v := (.pointer (some ⟨bq6, 0, none⟩))) (Ex.assign rfl) (by decide) ?_
  refine GL.nil ?_
  refine GE.thenN ?_
  refine GC.seq ?_
  refine GC.region ?_
  refine GL.val (v := (.pointer (some ⟨bq6, 0, none⟩))) (Ex.move rfl) (by decide) ?_
  refine GL.val (v := (.agg #[(.int .i64 W), (.int .i64 H), (.slice ad n cap)])) (Ex.loadA rfl T.ag32 T.sz32 (i := 2) rfl (vs := [(.int .i64 W), (.int .i64 H), (.slice ad n cap)]) rfl rfl) (by decide) ?_
  refine GL.step (Stp.call (σ := (Nat × Nat × List Value) × (Nat × Nat × List Value) × (Nat × Nat × List Value) × Nat) (p := fun rz => ([(Value.slice (some ⟨rz.2.2.2, 0, none⟩) (n + 5) (n + 5))] ++ rz.2.2.1.2.2 : List Value).length = rz.2.2.1.2.1 * 1 ∧ ([(Value.slice (some ⟨rz.2.1.1, 0, none⟩) (n + 5) rz.2.1.2.1)] ++ rz.1.2.2 : List Value).length = rz.1.2.1 * 1) (v := fun rz => (.agg #[(.int .i64 W), (.int .i64 H), (.slice (some ⟨rz.2.2.2, 0, none⟩) n (n + 5))])) (L' := fun rz => [⟨rz.1.1, [(Value.slice (some ⟨rz.2.1.1, 0, none⟩) (n + 5) rz.2.1.2.1)] ++ rz.1.2.2, 30, true⟩, ⟨rz.2.1.1, (roomL xs).map u32 ++ rz.2.1.2.2, 72, true⟩, ⟨rz.2.2.1.1, [(Value.slice (some ⟨rz.2.2.2, 0, none⟩) (n + 5) (n + 5))] ++ rz.2.2.1.2.2, 30, true⟩, ⟨rz.2.2.2, (roomL xs).map u32, 72, true⟩, ⟨bq6, [(.slice (some ⟨rz.2.2.1.1, 0, none⟩) 1 rz.2.2.1.2.1), (.slice (some ⟨rz.1.1, 0, none⟩) 1 rz.1.2.1), (.slice none 0 0), (.slice none 0 0), (.slice none 0 0), (.slice none 0 0), (.slice none 0 0), (.slice none 0 0)], 44, true⟩, ⟨bq5, [(.slice none 0 0), (.slice none 0 0), (.slice none 0 0), (.slice none 0 0), (.slice none 0 0), (.slice none 0 0), (.slice none 0 0), (.slice none 0 0)], 41, true⟩, ⟨bq1, [(.int .i64 W), (.int .i64 H), (.slice ad n cap)], 32, true⟩]) (vs := [(.pointer (some ⟨bq6, 0, none⟩)), (.agg #[(.int .i64 W), (.int .i64 H), (.slice ad n cap)])]) rfl rfl T.own17 (by decide) (fun wc hw => room_p0 w [⟨bq5, [(.slice none 0 0), (.slice none 0 0), (.slice none 0 0), (.slice none 0 0), (.slice none 0 0), (.slice none 0 0), (.slice none 0 0), (.slice none 0 0)], 41, true⟩, ⟨bq1, [(.int .i64 W), (.int .i64 H), (.slice ad n cap)], 32, true⟩] W H bq6 n cap ad xs wc hl hb (hw.pick (idx := [0, 1, 2]) (by decide) rfl))) (fun xq7 hq8 => ?_)
  refine GL.step (Stp.alloc T.zr32 (by decide)) (fun bq9 _ => ?_)
  refine GL.step (Stp.storeL (i := 0) (L1 := [⟨bq9, [(.int .i64 W), (.int .i64 H), (.slice (some ⟨xq7.2.2.2, 0, none⟩) n (n + 5))], 32, true⟩, ⟨xq7.1.1, [(Value.slice (some ⟨xq7.2.1.1, 0, none⟩) (n + 5) xq7.2.1.2.1)] ++ xq7.1.2.2, 30, true⟩, ⟨xq7.2.1.1, (roomL xs).map u32 ++ xq7.2.1.2.2, 72, true⟩, ⟨xq7.2.2.1.1, [(Value.slice (some ⟨xq7.2.2.2, 0, none⟩) (n + 5) (n + 5))] ++ xq7.2.2.1.2.2, 30, true⟩, ⟨xq7.2.2.2, (roomL xs).map u32, 72, true⟩, ⟨bq6, [(.slice (some ⟨xq7.2.2.1.1, 0, none⟩) 1 xq7.2.2.1.2.1), (.slice (some ⟨xq7.1.1, 0, none⟩) 1 xq7.1.2.1), (.slice none 0 0), (.slice none 0 0), (.slice none 0 0), (.slice none 0 0), (.slice none 0 0), (.slice none 0 0)], 44, true⟩, ⟨bq5, [(.slice none 0 0), (.slice none 0 0), (.slice none 0 0), (.slice none 0 0), (.slice none 0 0), (.slice none 0 0), (.slice none 0 0), (.slice none 0 0)], 41, true⟩, ⟨bq1, [(.int .i64 W), (.int .i64 H), (.slice ad n cap)], 32, true⟩]) rfl rfl rfl T.sz32 rfl rfl rfl rfl) (fun _ _ => ?_)
  refine GL.nil ?_
  refine GE.thenN ?_
  refine GC.seq ?_
  refine GC.region ?_
  refine GL.val (v := (.agg #[(.int .i64 W), (.int .i64 H), (.slice ad n cap)])) (Ex.loadA rfl T.ag32 T.sz32 (i := 7) rfl (vs := [(.int .i64 W), (.int .i64 H), (.slice ad n cap)]) rfl rfl) (by decide) ?_
  refine GL.val (v := (.int .i64 kd)) (Ex.move rfl) (by decide) ?_
  refine GL.val (v := (.int .i64 l)) (Ex.move rfl) (by decide) ?_
  refine GL.val (v := (.int .i64 t)) (Ex.move rfl) (by decide) ?_
  refine GL.val (v := (.int .i64 r)) (Ex.move rfl) (by decide) ?_
  refine GL.val (v := (.int .i64 u)) (Ex.move rfl) (by decide) ?_
  refine GL.step (Stp.callR (σ := Unit) (p := fun rz => True) (v := fun rz => (.tuple #[(.agg #[(.int .i64 0), (.int .i64 0), (.slice none 0 0)]), (.int .i64 52)])) (N := fun rz => []) (vs := [(.agg #[(.int .i64 W), (.int .i64 H), (.slice ad n cap)]), (.int .i64 kd), (.int .i64 l), (.int .i64 t), (.int .i64 r), (.int .i64 u)]) rfl rfl T.own18 (by decide) (fun wc hw => ref_extend_neg W H ad n cap kd l t r u wc hc hk hm)) (fun xq10 hq11 => ?_)
  refine GL.val (v := (.tuple #[(.agg #[(.int .i64 0), (.int .i64 0), (.slice none 0 0)]), (.int .i64 52)])) (Ex.move rfl) (by decide) ?_
  refine GL.val (v := (.agg #[(.int .i64 0), (.int .i64 0), (.slice none 0 0)])) (Ex.extract rfl rfl) (by decide) ?_
  refine GL.val (v := (.int .i64 52)) (Ex.extract rfl rfl) (by decide) ?_
  refine GL.step (Stp.alloc T.zr32 (by decide)) (fun bq12 _ => ?_)
  refine GL.step (Stp.storeL (i := 0) (L1 := [⟨bq12, [(.int .i64 0), (.int .i64 0), (.slice none 0 0)], 32, true⟩, ⟨bq9, [(.int .i64 W), (.int .i64 H), (.slice (some ⟨xq7.2.2.2, 0, none⟩) n (n + 5))], 32, true⟩, ⟨xq7.1.1, [(Value.slice (some ⟨xq7.2.1.1, 0, none⟩) (n + 5) xq7.2.1.2.1)] ++ xq7.1.2.2, 30, true⟩, ⟨xq7.2.1.1, (roomL xs).map u32 ++ xq7.2.1.2.2, 72, true⟩, ⟨xq7.2.2.1.1, [(Value.slice (some ⟨xq7.2.2.2, 0, none⟩) (n + 5) (n + 5))] ++ xq7.2.2.1.2.2, 30, true⟩, ⟨xq7.2.2.2, (roomL xs).map u32, 72, true⟩, ⟨bq6, [(.slice (some ⟨xq7.2.2.1.1, 0, none⟩) 1 xq7.2.2.1.2.1), (.slice (some ⟨xq7.1.1, 0, none⟩) 1 xq7.1.2.1), (.slice none 0 0), (.slice none 0 0), (.slice none 0 0), (.slice none 0 0), (.slice none 0 0), (.slice none 0 0)], 44, true⟩, ⟨bq5, [(.slice none 0 0), (.slice none 0 0), (.slice none 0 0), (.slice none 0 0), (.slice none 0 0), (.slice none 0 0), (.slice none 0 0), (.slice none 0 0)], 41, true⟩, ⟨bq1, [(.int .i64 W), (.int .i64 H), (.slice ad n cap)], 32, true⟩]) rfl rfl rfl T.sz32 rfl rfl rfl rfl) (fun _ _ => ?_)
  refine GL.val (v := (.int .i64 52)) (Ex.assign rfl) (by decide) ?_
  refine GL.nil ?_
  refine GE.thenN ?_
  refine GC.seq ?_
  refine GC.seq ?_
  refine GC.region ?_
  refine GL.val (v := (.int .i64 0)) (Ex.assign rfl) (by decide) ?_
  refine GL.nil ?_
  refine GE.thenN ?_
  refine GC.block ?_
  refine GC.unroll 3 ?_
  refine GE.round ?_
  refine GC.seq ?_
  refine GC.seq ?_
  refine GC.region ?_
  refine GL.val (v := (.int .i64 0)) (Ex.move rfl) (by decide) ?_
  refine GL.val (v := (.bool true)) (Ex.cast (Ex.lss rfl rfl) rfl) (by decide) ?_
  refine GL.nil ?_
  refine GE.thenN ?_
  refine GC.cond rfl (fun _ => ?_) (fun hq13 => by cases hq13)
  refine GC.skip ?_
  refine GE.thenN ?_
  refine GC.seq ?_
  refine GC.block ?_
  refine GC.seq ?_
  refine GC.region ?_
  refine GL.val (v := (.agg #[(.int .i64 W), (.int .i64 H), (.slice (some ⟨xq7.2.2.2, 0, none⟩) n (n + 5))])) (Ex.loadA rfl T.ag32 T.sz32 (i := 1) rfl (vs := [(.int .i64 W), (.int .i64 H), (.slice (some ⟨xq7.2.2.2, 0, none⟩) n (n + 5))]) rfl rfl) (by decide) ?_
  refine GL.val (v := (.int .i64 kd)) (Ex.move rfl) (by decide) ?_
  refine GL.val (v := (.int .i64 l)) (Ex.move rfl) (by decide) ?_
  refine GL.val (v := (.int .i64 t)) (Ex.move rfl) (by decide) ?_
  refine GL.val (v := (.int .i64 r)) (Ex.move rfl) (by decide) ?_
  refine GL.val (v := (.int .i64 u)) (Ex.move rfl) (by decide) ?_
  refine GL.step (Stp.callR (σ := Unit) (p := fun rz => True) (v := fun rz => (.tuple #[(.agg #[(.int .i64 0), (.int .i64 0), (.slice none 0 0)]), (.int .i64 52)])) (N := fun rz => []) (vs := [(.agg #[(.int .i64 W), (.int .i64 H), (.slice (some ⟨xq7.2.2.2, 0, none⟩) n (n + 5))]), (.int .i64 kd), (.int .i64 l), (.int .i64 t), (.int .i64 r), (.int .i64 u)]) rfl rfl T.own19 (by decide) (fun wc hw => extend_neg W H (some ⟨xq7.2.2.2, 0, none⟩) n (n + 5) kd l t r u wc hc hk hm)) (fun xq14 hq15 => ?_)
  refine GL.val (v := (.tuple #[(.agg #[(.int .i64 0), (.int .i64 0), (.slice none 0 0)]), (.int .i64 52)])) (Ex.move rfl) (by decide) ?_
  refine GL.val (v := (.agg #[(.int .i64 0), (.int .i64 0), (.slice none 0 0)])) (Ex.extract rfl rfl) (by decide) ?_
  refine GL.val (v := (.int .i64 52)) (Ex.extract rfl rfl) (by decide) ?_
  refine GL.step (Stp.alloc T.zr32 (by decide)) (fun bq16 _ => ?_)
  refine GL.step (Stp.storeL (i := 0) (L1 := [⟨bq16, [(.int .i64 0), (.int .i64 0), (.slice none 0 0)], 32, true⟩, ⟨bq12, [(.int .i64 0), (.int .i64 0), (.slice none 0 0)], 32, true⟩, ⟨bq9, [(.int .i64 W), (.int .i64 H), (.slice (some ⟨xq7.2.2.2, 0, none⟩) n (n + 5))], 32, true⟩, ⟨xq7.1.1, [(Value.slice (some ⟨xq7.2.1.1, 0, none⟩) (n + 5) xq7.2.1.2.1)] ++ xq7.1.2.2, 30, true⟩, ⟨xq7.2.1.1, (roomL xs).map u32 ++ xq7.2.1.2.2, 72, true⟩, ⟨xq7.2.2.1.1, [(Value.slice (some ⟨xq7.2.2.2, 0, none⟩) (n + 5) (n + 5))] ++ xq7.2.2.1.2.2, 30, true⟩, ⟨xq7.2.2.2, (roomL xs).map u32, 72, true⟩, ⟨bq6, [(.slice (some ⟨xq7.2.2.1.1, 0, none⟩) 1 xq7.2.2.1.2.1), (.slice (some ⟨xq7.1.1, 0, none⟩) 1 xq7.1.2.1), (.slice none 0 0), (.slice none 0 0), (.slice none 0 0), (.slice none 0 0), (.slice none 0 0), (.slice none 0 0)], 44, true⟩, ⟨bq5, [(.slice none 0 0), (.slice none 0 0), (.slice none 0 0), (.slice none 0 0), (.slice none 0 0), (.slice none 0 0), (.slice none 0 0), (.slice none 0 0)], 41, true⟩, ⟨bq1, [(.int .i64 W), (.int .i64 H), (.slice ad n cap)], 32, true⟩]) rfl rfl rfl T.sz32 rfl rfl rfl rfl) (fun _ _ => ?_)
  refine GL.val (v := (.int .i64 52)) (Ex.assign rfl) (by decide) ?_
  refine GL.nil ?_
  refine GE.thenN ?_
  refine GC.seq ?_
  refine GC.seq ?_
  refine GC.region ?_
  refine GL.val (v := (.agg #[(.int .i64 0), (.int .i64 0), (.slice none 0 0)])) (Ex.loadA rfl T.ag32 T.sz32 (i := 0) rfl (vs := [(.int .i64 0), (.int .i64 0), (.slice none 0 0)]) rfl rfl) (by decide) ?_
  refine GL.val (v := (.int .i64 52)) (Ex.move rfl) (by decide) ?_
  refine GL.val (v := (.agg #[(.int .i64 0), (.int .i64 0), (.slice none 0 0)])) (Ex.loadA rfl T.ag32 T.sz32 (i := 1) rfl (vs := [(.int .i64 0), (.int .i64 0), (.slice none 0 0)]) rfl rfl) (by decide) ?_
  refine GL.val (v := (.int .i64 52)) (Ex.move rfl) (by decide) ?_
  refine GL.step (Stp.callR (σ := Unit) (p := fun rz => True) (v := fun rz => (.bool true)) (N := fun rz => []) (vs := [(.agg #[(.int .i64 0), (.int .i64 0), (.slice none 0 0)]), (.int .i64 52), (.agg #[(.int .i64 0), (.int .i64 0), (.slice none 0 0)]), (.int .i64 52)]) rfl rfl T.own20 (by decide) (fun wc hw => same_ 0 0 none 0 0 0 0 none 0 0 52 ([]) ([]) wc (by decide) (LsR.nil _ _) (LsR.nil _ _) (by first | rfl | omega) (by first | rfl | omega) (by first | rfl | (simp only [Nat.add_zero])))) (fun xq17 hq18 => ?_)
  refine GL.val (v := (.bool false)) (Ex.cast (Ex.not rfl) rfl) (by decide) ?_
  refine GL.nil ?_
  refine GE.thenN ?_
  refine GC.cond rfl (fun hq19 => by cases hq19) (fun _ => ?_)
  refine GC.skip ?_
  refine GE.thenN ?_
  refine GC.region ?_
  refine GL.val (v := (.pointer (some ⟨bq5, 0, none⟩))) (Ex.move rfl) (by decide) ?_
  refine GL.val (v := (.agg #[(.int .i64 0), (.int .i64 0), (.slice none 0 0)])) (Ex.loadA rfl T.ag32 T.sz32 (i := 0) rfl (vs := [(.int .i64 0), (.int .i64 0), (.slice none 0 0)]) rfl rfl) (by decide) ?_
  refine GL.val (v := (.int .i64 0)) (Ex.move rfl) (by decide) ?_
  refine GL.step (Stp.call (σ := (Nat × Nat × List Value) × (Nat × Nat × List Value)) (p := fun rz => ([(Value.slice none 0 0)] ++ rz.2.2.2 : List Value).length = rz.2.2.1 * 1 ∧ ([(Value.int .i64 0)] ++ rz.1.2.2 : List Value).length = rz.1.2.1 * 1) (v := fun rz => (.tuple #[])) (L' := fun rz => [⟨rz.1.1, [(Value.int .i64 0)] ++ rz.1.2.2, 3, true⟩, ⟨rz.2.1, [(Value.slice none 0 0)] ++ rz.2.2.2, 30, true⟩, ⟨bq5, [(.slice (some ⟨rz.2.1, 0, none⟩) 1 rz.2.2.1), (.slice none 0 0), (.slice none 0 0), (.slice none 0 0), (.slice (some ⟨rz.1.1, 0, none⟩) 1 rz.1.2.1), (.slice none 0 0), (.slice none 0 0), (.slice none 0 0)], 41, true⟩, ⟨bq16, [(.int .i64 0), (.int .i64 0), (.slice none 0 0)], 32, true⟩, ⟨bq12, [(.int .i64 0), (.int .i64 0), (.slice none 0 0)], 32, true⟩, ⟨bq9, [(.int .i64 W), (.int .i64 H), (.slice (some ⟨xq7.2.2.2, 0, none⟩) n (n + 5))], 32, true⟩, ⟨xq7.1.1, [(Value.slice (some ⟨xq7.2.1.1, 0, none⟩) (n + 5) xq7.2.1.2.1)] ++ xq7.1.2.2, 30, true⟩, ⟨xq7.2.1.1, (roomL xs).map u32 ++ xq7.2.1.2.2, 72, true⟩, ⟨xq7.2.2.1.1, [(Value.slice (some ⟨xq7.2.2.2, 0, none⟩) (n + 5) (n + 5))] ++ xq7.2.2.1.2.2, 30, true⟩, ⟨xq7.2.2.2, (roomL xs).map u32, 72, true⟩, ⟨bq6, [(.slice (some ⟨xq7.2.2.1.1, 0, none⟩) 1 xq7.2.2.1.2.1), (.slice (some ⟨xq7.1.1, 0, none⟩) 1 xq7.1.2.1), (.slice none 0 0), (.slice none 0 0), (.slice none 0 0), (.slice none 0 0), (.slice none 0 0), (.slice none 0 0)], 44, true⟩, ⟨bq1, [(.int .i64 W), (.int .i64 H), (.slice ad n cap)], 32, true⟩]) (vs := [(.pointer (some ⟨bq5, 0, none⟩)), (.agg #[(.int .i64 0), (.int .i64 0), (.slice none 0 0)]), (.int .i64 0)]) rfl rfl T.own21 (by decide) (fun wc hw => book_p00 w [⟨bq16, [(.int .i64 0), (.int .i64 0), (.slice none 0 0)], 32, true⟩, ⟨bq12, [(.int .i64 0), (.int .i64 0), (.slice none 0 0)], 32, true⟩, ⟨bq9, [(.int .i64 W), (.int .i64 H), (.slice (some ⟨xq7.2.2.2, 0, none⟩) n (n + 5))], 32, true⟩, ⟨xq7.1.1, [(Value.slice (some ⟨xq7.2.1.1, 0, none⟩) (n + 5) xq7.2.1.2.1)] ++ xq7.1.2.2, 30, true⟩, ⟨xq7.2.1.1, (roomL xs).map u32 ++ xq7.2.1.2.2, 72, true⟩, ⟨xq7.2.2.1.1, [(Value.slice (some ⟨xq7.2.2.2, 0, none⟩) (n + 5) (n + 5))] ++ xq7.2.2.1.2.2, 30, true⟩, ⟨xq7.2.2.2, (roomL xs).map u32, 72, true⟩, ⟨bq6, [(.slice (some ⟨xq7.2.2.1.1, 0, none⟩) 1 xq7.2.2.1.2.1), (.slice (some ⟨xq7.1.1, 0, none⟩) 1 xq7.1.2.1), (.slice none 0 0), (.slice none 0 0), (.slice none 0 0), (.slice none 0 0), (.slice none 0 0), (.slice none 0 0)], 44, true⟩, ⟨bq1, [(.int .i64 W), (.int .i64 H), (.slice ad n cap)], 32, true⟩] 0 0 bq5 0 wc (hw.pick (idx := [8, 0, 1, 2, 3, 4, 5, 6, 7, 9]) (by decide) rfl))) (fun xq20 hq21 => ?_)
  refine GL.nil ?_
  refine GE.blockN ?_
  refine GE.thenN ?_
  refine GC.region ?_
  refine GL.val (v := (.int .i64 0)) (Ex.move rfl) (by decide) ?_
  refine GL.val (v := (.int .i64 1)) (Ex.add rfl rfl (Z := 1) (by decide)) (by decide) ?_
  refine GL.val (v := (.int .i64 1)) (Ex.assign rfl) (by decide) ?_
  refine GL.nil ?_
  refine GE.thenN ?_
  refine GE.round ?_
  refine GC.seq ?_
  refine GC.seq ?_
  refine GC.region ?_
  refine GL.val (v := (.int .i64 1)) (Ex.move rfl) (by decide) ?_
  refine GL.val (v := (.bool true)) (Ex.cast (Ex.lss rfl rfl) rfl) (by decide) ?_
  refine GL.nil ?_
  refine GE.thenN ?_
  refine GC.cond rfl (fun _ => ?_) (fun hq22 => by cases hq22)
  refine GC.skip ?_
  refine GE.thenN ?_
  refine GC.seq ?_
  refine GC.block ?_
  refine GC.seq ?_
  refine GC.region ?_
  refine GL.val (v := (.agg #[(.int .i64 W), (.int .i64 H), (.slice (some ⟨xq7.2.2.2, 0, none⟩) n (n + 5))])) (Ex.loadA rfl T.ag32 T.sz32 (i := 5) rfl (vs := [(.int .i64 W), (.int .i64 H), (.slice (some ⟨xq7.2.2.2, 0, none⟩) n (n + 5))]) rfl rfl) (by decide) ?_
  refine GL.val (v := (.int .i64 kd)) (Ex.move rfl) (by decide) ?_
  refine GL.val (v := (.int .i64 l)) (Ex.move rfl) (by decide) ?_
  refine GL.val (v := (.int .i64 t)) (Ex.move rfl) (by decide) ?_
  refine GL.val (v := (.int .i64 r)) (Ex.move rfl) (by decide) ?_
  refine GL.val (v := (.int .i64 u)) (Ex.move rfl) (by decide) ?_
  refine GL.step (Stp.callR (σ := Unit) (p := fun rz => True) (v := fun rz => (.tuple #[(.agg #[(.int .i64 0), (.int .i64 0), (.slice none 0 0)]), (.int .i64 52)])) (N := fun rz => []) (vs := [(.agg #[(.int .i64 W), (.int .i64 H), (.slice (some ⟨xq7.2.2.2, 0, none⟩) n (n + 5))]), (.int .i64 kd), (.int .i64 l), (.int .i64 t), (.int .i64 r), (.int .i64 u)]) rfl rfl T.own19 (by decide) (fun wc hw => extend_neg W H (some ⟨xq7.2.2.2, 0, none⟩) n (n + 5) kd l t r u wc hc hk hm)) (fun xq23 hq24 => ?_)
  refine GL.val (v := (.tuple #[(.agg #[(.int .i64 0), (.int .i64 0), (.slice none 0 0)]), (.int .i64 52)])) (Ex.move rfl) (by decide) ?_
  refine GL.val (v := (.agg #[(.int .i64 0), (.int .i64 0), (.slice none 0 0)])) (Ex.extract rfl rfl) (by decide) ?_
  refine GL.val (v := (.int .i64 52)) (Ex.extract rfl rfl) (by decide) ?_
  refine GL.step (Stp.alloc T.zr32 (by decide)) (fun bq25 _ => ?_)
  refine GL.step (Stp.storeL (i := 0) (L1 := [⟨bq25, [(.int .i64 0), (.int .i64 0), (.slice none 0 0)], 32, true⟩, ⟨xq20.1.1, [(Value.int .i64 0)] ++ xq20.1.2.2, 3, true⟩, ⟨xq20.2.1, [(Value.slice none 0 0)] ++ xq20.2.2.2, 30, true⟩, ⟨bq5, [(.slice (some ⟨xq20.2.1, 0, none⟩) 1 xq20.2.2.1), (.slice none 0 0), (.slice none 0 0), (.slice none 0 0), (.slice (some ⟨xq20.1.1, 0, none⟩) 1 xq20.1.2.1), (.slice none 0 0), (.slice none 0 0), (.slice none 0 0)], 41, true⟩, ⟨bq16, [(.int .i64 0), (.int .i64 0), (.slice none 0 0)], 32, true⟩, ⟨bq12, [(.int .i64 0), (.int .i64 0), (.slice none 0 0)], 32, true⟩, ⟨bq9, [(.int .i64 W), (.int .i64 H), (.slice (some ⟨xq7.2.2.2, 0, none⟩) n (n + 5))], 32, true⟩, ⟨xq7.1.1, [(Value.slice (some ⟨xq7.2.1.1, 0, none⟩) (n + 5) xq7.2.1.2.1)] ++ xq7.1.2.2, 30, true⟩, ⟨xq7.2.1.1, (roomL xs).map u32 ++ xq7.2.1.2.2, 72, true⟩, ⟨xq7.2.2.1.1, [(Value.slice (some ⟨xq7.2.2.2, 0, none⟩) (n + 5) (n + 5))] ++ xq7.2.2.1.2.2, 30, true⟩, ⟨xq7.2.2.2, (roomL xs).map u32, 72, true⟩, ⟨bq6, [(.slice (some ⟨xq7.2.2.1.1, 0, none⟩) 1 xq7.2.2.1.2.1), (.slice (some ⟨xq7.1.1, 0, none⟩) 1 xq7.1.2.1), (.slice none 0 0), (.slice none 0 0), (.slice none 0 0), (.slice none 0 0), (.slice none 0 0), (.slice none 0 0)], 44, true⟩, ⟨bq1, [(.int .i64 W), (.int .i64 H), (.slice ad n cap)], 32, true⟩]) rfl rfl rfl T.sz32 rfl rfl rfl rfl) (fun _ _ => ?_)
  refine GL.val (v := (.int .i64 52)) (Ex.assign rfl) (by decide) ?_
  refine GL.nil ?_
  refine GE.thenN ?_
  refine GC.seq ?_
  refine GC.seq ?_
  refine GC.region ?_
  refine GL.val (v := (.agg #[(.int .i64 0), (.int .i64 0), (.slice none 0 0)])) (Ex.loadA rfl T.ag32 T.sz32 (i := 0) rfl (vs := [(.int .i64 0), (.int .i64 0), (.slice none 0 0)]) rfl rfl) (by decide) ?_
  refine GL.val (v := (.int .i64 52)) (Ex.move rfl) (by decide) ?_
  refine GL.val (v := (.agg #[(.int .i64 0), (.int .i64 0), (.slice none 0 0)])) (Ex.loadA rfl T.ag32 T.sz32 (i := 5) rfl (vs := [(.int .i64 0), (.int .i64 0), (.slice none 0 0)]) rfl rfl) (by decide) ?_
  refine GL.val (v := (.int .i64 52)) (Ex.move rfl) (by decide) ?_
  refine GL.step (Stp.callR (σ := Unit) (p := fun rz => True) (v := fun rz => (.bool true)) (N := fun rz => []) (vs := [(.agg #[(.int .i64 0), (.int .i64 0), (.slice none 0 0)]), (.int .i64 52), (.agg #[(.int .i64 0), (.int .i64 0), (.slice none 0 0)]), (.int .i64 52)]) rfl rfl T.own20 (by decide) (fun wc hw => same_ 0 0 none 0 0 0 0 none 0 0 52 ([]) ([]) wc (by decide) (LsR.nil _ _) (LsR.nil _ _) (by first | rfl | omega) (by first | rfl | omega) (by first | rfl | (simp only [Nat.add_zero])))) (fun xq26 hq27 => ?_)
  refine GL.val (v := (.bool false)) (Ex.cast (Ex.not rfl) rfl) (by decide) ?_
  refine GL.nil ?_
  refine GE.thenN ?_
  refine GC.cond rfl (fun hq28 => by cases hq28) (fun _ => ?_)
  refine GC.skip ?_
  refine GE.thenN ?_
  refine GC.region ?_
  refine GL.val (v := (.pointer (some ⟨bq5, 0, none⟩))) (Ex.move rfl) (by decide) ?_
  refine GL.val (v := (.agg #[(.int .i64 0), (.int .i64 0), (.slice none 0 0)])) (Ex.loadA rfl T.ag32 T.sz32 (i := 0) rfl (vs := [(.int .i64 0), (.int .i64 0), (.slice none 0 0)]) rfl rfl) (by decide) ?_
  refine GL.val (v := (.int .i64 1)) (Ex.move rfl) (by decide) ?_
  refine GL.step (Stp.call (σ := (Nat × Nat × List Value) × (Nat × Nat × List Value)) (p := fun rz => (([(Value.slice none 0 0)]) ++ [(Value.slice none 0 0)] ++ rz.2.2.2 : List Value).length = rz.2.2.1 * 1 ∧ (([(Value.int .i64 0)]) ++ [(Value.int .i64 1)] ++ rz.1.2.2 : List Value).length = rz.1.2.1 * 1) (v := fun rz => (.tuple #[])) (L' := fun rz => [⟨rz.1.1, ([(Value.int .i64 0)]) ++ [(Value.int .i64 1)] ++ rz.1.2.2, 3, true⟩, ⟨rz.2.1, ([(Value.slice none 0 0)]) ++ [(Value.slice none 0 0)] ++ rz.2.2.2, 30, true⟩, ⟨bq5, [(.slice (some ⟨rz.2.1, 0, none⟩) 2 rz.2.2.1), (.slice none 0 0), (.slice none 0 0), (.slice none 0 0), (.slice (some ⟨rz.1.1, 0, none⟩) 2 rz.1.2.1), (.slice none 0 0), (.slice none 0 0), (.slice none 0 0)], 41, true⟩, ⟨bq25, [(.int .i64 0), (.int .i64 0), (.slice none 0 0)], 32, true⟩, ⟨bq16, [(.int .i64 0), (.int .i64 0), (.slice none 0 0)], 32, true⟩, ⟨bq12, [(.int .i64 0), (.int .i64 0), (.slice none 0 0)], 32, true⟩, ⟨bq9, [(.int .i64 W), (.int .i64 H), (.slice (some ⟨xq7.2.2.2, 0, none⟩) n (n + 5))], 32, true⟩, ⟨xq7.1.1, [(Value.slice (some ⟨xq7.2.1.1, 0, none⟩) (n + 5) xq7.2.1.2.1)] ++ xq7.1.2.2, 30, true⟩, ⟨xq7.2.1.1, (roomL xs).map u32 ++ xq7.2.1.2.2, 72, true⟩, ⟨xq7.2.2.1.1, [(Value.slice (some ⟨xq7.2.2.2, 0, none⟩) (n + 5) (n + 5))] ++ xq7.2.2.1.2.2, 30, true⟩, ⟨xq7.2.2.2, (roomL xs).map u32, 72, true⟩, ⟨bq6, [(.slice (some ⟨xq7.2.2.1.1, 0, none⟩) 1 xq7.2.2.1.2.1), (.slice (some ⟨xq7.1.1, 0, none⟩) 1 xq7.1.2.1), (.slice none 0 0), (.slice none 0 0), (.slice none 0 0), (.slice none 0 0), (.slice none 0 0), (.slice none 0 0)], 44, true⟩, ⟨bq1, [(.int .i64 W), (.int .i64 H), (.slice ad n cap)], 32, true⟩]) (vs := [(.pointer (some ⟨bq5, 0, none⟩)), (.agg #[(.int .i64 0), (.int .i64 0), (.slice none 0 0)]), (.int .i64 1)]) rfl rfl T.own21 (by decide) (fun wc hw => book_p10 w [⟨bq25, [(.int .i64 0), (.int .i64 0), (.slice none 0 0)], 32, true⟩, ⟨bq16, [(.int .i64 0), (.int .i64 0), (.slice none 0 0)], 32, true⟩, ⟨bq12, [(.int .i64 0), (.int .i64 0), (.slice none 0 0)], 32, true⟩, ⟨bq9, [(.int .i64 W), (.int .i64 H), (.slice (some ⟨xq7.2.2.2, 0, none⟩) n (n + 5))], 32, true⟩, ⟨xq7.1.1, [(Value.slice (some ⟨xq7.2.1.1, 0, none⟩) (n + 5) xq7.2.1.2.1)] ++ xq7.1.2.2, 30, true⟩, ⟨xq7.2.1.1, (roomL xs).map u32 ++ xq7.2.1.2.2, 72, true⟩, ⟨xq7.2.2.1.1, [(Value.slice (some ⟨xq7.2.2.2, 0, none⟩) (n + 5) (n + 5))] ++ xq7.2.2.1.2.2, 30, true⟩, ⟨xq7.2.2.2, (roomL xs).map u32, 72, true⟩, ⟨bq6, [(.slice (some ⟨xq7.2.2.1.1, 0, none⟩) 1 xq7.2.2.1.2.1), (.slice (some ⟨xq7.1.1, 0, none⟩) 1 xq7.1.2.1), (.slice none 0 0), (.slice none 0 0), (.slice none 0 0), (.slice none 0 0), (.slice none 0 0), (.slice none 0 0)], 44, true⟩, ⟨bq1, [(.int .i64 W), (.int .i64 H), (.slice ad n cap)], 32, true⟩] 0 0 bq5 1 1 xq20.2.1 xq20.2.2.1 xq20.1.1 xq20.1.2.1 ([(Value.slice none 0 0)]) xq20.2.2.2 ([(Value.int .i64 0)]) xq20.1.2.2 wc (by first | decide | omega) (by first | rfl | omega) (by first | rfl | omega) hq21.1 hq21.2 (hw.pick (idx := [3, 2, 1, 0, 4, 5, 6, 7, 8, 9, 10, 11, 12]) (by decide) rfl))) (fun xq29 hq30 => ?_)
  refine GL.nil ?_
  refine GE.blockN ?_
  refine GE.thenN ?_
  refine GC.region ?_
  refine GL.val (v := (.int .i64 1)) (Ex.move rfl) (by decide) ?_
  refine GL.val (v := (.int .i64 2)) (Ex.add rfl rfl (Z := 2) (by decide)) (by decide) ?_
  refine GL.val (v := (.int .i64 2)) (Ex.assign rfl) (by decide) ?_
  refine GL.nil ?_
  refine GE.thenN ?_
  refine GE.round ?_
  refine GC.seq ?_
  refine GC.seq ?_
  refine GC.region ?_
  refine GL.val (v := (.int .i64 2)) (Ex.move rfl) (by decide) ?_
  refine GL.val (v := (.bool false)) (Ex.cast (Ex.lss rfl rfl) rfl) (by decide) ?_
  refine GL.nil ?_
  refine GE.thenN ?_
  refine GC.cond rfl (fun hq31 => by cases hq31) (fun _ => ?_)
  refine GC.exit ?_
  refine GE.thenE ?_
  refine GE.thenE ?_
  refine GE.blockE ?_
  refine GE.thenN ?_
  refine GC.seq ?_
  refine GC.region ?_
  refine GL.val (v := (.pointer (some ⟨bq5, 0, none⟩))) (Ex.move rfl) (by decide) ?_
  refine GL.step (Stp.callR (σ := Unit) (p := fun rz => True) (v := fun rz => (.bool true)) (N := fun rz => []) (vs := [(.pointer (some ⟨bq5, 0, none⟩))]) rfl rfl T.own22 (by decide) (fun wc hw => book_hold bq5 2 xq29.2.1 xq29.2.2.1 xq29.1.1 xq29.1.2.1 ([⟨none, 0, 0⟩, ⟨none, 0, 1⟩] : List It) xq29.2.2.2 xq29.1.2.2 wc rfl (by decide) (it_cons (it_nil _) (it_cons (it_nil _) it_all)) (Has.cons (hw.hasOf (i := 2) rfl) (Has.cons (hw.hasOf (i := 1) rfl) (Has.cons (hw.hasOf (i := 0) rfl) (Has.nil _)))))) (fun xq32 hq33 => ?_)
  refine GL.val (v := (.bool true)) (Ex.move rfl) (by decide) ?_
  refine GL.stepG (tj := 66) rfl rfl (Ex.wp (v := (.pointer (some ⟨bq6, 0, none⟩))) (Ex.move rfl) (by decide)) (fun _ _ => ?_)
  refine GL.stepG (tj := 66) rfl rfl (Stp.callR (σ := Unit) (p := fun rz => True) (v := fun rz => (.bool true)) (N := fun rz => []) (vs := [(.pointer (some ⟨bq6, 0, none⟩))]) rfl rfl T.own23 (by decide) (fun wc hw => room_hold1 bq6 xq7.2.2.1.1 xq7.1.1 xq7.2.2.1.2.1 xq7.1.2.1 xq7.2.2.1.2.2 xq7.1.2.2 xq7.2.2.2 xq7.2.1.1 n xq7.2.1.2.1 xs xq7.2.1.2.2 wc ⟨hl.1, hb⟩ (Has.cons (hw.hasOf (i := 11) rfl) (Has.cons (hw.hasOf (i := 9) rfl) (Has.cons (hw.hasOf (i := 7) rfl) (Has.cons (hw.hasOf (i := 10) rfl) (Has.cons (hw.hasOf (i := 8) rfl) (Has.nil _)))))))) (fun xq34 hq35 => ?_)
  refine GL.val (v := (.bool true)) (Ex.pickT rfl rfl) (by decide) ?_
  refine GL.val (v := (.bool true)) (Ex.assign rfl) (by decide) ?_
  refine GL.nil ?_
  refine GE.thenN ?_
  refine GC.ret ?_
  refine GC.ret1 rfl (Rv.tmp rfl) (fun wN HN => ?_)
  exact HN.ret () trivial rfl (List.nil_sublist _) rfl

set_option maxRecDepth 100000 in
set_option maxHeartbeats 1000000 in
theorem ext_bg (W H : Int) (ad : Option Addr) (n cap : Nat) (xs : List Int) (kd l t r u : Int) (w : World) (hl : Lst w ad n xs) (hb : n ≤ 35184372087808) (hc : chk W H n = 0) (hk : (bord kd 1 0).2 = 0) (hm : 0 ≤ l ∧ 0 ≤ t ∧ 0 ≤ r ∧ 0 ≤ u) (hs : ¬ ((l ≤ 1024 ∧ t ≤ 1024 ∧ r ≤ 1024 ∧ u ≤ 1024) ∧ sizeB (l + W + r) (t + H + u) = true)) :
    Calls Try.prog 5 #[(.agg #[(.int .i64 W), (.int .i64 H), (.slice ad n cap)]), (.int .i64 kd), (.int .i64 l), (.int .i64 t), (.int .i64 r), (.int .i64 u)] w (Ret w (fun _ : Unit => True) (fun _ => .bool true) (fun _ => [])) := by
  refine enter (M := None) (L := []) (n := 70) (l := [(0, (.agg #[(.int .i64 W), (.int .i64 H), (.slice ad n cap)])), (1, (.int .i64 kd)), (2, (.int .i64 l)), (3, (.int .i64 t)), (4, (.int .i64 r)), (5, (.int .i64 u))]) Try.func5 rfl rfl (Args.cons rfl (Args.cons rfl (Args.cons rfl (Args.cons rfl (Args.cons rfl (Args.cons rfl (Args.nil _))))))) (Hp.start _ _) ?_
  refine GC.seq ?_
  refine GC.region ?_
  refine GL.step (Stp.box (cs := [(.int .i64 W), (.int .i64 H), (.slice ad n cap)]) rfl rfl (by decide)) (fun bq1 _ => ?_)
  refine GL.val (v := (.bool false)) (Ex.assign rfl) (by decide) ?_
  refine GL.nil ?_
  refine GE.thenN ?_
  refine GC.seq ?_
  refine GC.seq ?_
  refine GC.region ?_
  refine GL.step (Stp.callR (σ := Unit) (p := fun rz => True) (v := fun rz => (.bool true)) (N := fun rz => []) (vs := []) rfl rfl T.own13 (by decide) (fun wc hw => known wc)) (fun xq2 hq3 => ?_)
  refine GL.val (v := (.bool false)) (Ex.cast (Ex.not rfl) rfl) (by decide) ?_
  refine GL.nil ?_
  refine GE.thenN ?_
  refine GC.cond rfl (fun hq4 => by cases hq4) (fun _ => ?_)
  refine GC.skip ?_
  refine GE.thenN ?_
  refine GC.seq ?_
  refine GC.region ?_
  refine GL.val (v := (.agg #[(.slice none 0 0), (.slice none 0 0), (.slice none 0 0), (.slice none 0 0), (.slice none 0 0), (.slice none 0 0), (.slice none 0 0), (.slice none 0 0)])) (Ex.build (vs := []) rfl (by first | rfl | kernel_rfl)) (by decide) ?_
  refine GL.step (Stp.box (cs := [(.slice none 0 0), (.slice none 0 0), (.slice none 0 0), (.slice none 0 0), (.slice none 0 0), (.slice none 0 0), (.slice none 0 0), (.slice none 0 0)]) rfl rfl (by decide)) (fun bq5 _ => ?_)
  refine GL.val (v := (.pointer (some ⟨bq5, 0, none⟩))) (Ex.assign rfl) (by decide) ?_
  refine GL.nil ?_
  refine GE.thenN ?_
  refine GC.seq ?_
  refine GC.region ?_
  refine GL.val (v := (.agg #[(.slice none 0 0), (.slice none 0 0), (.slice none 0 0), (.slice none 0 0), (.slice none 0 0), (.slice none 0 0), (.slice none 0 0), (.slice none 0 0)])) (Ex.build (vs := []) rfl (by first | rfl | kernel_rfl)) (by decide) ?_
  refine GL.step (Stp.box (cs := [(.slice none 0 0), (.slice none 0 0), (.slice none 0 0), (.slice none 0 0), (.slice none 0 0), (.slice none 0 0), (.slice none 0 0), (.slice none 0 0)]) rfl rfl (by decide)) (fun bq6 _ => ?_)
  refine GL.val (v := (.pointer (some ⟨bq6, 0, none⟩))) (Ex.assign rfl) (by decide) ?_
  refine GL.nil ?_
  refine GE.thenN ?_
  refine GC.seq ?_
  refine GC.region ?_
  refine GL.val (v := (.pointer (some ⟨bq6, 0, none⟩))) (Ex.move rfl) (by decide) ?_
  refine GL.val (v := (.agg #[(.int .i64 W), (.int .i64 H), (.slice ad n cap)])) (Ex.loadA rfl T.ag32 T.sz32 (i := 2) rfl (vs := [(.int .i64 W), (.int .i64 H), (.slice ad n cap)]) rfl rfl) (by decide) ?_
  refine GL.step (Stp.call (σ := (Nat × Nat × List Value) × (Nat × Nat × List Value) × (Nat × Nat × List Value) × Nat) (p := fun rz => ([(Value.slice (some ⟨rz.2.2.2, 0, none⟩) (n + 5) (n + 5))] ++ rz.2.2.1.2.2 : List Value).length = rz.2.2.1.2.1 * 1 ∧ ([(Value.slice (some ⟨rz.2.1.1, 0, none⟩) (n + 5) rz.2.1.2.1)] ++ rz.1.2.2 : List Value).length = rz.1.2.1 * 1) (v := fun rz => (.agg #[(.int .i64 W), (.int .i64 H), (.slice (some ⟨rz.2.2.2, 0, none⟩) n (n + 5))])) (L' := fun rz => [⟨rz.1.1, [(Value.slice (some ⟨rz.2.1.1, 0, none⟩) (n + 5) rz.2.1.2.1)] ++ rz.1.2.2, 30, true⟩, ⟨rz.2.1.1, (roomL xs).map u32 ++ rz.2.1.2.2, 72, true⟩, ⟨rz.2.2.1.1, [(Value.slice (some ⟨rz.2.2.2, 0, none⟩) (n + 5) (n + 5))] ++ rz.2.2.1.2.2, 30, true⟩, ⟨rz.2.2.2, (roomL xs).map u32, 72, true⟩, ⟨bq6, [(.slice (some ⟨rz.2.2.1.1, 0, none⟩) 1 rz.2.2.1.2.1), (.slice (some ⟨rz.1.1, 0, none⟩) 1 rz.1.2.1), (.slice none 0 0), (.slice none 0 0), (.slice none 0 0), (.slice none 0 0), (.slice none 0 0), (.slice none 0 0)], 44, true⟩, ⟨bq5, [(.slice none 0 0), (.slice none 0 0), (.slice none 0 0), (.slice none 0 0), (.slice none 0 0), (.slice none 0 0), (.slice none 0 0), (.slice none 0 0)], 41, true⟩, ⟨bq1, [(.int .i64 W), (.int .i64 H), (.slice ad n cap)], 32, true⟩]) (vs := [(.pointer (some ⟨bq6, 0, none⟩)), (.agg #[(.int .i64 W), (.int .i64 H), (.slice ad n cap)])]) rfl rfl T.own17 (by decide) (fun wc hw => room_p0 w [⟨bq5, [(.slice none 0 0), (.slice none 0 0), (.slice none 0 0), (.slice none 0 0), (.slice none 0 0), (.slice none 0 0), (.slice none 0 0), (.slice none 0 0)], 41, true⟩, ⟨bq1, [(.int .i64 W), (.int .i64 H), (.slice ad n cap)], 32, true⟩] W H bq6 n cap ad xs wc hl hb (hw.pick (idx := [0, 1, 2]) (by decide) rfl))) (fun xq7 hq8 => ?_)
  refine GL.step (Stp.alloc T.zr32 (by decide)) (fun bq9 _ => ?_)
  refine GL.step (Stp.storeL (i := 0) (L1 := [⟨bq9, [(.int .i64 W), (.int .i64 H), (.slice (some ⟨xq7.2.2.2, 0, none⟩) n (n + 5))], 32, true⟩, ⟨xq7.1.1, [(Value.slice (some ⟨xq7.2.1.1, 0, none⟩) (n + 5) xq7.2.1.2.1)] ++ xq7.1.2.2, 30, true⟩, ⟨xq7.2.1.1, (roomL xs).map u32 ++ xq7.2.1.2.2, 72, true⟩, ⟨xq7.2.2.1.1, [(Value.slice (some ⟨xq7.2.2.2, 0, none⟩) (n + 5) (n + 5))] ++ xq7.2.2.1.2.2, 30, true⟩, ⟨xq7.2.2.2, (roomL xs).map u32, 72, true⟩, ⟨bq6, [(.slice (some ⟨xq7.2.2.1.1, 0, none⟩) 1 xq7.2.2.1.2.1), (.slice (some ⟨xq7.1.1, 0, none⟩) 1 xq7.1.2.1), (.slice none 0 0), (.slice none 0 0), (.slice none 0 0), (.slice none 0 0), (.slice none 0 0), (.slice none 0 0)], 44, true⟩, ⟨bq5, [(.slice none 0 0), (.slice none 0 0), (.slice none 0 0), (.slice none 0 0), (.slice none 0 0), (.slice none 0 0), (.slice none 0 0), (.slice none 0 0)], 41, true⟩, ⟨bq1, [(.int .i64 W), (.int .i64 H), (.slice ad n cap)], 32, true⟩]) rfl rfl rfl T.sz32 rfl rfl rfl rfl) (fun _ _ => ?_)
  refine GL.nil ?_
  refine GE.thenN ?_
  refine GC.seq ?_
  refine GC.region ?_
  refine GL.val (v := (.agg #[(.int .i64 W), (.int .i64 H), (.slice ad n cap)])) (Ex.loadA rfl T.ag32 T.sz32 (i := 7) rfl (vs := [(.int .i64 W), (.int .i64 H), (.slice ad n cap)]) rfl rfl) (by decide) ?_
  refine GL.val (v := (.int .i64 kd)) (Ex.move rfl) (by decide) ?_
  refine GL.val (v := (.int .i64 l)) (Ex.move rfl) (by decide) ?_
  refine GL.val (v := (.int .i64 t)) (Ex.move rfl) (by decide) ?_
  refine GL.val (v := (.int .i64 r)) (Ex.move rfl) (by decide) ?_
  refine GL.val (v := (.int .i64 u)) (Ex.move rfl) (by decide) ?_
  refine GL.step (Stp.callR (σ := Unit) (p := fun rz => True) (v := fun rz => (.tuple #[(.agg #[(.int .i64 0), (.int .i64 0), (.slice none 0 0)]), (.int .i64 50)])) (N := fun rz => []) (vs := [(.agg #[(.int .i64 W), (.int .i64 H), (.slice ad n cap)]), (.int .i64 kd), (.int .i64 l), (.int .i64 t), (.int .i64 r), (.int .i64 u)]) rfl rfl T.own18 (by decide) (fun wc hw => ref_extend_big W H ad n cap kd l t r u wc hc hk hm hs)) (fun xq10 hq11 => ?_)
  refine GL.val (v := (.tuple #[(.agg #[(.int .i64 0), (.int .i64 0), (.slice none 0 0)]), (.int .i64 50)])) (Ex.move rfl) (by decide) ?_
  refine GL.val (v := (.agg #[(.int .i64 0), (.int .i64 0), (.slice none 0 0)])) (Ex.extract rfl rfl) (by decide) ?_
  refine GL.val (v := (.int .i64 50)) (Ex.extract rfl rfl) (by decide) ?_
  refine GL.step (Stp.alloc T.zr32 (by decide)) (fun bq12 _ => ?_)
  refine GL.step (Stp.storeL (i := 0) (L1 := [⟨bq12, [(.int .i64 0), (.int .i64 0), (.slice none 0 0)], 32, true⟩, ⟨bq9, [(.int .i64 W), (.int .i64 H), (.slice (some ⟨xq7.2.2.2, 0, none⟩) n (n + 5))], 32, true⟩, ⟨xq7.1.1, [(Value.slice (some ⟨xq7.2.1.1, 0, none⟩) (n + 5) xq7.2.1.2.1)] ++ xq7.1.2.2, 30, true⟩, ⟨xq7.2.1.1, (roomL xs).map u32 ++ xq7.2.1.2.2, 72, true⟩, ⟨xq7.2.2.1.1, [(Value.slice (some ⟨xq7.2.2.2, 0, none⟩) (n + 5) (n + 5))] ++ xq7.2.2.1.2.2, 30, true⟩, ⟨xq7.2.2.2, (roomL xs).map u32, 72, true⟩, ⟨bq6, [(.slice (some ⟨xq7.2.2.1.1, 0, none⟩) 1 xq7.2.2.1.2.1), (.slice (some ⟨xq7.1.1, 0, none⟩) 1 xq7.1.2.1), (.slice none 0 0), (.slice none 0 0), (.slice none 0 0), (.slice none 0 0), (.slice none 0 0), (.slice none 0 0)], 44, true⟩, ⟨bq5, [(.slice none 0 0), (.slice none 0 0), (.slice none 0 0), (.slice none 0 0), (.slice none 0 0), (.slice none 0 0), (.slice none 0 0), (.slice none 0 0)], 41, true⟩, ⟨bq1, [(.int .i64 W), (.int .i64 H), (.slice ad n cap)], 32, true⟩]) rfl rfl rfl T.sz32 rfl rfl rfl rfl) (fun _ _ => ?_)
  refine GL.val (v := (.int .i64 50)) (Ex.assign rfl) (by decide) ?_
  refine GL.nil ?_
  refine GE.thenN ?_
  refine GC.seq ?_
  refine GC.seq ?_
  refine GC.region ?_
  refine GL.val (v := (.int .i64 0)) (Ex.assign rfl) (by decide) ?_
  refine GL.nil ?_
  refine GE.thenN ?_
  refine GC.block ?_
  refine GC.unroll 3 ?_
  refine GE.round ?_
  refine GC.seq ?_
  refine GC.seq ?_
  refine GC.region ?_
  refine GL.val (v := (.int .i64 0)) (Ex.move rfl) (by decide) ?_
  refine GL.val (v := (.bool true)) (Ex.cast (Ex.lss rfl rfl) rfl) (by decide) ?_
  refine GL.nil ?_
  refine GE.thenN ?_
  refine GC.cond rfl (fun _ => ?_) (fun hq13 => by cases hq13)
  refine GC.skip ?_
  refine GE.thenN ?_
  refine GC.seq ?_
  refine GC.block ?_
  refine GC.seq ?_
  refine GC.region ?_
  refine GL.val (v := (.agg #[(.int .i64 W), (.int .i64 H), (.slice (some ⟨xq7.2.2.2, 0, none⟩) n (n + 5))])) (Ex.loadA rfl T.ag32 T.sz32 (i := 1) rfl (vs := [(.int .i64 W), (.int .i64 H), (.slice (some ⟨xq7.2.2.2, 0, none⟩) n (n + 5))]) rfl rfl) (by decide) ?_
  refine GL.val (v := (.int .i64 kd)) (Ex.move rfl) (by decide) ?_
  refine GL.val (v := (.int .i64 l)) (Ex.move rfl) (by decide) ?_
  refine GL.val (v := (.int .i64 t)) (Ex.move rfl) (by decide) ?_
  refine GL.val (v := (.int .i64 r)) (Ex.move rfl) (by decide) ?_
  refine GL.val (v := (.int .i64 u)) (Ex.move rfl) (by decide) ?_
  refine GL.step (Stp.callR (σ := Unit) (p := fun rz => True) (v := fun rz => (.tuple #[(.agg #[(.int .i64 0), (.int .i64 0), (.slice none 0 0)]), (.int .i64 50)])) (N := fun rz => []) (vs := [(.agg #[(.int .i64 W), (.int .i64 H), (.slice (some ⟨xq7.2.2.2, 0, none⟩) n (n + 5))]), (.int .i64 kd), (.int .i64 l), (.int .i64 t), (.int .i64 r), (.int .i64 u)]) rfl rfl T.own19 (by decide) (fun wc hw => extend_big W H (some ⟨xq7.2.2.2, 0, none⟩) n (n + 5) kd l t r u wc (by obtain ⟨w', h', e1, e2, ho, _⟩ := chk_zero hc; have h1 := ho.1; have h2 := ho.2.2.1; omega) (by obtain ⟨w', h', e1, e2, ho, _⟩ := chk_zero hc; have h1 := ho.2.1; have h2 := ho.2.2.2.1; omega) hc hk hm (fun h => Bool.eq_false_iff.2 (fun e => hs ⟨h, e⟩)))) (fun xq14 hq15 => ?_)
  refine GL.val (v := (.tuple #[(.agg #[(.int .i64 0), (.int .i64 0), (.slice none 0 0)]), (.int .i64 50)])) (Ex.move rfl) (by decide) ?_
  refine GL.val (v := (.agg #[(.int .i64 0), (.int .i64 0), (.slice none 0 0)])) (Ex.extract rfl rfl) (by decide) ?_
  refine GL.val (v := (.int .i64 50)) (Ex.extract rfl rfl) (by decide) ?_
  refine GL.step (Stp.alloc T.zr32 (by decide)) (fun bq16 _ => ?_)
  refine GL.step (Stp.storeL (i := 0) (L1 := [⟨bq16, [(.int .i64 0), (.int .i64 0), (.slice none 0 0)], 32, true⟩, ⟨bq12, [(.int .i64 0), (.int .i64 0), (.slice none 0 0)], 32, true⟩, ⟨bq9, [(.int .i64 W), (.int .i64 H), (.slice (some ⟨xq7.2.2.2, 0, none⟩) n (n + 5))], 32, true⟩, ⟨xq7.1.1, [(Value.slice (some ⟨xq7.2.1.1, 0, none⟩) (n + 5) xq7.2.1.2.1)] ++ xq7.1.2.2, 30, true⟩, ⟨xq7.2.1.1, (roomL xs).map u32 ++ xq7.2.1.2.2, 72, true⟩, ⟨xq7.2.2.1.1, [(Value.slice (some ⟨xq7.2.2.2, 0, none⟩) (n + 5) (n + 5))] ++ xq7.2.2.1.2.2, 30, true⟩, ⟨xq7.2.2.2, (roomL xs).map u32, 72, true⟩, ⟨bq6, [(.slice (some ⟨xq7.2.2.1.1, 0, none⟩) 1 xq7.2.2.1.2.1), (.slice (some ⟨xq7.1.1, 0, none⟩) 1 xq7.1.2.1), (.slice none 0 0), (.slice none 0 0), (.slice none 0 0), (.slice none 0 0), (.slice none 0 0), (.slice none 0 0)], 44, true⟩, ⟨bq5, [(.slice none 0 0), (.slice none 0 0), (.slice none 0 0), (.slice none 0 0), (.slice none 0 0), (.slice none 0 0), (.slice none 0 0), (.slice none 0 0)], 41, true⟩, ⟨bq1, [(.int .i64 W), (.int .i64 H), (.slice ad n cap)], 32, true⟩]) rfl rfl rfl T.sz32 rfl rfl rfl rfl) (fun _ _ => ?_)
  refine GL.val (v := (.int .i64 50)) (Ex.assign rfl) (by decide) ?_
  refine GL.nil ?_
  refine GE.thenN ?_
  refine GC.seq ?_
  refine GC.seq ?_
  refine GC.region ?_
  refine GL.val (v := (.agg #[(.int .i64 0), (.int .i64 0), (.slice none 0 0)])) (Ex.loadA rfl T.ag32 T.sz32 (i := 0) rfl (vs := [(.int .i64 0), (.int .i64 0), (.slice none 0 0)]) rfl rfl) (by decide) ?_
  refine GL.val (v := (.int .i64 50)) (Ex.move rfl) (by decide) ?_
  refine GL.val (v := (.agg #[(.int .i64 0), (.int .i64 0), (.slice none 0 0)])) (Ex.loadA rfl T.ag32 T.sz32 (i := 1) rfl (vs := [(.int .i64 0), (.int .i64 0), (.slice none 0 0)]) rfl rfl) (by decide) ?_
  refine GL.val (v := (.int .i64 50)) (Ex.move rfl) (by decide) ?_
  refine GL.step (Stp.callR (σ := Unit) (p := fun rz => True) (v := fun rz => (.bool true)) (N := fun rz => []) (vs := [(.agg #[(.int .i64 0), (.int .i64 0), (.slice none 0 0)]), (.int .i64 50), (.agg #[(.int .i64 0), (.int .i64 0), (.slice none 0 0)]), (.int .i64 50)]) rfl rfl T.own20 (by decide) (fun wc hw => same_ 0 0 none 0 0 0 0 none 0 0 50 ([]) ([]) wc (by decide) (LsR.nil _ _) (LsR.nil _ _) (by first | rfl | omega) (by first | rfl | omega) (by first | rfl | (simp only [Nat.add_zero])))) (fun xq17 hq18 => ?_)
  refine GL.val (v := (.bool false)) (Ex.cast (Ex.not rfl) rfl) (by decide) ?_
  refine GL.nil ?_
  refine GE.thenN ?_
  refine GC.cond rfl (fun hq19 => by cases hq19) (fun _ => ?_)
  refine GC.skip ?_
  refine GE.thenN ?_
  refine GC.region ?_
  refine GL.val (v := (.pointer (some ⟨bq5, 0, none⟩))) (Ex.move rfl) (by decide) ?_
  refine GL.val (v := (.agg #[(.int .i64 0), (.int .i64 0), (.slice none 0 0)])) (Ex.loadA rfl T.ag32 T.sz32 (i := 0) rfl (vs := [(.int .i64 0), (.int .i64 0), (.slice none 0 0)]) rfl rfl) (by decide) ?_
  refine GL.val (v := (.int .i64 0)) (Ex.move rfl) (by decide) ?_
  refine GL.step (Stp.call (σ := (Nat × Nat × List Value) × (Nat × Nat × List Value)) (p := fun rz => ([(Value.slice none 0 0)] ++ rz.2.2.2 : List Value).length = rz.2.2.1 * 1 ∧ ([(Value.int .i64 0)] ++ rz.1.2.2 : List Value).length = rz.1.2.1 * 1) (v := fun rz => (.tuple #[])) (L' := fun rz => [⟨rz.1.1, [(Value.int .i64 0)] ++ rz.1.2.2, 3, true⟩, ⟨rz.2.1, [(Value.slice none 0 0)] ++ rz.2.2.2, 30, true⟩, ⟨bq5, [(.slice (some ⟨rz.2.1, 0, none⟩) 1 rz.2.2.1), (.slice none 0 0), (.slice none 0 0), (.slice none 0 0), (.slice (some ⟨rz.1.1, 0, none⟩) 1 rz.1.2.1), (.slice none 0 0), (.slice none 0 0), (.slice none 0 0)], 41, true⟩, ⟨bq16, [(.int .i64 0), (.int .i64 0), (.slice none 0 0)], 32, true⟩, ⟨bq12, [(.int .i64 0), (.int .i64 0), (.slice none 0 0)], 32, true⟩, ⟨bq9, [(.int .i64 W), (.int .i64 H), (.slice (some ⟨xq7.2.2.2, 0, none⟩) n (n + 5))], 32, true⟩, ⟨xq7.1.1, [(Value.slice (some ⟨xq7.2.1.1, 0, none⟩) (n + 5) xq7.2.1.2.1)] ++ xq7.1.2.2, 30, true⟩, ⟨xq7.2.1.1, (roomL xs).map u32 ++ xq7.2.1.2.2, 72, true⟩, ⟨xq7.2.2.1.1, [(Value.slice (some ⟨xq7.2.2.2, 0, none⟩) (n + 5) (n + 5))] ++ xq7.2.2.1.2.2, 30, true⟩, ⟨xq7.2.2.2, (roomL xs).map u32, 72, true⟩, ⟨bq6, [(.slice (some ⟨xq7.2.2.1.1, 0, none⟩) 1 xq7.2.2.1.2.1), (.slice (some ⟨xq7.1.1, 0, none⟩) 1 xq7.1.2.1), (.slice none 0 0), (.slice none 0 0), (.slice none 0 0), (.slice none 0 0), (.slice none 0 0), (.slice none 0 0)], 44, true⟩, ⟨bq1, [(.int .i64 W), (.int .i64 H), (.slice ad n cap)], 32, true⟩]) (vs := [(.pointer (some ⟨bq5, 0, none⟩)), (.agg #[(.int .i64 0), (.int .i64 0), (.slice none 0 0)]), (.int .i64 0)]) rfl rfl T.own21 (by decide) (fun wc hw => book_p00 w [⟨bq16, [(.int .i64 0), (.int .i64 0), (.slice none 0 0)], 32, true⟩, ⟨bq12, [(.int .i64 0), (.int .i64 0), (.slice none 0 0)], 32, true⟩, ⟨bq9, [(.int .i64 W), (.int .i64 H), (.slice (some ⟨xq7.2.2.2, 0, none⟩) n (n + 5))], 32, true⟩, ⟨xq7.1.1, [(Value.slice (some ⟨xq7.2.1.1, 0, none⟩) (n + 5) xq7.2.1.2.1)] ++ xq7.1.2.2, 30, true⟩, ⟨xq7.2.1.1, (roomL xs).map u32 ++ xq7.2.1.2.2, 72, true⟩, ⟨xq7.2.2.1.1, [(Value.slice (some ⟨xq7.2.2.2, 0, none⟩) (n + 5) (n + 5))] ++ xq7.2.2.1.2.2, 30, true⟩, ⟨xq7.2.2.2, (roomL xs).map u32, 72, true⟩, ⟨bq6, [(.slice (some ⟨xq7.2.2.1.1, 0, none⟩) 1 xq7.2.2.1.2.1), (.slice (some ⟨xq7.1.1, 0, none⟩) 1 xq7.1.2.1), (.slice none 0 0), (.slice none 0 0), (.slice none 0 0), (.slice none 0 0), (.slice none 0 0), (.slice none 0 0)], 44, true⟩, ⟨bq1, [(.int .i64 W), (.int .i64 H), (.slice ad n cap)], 32, true⟩] 0 0 bq5 0 wc (hw.pick (idx := [8, 0, 1, 2, 3, 4, 5, 6, 7, 9]) (by decide) rfl))) (fun xq20 hq21 => ?_)
  refine GL.nil ?_
  refine GE.blockN ?_
  refine GE.thenN ?_
  refine GC.region ?_
  refine GL.val (v := (.int .i64 0)) (Ex.move rfl) (by decide) ?_
  refine GL.val (v := (.int .i64 1)) (Ex.add rfl rfl (Z := 1) (by decide)) (by decide) ?_
  refine GL.val (v := (.int .i64 1)) (Ex.assign rfl) (by decide) ?_
  refine GL.nil ?_
  refine GE.thenN ?_
  refine GE.round ?_
  refine GC.seq ?_
  refine GC.seq ?_
  refine GC.region ?_
  refine GL.val (v := (.int .i64 1)) (Ex.move rfl) (by decide) ?_
  refine GL.val (v := (.bool true)) (Ex.cast (Ex.lss rfl rfl) rfl) (by decide) ?_
  refine GL.nil ?_
  refine GE.thenN ?_
  refine GC.cond rfl (fun _ => ?_) (fun hq22 => by cases hq22)
  refine GC.skip ?_
  refine GE.thenN ?_
  refine GC.seq ?_
  refine GC.block ?_
  refine GC.seq ?_
  refine GC.region ?_
  refine GL.val (v := (.agg #[(.int .i64 W), (.int .i64 H), (.slice (some ⟨xq7.2.2.2, 0, none⟩) n (n + 5))])) (Ex.loadA rfl T.ag32 T.sz32 (i := 5) rfl (vs := [(.int .i64 W), (.int .i64 H), (.slice (some ⟨xq7.2.2.2, 0, none⟩) n (n + 5))]) rfl rfl) (by decide) ?_
  refine GL.val (v := (.int .i64 kd)) (Ex.move rfl) (by decide) ?_
  refine GL.val (v := (.int .i64 l)) (Ex.move rfl) (by decide) ?_
  refine GL.val (v := (.int .i64 t)) (Ex.move rfl) (by decide) ?_
  refine GL.val (v := (.int .i64 r)) (Ex.move rfl) (by decide) ?_
  refine GL.val (v := (.int .i64 u)) (Ex.move rfl) (by decide) ?_
  refine GL.step (Stp.callR (σ := Unit) (p := fun rz => True) (v := fun rz => (.tuple #[(.agg #[(.int .i64 0), (.int .i64 0), (.slice none 0 0)]), (.int .i64 50)])) (N := fun rz => []) (vs := [(.agg #[(.int .i64 W), (.int .i64 H), (.slice (some ⟨xq7.2.2.2, 0, none⟩) n (n + 5))]), (.int .i64 kd), (.int .i64 l), (.int .i64 t), (.int .i64 r), (.int .i64 u)]) rfl rfl T.own19 (by decide) (fun wc hw => extend_big W H (some ⟨xq7.2.2.2, 0, none⟩) n (n + 5) kd l t r u wc (by obtain ⟨w', h', e1, e2, ho, _⟩ := chk_zero hc; have h1 := ho.1; have h2 := ho.2.2.1; omega) (by obtain ⟨w', h', e1, e2, ho, _⟩ := chk_zero hc; have h1 := ho.2.1; have h2 := ho.2.2.2.1; omega) hc hk hm (fun h => Bool.eq_false_iff.2 (fun e => hs ⟨h, e⟩)))) (fun xq23 hq24 => ?_)
  refine GL.val (v := (.tuple #[(.agg #[(.int .i64 0), (.int .i64 0), (.slice none 0 0)]), (.int .i64 50)])) (Ex.move rfl) (by decide) ?_
  refine GL.val (v := (.agg #[(.int .i64 0), (.int .i64 0), (.slice none 0 0)])) (Ex.extract rfl rfl) (by decide) ?_
  refine GL.val (v := (.int .i64 50)) (Ex.extract rfl rfl) (by decide) ?_
  refine GL.step (Stp.alloc T.zr32 (by decide)) (fun bq25 _ => ?_)
  refine GL.step (Stp.storeL (i := 0) (L1 := [⟨bq25, [(.int .i64 0), (.int .i64 0), (.slice none 0 0)], 32, true⟩, ⟨xq20.1.1, [(Value.int .i64 0)] ++ xq20.1.2.2, 3, true⟩, ⟨xq20.2.1, [(Value.slice none 0 0)] ++ xq20.2.2.2, 30, true⟩, ⟨bq5, [(.slice (some ⟨xq20.2.1, 0, none⟩) 1 xq20.2.2.1), (.slice none 0 0), (.slice none 0 0), (.slice none 0 0), (.slice (some ⟨xq20.1.1, 0, none⟩) 1 xq20.1.2.1), (.slice none 0 0), (.slice none 0 0), (.slice none 0 0)], 41, true⟩, ⟨bq16, [(.int .i64 0), (.int .i64 0), (.slice none 0 0)], 32, true⟩, ⟨bq12, [(.int .i64 0), (.int .i64 0), (.slice none 0 0)], 32, true⟩, ⟨bq9, [(.int .i64 W), (.int .i64 H), (.slice (some ⟨xq7.2.2.2, 0, none⟩) n (n + 5))], 32, true⟩, ⟨xq7.1.1, [(Value.slice (some ⟨xq7.2.1.1, 0, none⟩) (n + 5) xq7.2.1.2.1)] ++ xq7.1.2.2, 30, true⟩, ⟨xq7.2.1.1, (roomL xs).map u32 ++ xq7.2.1.2.2, 72, true⟩, ⟨xq7.2.2.1.1, [(Value.slice (some ⟨xq7.2.2.2, 0, none⟩) (n + 5) (n + 5))] ++ xq7.2.2.1.2.2, 30, true⟩, ⟨xq7.2.2.2, (roomL xs).map u32, 72, true⟩, ⟨bq6, [(.slice (some ⟨xq7.2.2.1.1, 0, none⟩) 1 xq7.2.2.1.2.1), (.slice (some ⟨xq7.1.1, 0, none⟩) 1 xq7.1.2.1), (.slice none 0 0), (.slice none 0 0), (.slice none 0 0), (.slice none 0 0), (.slice none 0 0), (.slice none 0 0)], 44, true⟩, ⟨bq1, [(.int .i64 W), (.int .i64 H), (.slice ad n cap)], 32, true⟩]) rfl rfl rfl T.sz32 rfl rfl rfl rfl) (fun _ _ => ?_)
  refine GL.val (v := (.int .i64 50)) (Ex.assign rfl) (by decide) ?_
  refine GL.nil ?_
  refine GE.thenN ?_
  refine GC.seq ?_
  refine GC.seq ?_
  refine GC.region ?_
  refine GL.val (v := (.agg #[(.int .i64 0), (.int .i64 0), (.slice none 0 0)])) (Ex.loadA rfl T.ag32 T.sz32 (i := 0) rfl (vs := [(.int .i64 0), (.int .i64 0), (.slice none 0 0)]) rfl rfl) (by decide) ?_
  refine GL.val (v := (.int .i64 50)) (Ex.move rfl) (by decide) ?_
  refine GL.val (v := (.agg #[(.int .i64 0), (.int .i64 0), (.slice none 0 0)])) (Ex.loadA rfl T.ag32 T.sz32 (i := 5) rfl (vs := [(.int .i64 0), (.int .i64 0), (.slice none 0 0)]) rfl rfl) (by decide) ?_
  refine GL.val (v := (.int .i64 50)) (Ex.move rfl) (by decide) ?_
  refine GL.step (Stp.callR (σ := Unit) (p := fun rz => True) (v := fun rz => (.bool true)) (N := fun rz => []) (vs := [(.agg #[(.int .i64 0), (.int .i64 0), (.slice none 0 0)]), (.int .i64 50), (.agg #[(.int .i64 0), (.int .i64 0), (.slice none 0 0)]), (.int .i64 50)]) rfl rfl T.own20 (by decide) (fun wc hw => same_ 0 0 none 0 0 0 0 none 0 0 50 ([]) ([]) wc (by decide) (LsR.nil _ _) (LsR.nil _ _) (by first | rfl | omega) (by first | rfl | omega) (by first | rfl | (simp only [Nat.add_zero])))) (fun xq26 hq27 => ?_)
  refine GL.val (v := (.bool false)) (Ex.cast (Ex.not rfl) rfl) (by decide) ?_
  refine GL.nil ?_
  refine GE.thenN ?_
  refine GC.cond rfl (fun hq28 => by cases hq28) (fun _ => ?_)
  refine GC.skip ?_
  refine GE.thenN ?_
  refine GC.region ?_
  refine GL.val (v := (.pointer (some ⟨bq5, 0, none⟩))) (Ex.move rfl) (by decide) ?_
  refine GL.val (v := (.agg #[(.int .i64 0), (.int .i64 0), (.slice none 0 0)])) (Ex.loadA rfl T.ag32 T.sz32 (i := 0) rfl (vs := [(.int .i64 0), (.int .i64 0), (.slice none 0 0)]) rfl rfl) (by decide) ?_
  refine GL.val (v := (.int .i64 1)) (Ex.move rfl) (by decide) ?_
  refine GL.step (Stp.call (σ := (Nat × Nat × List Value) × (Nat × Nat × List Value)) (p := fun rz => (([(Value.slice none 0 0)]) ++ [(Value.slice none 0 0)] ++ rz.2.2.2 : List Value).length = rz.2.2.1 * 1 ∧ (([(Value.int .i64 0)]) ++ [(Value.int .i64 1)] ++ rz.1.2.2 : List Value).length = rz.1.2.1 * 1) (v := fun rz => (.tuple #[])) (L' := fun rz => [⟨rz.1.1, ([(Value.int .i64 0)]) ++ [(Value.int .i64 1)] ++ rz.1.2.2, 3, true⟩, ⟨rz.2.1, ([(Value.slice none 0 0)]) ++ [(Value.slice none 0 0)] ++ rz.2.2.2, 30, true⟩, ⟨bq5, [(.slice (some ⟨rz.2.1, 0, none⟩) 2 rz.2.2.1), (.slice none 0 0), (.slice none 0 0), (.slice none 0 0), (.slice (some ⟨rz.1.1, 0, none⟩) 2 rz.1.2.1), (.slice none 0 0), (.slice none 0 0), (.slice none 0 0)], 41, true⟩, ⟨bq25, [(.int .i64 0), (.int .i64 0), (.slice none 0 0)], 32, true⟩, ⟨bq16, [(.int .i64 0), (.int .i64 0), (.slice none 0 0)], 32, true⟩, ⟨bq12, [(.int .i64 0), (.int .i64 0), (.slice none 0 0)], 32, true⟩, ⟨bq9, [(.int .i64 W), (.int .i64 H), (.slice (some ⟨xq7.2.2.2, 0, none⟩) n (n + 5))], 32, true⟩, ⟨xq7.1.1, [(Value.slice (some ⟨xq7.2.1.1, 0, none⟩) (n + 5) xq7.2.1.2.1)] ++ xq7.1.2.2, 30, true⟩, ⟨xq7.2.1.1, (roomL xs).map u32 ++ xq7.2.1.2.2, 72, true⟩, ⟨xq7.2.2.1.1, [(Value.slice (some ⟨xq7.2.2.2, 0, none⟩) (n + 5) (n + 5))] ++ xq7.2.2.1.2.2, 30, true⟩, ⟨xq7.2.2.2, (roomL xs).map u32, 72, true⟩, ⟨bq6, [(.slice (some ⟨xq7.2.2.1.1, 0, none⟩) 1 xq7.2.2.1.2.1), (.slice (some ⟨xq7.1.1, 0, none⟩) 1 xq7.1.2.1), (.slice none 0 0), (.slice none 0 0), (.slice none 0 0), (.slice none 0 0), (.slice none 0 0), (.slice none 0 0)], 44, true⟩, ⟨bq1, [(.int .i64 W), (.int .i64 H), (.slice ad n cap)], 32, true⟩]) (vs := [(.pointer (some ⟨bq5, 0, none⟩)), (.agg #[(.int .i64 0), (.int .i64 0), (.slice none 0 0)]), (.int .i64 1)]) rfl rfl T.own21 (by decide) (fun wc hw => book_p10 w [⟨bq25, [(.int .i64 0), (.int .i64 0), (.slice none 0 0)], 32, true⟩, ⟨bq16, [(.int .i64 0), (.int .i64 0), (.slice none 0 0)], 32, true⟩, ⟨bq12, [(.int .i64 0), (.int .i64 0), (.slice none 0 0)], 32, true⟩, ⟨bq9, [(.int .i64 W), (.int .i64 H), (.slice (some ⟨xq7.2.2.2, 0, none⟩) n (n + 5))], 32, true⟩, ⟨xq7.1.1, [(Value.slice (some ⟨xq7.2.1.1, 0, none⟩) (n + 5) xq7.2.1.2.1)] ++ xq7.1.2.2, 30, true⟩, ⟨xq7.2.1.1, (roomL xs).map u32 ++ xq7.2.1.2.2, 72, true⟩, ⟨xq7.2.2.1.1, [(Value.slice (some ⟨xq7.2.2.2, 0, none⟩) (n + 5) (n + 5))] ++ xq7.2.2.1.2.2, 30, true⟩, ⟨xq7.2.2.2, (roomL xs).map u32, 72, true⟩, ⟨bq6, [(.slice (some ⟨xq7.2.2.1.1, 0, none⟩) 1 xq7.2.2.1.2.1), (.slice (some ⟨xq7.1.1, 0, none⟩) 1 xq7.1.2.1), (.slice none 0 0), (.slice none 0 0), (.slice none 0 0), (.slice none 0 0), (.slice none 0 0), (.slice none 0 0)], 44, true⟩, ⟨bq1, [(.int .i64 W), (.int .i64 H), (.slice ad n cap)], 32, true⟩] 0 0 bq5 1 1 xq20.2.1 xq20.2.2.1 xq20.1.1 xq20.1.2.1 ([(Value.slice none 0 0)]) xq20.2.2.2 ([(Value.int .i64 0)]) xq20.1.2.2 wc (by first | decide | omega) (by first | rfl | omega) (by first | rfl | omega) hq21.1 hq21.2 (hw.pick (idx := [3, 2, 1, 0, 4, 5, 6, 7, 8, 9, 10, 11, 12]) (by decide) rfl))) (fun xq29 hq30 => ?_)
  refine GL.nil ?_
  refine GE.blockN ?_
  refine GE.thenN ?_
  refine GC.region ?_
  refine GL.val (v := (.int .i64 1)) (Ex.move rfl) (by decide) ?_
  refine GL.val (v := (.int .i64 2)) (Ex.add rfl rfl (Z := 2) (by decide)) (by decide) ?_
  refine GL.val (v := (.int .i64 2)) (Ex.assign rfl) (by decide) ?_
  refine GL.nil ?_
  refine GE.thenN ?_
  refine GE.round ?_
  refine GC.seq ?_
  refine GC.seq ?_
  refine GC.region ?_
  refine GL.val (v := (.int .i64 2)) (Ex.move rfl) (by decide) ?_
  refine GL.val (v := (.bool false)) (Ex.cast (Ex.lss rfl rfl) rfl) (by decide) ?_
  refine GL.nil ?_
  refine GE.thenN ?_
  refine GC.cond rfl (fun hq31 => by cases hq31) (fun _ => ?_)
  refine GC.exit ?_
  refine GE.thenE ?_
  refine GE.thenE ?_
  refine GE.blockE ?_
  refine GE.thenN ?_
  refine GC.seq ?_
  refine GC.region ?_
  refine GL.val (v := (.pointer (some ⟨bq5, 0, none⟩))) (Ex.move rfl) (by decide) ?_
  refine GL.step (Stp.callR (σ := Unit) (p := fun rz => True) (v := fun rz => (.bool true)) (N := fun rz => []) (vs := [(.pointer (some ⟨bq5, 0, none⟩))]) rfl rfl T.own22 (by decide) (fun wc hw => book_hold bq5 2 xq29.2.1 xq29.2.2.1 xq29.1.1 xq29.1.2.1 ([⟨none, 0, 0⟩, ⟨none, 0, 1⟩] : List It) xq29.2.2.2 xq29.1.2.2 wc rfl (by decide) (it_cons (it_nil _) (it_cons (it_nil _) it_all)) (Has.cons (hw.hasOf (i := 2) rfl) (Has.cons (hw.hasOf (i := 1) rfl) (Has.cons (hw.hasOf (i := 0) rfl) (Has.nil _)))))) (fun xq32 hq33 => ?_)
  refine GL.val (v := (.bool true)) (Ex.move rfl) (by decide) ?_
  refine GL.stepG (tj := 66) rfl rfl (Ex.wp (v := (.pointer (some ⟨bq6, 0, none⟩))) (Ex.move rfl) (by decide)) (fun _ _ => ?_)
  refine GL.stepG (tj := 66) rfl rfl (Stp.callR (σ := Unit) (p := fun rz => True) (v := fun rz => (.bool true)) (N := fun rz => []) (vs := [(.pointer (some ⟨bq6, 0, none⟩))]) rfl rfl T.own23 (by decide) (fun wc hw => room_hold1 bq6 xq7.2.2.1.1 xq7.1.1 xq7.2.2.1.2.1 xq7.1.2.1 xq7.2.2.1.2.2 xq7.1.2.2 xq7.2.2.2 xq7.2.1.1 n xq7.2.1.2.1 xs xq7.2.1.2.2 wc ⟨hl.1, hb⟩ (Has.cons (hw.hasOf (i := 11) rfl) (Has.cons (hw.hasOf (i := 9) rfl) (Has.cons (hw.hasOf (i := 7) rfl) (Has.cons (hw.hasOf (i := 10) rfl) (Has.cons (hw.hasOf (i := 8) rfl) (Has.nil _)))))))) (fun xq34 hq35 => ?_)
  refine GL.val (v := (.bool true)) (Ex.pickT rfl rfl) (by decide) ?_
  refine GL.val (v := (.bool true)) (Ex.assign rfl) (by decide) ?_
  refine GL.nil ?_
  refine GE.thenN ?_
  refine GC.ret ?_
  refine GC.ret1 rfl (Rv.tmp rfl) (fun wN HN => ?_)
  exact HN.ret () trivial rfl (List.nil_sublist _) rfl

theorem lawExtends (W H : Int) (ad : Option Addr) (n cap : Nat) (kd l t r u : Int) (xs : List Int) (w : World) (hl : Lst w ad n xs) (hb : n ≤ 35184372087808) :
    Calls Try.prog 5 #[.agg #[.int .i64 W, .int .i64 H, .slice ad n cap], .int .i64 kd, .int .i64 l, .int .i64 t, .int .i64 r, .int .i64 u] w (Ret w (fun _ : Unit => True) (fun _ => .bool true) (fun _ => [])) := by
  by_cases hc : chk W H n = 0
  · by_cases hk : (bord kd 1 0).2 = 0
    · by_cases hm : 0 ≤ l ∧ 0 ≤ t ∧ 0 ≤ r ∧ 0 ≤ u
      · by_cases hs : (l ≤ 1024 ∧ t ≤ 1024 ∧ r ≤ 1024 ∧ u ≤ 1024) ∧ sizeB (l + W + r) (t + H + u) = true
        · obtain ⟨w', h', rfl, rfl, hok, hn⟩ := chk_zero hc
          have g1 := hl
          obtain ⟨_, _, _, q⟩ := g1
          rcases q with q | ⟨b, o, rfl, hr⟩
          · exfalso; have h5 := Nat.mul_pos (show 0 < w' from hok.1) (show 0 < h' from hok.2.1); omega
          · obtain ⟨m1, m2, m3, m4⟩ := hm
            obtain ⟨a, rfl⟩ := Int.eq_ofNat_of_zero_le m1
            obtain ⟨b', rfl⟩ := Int.eq_ofNat_of_zero_le m2
            obtain ⟨c, rfl⟩ := Int.eq_ofNat_of_zero_le m3
            obtain ⟨d, rfl⟩ := Int.eq_ofNat_of_zero_le m4
            have hok2 : okP (a + w' + c) (b' + h' + d) := okP_of (by rw [show ((a + w' + c : Nat) : Int) = a + w' + c by omega, show ((b' + h' + d : Nat) : Int) = b' + h' + d by omega]; exact hs.2)
            exact ext_ok w' h' n cap b o xs kd a b' c d w hok hn hl hr hb (bord_kind hk) (by omega) hok2
        · exact ext_bg W H ad n cap xs kd l t r u w hl hb hc hk hm hs
      · exact ext_neg W H ad n cap xs kd l t r u w hl hb hc hk (by omega)
    · exact ext_k W H ad n cap xs kd l t r u w hl hb hc hk
  · exact ext_inv W H ad n cap xs kd l t r u w hl hb hc

end Go.Proofs.Ytileciohbhoehaa.C
