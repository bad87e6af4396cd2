/- BitsValues: what its code does, walked. -/
import Derived.Test.YtnpmfinjommjkaaT
import Derived.Test.YtnpmfinjommjkaaFl
import Derived.Test.YtnpmfinjommjkaaLd
namespace Go.Proofs.Ytnpmfinjommjkaa.B
open Go Go.RowKit Sx
set_option linter.unusedVariables false
set_option maxRecDepth 100000 in
set_option maxHeartbeats 1000000 in
theorem split (a : Int) (w : World) (ha : 0 ≤ a ∧ a < 4294967296) :
    Calls Try.prog 43 #[(.int .u32 a)] w (Ret w (fun _ : Unit => True) (fun _ => (.agg #[(.bool (decide (2147483648 ≤ a))), (.int .i64 (a / 8388608 % 256)), (.int .i64 (a % 8388608))])) (fun _ => [])) := by
  refine enter (M := None) (L := []) (n := 13) (l := [(0, (.int .u32 a))]) Try.func43 rfl rfl (Args.cons rfl (Args.nil _)) (Hp.start _ _) ?_
  refine GC.seq ?_
  refine GC.region ?_
  refine GL.step (Stp.alloc T.zr43 (by decide)) (fun bq1 _ => ?_)
  refine GL.nil ?_
  refine GE.thenN ?_
  refine GC.seq ?_
  refine GC.region ?_
  refine GL.val (Ex.move rfl) (by decide) ?_
  refine GL.val (v := (.bool (decide (2147483648 ≤ a)))) (Ex.geq rfl rfl) (by decide) ?_
  refine GL.val (Ex.move rfl) (by decide) ?_
  refine GL.val (v := (.int .u32 (a / 8388608))) (Ex.shr rfl (m := 23) rfl (by decide) (Z := a / 8388608) rfl) (by decide) ?_
  refine GL.val (v := (.int .u32 ((a / 8388608) % 256))) (Ex.bits rfl rfl (by simp) (Z := (a / 8388608) % 256) (andm 8 (by omega) (by omega) (by decide) rfl rfl)) (by decide) ?_
  refine GL.val (v := (.int .i64 ((a / 8388608) % 256))) (Ex.conv rfl Try.underlying23 Try.underlying3 (Z := (a / 8388608) % 256) (w64 (by omega))) (by decide) ?_
  refine GL.val (Ex.move rfl) (by decide) ?_
  refine GL.val (v := (.int .u32 (a % 8388608))) (Ex.bits rfl rfl (by simp) (Z := a % 8388608) (andm 23 (by omega) (by omega) (by decide) rfl rfl)) (by decide) ?_
  refine GL.val (v := (.int .i64 (a % 8388608))) (Ex.conv rfl Try.underlying23 Try.underlying3 (Z := a % 8388608) (w64 (by omega))) (by decide) ?_
  refine GL.val (v := (.agg #[(.bool (decide (2147483648 ≤ a))), (.int .i64 ((a / 8388608) % 256)), (.int .i64 (a % 8388608))])) (Ex.build (vs := [(0, (.bool (decide (2147483648 ≤ a)))), (1, (.int .i64 ((a / 8388608) % 256))), (2, (.int .i64 (a % 8388608)))]) rfl (by first | rfl | kernel_rfl)) (by decide) ?_
  refine GL.step (Stp.st0 (cs' := [(.bool (decide (2147483648 ≤ a))), (.int .i64 ((a / 8388608) % 256)), (.int .i64 (a % 8388608))]) rfl rfl rfl T.sz43 rfl rfl rfl) (fun _ _ => ?_)
  refine GL.nil ?_
  refine GE.thenN ?_
  refine GC.ret ?_
  refine GC.ret1 rfl (Rv.cellA rfl T.ag43 T.sz43 (L := _) (i := 0) rfl (vs := [(.bool (decide (2147483648 ≤ a))), (.int .i64 ((a / 8388608) % 256)), (.int .i64 (a % 8388608))]) rfl rfl) (fun wN HN => ?_)
  exact HN.ret () trivial rfl (List.nil_sublist _) rfl

set_option maxRecDepth 100000 in
set_option maxHeartbeats 1000000 in
theorem cls_p (a : Int) (w : World) (ha : 0 ≤ a ∧ a < 4294967296) :
    Calls Try.prog 15 #[(.int .u32 a)] w (Ret w (fun _ : Unit => True) (fun _ => (.int .i64 (Bt.cls a))) (fun _ => [])) := by
  refine enter (M := None) (L := []) (n := 23) (l := [(0, (.int .u32 a))]) Try.func15 rfl rfl (Args.cons rfl (Args.nil _)) (Hp.start _ _) ?_
  refine GC.seq ?_
  refine GC.region ?_
  refine GL.val (Ex.assign rfl) (by decide) ?_
  refine GL.nil ?_
  refine GE.thenN ?_
  refine GC.seq ?_
  refine GC.region ?_
  refine GL.val (Ex.move rfl) (by decide) ?_
  refine GL.step (Stp.callR (vs := [(.int .u32 a)]) rfl rfl T.own43 (by decide) (fun wc hw => split a wc (by first | assumption | omega | exact Bt.lst_bd (by assumption) (by assumption) | exact Bt.gst_bd (by assumption) (by assumption) | exact Bt.key_bd (by assumption) | exact Bt.unkey_bd (by assumption) | exact Bt.nxt_bd (by assumption) | exact Bt.lst_bd (Bt.gst_bd (by assumption) (by assumption)) (by assumption) | exact Bt.btw_bd (by assumption) (Bt.lst_bd (by assumption) (by assumption)) (Bt.gst_bd (by assumption) (by assumption))))) (fun xq1 hq2 => ?_)
  refine GL.step (Stp.alloc T.zr43 (by decide)) (fun bq3 _ => ?_)
  refine GL.step (Stp.st0 (cs' := [(.bool (decide (2147483648 ≤ a))), (.int .i64 (a / 8388608 % 256)), (.int .i64 (a % 8388608))]) rfl rfl rfl T.sz43 rfl rfl rfl) (fun _ _ => ?_)
  refine GL.nil ?_
  refine GE.thenN ?_
  refine GC.seq ?_
  refine GC.region ?_
  refine GL.val (v := (.pointer (some ⟨bq3, 0, none⟩))) (Ex.cast (Ex.fieldAddr rfl Try.underlying43 rfl T.sz4 (by decide)) rfl) (by decide) ?_
  refine GL.step (Stp.st0 (cs' := [(.bool false), (.int .i64 (a / 8388608 % 256)), (.int .i64 (a % 8388608))]) rfl rfl rfl T.sz4 rfl rfl rfl) (fun _ _ => ?_)
  refine GL.nil ?_
  refine GE.thenN ?_
  refine GC.seq ?_
  refine GC.block ?_
  refine GC.seq ?_
  refine GC.region ?_
  refine GL.val (v := (.agg #[(.bool false), (.int .i64 (a / 8388608 % 256)), (.int .i64 (a % 8388608))])) (Ex.loadA rfl T.ag43 T.sz43 (i := 0) rfl (vs := [(.bool false), (.int .i64 (a / 8388608 % 256)), (.int .i64 (a % 8388608))]) rfl rfl) (by decide) ?_
  refine GL.val (v := (.agg #[(.bool false), (.int .i64 0), (.int .i64 0)])) (Ex.build (vs := []) rfl (by first | rfl | kernel_rfl)) (by decide) ?_
  refine GL.val (v := (.bool (decide ((a / 8388608 % 256) = 0 ∧ (a % 8388608) = 0)))) (Ex.eqS rfl rfl T.sfs43 (EqFs.cons rfl rfl (EqC.bool Try.underlying4) (EqFs.cons rfl rfl (EqC.int Try.underlying3) (EqFs.cons rfl rfl (EqC.int Try.underlying3) EqFs.nil))) (by simp [Bool.decide_and])) (by decide) ?_
  refine GL.val (Ex.assign rfl) (by decide) ?_
  refine GL.nil ?_
  refine GE.thenN ?_
  refine GC.cond rfl (fun hq4 => ?_) (fun hq4 => ?_)
  · replace hq4 := of_decide_eq_true hq4
    refine GC.seq ?_
    refine GC.region ?_
    refine GL.val (Ex.assign rfl) (by decide) ?_
    refine GL.nil ?_
    refine GE.thenN ?_
    refine GC.ret ?_
    refine GE.blockR ?_
    refine GE.thenR ?_
    refine GC.ret1 rfl (Rv.tmp rfl) (fun wN HN => ?_)
    exact HN.ret () trivial (by rw [show Bt.cls a = 5 from by first | (exfalso; omega) | (unfold Bt.cls; (repeat (first | rw [if_pos (by omega)] | rw [if_neg (by omega)])); try omega)]) (List.nil_sublist _) rfl
  · replace hq4 := of_decide_eq_false hq4
    refine GC.seq ?_
    refine GC.region ?_
    refine GL.val (v := (.agg #[(.bool false), (.int .i64 (a / 8388608 % 256)), (.int .i64 (a % 8388608))])) (Ex.loadA rfl T.ag43 T.sz43 (i := 0) rfl (vs := [(.bool false), (.int .i64 (a / 8388608 % 256)), (.int .i64 (a % 8388608))]) rfl rfl) (by decide) ?_
    refine GL.val (v := (.agg #[(.bool false), (.int .i64 255), (.int .i64 0)])) (Ex.build (vs := [(1, (.int .i64 255))]) rfl (by first | rfl | kernel_rfl)) (by decide) ?_
    refine GL.val (v := (.bool (decide ((a / 8388608 % 256) = 255 ∧ (a % 8388608) = 0)))) (Ex.eqS rfl rfl T.sfs43 (EqFs.cons rfl rfl (EqC.bool Try.underlying4) (EqFs.cons rfl rfl (EqC.int Try.underlying3) (EqFs.cons rfl rfl (EqC.int Try.underlying3) EqFs.nil))) (by simp [Bool.decide_and])) (by decide) ?_
    refine GL.val (Ex.assign rfl) (by decide) ?_
    refine GL.nil ?_
    refine GE.thenN ?_
    refine GC.cond rfl (fun hq5 => ?_) (fun hq5 => ?_)
    · replace hq5 := of_decide_eq_true hq5
      refine GC.seq ?_
      refine GC.region ?_
      refine GL.val (Ex.assign rfl) (by decide) ?_
      refine GL.nil ?_
      refine GE.thenN ?_
      refine GC.ret ?_
      refine GE.blockR ?_
      refine GE.thenR ?_
      refine GC.ret1 rfl (Rv.tmp rfl) (fun wN HN => ?_)
      exact HN.ret () trivial (by rw [show Bt.cls a = 2 from by first | (exfalso; omega) | (unfold Bt.cls; (repeat (first | rw [if_pos (by omega)] | rw [if_neg (by omega)])); try omega)]) (List.nil_sublist _) rfl
    · replace hq5 := of_decide_eq_false hq5
      refine GC.seq ?_
      refine GC.region ?_
      refine GL.val (v := (.pointer (some ⟨bq3, 1, none⟩))) (Ex.cast (Ex.fieldAddr rfl Try.underlying43 rfl T.sz3 (by decide)) rfl) (by decide) ?_
      refine GL.val (Ex.load rfl T.ag3 (i := 0) rfl rfl) (by decide) ?_
      refine GL.val (v := (.bool (decide ((a / 8388608 % 256) = 255)))) (Ex.eql rfl rfl) (by decide) ?_
      refine GL.val (Ex.assign rfl) (by decide) ?_
      refine GL.nil ?_
      refine GE.thenN ?_
      refine GC.cond rfl (fun hq6 => ?_) (fun hq6 => ?_)
      · replace hq6 := of_decide_eq_true hq6
        refine GC.seq ?_
        refine GC.region ?_
        refine GL.val (Ex.assign rfl) (by decide) ?_
        refine GL.nil ?_
        refine GE.thenN ?_
        refine GC.ret ?_
        refine GE.blockR ?_
        refine GE.thenR ?_
        refine GC.ret1 rfl (Rv.tmp rfl) (fun wN HN => ?_)
        exact HN.ret () trivial (by rw [show Bt.cls a = 1 from by first | (exfalso; omega) | (unfold Bt.cls; (repeat (first | rw [if_pos (by omega)] | rw [if_neg (by omega)])); try omega)]) (List.nil_sublist _) rfl
      · replace hq6 := of_decide_eq_false hq6
        refine GC.seq ?_
        refine GC.region ?_
        refine GL.val (v := (.pointer (some ⟨bq3, 1, none⟩))) (Ex.cast (Ex.fieldAddr rfl Try.underlying43 rfl T.sz3 (by decide)) rfl) (by decide) ?_
        refine GL.val (Ex.load rfl T.ag3 (i := 0) rfl rfl) (by decide) ?_
        refine GL.val (v := (.bool (decide ((a / 8388608 % 256) = 0)))) (Ex.eql rfl rfl) (by decide) ?_
        refine GL.val (Ex.assign rfl) (by decide) ?_
        refine GL.nil ?_
        refine GE.thenN ?_
        refine GC.cond rfl (fun hq7 => ?_) (fun hq7 => ?_)
        · replace hq7 := of_decide_eq_true hq7
          refine GC.seq ?_
          refine GC.region ?_
          refine GL.val (Ex.assign rfl) (by decide) ?_
          refine GL.nil ?_
          refine GE.thenN ?_
          refine GC.ret ?_
          refine GE.blockR ?_
          refine GE.thenR ?_
          refine GC.ret1 rfl (Rv.tmp rfl) (fun wN HN => ?_)
          exact HN.ret () trivial (by rw [show Bt.cls a = 4 from by first | (exfalso; omega) | (unfold Bt.cls; (repeat (first | rw [if_pos (by omega)] | rw [if_neg (by omega)])); try omega)]) (List.nil_sublist _) rfl
        · replace hq7 := of_decide_eq_false hq7
          refine GC.skip ?_
          refine GE.blockN ?_
          refine GE.thenN ?_
          refine GC.seq ?_
          refine GC.region ?_
          refine GL.val (Ex.assign rfl) (by decide) ?_
          refine GL.nil ?_
          refine GE.thenN ?_
          refine GC.ret ?_
          refine GC.ret1 rfl (Rv.tmp rfl) (fun wN HN => ?_)
          exact HN.ret () trivial (by rw [show Bt.cls a = 3 from by first | (exfalso; omega) | (unfold Bt.cls; (repeat (first | rw [if_pos (by omega)] | rw [if_neg (by omega)])); try omega)]) (List.nil_sublist _) rfl

set_option maxRecDepth 100000 in
set_option maxHeartbeats 1000000 in
theorem parts_p (a : Int) (w : World) (ha : 0 ≤ a ∧ a < 4294967296) :
    Calls Try.prog 11 #[(.int .u32 a)] w (Ret w (fun _ : Unit => True) (fun _ => (.tuple #[(.int .i64 ((Bt.prts a).1)), (.int .i64 ((Bt.prts a).2.1)), (.bool ((Bt.prts a).2.2))])) (fun _ => [])) := by
  refine enter (M := None) (L := []) (n := 29) (l := [(0, (.int .u32 a))]) Try.func11 rfl rfl (Args.cons rfl (Args.nil _)) (Hp.start _ _) ?_
  refine GC.seq ?_
  refine GC.region ?_
  refine GL.val (Ex.assign rfl) (by decide) ?_
  refine GL.val (Ex.assign rfl) (by decide) ?_
  refine GL.val (Ex.assign rfl) (by decide) ?_
  refine GL.nil ?_
  refine GE.thenN ?_
  refine GC.seq ?_
  refine GC.region ?_
  refine GL.val (Ex.move rfl) (by decide) ?_
  refine GL.step (Stp.callR (vs := [(.int .u32 a)]) rfl rfl T.own43 (by decide) (fun wc hw => split a wc (by first | assumption | omega | exact Bt.lst_bd (by assumption) (by assumption) | exact Bt.gst_bd (by assumption) (by assumption) | exact Bt.key_bd (by assumption) | exact Bt.unkey_bd (by assumption) | exact Bt.nxt_bd (by assumption) | exact Bt.lst_bd (Bt.gst_bd (by assumption) (by assumption)) (by assumption) | exact Bt.btw_bd (by assumption) (Bt.lst_bd (by assumption) (by assumption)) (Bt.gst_bd (by assumption) (by assumption))))) (fun xq1 hq2 => ?_)
  refine GL.step (Stp.alloc T.zr43 (by decide)) (fun bq3 _ => ?_)
  refine GL.step (Stp.st0 (cs' := [(.bool (decide (2147483648 ≤ a))), (.int .i64 (a / 8388608 % 256)), (.int .i64 (a % 8388608))]) rfl rfl rfl T.sz43 rfl rfl rfl) (fun _ _ => ?_)
  refine GL.nil ?_
  refine GE.thenN ?_
  refine GC.seq ?_
  refine GC.region ?_
  refine GL.val (v := (.pointer (some ⟨bq3, 2, none⟩))) (Ex.cast (Ex.fieldAddr rfl Try.underlying43 rfl T.sz3 (by decide)) rfl) (by decide) ?_
  refine GL.val (Ex.load rfl T.ag3 (i := 0) rfl rfl) (by decide) ?_
  refine GL.val (Ex.assign rfl) (by decide) ?_
  refine GL.val (Ex.assign rfl) (by decide) ?_
  refine GL.nil ?_
  refine GE.thenN ?_
  refine GC.seq ?_
  refine GC.seq ?_
  refine GC.region ?_
  refine GL.val (v := (.pointer (some ⟨bq3, 1, none⟩))) (Ex.cast (Ex.fieldAddr rfl Try.underlying43 rfl T.sz3 (by decide)) rfl) (by decide) ?_
  refine GL.val (Ex.load rfl T.ag3 (i := 0) rfl rfl) (by decide) ?_
  refine GL.nil ?_
  refine GE.thenN ?_
  refine GC.block ?_
  refine GC.seq ?_
  refine GC.region ?_
  refine GL.val (v := (.bool (decide ((a / 8388608 % 256) = 255)))) (Ex.eql rfl rfl) (by decide) ?_
  refine GL.val (Ex.assign rfl) (by decide) ?_
  refine GL.nil ?_
  refine GE.thenN ?_
  refine GC.cond rfl (fun hq4 => ?_) (fun hq4 => ?_)
  · replace hq4 := of_decide_eq_true hq4
    refine GC.seq ?_
    refine GC.region ?_
    refine GL.val (Ex.assign rfl) (by decide) ?_
    refine GL.val (Ex.assign rfl) (by decide) ?_
    refine GL.val (Ex.assign rfl) (by decide) ?_
    refine GL.nil ?_
    refine GE.thenN ?_
    refine GC.ret ?_
    refine GE.blockR ?_
    refine GE.thenR ?_
    refine GC.ret3 rfl (Rv.tmp rfl) (Rv.tmp rfl) (Rv.tmp rfl) (fun wN HN => ?_)
    exact HN.ret () trivial (by rw [show Bt.prts a = (0, 0, false) from by first | (exfalso; omega) | (unfold Bt.prts Bt.mant Bt.expo; (repeat (first | rw [if_pos (by omega)] | rw [if_neg (by omega)])); try exact Prod.ext (by dsimp only; try omega) (Prod.ext (by dsimp only; try omega) rfl))]) (List.nil_sublist _) rfl
  · replace hq4 := of_decide_eq_false hq4
    refine GC.seq ?_
    refine GC.region ?_
    refine GL.val (v := (.bool (decide ((a / 8388608 % 256) = 0)))) (Ex.eql rfl rfl) (by decide) ?_
    refine GL.val (Ex.assign rfl) (by decide) ?_
    refine GL.nil ?_
    refine GE.thenN ?_
    refine GC.cond rfl (fun hq5 => ?_) (fun hq5 => ?_)
    · replace hq5 := of_decide_eq_true hq5
      refine GC.skip ?_
      refine GE.blockN ?_
      refine GE.thenN ?_
      refine GC.seq ?_
      refine GC.seq ?_
      refine GC.region ?_
      refine GL.val (v := (.pointer (some ⟨bq3, 0, none⟩))) (Ex.cast (Ex.fieldAddr rfl Try.underlying43 rfl T.sz4 (by decide)) rfl) (by decide) ?_
      refine GL.val (Ex.load rfl T.ag4 (i := 0) rfl rfl) (by decide) ?_
      refine GL.nil ?_
      refine GE.thenN ?_
      refine GC.cond rfl (fun hq6 => ?_) (fun hq6 => ?_)
      · replace hq6 := of_decide_eq_true hq6
        refine GC.region ?_
        refine GL.val (Ex.move rfl) (by decide) ?_
        refine GL.val (v := (.int .i64 (-(a % 8388608)))) (Ex.neg rfl (Z := -(a % 8388608)) (by rw [w64 (by omega)]; omega)) (by decide) ?_
        refine GL.val (Ex.assign rfl) (by decide) ?_
        refine GL.nil ?_
        refine GE.thenN ?_
        refine GC.seq ?_
        refine GC.region ?_
        refine GL.val (Ex.move rfl) (by decide) ?_
        refine GL.val (Ex.move rfl) (by decide) ?_
        refine GL.val (Ex.assign rfl) (by decide) ?_
        refine GL.val (Ex.assign rfl) (by decide) ?_
        refine GL.val (Ex.assign rfl) (by decide) ?_
        refine GL.nil ?_
        refine GE.thenN ?_
        refine GC.ret ?_
        refine GC.ret3 rfl (Rv.tmp rfl) (Rv.tmp rfl) (Rv.tmp rfl) (fun wN HN => ?_)
        exact HN.ret () trivial (by rw [show Bt.prts a = (-(a % 8388608), -149, true) from by first | (exfalso; omega) | (unfold Bt.prts Bt.mant Bt.expo; (repeat (first | rw [if_pos (by omega)] | rw [if_neg (by omega)])); try exact Prod.ext (by dsimp only; try omega) (Prod.ext (by dsimp only; try omega) rfl))]) (List.nil_sublist _) rfl
      · replace hq6 := of_decide_eq_false hq6
        refine GC.skip ?_
        refine GE.thenN ?_
        refine GC.seq ?_
        refine GC.region ?_
        refine GL.val (Ex.move rfl) (by decide) ?_
        refine GL.val (Ex.move rfl) (by decide) ?_
        refine GL.val (Ex.assign rfl) (by decide) ?_
        refine GL.val (Ex.assign rfl) (by decide) ?_
        refine GL.val (Ex.assign rfl) (by decide) ?_
        refine GL.nil ?_
        refine GE.thenN ?_
        refine GC.ret ?_
        refine GC.ret3 rfl (Rv.tmp rfl) (Rv.tmp rfl) (Rv.tmp rfl) (fun wN HN => ?_)
        exact HN.ret () trivial (by rw [show Bt.prts a = (a % 8388608, -149, true) from by first | (exfalso; omega) | (unfold Bt.prts Bt.mant Bt.expo; (repeat (first | rw [if_pos (by omega)] | rw [if_neg (by omega)])); try exact Prod.ext (by dsimp only; try omega) (Prod.ext (by dsimp only; try omega) rfl))]) (List.nil_sublist _) rfl
    · replace hq5 := of_decide_eq_false hq5
      refine GC.drawP [⟨bq3, [(.bool (decide (2147483648 ≤ a))), (.int .i64 (a / 8388608 % 256)), (.int .i64 (a % 8388608))], 43, true⟩] T.mixed (by kernel_rfl) (by kernel_rfl) (fuel := 6) rfl rfl ?_
      refine GH.take 0 (v := (.int .i64 (a % 8388608))) rfl (by kernel_rfl) (by kernel_rfl) (by kernel_rfl) (fun _ _ _ h => h) (Ex.move rfl) (ulC ulN) (by decide) ?_
      refine GH.take 1 (v := (.int .i64 ((a % 8388608) + 8388608))) rfl (by kernel_rfl) (by kernel_rfl) (by kernel_rfl) (fun _ _ _ h => h) (Ex.add rfl rfl (Z := (a % 8388608) + 8388608) (w64 (by omega))) (ulC ulN) (by decide) ?_
      refine GH.take 2 (v := (.pointer (some ⟨bq3, 1, none⟩))) rfl (by kernel_rfl) (by kernel_rfl) (by kernel_rfl) (fun _ _ _ h => h) (Ex.cast (Ex.fieldAddr rfl Try.underlying43 rfl T.sz3 (by decide)) rfl) (ulC ulN) (by decide) ?_
      refine GH.take 3 (v := (.int .i64 (a / 8388608 % 256))) rfl (by kernel_rfl) (by kernel_rfl) (by kernel_rfl) (fun _ _ _ h => h) (Ex.load rfl T.ag3 (i := 0) rfl rfl) (ulC ulN) (by decide) ?_
      refine GH.take 4 (v := (.int .i64 ((a / 8388608 % 256) - 150))) rfl (by kernel_rfl) (by kernel_rfl) (by kernel_rfl) (fun _ _ _ h => h) (Ex.sub' rfl rfl (Z := (a / 8388608 % 256) - 150) (w64 (by omega))) (ulC ulN) (by decide) ?_
      refine GH.take 5 (v := (.int .i64 ((a % 8388608) + 8388608))) rfl (by kernel_rfl) (by kernel_rfl) (by kernel_rfl) (fun _ _ _ h => h) (Ex.assign rfl) (ulC ulN) (by decide) ?_
      refine GH.done (by kernel_rfl) ?_
      refine GE.thenN ?_
      refine GE.tail rfl (Ex.wp (v := (.int .i64 ((a / 8388608 % 256) - 150))) (Ex.assign rfl) (by decide)) (fun _ _ => ?_)
      refine GE.blockN ?_
      refine GE.thenN ?_
      refine GC.seq ?_
      refine GC.seq ?_
      refine GC.region ?_
      refine GL.val (v := (.pointer (some ⟨bq3, 0, none⟩))) (Ex.cast (Ex.fieldAddr rfl Try.underlying43 rfl T.sz4 (by decide)) rfl) (by decide) ?_
      refine GL.val (Ex.load rfl T.ag4 (i := 0) rfl rfl) (by decide) ?_
      refine GL.nil ?_
      refine GE.thenN ?_
      refine GC.cond rfl (fun hq7 => ?_) (fun hq7 => ?_)
      · replace hq7 := of_decide_eq_true hq7
        refine GC.region ?_
        refine GL.val (Ex.move rfl) (by decide) ?_
        refine GL.val (v := (.int .i64 (-((a % 8388608) + 8388608)))) (Ex.neg rfl (Z := -((a % 8388608) + 8388608)) (by rw [w64 (by omega)]; omega)) (by decide) ?_
        refine GL.val (Ex.assign rfl) (by decide) ?_
        refine GL.nil ?_
        refine GE.thenN ?_
        refine GC.seq ?_
        refine GC.region ?_
        refine GL.val (Ex.move rfl) (by decide) ?_
        refine GL.val (Ex.move rfl) (by decide) ?_
        refine GL.val (Ex.assign rfl) (by decide) ?_
        refine GL.val (Ex.assign rfl) (by decide) ?_
        refine GL.val (Ex.assign rfl) (by decide) ?_
        refine GL.nil ?_
        refine GE.thenN ?_
        refine GC.ret ?_
        refine GC.ret3 rfl (Rv.tmp rfl) (Rv.tmp rfl) (Rv.tmp rfl) (fun wN HN => ?_)
        exact HN.ret () trivial (by rw [show Bt.prts a = (-((a % 8388608) + 8388608), (a / 8388608 % 256) - 150, true) from by first | (exfalso; omega) | (unfold Bt.prts Bt.mant Bt.expo; (repeat (first | rw [if_pos (by omega)] | rw [if_neg (by omega)])); try exact Prod.ext (by dsimp only; try omega) (Prod.ext (by dsimp only; try omega) rfl))]) (List.nil_sublist _) rfl
      · replace hq7 := of_decide_eq_false hq7
        refine GC.skip ?_
        refine GE.thenN ?_
        refine GC.seq ?_
        refine GC.region ?_
        refine GL.val (Ex.move rfl) (by decide) ?_
        refine GL.val (Ex.move rfl) (by decide) ?_
        refine GL.val (Ex.assign rfl) (by decide) ?_
        refine GL.val (Ex.assign rfl) (by decide) ?_
        refine GL.val (Ex.assign rfl) (by decide) ?_
        refine GL.nil ?_
        refine GE.thenN ?_
        refine GC.ret ?_
        refine GC.ret3 rfl (Rv.tmp rfl) (Rv.tmp rfl) (Rv.tmp rfl) (fun wN HN => ?_)
        exact HN.ret () trivial (by rw [show Bt.prts a = ((a % 8388608) + 8388608, (a / 8388608 % 256) - 150, true) from by first | (exfalso; omega) | (unfold Bt.prts Bt.mant Bt.expo; (repeat (first | rw [if_pos (by omega)] | rw [if_neg (by omega)])); try exact Prod.ext (by dsimp only; try omega) (Prod.ext (by dsimp only; try omega) rfl))]) (List.nil_sublist _) rfl

set_option maxRecDepth 100000 in
set_option maxHeartbeats 1000000 in
theorem key_p (a : Int) (w : World) (ha : 0 ≤ a ∧ a < 4294967296) :
    Calls Try.prog 25 #[(.int .u32 a)] w (Ret w (fun _ : Unit => True) (fun _ => (.int .u32 (Bt.key a))) (fun _ => [])) := by
  refine enter (M := None) (L := []) (n := 9) (l := [(0, (.int .u32 a))]) Try.func25 rfl rfl (Args.cons rfl (Args.nil _)) (Hp.start _ _) ?_
  refine GC.seq ?_
  refine GC.region ?_
  refine GL.val (Ex.assign rfl) (by decide) ?_
  refine GL.nil ?_
  refine GE.thenN ?_
  refine GC.seq ?_
  refine GC.seq ?_
  refine GC.region ?_
  refine GL.val (Ex.move rfl) (by decide) ?_
  refine GL.val (v := (.bool (decide (a < 2147483648)))) (Ex.lss rfl rfl) (by decide) ?_
  refine GL.nil ?_
  refine GE.thenN ?_
  refine GC.cond rfl (fun hq1 => ?_) (fun hq1 => ?_)
  · replace hq1 := of_decide_eq_true hq1
    refine GC.seq ?_
    refine GC.region ?_
    refine GL.val (Ex.move rfl) (by decide) ?_
    refine GL.val (v := (.int .u32 (a + 2147483648))) (Ex.add rfl rfl (Z := a + 2147483648) (wu32b (by omega))) (by decide) ?_
    refine GL.val (Ex.assign rfl) (by decide) ?_
    refine GL.nil ?_
    refine GE.thenN ?_
    refine GC.ret ?_
    refine GE.thenR ?_
    refine GC.ret1 rfl (Rv.tmp rfl) (fun wN HN => ?_)
    exact HN.ret () trivial (by rw [show Bt.key a = a + 2147483648 from by first | (exfalso; omega) | (unfold Bt.key; (repeat (first | rw [if_pos (by omega)] | rw [if_neg (by omega)])); try omega)]) (List.nil_sublist _) rfl
  · replace hq1 := of_decide_eq_false hq1
    refine GC.skip ?_
    refine GE.thenN ?_
    refine GC.seq ?_
    refine GC.region ?_
    refine GL.val (Ex.move rfl) (by decide) ?_
    refine GL.val (v := (.int .u32 (4294967295 - a))) (Ex.sub' rfl rfl (Z := 4294967295 - a) (wu32b (by omega))) (by decide) ?_
    refine GL.val (Ex.assign rfl) (by decide) ?_
    refine GL.nil ?_
    refine GE.thenN ?_
    refine GC.ret ?_
    refine GC.ret1 rfl (Rv.tmp rfl) (fun wN HN => ?_)
    exact HN.ret () trivial (by rw [show Bt.key a = 4294967295 - a from by first | (exfalso; omega) | (unfold Bt.key; (repeat (first | rw [if_pos (by omega)] | rw [if_neg (by omega)])); try omega)]) (List.nil_sublist _) rfl

set_option maxRecDepth 100000 in
set_option maxHeartbeats 1000000 in
theorem unkey_p (a : Int) (w : World) (ha : 0 ≤ a ∧ a < 4294967296) :
    Calls Try.prog 27 #[(.int .u32 a)] w (Ret w (fun _ : Unit => True) (fun _ => (.int .u32 (Bt.unkey a))) (fun _ => [])) := by
  refine enter (M := None) (L := []) (n := 9) (l := [(0, (.int .u32 a))]) Try.func27 rfl rfl (Args.cons rfl (Args.nil _)) (Hp.start _ _) ?_
  refine GC.seq ?_
  refine GC.region ?_
  refine GL.val (Ex.assign rfl) (by decide) ?_
  refine GL.nil ?_
  refine GE.thenN ?_
  refine GC.seq ?_
  refine GC.seq ?_
  refine GC.region ?_
  refine GL.val (Ex.move rfl) (by decide) ?_
  refine GL.val (v := (.bool (decide (2147483648 ≤ a)))) (Ex.geq rfl rfl) (by decide) ?_
  refine GL.nil ?_
  refine GE.thenN ?_
  refine GC.cond rfl (fun hq1 => ?_) (fun hq1 => ?_)
  · replace hq1 := of_decide_eq_true hq1
    refine GC.seq ?_
    refine GC.region ?_
    refine GL.val (Ex.move rfl) (by decide) ?_
    refine GL.val (v := (.int .u32 (a - 2147483648))) (Ex.sub' rfl rfl (Z := a - 2147483648) (wu32b (by omega))) (by decide) ?_
    refine GL.val (Ex.assign rfl) (by decide) ?_
    refine GL.nil ?_
    refine GE.thenN ?_
    refine GC.ret ?_
    refine GE.thenR ?_
    refine GC.ret1 rfl (Rv.tmp rfl) (fun wN HN => ?_)
    exact HN.ret () trivial (by rw [show Bt.unkey a = a - 2147483648 from by first | (exfalso; omega) | (unfold Bt.unkey; (repeat (first | rw [if_pos (by omega)] | rw [if_neg (by omega)])); try omega)]) (List.nil_sublist _) rfl
  · replace hq1 := of_decide_eq_false hq1
    refine GC.skip ?_
    refine GE.thenN ?_
    refine GC.seq ?_
    refine GC.region ?_
    refine GL.val (Ex.move rfl) (by decide) ?_
    refine GL.val (v := (.int .u32 (4294967295 - a))) (Ex.sub' rfl rfl (Z := 4294967295 - a) (wu32b (by omega))) (by decide) ?_
    refine GL.val (Ex.assign rfl) (by decide) ?_
    refine GL.nil ?_
    refine GE.thenN ?_
    refine GC.ret ?_
    refine GC.ret1 rfl (Rv.tmp rfl) (fun wN HN => ?_)
    exact HN.ret () trivial (by rw [show Bt.unkey a = 4294967295 - a from by first | (exfalso; omega) | (unfold Bt.unkey; (repeat (first | rw [if_pos (by omega)] | rw [if_neg (by omega)])); try omega)]) (List.nil_sublist _) rfl

set_option maxRecDepth 100000 in
set_option maxHeartbeats 1000000 in
theorem next_p (a : Int) (w : World) (ha : 0 ≤ a ∧ a < 4294967296) :
    Calls Try.prog 21 #[(.int .u32 a)] w (Ret w (fun _ : Unit => True) (fun _ => (.tuple #[(.int .u32 ((Bt.nxt a).1)), (.bool ((Bt.nxt a).2))])) (fun _ => [])) := by
  refine enter (M := None) (L := []) (n := 12) (l := [(0, (.int .u32 a))]) Try.func21 rfl rfl (Args.cons rfl (Args.nil _)) (Hp.start _ _) ?_
  refine GC.seq ?_
  have hka := Bt.key_bd ha
  refine GC.region ?_
  refine GL.val (Ex.assign rfl) (by decide) ?_
  refine GL.val (Ex.assign rfl) (by decide) ?_
  refine GL.nil ?_
  refine GE.thenN ?_
  refine GC.seq ?_
  refine GC.region ?_
  refine GL.val (Ex.move rfl) (by decide) ?_
  refine GL.step (Stp.callR (vs := [(.int .u32 a)]) rfl rfl T.own25 (by decide) (fun wc hw => key_p a wc (by first | assumption | omega | exact Bt.lst_bd (by assumption) (by assumption) | exact Bt.gst_bd (by assumption) (by assumption) | exact Bt.key_bd (by assumption) | exact Bt.unkey_bd (by assumption) | exact Bt.nxt_bd (by assumption) | exact Bt.lst_bd (Bt.gst_bd (by assumption) (by assumption)) (by assumption) | exact Bt.btw_bd (by assumption) (Bt.lst_bd (by assumption) (by assumption)) (Bt.gst_bd (by assumption) (by assumption))))) (fun xq1 hq2 => ?_)
  refine GL.val (Ex.assign rfl) (by decide) ?_
  refine GL.nil ?_
  refine GE.thenN ?_
  refine GC.seq ?_
  refine GC.seq ?_
  refine GC.region ?_
  refine GL.val (Ex.move rfl) (by decide) ?_
  refine GL.val (v := (.bool (decide ((Bt.key a) = 4294967295)))) (Ex.eql rfl rfl) (by decide) ?_
  refine GL.nil ?_
  refine GE.thenN ?_
  refine GC.cond rfl (fun hq3 => ?_) (fun hq3 => ?_)
  · replace hq3 := of_decide_eq_true hq3
    refine GC.seq ?_
    refine GC.region ?_
    refine GL.val (Ex.assign rfl) (by decide) ?_
    refine GL.val (Ex.assign rfl) (by decide) ?_
    refine GL.nil ?_
    refine GE.thenN ?_
    refine GC.ret ?_
    refine GE.thenR ?_
    refine GC.ret2 rfl (Rv.tmp rfl) (Rv.tmp rfl) (fun wN HN => ?_)
    exact HN.ret () trivial (by rw [show Bt.nxt a = (0, false) from by first | (exfalso; omega) | (unfold Bt.nxt; (repeat (first | rw [if_pos (by omega)] | rw [if_neg (by omega)])))]) (List.nil_sublist _) rfl
  · replace hq3 := of_decide_eq_false hq3
    refine GC.skip ?_
    refine GE.thenN ?_
    refine GC.seq ?_
    refine GC.region ?_
    refine GL.val (Ex.move rfl) (by decide) ?_
    refine GL.val (v := (.int .u32 ((Bt.key a) + 1))) (Ex.add rfl rfl (Z := (Bt.key a) + 1) (wu32b (by omega))) (by decide) ?_
    refine GL.step (Stp.callR (vs := [(.int .u32 ((Bt.key a) + 1))]) rfl rfl T.own27 (by decide) (fun wc hw => unkey_p ((Bt.key a) + 1) wc (by first | assumption | omega | exact Bt.lst_bd (by assumption) (by assumption) | exact Bt.gst_bd (by assumption) (by assumption) | exact Bt.key_bd (by assumption) | exact Bt.unkey_bd (by assumption) | exact Bt.nxt_bd (by assumption) | exact Bt.lst_bd (Bt.gst_bd (by assumption) (by assumption)) (by assumption) | exact Bt.btw_bd (by assumption) (Bt.lst_bd (by assumption) (by assumption)) (Bt.gst_bd (by assumption) (by assumption))))) (fun xq4 hq5 => ?_)
    refine GL.val (Ex.assign rfl) (by decide) ?_
    refine GL.val (Ex.assign rfl) (by decide) ?_
    refine GL.nil ?_
    refine GE.thenN ?_
    refine GC.ret ?_
    refine GC.ret2 rfl (Rv.tmp rfl) (Rv.tmp rfl) (fun wN HN => ?_)
    exact HN.ret () trivial (by rw [show Bt.nxt a = (Bt.unkey ((Bt.key a) + 1), true) from by first | (exfalso; omega) | (unfold Bt.nxt; (repeat (first | rw [if_pos (by omega)] | rw [if_neg (by omega)])))]) (List.nil_sublist _) rfl

set_option maxRecDepth 100000 in
set_option maxHeartbeats 1000000 in
theorem apart_p (a b : Int) (w : World) (ha : 0 ≤ a ∧ a < 4294967296) (hb : 0 ≤ b ∧ b < 4294967296) :
    Calls Try.prog 29 #[(.int .u32 a), (.int .u32 b)] w (Ret w (fun _ : Unit => True) (fun _ => (.int .i64 (Bt.key b - Bt.key a))) (fun _ => [])) := by
  refine enter (M := None) (L := []) (n := 12) (l := [(0, (.int .u32 a)), (1, (.int .u32 b))]) Try.func29 rfl rfl (Args.cons rfl (Args.cons rfl (Args.nil _))) (Hp.start _ _) ?_
  refine GC.seq ?_
  have hka := Bt.key_bd ha
  have hkb := Bt.key_bd hb
  refine GC.region ?_
  refine GL.val (Ex.assign rfl) (by decide) ?_
  refine GL.nil ?_
  refine GE.thenN ?_
  refine GC.seq ?_
  refine GC.region ?_
  refine GL.val (Ex.move rfl) (by decide) ?_
  refine GL.step (Stp.callR (vs := [(.int .u32 b)]) rfl rfl T.own25 (by decide) (fun wc hw => key_p b wc (by first | assumption | omega | exact Bt.lst_bd (by assumption) (by assumption) | exact Bt.gst_bd (by assumption) (by assumption) | exact Bt.key_bd (by assumption) | exact Bt.unkey_bd (by assumption) | exact Bt.nxt_bd (by assumption) | exact Bt.lst_bd (Bt.gst_bd (by assumption) (by assumption)) (by assumption) | exact Bt.btw_bd (by assumption) (Bt.lst_bd (by assumption) (by assumption)) (Bt.gst_bd (by assumption) (by assumption))))) (fun xq1 hq2 => ?_)
  refine GL.val (v := (.int .i64 (Bt.key b))) (Ex.conv rfl Try.underlying23 Try.underlying3 (Z := Bt.key b) (w64 (by omega))) (by decide) ?_
  refine GL.val (Ex.move rfl) (by decide) ?_
  refine GL.step (Stp.callR (vs := [(.int .u32 a)]) rfl rfl T.own25 (by decide) (fun wc hw => key_p a wc (by first | assumption | omega | exact Bt.lst_bd (by assumption) (by assumption) | exact Bt.gst_bd (by assumption) (by assumption) | exact Bt.key_bd (by assumption) | exact Bt.unkey_bd (by assumption) | exact Bt.nxt_bd (by assumption) | exact Bt.lst_bd (Bt.gst_bd (by assumption) (by assumption)) (by assumption) | exact Bt.btw_bd (by assumption) (Bt.lst_bd (by assumption) (by assumption)) (Bt.gst_bd (by assumption) (by assumption))))) (fun xq3 hq4 => ?_)
  refine GL.val (v := (.int .i64 (Bt.key a))) (Ex.conv rfl Try.underlying23 Try.underlying3 (Z := Bt.key a) (w64 (by omega))) (by decide) ?_
  refine GL.val (v := (.int .i64 ((Bt.key b) - (Bt.key a)))) (Ex.sub' rfl rfl (Z := (Bt.key b) - (Bt.key a)) (w64 (by omega))) (by decide) ?_
  refine GL.val (Ex.assign rfl) (by decide) ?_
  refine GL.nil ?_
  refine GE.thenN ?_
  refine GC.ret ?_
  refine GC.ret1 rfl (Rv.tmp rfl) (fun wN HN => ?_)
  exact HN.ret () trivial rfl (List.nil_sublist _) rfl

set_option maxRecDepth 100000 in
set_option maxHeartbeats 1000000 in
theorem fp_p (n e : Int) (w : World) (hn : -9223372036854775808 ≤ n ∧ n ≤ 9223372036854775807) (he : -9223372036854775808 ≤ e ∧ e ≤ 9223372036854775807) :
    Calls Try.prog 13 #[(.int .i64 n), (.int .i64 e)] w (Ret w (fun x : Int × Bool => Bt.FP n e x.1 x.2) (fun x => .tuple #[.int .u32 x.1, .bool x.2]) (fun _ => [])) := by
  refine enter (M := None) (L := []) (n := 69) (l := [(0, (.int .i64 n)), (1, (.int .i64 e))]) Try.func13 rfl rfl (Args.cons rfl (Args.cons rfl (Args.nil _))) (Hp.start _ _) ?_
  refine GC.seq ?_
  refine GC.region ?_
  refine GL.val (Ex.assign rfl) (by decide) ?_
  refine GL.val (Ex.assign rfl) (by decide) ?_
  refine GL.nil ?_
  refine GE.thenN ?_
  refine GC.seq ?_
  refine GC.seq ?_
  refine GC.region ?_
  refine GL.val (Ex.move rfl) (by decide) ?_
  refine GL.val (v := (.bool (decide (n = 0)))) (Ex.eql rfl rfl) (by decide) ?_
  refine GL.nil ?_
  refine GE.thenN ?_
  refine GC.cond rfl (fun hq1 => ?_) (fun hq1 => ?_)
  · replace hq1 := of_decide_eq_true hq1
    refine GC.seq ?_
    refine GC.region ?_
    refine GL.val (Ex.assign rfl) (by decide) ?_
    refine GL.val (Ex.assign rfl) (by decide) ?_
    refine GL.nil ?_
    refine GE.thenN ?_
    refine GC.ret ?_
    refine GE.thenR ?_
    refine GC.ret2 rfl (Rv.tmp rfl) (Rv.tmp rfl) (fun wN HN => ?_)
    exact HN.ret (0, true) (Or.inl ⟨by omega, rfl, rfl⟩) rfl (List.nil_sublist _) rfl
  · replace hq1 := of_decide_eq_false hq1
    refine GC.skip ?_
    refine GE.thenN ?_
    refine GC.seq ?_
    refine GC.region ?_
    refine GL.val (Ex.move rfl) (by decide) ?_
    refine GL.val (v := (.int .u64 (n % 18446744073709551616))) (Ex.conv rfl Try.underlying3 Try.underlying47 (Z := n % 18446744073709551616) (wu64 _)) (by decide) ?_
    refine GL.val (Ex.assign rfl) (by decide) ?_
    refine GL.val (Ex.assign rfl) (by decide) ?_
    refine GL.nil ?_
    refine GE.thenN ?_
    refine GC.seq ?_
    refine GC.seq ?_
    refine GC.region ?_
    refine GL.val (Ex.move rfl) (by decide) ?_
    refine GL.val (v := (.bool (decide (n < 0)))) (Ex.lss rfl rfl) (by decide) ?_
    refine GL.nil ?_
    refine GE.thenN ?_
    refine GC.cond rfl (fun hq2 => ?_) (fun hq2 => ?_)
    · replace hq2 := of_decide_eq_true hq2
      refine GC.region ?_
      refine GL.val (Ex.move rfl) (by decide) ?_
      refine GL.val (v := (.int .u64 (-n))) (Ex.neg rfl (Z := -n) (by rw [wu64]; omega)) (by decide) ?_
      refine GL.val (Ex.assign rfl) (by decide) ?_
      refine GL.val (Ex.assign rfl) (by decide) ?_
      refine GL.nil ?_
      refine GE.thenN ?_
      refine GC.seq ?_
      refine GC.block ?_
      refine GC.loop (σ := Int × Int × Nat) (fun k => 0 < k.1 ∧ k.1 ≤ 9223372036854775808 ∧ (n.natAbs : Int) = k.1 * 2 ^ k.2.2 ∧ (-9223372036854775808 ≤ k.2.1 ∧ k.2.1 ≤ 9223372036854775807) ∧ (k.2.1 = e + k.2.2 ∨ k.2.1 = e + k.2.2 - 18446744073709551616)) (fun k => [(0, (.int .i64 n)), (6, (.int .u32 2147483648)), (1, (.int .i64 k.2.1)), (7, (.int .u64 k.1))]) (fun k => []) (fun k => k.1.toNat) ((-n, e, 0)) ⟨by dsimp only; omega, by dsimp only; omega, by dsimp only; simp; omega, by dsimp only; omega, by dsimp only; omega⟩ ((sub_cons rfl ((sub_cons rfl ((sub_cons rfl ((sub_cons rfl ((sub_nil _)))))))))) ulN (fun k hp => ?_)
      obtain ⟨hp1, hp2, hp3, hp4, hp5⟩ := hp; have hj : k.2.2 < 64 := Bt.pow_le 64 hp1 hp3 (by omega)
      refine GC.seq ?_
      refine GC.seq ?_
      refine GC.region ?_
      refine GL.val (Ex.move rfl) (by decide) ?_
      refine GL.val (v := (.int .u64 (k.1 % 2))) (Ex.rem rfl rfl (Z := k.1 % 2) (by omega) (rem64 (by omega) (by omega))) (by decide) ?_
      by_cases hq3 : (k.1 % 2) = 0
      · refine GL.val (v := (.bool true)) (Ex.cast (Ex.eql rfl rfl) (congrArg Value.bool (decide_eq_true hq3))) (by decide) ?_
        refine GL.val (Ex.move rfl) (by decide) ?_
        refine GL.stepG (tj := 19) rfl rfl (Ex.wp (v := (.int .u64 k.1)) (Ex.move rfl) (by decide)) (fun _ _ => ?_)
        by_cases hq4 : 16777216 ≤ k.1
        · refine GL.stepG (tj := 19) rfl rfl (Ex.wp (v := (.bool true)) (Ex.cast (Ex.geq rfl rfl) (congrArg Value.bool (decide_eq_true hq4))) (by decide)) (fun _ _ => ?_)
          refine GL.stepG (tj := 19) rfl rfl (Ex.wp (v := (.bool true)) (Ex.move rfl) (by decide)) (fun _ _ => ?_)
          refine GL.skipG (tj := 22) rfl rfl rfl (by decide) ?_
          refine GL.skipG (tj := 22) rfl rfl rfl (by decide) ?_
          refine GL.stepG (tj := 19) rfl rfl (Ex.wp (v := (.bool true)) (Ex.pickT rfl rfl) (by decide)) (fun _ _ => ?_)
          refine GL.val (v := (.bool true)) (Ex.pickT rfl rfl) (by decide) ?_
          refine GL.nil ?_
          refine GE.thenN ?_
          refine GC.cond rfl (fun _ => ?_) (fun hq5 => by cases hq5)
          refine GC.skip ?_
          refine GE.thenN ?_
          refine GC.block ?_
          refine GC.region ?_
          refine GL.val (Ex.move rfl) (by decide) ?_
          refine GL.val (v := (.int .u64 (k.1 / 2))) (Ex.quo rfl rfl (Z := k.1 / 2) (by omega) (quoU64 (by omega) (by omega) (by omega))) (by decide) ?_
          refine GL.val (Ex.move rfl) (by decide) ?_
          refine GL.val (v := (.int .i64 (Bt.inc k.2.1))) (Ex.add rfl rfl (Z := Bt.inc k.2.1) (Bt.inc_eq hp4)) (by decide) ?_
          refine GL.val (Ex.assign rfl) (by decide) ?_
          refine GL.val (Ex.assign rfl) (by decide) ?_
          refine GL.nil ?_
          refine GE.blockN ?_
          refine GE.thenN ?_
          exact Head.mk (k.1 / 2, Bt.inc k.2.1, k.2.2 + 1) (by have hj2 : k.2.2 + 1 < 64 := Bt.pow_le 64 (by omega) (Bt.half_step hp3 (by omega)) (by omega); exact ⟨by dsimp only; omega, by dsimp only; omega, Bt.half_step hp3 (by omega), Bt.inc_or hp4 he.2 (by omega) hp5⟩) (by dsimp only; omega) ((sub_cons rfl ((sub_cons rfl ((sub_cons rfl ((sub_cons rfl ((sub_nil _)))))))))) ulN
        · refine GL.stepG (tj := 19) rfl rfl (Ex.wp (v := (.bool false)) (Ex.cast (Ex.geq rfl rfl) (congrArg Value.bool (decide_eq_false hq4))) (by decide)) (fun _ _ => ?_)
          refine GL.stepG (tj := 19) rfl rfl (Ex.wp (v := (.bool false)) (Ex.move rfl) (by decide)) (fun _ _ => ?_)
          refine GL.stepG (tj := 22) rfl rfl (Ex.wp (v := (.int .i64 k.2.1)) (Ex.move rfl) (by decide)) (fun _ _ => ?_)
          refine GL.stepG (tj := 22) rfl rfl (Ex.wp (v := (.bool (decide (k.2.1 < (-149))))) (Ex.lss rfl rfl) (by decide)) (fun _ _ => ?_)
          refine GL.stepG (tj := 19) rfl rfl (Ex.wp (v := (.bool (decide (k.2.1 < (-149))))) (Ex.pickF rfl rfl) (by decide)) (fun _ _ => ?_)
          refine GL.val (v := (.bool (decide (k.2.1 < (-149))))) (Ex.pickT rfl rfl) (by decide) ?_
          refine GL.nil ?_
          refine GE.thenN ?_
          refine GC.cond rfl (fun hq6 => ?_) (fun hq6 => ?_)
          · replace hq6 := of_decide_eq_true hq6
            refine GC.skip ?_
            refine GE.thenN ?_
            refine GC.block ?_
            refine GC.region ?_
            refine GL.val (Ex.move rfl) (by decide) ?_
            refine GL.val (v := (.int .u64 (k.1 / 2))) (Ex.quo rfl rfl (Z := k.1 / 2) (by omega) (quoU64 (by omega) (by omega) (by omega))) (by decide) ?_
            refine GL.val (Ex.move rfl) (by decide) ?_
            refine GL.val (v := (.int .i64 (Bt.inc k.2.1))) (Ex.add rfl rfl (Z := Bt.inc k.2.1) (Bt.inc_eq hp4)) (by decide) ?_
            refine GL.val (Ex.assign rfl) (by decide) ?_
            refine GL.val (Ex.assign rfl) (by decide) ?_
            refine GL.nil ?_
            refine GE.blockN ?_
            refine GE.thenN ?_
            exact Head.mk (k.1 / 2, Bt.inc k.2.1, k.2.2 + 1) (by have hj2 : k.2.2 + 1 < 64 := Bt.pow_le 64 (by omega) (Bt.half_step hp3 (by omega)) (by omega); exact ⟨by dsimp only; omega, by dsimp only; omega, Bt.half_step hp3 (by omega), Bt.inc_or hp4 he.2 (by omega) hp5⟩) (by dsimp only; omega) ((sub_cons rfl ((sub_cons rfl ((sub_cons rfl ((sub_cons rfl ((sub_nil _)))))))))) ulN
          · replace hq6 := of_decide_eq_false hq6
            refine GC.exit ?_
            refine GE.thenE ?_
            refine GE.thenE ?_
            refine GE.blockE ?_
            refine GE.thenN ?_
            refine GC.seq ?_
            refine GC.block ?_
            refine GC.loop (σ := Nat) (fun i => (i = 0 ∨ (k.1 * 2 ^ i < 16777216 ∧ -149 ≤ k.2.1 - ((i : Nat) : Int))) ∧ k.1 ≤ k.1 * 2 ^ i ∧ (i = 0 → k.1 * 2 ^ i = k.1)) (fun i => [(0, (.int .i64 n)), (6, (.int .u32 2147483648)), (1, (.int .i64 (k.2.1 - ((i : Nat) : Int)))), (7, (.int .u64 (k.1 * 2 ^ i)))]) (fun i => []) (fun i => (8388608 - k.1 * 2 ^ i).toNat) (0) ⟨Or.inl rfl, by simp, by simp⟩ ((sub_cons rfl ((sub_cons rfl ((sub_cons (congrArg (fun z => some (Value.int .i64 z)) (by simp)) ((sub_cons (congrArg (fun z => some (Value.int .u64 z)) (by simp)) ((sub_nil _)))))))))) ulN (fun i hp => ?_)
            obtain ⟨hq1, hq2, hq3⟩ := hp
            refine GC.seq ?_
            refine GC.seq ?_
            refine GC.region ?_
            refine GL.val (Ex.move rfl) (by decide) ?_
            by_cases hq7 : (k.1 * 2 ^ i) < 8388608
            · refine GL.val (v := (.bool true)) (Ex.cast (Ex.lss rfl rfl) (congrArg Value.bool (decide_eq_true hq7))) (by decide) ?_
              refine GL.val (Ex.move rfl) (by decide) ?_
              refine GL.stepG (tj := 33) rfl rfl (Ex.wp (v := (.int .i64 (k.2.1 - ((i : Nat) : Int)))) (Ex.move rfl) (by decide)) (fun _ _ => ?_)
              refine GL.stepG (tj := 33) rfl rfl (Ex.wp (v := (.bool (decide ((-149) < (k.2.1 - ((i : Nat) : Int)))))) (Ex.gtr rfl rfl) (by decide)) (fun _ _ => ?_)
              refine GL.val (v := (.bool (decide ((-149) < (k.2.1 - ((i : Nat) : Int)))))) (Ex.pickT rfl rfl) (by decide) ?_
              refine GL.nil ?_
              refine GE.thenN ?_
              refine GC.cond rfl (fun hq8 => ?_) (fun hq8 => ?_)
              · replace hq8 := of_decide_eq_true hq8
                refine GC.skip ?_
                refine GE.thenN ?_
                refine GC.block ?_
                refine GC.region ?_
                refine GL.val (Ex.move rfl) (by decide) ?_
                refine GL.val (v := (.int .u64 (k.1 * 2 ^ (i + 1)))) (Ex.mul rfl rfl (Z := k.1 * 2 ^ (i + 1)) (by rw [wu64b (by omega), Bt.pow_step]; omega)) (by decide) ?_
                refine GL.val (Ex.move rfl) (by decide) ?_
                refine GL.val (v := (.int .i64 (k.2.1 - ((i + 1 : Nat) : Int)))) (Ex.sub' rfl rfl (Z := k.2.1 - ((i + 1 : Nat) : Int)) (by rw [w64 (by omega)]; omega)) (by decide) ?_
                refine GL.val (Ex.assign rfl) (by decide) ?_
                refine GL.val (Ex.assign rfl) (by decide) ?_
                refine GL.nil ?_
                refine GE.blockN ?_
                refine GE.thenN ?_
                exact Head.mk (i + 1) ⟨Or.inr ⟨by rw [Bt.pow_step]; omega, by omega⟩, by rw [Bt.pow_step]; omega, by omega⟩ (by rw [Bt.pow_step]; omega) ((sub_cons rfl ((sub_cons rfl ((sub_cons rfl ((sub_cons rfl ((sub_nil _)))))))))) ulN
              · replace hq8 := of_decide_eq_false hq8
                refine GC.exit ?_
                refine GE.thenE ?_
                refine GE.thenE ?_
                refine GE.blockE ?_
                refine GE.thenN ?_
                refine GC.seq ?_
                refine GC.block ?_
                refine GC.seq ?_
                refine GC.region ?_
                refine GL.val (Ex.move rfl) (by decide) ?_
                by_cases hq9 : 16777216 ≤ (k.1 * 2 ^ i)
                · refine GL.val (v := (.bool true)) (Ex.cast (Ex.geq rfl rfl) (congrArg Value.bool (decide_eq_true hq9))) (by decide) ?_
                  refine GL.val (Ex.move rfl) (by decide) ?_
                  refine GL.skipG (tj := 44) rfl rfl rfl (by decide) ?_
                  refine GL.skipG (tj := 44) rfl rfl rfl (by decide) ?_
                  refine GL.val (v := (.bool true)) (Ex.pickT rfl rfl) (by decide) ?_
                  refine GL.val (Ex.move rfl) (by decide) ?_
                  refine GL.skipG (tj := 48) rfl rfl rfl (by decide) ?_
                  refine GL.skipG (tj := 48) rfl rfl rfl (by decide) ?_
                  refine GL.val (v := (.bool true)) (Ex.pickT rfl rfl) (by decide) ?_
                  refine GL.val (Ex.assign rfl) (by decide) ?_
                  refine GL.nil ?_
                  refine GE.thenN ?_
                  refine GC.cond rfl (fun _ => ?_) (fun hq10 => by cases hq10)
                  refine GC.seq ?_
                  refine GC.region ?_
                  refine GL.val (Ex.assign rfl) (by decide) ?_
                  refine GL.val (Ex.assign rfl) (by decide) ?_
                  refine GL.nil ?_
                  refine GE.thenN ?_
                  refine GC.ret ?_
                  refine GE.blockR ?_
                  refine GE.thenR ?_
                  refine GC.ret2 rfl (Rv.tmp rfl) (Rv.tmp rfl) (fun wN HN => ?_)
                  exact HN.ret (0, false) (Bt.FP.prog (s := k.1) (x := k.2.1) (j := k.2.2) (i := i) (by omega) hp1 hp3 (by omega) (by omega) hq1 (by omega) (Or.inl ⟨by omega, rfl, rfl⟩)) rfl (List.nil_sublist _) rfl
                · refine GL.val (v := (.bool false)) (Ex.cast (Ex.geq rfl rfl) (congrArg Value.bool (decide_eq_false hq9))) (by decide) ?_
                  refine GL.val (Ex.move rfl) (by decide) ?_
                  refine GL.stepG (tj := 44) rfl rfl (Ex.wp (v := (.int .i64 (k.2.1 - ((i : Nat) : Int)))) (Ex.move rfl) (by decide)) (fun _ _ => ?_)
                  by_cases hq11 : (k.2.1 - ((i : Nat) : Int)) < (-149)
                  · refine GL.stepG (tj := 44) rfl rfl (Ex.wp (v := (.bool true)) (Ex.cast (Ex.lss rfl rfl) (congrArg Value.bool (decide_eq_true hq11))) (by decide)) (fun _ _ => ?_)
                    refine GL.val (v := (.bool true)) (Ex.pickF rfl rfl) (by decide) ?_
                    refine GL.val (Ex.move rfl) (by decide) ?_
                    refine GL.skipG (tj := 48) rfl rfl rfl (by decide) ?_
                    refine GL.skipG (tj := 48) rfl rfl rfl (by decide) ?_
                    refine GL.val (v := (.bool true)) (Ex.pickT rfl rfl) (by decide) ?_
                    refine GL.val (Ex.assign rfl) (by decide) ?_
                    refine GL.nil ?_
                    refine GE.thenN ?_
                    refine GC.cond rfl (fun _ => ?_) (fun hq12 => by cases hq12)
                    refine GC.seq ?_
                    refine GC.region ?_
                    refine GL.val (Ex.assign rfl) (by decide) ?_
                    refine GL.val (Ex.assign rfl) (by decide) ?_
                    refine GL.nil ?_
                    refine GE.thenN ?_
                    refine GC.ret ?_
                    refine GE.blockR ?_
                    refine GE.thenR ?_
                    refine GC.ret2 rfl (Rv.tmp rfl) (Rv.tmp rfl) (fun wN HN => ?_)
                    exact HN.ret (0, false) (Bt.FP.prog (s := k.1) (x := k.2.1) (j := k.2.2) (i := i) (by omega) hp1 hp3 (by omega) (by omega) hq1 (by omega) (Or.inl ⟨by omega, rfl, rfl⟩)) rfl (List.nil_sublist _) rfl
                  · refine GL.stepG (tj := 44) rfl rfl (Ex.wp (v := (.bool false)) (Ex.cast (Ex.lss rfl rfl) (congrArg Value.bool (decide_eq_false hq11))) (by decide)) (fun _ _ => ?_)
                    refine GL.val (v := (.bool false)) (Ex.pickF rfl rfl) (by decide) ?_
                    refine GL.val (Ex.move rfl) (by decide) ?_
                    refine GL.stepG (tj := 48) rfl rfl (Ex.wp (v := (.int .i64 (k.2.1 - ((i : Nat) : Int)))) (Ex.move rfl) (by decide)) (fun _ _ => ?_)
                    refine GL.stepG (tj := 48) rfl rfl (Ex.wp (v := (.bool (decide (104 < (k.2.1 - ((i : Nat) : Int)))))) (Ex.gtr rfl rfl) (by decide)) (fun _ _ => ?_)
                    refine GL.val (v := (.bool (decide (104 < (k.2.1 - ((i : Nat) : Int)))))) (Ex.pickF rfl rfl) (by decide) ?_
                    refine GL.val (Ex.assign rfl) (by decide) ?_
                    refine GL.nil ?_
                    refine GE.thenN ?_
                    refine GC.cond rfl (fun hq13 => ?_) (fun hq13 => ?_)
                    · replace hq13 := of_decide_eq_true hq13
                      refine GC.seq ?_
                      refine GC.region ?_
                      refine GL.val (Ex.assign rfl) (by decide) ?_
                      refine GL.val (Ex.assign rfl) (by decide) ?_
                      refine GL.nil ?_
                      refine GE.thenN ?_
                      refine GC.ret ?_
                      refine GE.blockR ?_
                      refine GE.thenR ?_
                      refine GC.ret2 rfl (Rv.tmp rfl) (Rv.tmp rfl) (fun wN HN => ?_)
                      exact HN.ret (0, false) (Bt.FP.prog (s := k.1) (x := k.2.1) (j := k.2.2) (i := i) (by omega) hp1 hp3 (by omega) (by omega) hq1 (by omega) (Or.inl ⟨by omega, rfl, rfl⟩)) rfl (List.nil_sublist _) rfl
                    · replace hq13 := of_decide_eq_false hq13
                      refine GC.seq ?_
                      refine GC.region ?_
                      refine GL.val (Ex.move rfl) (by decide) ?_
                      refine GL.val (v := (.bool (decide ((k.1 * 2 ^ i) < 8388608)))) (Ex.lss rfl rfl) (by decide) ?_
                      refine GL.val (Ex.assign rfl) (by decide) ?_
                      refine GL.nil ?_
                      refine GE.thenN ?_
                      refine GC.cond rfl (fun hq14 => ?_) (fun hq14 => ?_)
                      · replace hq14 := of_decide_eq_true hq14
                        refine GC.seq ?_
                        refine GC.region ?_
                        refine GL.val (Ex.move rfl) (by decide) ?_
                        refine GL.val (Ex.move rfl) (by decide) ?_
                        refine GL.val (v := (.int .u32 (k.1 * 2 ^ i))) (Ex.conv rfl Try.underlying47 Try.underlying23 (Z := k.1 * 2 ^ i) (wu32b (by omega))) (by decide) ?_
                        refine GL.val (v := (.int .u32 (2147483648 + (k.1 * 2 ^ i)))) (Ex.bits rfl rfl (by simp) (Z := 2147483648 + (k.1 * 2 ^ i)) (orm 31 (by omega) (by omega) (by decide) (by omega) rfl)) (by decide) ?_
                        refine GL.val (Ex.assign rfl) (by decide) ?_
                        refine GL.val (Ex.assign rfl) (by decide) ?_
                        refine GL.nil ?_
                        refine GE.thenN ?_
                        refine GC.ret ?_
                        refine GE.blockR ?_
                        refine GE.thenR ?_
                        refine GC.ret2 rfl (Rv.tmp rfl) (Rv.tmp rfl) (fun wN HN => ?_)
                        exact HN.ret (2147483648 + (k.1 * 2 ^ i), true) (Bt.FP.prog (s := k.1) (x := k.2.1) (j := k.2.2) (i := i) (by omega) hp1 hp3 (by omega) (by omega) hq1 (by omega) (Or.inr ⟨by omega, by omega, by omega, rfl, by unfold Bt.sgn Bt.enc; first | (rw [if_pos (by omega), if_pos (by omega)] <;> omega) | (rw [if_pos (by omega), if_neg (by omega)] <;> omega) | (rw [if_neg (by omega), if_pos (by omega)] <;> omega) | (rw [if_neg (by omega), if_neg (by omega)] <;> omega)⟩)) rfl (List.nil_sublist _) rfl
                      · replace hq14 := of_decide_eq_false hq14
                        refine GC.skip ?_
                        refine GE.blockN ?_
                        refine GE.thenN ?_
                        refine GC.seq ?_
                        refine GC.region ?_
                        refine GL.val (Ex.move rfl) (by decide) ?_
                        refine GL.val (Ex.move rfl) (by decide) ?_
                        refine GL.val (v := (.int .i64 ((k.2.1 - ((i : Nat) : Int)) + 150))) (Ex.add rfl rfl (Z := (k.2.1 - ((i : Nat) : Int)) + 150) (w64 (by omega))) (by decide) ?_
                        refine GL.val (v := (.int .u32 ((k.2.1 - ((i : Nat) : Int)) + 150))) (Ex.conv rfl Try.underlying3 Try.underlying23 (Z := (k.2.1 - ((i : Nat) : Int)) + 150) (wu32b (by omega))) (by decide) ?_
                        refine GL.val (v := (.int .u32 (((k.2.1 - ((i : Nat) : Int)) + 150) * 8388608))) (Ex.shl rfl (m := 23) rfl (by decide) (Z := ((k.2.1 - ((i : Nat) : Int)) + 150) * 8388608) (wu32b (by omega))) (by decide) ?_
                        refine GL.val (v := (.int .u32 (2147483648 + (((k.2.1 - ((i : Nat) : Int)) + 150) * 8388608)))) (Ex.bits rfl rfl (by simp) (Z := 2147483648 + (((k.2.1 - ((i : Nat) : Int)) + 150) * 8388608)) (orm 31 (by omega) (by omega) (by decide) (by omega) rfl)) (by decide) ?_
                        refine GL.val (Ex.move rfl) (by decide) ?_
                        refine GL.val (v := (.int .u64 ((k.1 * 2 ^ i) - 8388608))) (Ex.sub' rfl rfl (Z := (k.1 * 2 ^ i) - 8388608) (wu64b (by omega))) (by decide) ?_
                        refine GL.val (v := (.int .u32 ((k.1 * 2 ^ i) - 8388608))) (Ex.conv rfl Try.underlying47 Try.underlying23 (Z := (k.1 * 2 ^ i) - 8388608) (wu32b (by omega))) (by decide) ?_
                        refine GL.val (v := (.int .u32 ((2147483648 + (((k.2.1 - ((i : Nat) : Int)) + 150) * 8388608)) + ((k.1 * 2 ^ i) - 8388608)))) (Ex.bits rfl rfl (by simp) (Z := (2147483648 + (((k.2.1 - ((i : Nat) : Int)) + 150) * 8388608)) + ((k.1 * 2 ^ i) - 8388608)) (orm 23 (by omega) (by omega) (by decide) (by omega) rfl)) (by decide) ?_
                        refine GL.val (Ex.assign rfl) (by decide) ?_
                        refine GL.val (Ex.assign rfl) (by decide) ?_
                        refine GL.nil ?_
                        refine GE.thenN ?_
                        refine GC.ret ?_
                        refine GC.ret2 rfl (Rv.tmp rfl) (Rv.tmp rfl) (fun wN HN => ?_)
                        exact HN.ret ((2147483648 + (((k.2.1 - ((i : Nat) : Int)) + 150) * 8388608)) + ((k.1 * 2 ^ i) - 8388608), true) (Bt.FP.prog (s := k.1) (x := k.2.1) (j := k.2.2) (i := i) (by omega) hp1 hp3 (by omega) (by omega) hq1 (by omega) (Or.inr ⟨by omega, by omega, by omega, rfl, by unfold Bt.sgn Bt.enc; first | (rw [if_pos (by omega), if_pos (by omega)] <;> omega) | (rw [if_pos (by omega), if_neg (by omega)] <;> omega) | (rw [if_neg (by omega), if_pos (by omega)] <;> omega) | (rw [if_neg (by omega), if_neg (by omega)] <;> omega)⟩)) rfl (List.nil_sublist _) rfl
            · refine GL.val (v := (.bool false)) (Ex.cast (Ex.lss rfl rfl) (congrArg Value.bool (decide_eq_false hq7))) (by decide) ?_
              refine GL.val (Ex.move rfl) (by decide) ?_
              refine GL.skipG (tj := 33) rfl rfl rfl (by decide) ?_
              refine GL.skipG (tj := 33) rfl rfl rfl (by decide) ?_
              refine GL.val (v := (.bool false)) (Ex.pickF rfl rfl) (by decide) ?_
              refine GL.nil ?_
              refine GE.thenN ?_
              refine GC.cond rfl (fun hq15 => by cases hq15) (fun _ => ?_)
              refine GC.exit ?_
              refine GE.thenE ?_
              refine GE.thenE ?_
              refine GE.blockE ?_
              refine GE.thenN ?_
              refine GC.seq ?_
              refine GC.block ?_
              refine GC.seq ?_
              refine GC.region ?_
              refine GL.val (Ex.move rfl) (by decide) ?_
              by_cases hq16 : 16777216 ≤ (k.1 * 2 ^ i)
              · refine GL.val (v := (.bool true)) (Ex.cast (Ex.geq rfl rfl) (congrArg Value.bool (decide_eq_true hq16))) (by decide) ?_
                refine GL.val (Ex.move rfl) (by decide) ?_
                refine GL.skipG (tj := 44) rfl rfl rfl (by decide) ?_
                refine GL.skipG (tj := 44) rfl rfl rfl (by decide) ?_
                refine GL.val (v := (.bool true)) (Ex.pickT rfl rfl) (by decide) ?_
                refine GL.val (Ex.move rfl) (by decide) ?_
                refine GL.skipG (tj := 48) rfl rfl rfl (by decide) ?_
                refine GL.skipG (tj := 48) rfl rfl rfl (by decide) ?_
                refine GL.val (v := (.bool true)) (Ex.pickT rfl rfl) (by decide) ?_
                refine GL.val (Ex.assign rfl) (by decide) ?_
                refine GL.nil ?_
                refine GE.thenN ?_
                refine GC.cond rfl (fun _ => ?_) (fun hq17 => by cases hq17)
                refine GC.seq ?_
                refine GC.region ?_
                refine GL.val (Ex.assign rfl) (by decide) ?_
                refine GL.val (Ex.assign rfl) (by decide) ?_
                refine GL.nil ?_
                refine GE.thenN ?_
                refine GC.ret ?_
                refine GE.blockR ?_
                refine GE.thenR ?_
                refine GC.ret2 rfl (Rv.tmp rfl) (Rv.tmp rfl) (fun wN HN => ?_)
                exact HN.ret (0, false) (Bt.FP.prog (s := k.1) (x := k.2.1) (j := k.2.2) (i := i) (by omega) hp1 hp3 (by omega) (by omega) hq1 (by omega) (Or.inl ⟨by omega, rfl, rfl⟩)) rfl (List.nil_sublist _) rfl
              · refine GL.val (v := (.bool false)) (Ex.cast (Ex.geq rfl rfl) (congrArg Value.bool (decide_eq_false hq16))) (by decide) ?_
                refine GL.val (Ex.move rfl) (by decide) ?_
                refine GL.stepG (tj := 44) rfl rfl (Ex.wp (v := (.int .i64 (k.2.1 - ((i : Nat) : Int)))) (Ex.move rfl) (by decide)) (fun _ _ => ?_)
                by_cases hq18 : (k.2.1 - ((i : Nat) : Int)) < (-149)
                · refine GL.stepG (tj := 44) rfl rfl (Ex.wp (v := (.bool true)) (Ex.cast (Ex.lss rfl rfl) (congrArg Value.bool (decide_eq_true hq18))) (by decide)) (fun _ _ => ?_)
                  refine GL.val (v := (.bool true)) (Ex.pickF rfl rfl) (by decide) ?_
                  refine GL.val (Ex.move rfl) (by decide) ?_
                  refine GL.skipG (tj := 48) rfl rfl rfl (by decide) ?_
                  refine GL.skipG (tj := 48) rfl rfl rfl (by decide) ?_
                  refine GL.val (v := (.bool true)) (Ex.pickT rfl rfl) (by decide) ?_
                  refine GL.val (Ex.assign rfl) (by decide) ?_
                  refine GL.nil ?_
                  refine GE.thenN ?_
                  refine GC.cond rfl (fun _ => ?_) (fun hq19 => by cases hq19)
                  refine GC.seq ?_
                  refine GC.region ?_
                  refine GL.val (Ex.assign rfl) (by decide) ?_
                  refine GL.val (Ex.assign rfl) (by decide) ?_
                  refine GL.nil ?_
                  refine GE.thenN ?_
                  refine GC.ret ?_
                  refine GE.blockR ?_
                  refine GE.thenR ?_
                  refine GC.ret2 rfl (Rv.tmp rfl) (Rv.tmp rfl) (fun wN HN => ?_)
                  exact HN.ret (0, false) (Bt.FP.prog (s := k.1) (x := k.2.1) (j := k.2.2) (i := i) (by omega) hp1 hp3 (by omega) (by omega) hq1 (by omega) (Or.inl ⟨by omega, rfl, rfl⟩)) rfl (List.nil_sublist _) rfl
                · refine GL.stepG (tj := 44) rfl rfl (Ex.wp (v := (.bool false)) (Ex.cast (Ex.lss rfl rfl) (congrArg Value.bool (decide_eq_false hq18))) (by decide)) (fun _ _ => ?_)
                  refine GL.val (v := (.bool false)) (Ex.pickF rfl rfl) (by decide) ?_
                  refine GL.val (Ex.move rfl) (by decide) ?_
                  refine GL.stepG (tj := 48) rfl rfl (Ex.wp (v := (.int .i64 (k.2.1 - ((i : Nat) : Int)))) (Ex.move rfl) (by decide)) (fun _ _ => ?_)
                  refine GL.stepG (tj := 48) rfl rfl (Ex.wp (v := (.bool (decide (104 < (k.2.1 - ((i : Nat) : Int)))))) (Ex.gtr rfl rfl) (by decide)) (fun _ _ => ?_)
                  refine GL.val (v := (.bool (decide (104 < (k.2.1 - ((i : Nat) : Int)))))) (Ex.pickF rfl rfl) (by decide) ?_
                  refine GL.val (Ex.assign rfl) (by decide) ?_
                  refine GL.nil ?_
                  refine GE.thenN ?_
                  refine GC.cond rfl (fun hq20 => ?_) (fun hq20 => ?_)
                  · replace hq20 := of_decide_eq_true hq20
                    refine GC.seq ?_
                    refine GC.region ?_
                    refine GL.val (Ex.assign rfl) (by decide) ?_
                    refine GL.val (Ex.assign rfl) (by decide) ?_
                    refine GL.nil ?_
                    refine GE.thenN ?_
                    refine GC.ret ?_
                    refine GE.blockR ?_
                    refine GE.thenR ?_
                    refine GC.ret2 rfl (Rv.tmp rfl) (Rv.tmp rfl) (fun wN HN => ?_)
                    exact HN.ret (0, false) (Bt.FP.prog (s := k.1) (x := k.2.1) (j := k.2.2) (i := i) (by omega) hp1 hp3 (by omega) (by omega) hq1 (by omega) (Or.inl ⟨by omega, rfl, rfl⟩)) rfl (List.nil_sublist _) rfl
                  · replace hq20 := of_decide_eq_false hq20
                    refine GC.seq ?_
                    refine GC.region ?_
                    refine GL.val (Ex.move rfl) (by decide) ?_
                    refine GL.val (v := (.bool (decide ((k.1 * 2 ^ i) < 8388608)))) (Ex.lss rfl rfl) (by decide) ?_
                    refine GL.val (Ex.assign rfl) (by decide) ?_
                    refine GL.nil ?_
                    refine GE.thenN ?_
                    refine GC.cond rfl (fun hq21 => ?_) (fun hq21 => ?_)
                    · replace hq21 := of_decide_eq_true hq21
                      refine GC.seq ?_
                      refine GC.region ?_
                      refine GL.val (Ex.move rfl) (by decide) ?_
                      refine GL.val (Ex.move rfl) (by decide) ?_
                      refine GL.val (v := (.int .u32 (k.1 * 2 ^ i))) (Ex.conv rfl Try.underlying47 Try.underlying23 (Z := k.1 * 2 ^ i) (wu32b (by omega))) (by decide) ?_
                      refine GL.val (v := (.int .u32 (2147483648 + (k.1 * 2 ^ i)))) (Ex.bits rfl rfl (by simp) (Z := 2147483648 + (k.1 * 2 ^ i)) (orm 31 (by omega) (by omega) (by decide) (by omega) rfl)) (by decide) ?_
                      refine GL.val (Ex.assign rfl) (by decide) ?_
                      refine GL.val (Ex.assign rfl) (by decide) ?_
                      refine GL.nil ?_
                      refine GE.thenN ?_
                      refine GC.ret ?_
                      refine GE.blockR ?_
                      refine GE.thenR ?_
                      refine GC.ret2 rfl (Rv.tmp rfl) (Rv.tmp rfl) (fun wN HN => ?_)
                      exact HN.ret (2147483648 + (k.1 * 2 ^ i), true) (Bt.FP.prog (s := k.1) (x := k.2.1) (j := k.2.2) (i := i) (by omega) hp1 hp3 (by omega) (by omega) hq1 (by omega) (Or.inr ⟨by omega, by omega, by omega, rfl, by unfold Bt.sgn Bt.enc; first | (rw [if_pos (by omega), if_pos (by omega)] <;> omega) | (rw [if_pos (by omega), if_neg (by omega)] <;> omega) | (rw [if_neg (by omega), if_pos (by omega)] <;> omega) | (rw [if_neg (by omega), if_neg (by omega)] <;> omega)⟩)) rfl (List.nil_sublist _) rfl
                    · replace hq21 := of_decide_eq_false hq21
                      refine GC.skip ?_
                      refine GE.blockN ?_
                      refine GE.thenN ?_
                      refine GC.seq ?_
                      refine GC.region ?_
                      refine GL.val (Ex.move rfl) (by decide) ?_
                      refine GL.val (Ex.move rfl) (by decide) ?_
                      refine GL.val (v := (.int .i64 ((k.2.1 - ((i : Nat) : Int)) + 150))) (Ex.add rfl rfl (Z := (k.2.1 - ((i : Nat) : Int)) + 150) (w64 (by omega))) (by decide) ?_
                      refine GL.val (v := (.int .u32 ((k.2.1 - ((i : Nat) : Int)) + 150))) (Ex.conv rfl Try.underlying3 Try.underlying23 (Z := (k.2.1 - ((i : Nat) : Int)) + 150) (wu32b (by omega))) (by decide) ?_
                      refine GL.val (v := (.int .u32 (((k.2.1 - ((i : Nat) : Int)) + 150) * 8388608))) (Ex.shl rfl (m := 23) rfl (by decide) (Z := ((k.2.1 - ((i : Nat) : Int)) + 150) * 8388608) (wu32b (by omega))) (by decide) ?_
                      refine GL.val (v := (.int .u32 (2147483648 + (((k.2.1 - ((i : Nat) : Int)) + 150) * 8388608)))) (Ex.bits rfl rfl (by simp) (Z := 2147483648 + (((k.2.1 - ((i : Nat) : Int)) + 150) * 8388608)) (orm 31 (by omega) (by omega) (by decide) (by omega) rfl)) (by decide) ?_
                      refine GL.val (Ex.move rfl) (by decide) ?_
                      refine GL.val (v := (.int .u64 ((k.1 * 2 ^ i) - 8388608))) (Ex.sub' rfl rfl (Z := (k.1 * 2 ^ i) - 8388608) (wu64b (by omega))) (by decide) ?_
                      refine GL.val (v := (.int .u32 ((k.1 * 2 ^ i) - 8388608))) (Ex.conv rfl Try.underlying47 Try.underlying23 (Z := (k.1 * 2 ^ i) - 8388608) (wu32b (by omega))) (by decide) ?_
                      refine GL.val (v := (.int .u32 ((2147483648 + (((k.2.1 - ((i : Nat) : Int)) + 150) * 8388608)) + ((k.1 * 2 ^ i) - 8388608)))) (Ex.bits rfl rfl (by simp) (Z := (2147483648 + (((k.2.1 - ((i : Nat) : Int)) + 150) * 8388608)) + ((k.1 * 2 ^ i) - 8388608)) (orm 23 (by omega) (by omega) (by decide) (by omega) rfl)) (by decide) ?_
                      refine GL.val (Ex.assign rfl) (by decide) ?_
                      refine GL.val (Ex.assign rfl) (by decide) ?_
                      refine GL.nil ?_
                      refine GE.thenN ?_
                      refine GC.ret ?_
                      refine GC.ret2 rfl (Rv.tmp rfl) (Rv.tmp rfl) (fun wN HN => ?_)
                      exact HN.ret ((2147483648 + (((k.2.1 - ((i : Nat) : Int)) + 150) * 8388608)) + ((k.1 * 2 ^ i) - 8388608), true) (Bt.FP.prog (s := k.1) (x := k.2.1) (j := k.2.2) (i := i) (by omega) hp1 hp3 (by omega) (by omega) hq1 (by omega) (Or.inr ⟨by omega, by omega, by omega, rfl, by unfold Bt.sgn Bt.enc; first | (rw [if_pos (by omega), if_pos (by omega)] <;> omega) | (rw [if_pos (by omega), if_neg (by omega)] <;> omega) | (rw [if_neg (by omega), if_pos (by omega)] <;> omega) | (rw [if_neg (by omega), if_neg (by omega)] <;> omega)⟩)) rfl (List.nil_sublist _) rfl
      · refine GL.val (v := (.bool false)) (Ex.cast (Ex.eql rfl rfl) (congrArg Value.bool (decide_eq_false hq3))) (by decide) ?_
        refine GL.val (Ex.move rfl) (by decide) ?_
        refine GL.skipG (tj := 19) rfl rfl rfl (by decide) ?_
        refine GL.skipG (tj := 19) rfl rfl rfl (by decide) ?_
        refine GL.skipG (tj := 19) rfl rfl rfl (by decide) ?_
        refine GL.skipU (tj := 22) rfl rfl (by decide) ?_
        refine GL.skipU (tj := 22) rfl rfl (by decide) ?_
        refine GL.skipG (tj := 19) rfl rfl rfl (by decide) ?_
        refine GL.val (v := (.bool false)) (Ex.pickF rfl rfl) (by decide) ?_
        refine GL.nil ?_
        refine GE.thenN ?_
        refine GC.cond rfl (fun hq22 => by cases hq22) (fun _ => ?_)
        refine GC.exit ?_
        refine GE.thenE ?_
        refine GE.thenE ?_
        refine GE.blockE ?_
        refine GE.thenN ?_
        refine GC.seq ?_
        refine GC.block ?_
        refine GC.loop (σ := Nat) (fun i => (i = 0 ∨ (k.1 * 2 ^ i < 16777216 ∧ -149 ≤ k.2.1 - ((i : Nat) : Int))) ∧ k.1 ≤ k.1 * 2 ^ i ∧ (i = 0 → k.1 * 2 ^ i = k.1)) (fun i => [(0, (.int .i64 n)), (6, (.int .u32 2147483648)), (1, (.int .i64 (k.2.1 - ((i : Nat) : Int)))), (7, (.int .u64 (k.1 * 2 ^ i)))]) (fun i => []) (fun i => (8388608 - k.1 * 2 ^ i).toNat) (0) ⟨Or.inl rfl, by simp, by simp⟩ ((sub_cons rfl ((sub_cons rfl ((sub_cons (congrArg (fun z => some (Value.int .i64 z)) (by simp)) ((sub_cons (congrArg (fun z => some (Value.int .u64 z)) (by simp)) ((sub_nil _)))))))))) ulN (fun i hp => ?_)
        obtain ⟨hq1, hq2, hq3⟩ := hp
        refine GC.seq ?_
        refine GC.seq ?_
        refine GC.region ?_
        refine GL.val (Ex.move rfl) (by decide) ?_
        by_cases hq23 : (k.1 * 2 ^ i) < 8388608
        · refine GL.val (v := (.bool true)) (Ex.cast (Ex.lss rfl rfl) (congrArg Value.bool (decide_eq_true hq23))) (by decide) ?_
          refine GL.val (Ex.move rfl) (by decide) ?_
          refine GL.stepG (tj := 33) rfl rfl (Ex.wp (v := (.int .i64 (k.2.1 - ((i : Nat) : Int)))) (Ex.move rfl) (by decide)) (fun _ _ => ?_)
          refine GL.stepG (tj := 33) rfl rfl (Ex.wp (v := (.bool (decide ((-149) < (k.2.1 - ((i : Nat) : Int)))))) (Ex.gtr rfl rfl) (by decide)) (fun _ _ => ?_)
          refine GL.val (v := (.bool (decide ((-149) < (k.2.1 - ((i : Nat) : Int)))))) (Ex.pickT rfl rfl) (by decide) ?_
          refine GL.nil ?_
          refine GE.thenN ?_
          refine GC.cond rfl (fun hq24 => ?_) (fun hq24 => ?_)
          · replace hq24 := of_decide_eq_true hq24
            refine GC.skip ?_
            refine GE.thenN ?_
            refine GC.block ?_
            refine GC.region ?_
            refine GL.val (Ex.move rfl) (by decide) ?_
            refine GL.val (v := (.int .u64 (k.1 * 2 ^ (i + 1)))) (Ex.mul rfl rfl (Z := k.1 * 2 ^ (i + 1)) (by rw [wu64b (by omega), Bt.pow_step]; omega)) (by decide) ?_
            refine GL.val (Ex.move rfl) (by decide) ?_
            refine GL.val (v := (.int .i64 (k.2.1 - ((i + 1 : Nat) : Int)))) (Ex.sub' rfl rfl (Z := k.2.1 - ((i + 1 : Nat) : Int)) (by rw [w64 (by omega)]; omega)) (by decide) ?_
            refine GL.val (Ex.assign rfl) (by decide) ?_
            refine GL.val (Ex.assign rfl) (by decide) ?_
            refine GL.nil ?_
            refine GE.blockN ?_
            refine GE.thenN ?_
            exact Head.mk (i + 1) ⟨Or.inr ⟨by rw [Bt.pow_step]; omega, by omega⟩, by rw [Bt.pow_step]; omega, by omega⟩ (by rw [Bt.pow_step]; omega) ((sub_cons rfl ((sub_cons rfl ((sub_cons rfl ((sub_cons rfl ((sub_nil _)))))))))) ulN
          · replace hq24 := of_decide_eq_false hq24
            refine GC.exit ?_
            refine GE.thenE ?_
            refine GE.thenE ?_
            refine GE.blockE ?_
            refine GE.thenN ?_
            refine GC.seq ?_
            refine GC.block ?_
            refine GC.seq ?_
            refine GC.region ?_
            refine GL.val (Ex.move rfl) (by decide) ?_
            by_cases hq25 : 16777216 ≤ (k.1 * 2 ^ i)
            · refine GL.val (v := (.bool true)) (Ex.cast (Ex.geq rfl rfl) (congrArg Value.bool (decide_eq_true hq25))) (by decide) ?_
              refine GL.val (Ex.move rfl) (by decide) ?_
              refine GL.skipG (tj := 44) rfl rfl rfl (by decide) ?_
              refine GL.skipG (tj := 44) rfl rfl rfl (by decide) ?_
              refine GL.val (v := (.bool true)) (Ex.pickT rfl rfl) (by decide) ?_
              refine GL.val (Ex.move rfl) (by decide) ?_
              refine GL.skipG (tj := 48) rfl rfl rfl (by decide) ?_
              refine GL.skipG (tj := 48) rfl rfl rfl (by decide) ?_
              refine GL.val (v := (.bool true)) (Ex.pickT rfl rfl) (by decide) ?_
              refine GL.val (Ex.assign rfl) (by decide) ?_
              refine GL.nil ?_
              refine GE.thenN ?_
              refine GC.cond rfl (fun _ => ?_) (fun hq26 => by cases hq26)
              refine GC.seq ?_
              refine GC.region ?_
              refine GL.val (Ex.assign rfl) (by decide) ?_
              refine GL.val (Ex.assign rfl) (by decide) ?_
              refine GL.nil ?_
              refine GE.thenN ?_
              refine GC.ret ?_
              refine GE.blockR ?_
              refine GE.thenR ?_
              refine GC.ret2 rfl (Rv.tmp rfl) (Rv.tmp rfl) (fun wN HN => ?_)
              exact HN.ret (0, false) (Bt.FP.prog (s := k.1) (x := k.2.1) (j := k.2.2) (i := i) (by omega) hp1 hp3 (by omega) (by omega) hq1 (by omega) (Or.inl ⟨by omega, rfl, rfl⟩)) rfl (List.nil_sublist _) rfl
            · refine GL.val (v := (.bool false)) (Ex.cast (Ex.geq rfl rfl) (congrArg Value.bool (decide_eq_false hq25))) (by decide) ?_
              refine GL.val (Ex.move rfl) (by decide) ?_
              refine GL.stepG (tj := 44) rfl rfl (Ex.wp (v := (.int .i64 (k.2.1 - ((i : Nat) : Int)))) (Ex.move rfl) (by decide)) (fun _ _ => ?_)
              by_cases hq27 : (k.2.1 - ((i : Nat) : Int)) < (-149)
              · refine GL.stepG (tj := 44) rfl rfl (Ex.wp (v := (.bool true)) (Ex.cast (Ex.lss rfl rfl) (congrArg Value.bool (decide_eq_true hq27))) (by decide)) (fun _ _ => ?_)
                refine GL.val (v := (.bool true)) (Ex.pickF rfl rfl) (by decide) ?_
                refine GL.val (Ex.move rfl) (by decide) ?_
                refine GL.skipG (tj := 48) rfl rfl rfl (by decide) ?_
                refine GL.skipG (tj := 48) rfl rfl rfl (by decide) ?_
                refine GL.val (v := (.bool true)) (Ex.pickT rfl rfl) (by decide) ?_
                refine GL.val (Ex.assign rfl) (by decide) ?_
                refine GL.nil ?_
                refine GE.thenN ?_
                refine GC.cond rfl (fun _ => ?_) (fun hq28 => by cases hq28)
                refine GC.seq ?_
                refine GC.region ?_
                refine GL.val (Ex.assign rfl) (by decide) ?_
                refine GL.val (Ex.assign rfl) (by decide) ?_
                refine GL.nil ?_
                refine GE.thenN ?_
                refine GC.ret ?_
                refine GE.blockR ?_
                refine GE.thenR ?_
                refine GC.ret2 rfl (Rv.tmp rfl) (Rv.tmp rfl) (fun wN HN => ?_)
                exact HN.ret (0, false) (Bt.FP.prog (s := k.1) (x := k.2.1) (j := k.2.2) (i := i) (by omega) hp1 hp3 (by omega) (by omega) hq1 (by omega) (Or.inl ⟨by omega, rfl, rfl⟩)) rfl (List.nil_sublist _) rfl
              · refine GL.stepG (tj := 44) rfl rfl (Ex.wp (v := (.bool false)) (Ex.cast (Ex.lss rfl rfl) (congrArg Value.bool (decide_eq_false hq27))) (by decide)) (fun _ _ => ?_)
                refine GL.val (v := (.bool false)) (Ex.pickF rfl rfl) (by decide) ?_
                refine GL.val (Ex.move rfl) (by decide) ?_
                refine GL.stepG (tj := 48) rfl rfl (Ex.wp (v := (.int .i64 (k.2.1 - ((i : Nat) : Int)))) (Ex.move rfl) (by decide)) (fun _ _ => ?_)
                refine GL.stepG (tj := 48) rfl rfl (Ex.wp (v := (.bool (decide (104 < (k.2.1 - ((i : Nat) : Int)))))) (Ex.gtr rfl rfl) (by decide)) (fun _ _ => ?_)
                refine GL.val (v := (.bool (decide (104 < (k.2.1 - ((i : Nat) : Int)))))) (Ex.pickF rfl rfl) (by decide) ?_
                refine GL.val (Ex.assign rfl) (by decide) ?_
                refine GL.nil ?_
                refine GE.thenN ?_
                refine GC.cond rfl (fun hq29 => ?_) (fun hq29 => ?_)
                · replace hq29 := of_decide_eq_true hq29
                  refine GC.seq ?_
                  refine GC.region ?_
                  refine GL.val (Ex.assign rfl) (by decide) ?_
                  refine GL.val (Ex.assign rfl) (by decide) ?_
                  refine GL.nil ?_
                  refine GE.thenN ?_
                  refine GC.ret ?_
                  refine GE.blockR ?_
                  refine GE.thenR ?_
                  refine GC.ret2 rfl (Rv.tmp rfl) (Rv.tmp rfl) (fun wN HN => ?_)
                  exact HN.ret (0, false) (Bt.FP.prog (s := k.1) (x := k.2.1) (j := k.2.2) (i := i) (by omega) hp1 hp3 (by omega) (by omega) hq1 (by omega) (Or.inl ⟨by omega, rfl, rfl⟩)) rfl (List.nil_sublist _) rfl
                · replace hq29 := of_decide_eq_false hq29
                  refine GC.seq ?_
                  refine GC.region ?_
                  refine GL.val (Ex.move rfl) (by decide) ?_
                  refine GL.val (v := (.bool (decide ((k.1 * 2 ^ i) < 8388608)))) (Ex.lss rfl rfl) (by decide) ?_
                  refine GL.val (Ex.assign rfl) (by decide) ?_
                  refine GL.nil ?_
                  refine GE.thenN ?_
                  refine GC.cond rfl (fun hq30 => ?_) (fun hq30 => ?_)
                  · replace hq30 := of_decide_eq_true hq30
                    refine GC.seq ?_
                    refine GC.region ?_
                    refine GL.val (Ex.move rfl) (by decide) ?_
                    refine GL.val (Ex.move rfl) (by decide) ?_
                    refine GL.val (v := (.int .u32 (k.1 * 2 ^ i))) (Ex.conv rfl Try.underlying47 Try.underlying23 (Z := k.1 * 2 ^ i) (wu32b (by omega))) (by decide) ?_
                    refine GL.val (v := (.int .u32 (2147483648 + (k.1 * 2 ^ i)))) (Ex.bits rfl rfl (by simp) (Z := 2147483648 + (k.1 * 2 ^ i)) (orm 31 (by omega) (by omega) (by decide) (by omega) rfl)) (by decide) ?_
                    refine GL.val (Ex.assign rfl) (by decide) ?_
                    refine GL.val (Ex.assign rfl) (by decide) ?_
                    refine GL.nil ?_
                    refine GE.thenN ?_
                    refine GC.ret ?_
                    refine GE.blockR ?_
                    refine GE.thenR ?_
                    refine GC.ret2 rfl (Rv.tmp rfl) (Rv.tmp rfl) (fun wN HN => ?_)
                    exact HN.ret (2147483648 + (k.1 * 2 ^ i), true) (Bt.FP.prog (s := k.1) (x := k.2.1) (j := k.2.2) (i := i) (by omega) hp1 hp3 (by omega) (by omega) hq1 (by omega) (Or.inr ⟨by omega, by omega, by omega, rfl, by unfold Bt.sgn Bt.enc; first | (rw [if_pos (by omega), if_pos (by omega)] <;> omega) | (rw [if_pos (by omega), if_neg (by omega)] <;> omega) | (rw [if_neg (by omega), if_pos (by omega)] <;> omega) | (rw [if_neg (by omega), if_neg (by omega)] <;> omega)⟩)) rfl (List.nil_sublist _) rfl
                  · replace hq30 := of_decide_eq_false hq30
                    refine GC.skip ?_
                    refine GE.blockN ?_
                    refine GE.thenN ?_
                    refine GC.seq ?_
                    refine GC.region ?_
                    refine GL.val (Ex.move rfl) (by decide) ?_
                    refine GL.val (Ex.move rfl) (by decide) ?_
                    refine GL.val (v := (.int .i64 ((k.2.1 - ((i : Nat) : Int)) + 150))) (Ex.add rfl rfl (Z := (k.2.1 - ((i : Nat) : Int)) + 150) (w64 (by omega))) (by decide) ?_
                    refine GL.val (v := (.int .u32 ((k.2.1 - ((i : Nat) : Int)) + 150))) (Ex.conv rfl Try.underlying3 Try.underlying23 (Z := (k.2.1 - ((i : Nat) : Int)) + 150) (wu32b (by omega))) (by decide) ?_
                    refine GL.val (v := (.int .u32 (((k.2.1 - ((i : Nat) : Int)) + 150) * 8388608))) (Ex.shl rfl (m := 23) rfl (by decide) (Z := ((k.2.1 - ((i : Nat) : Int)) + 150) * 8388608) (wu32b (by omega))) (by decide) ?_
                    refine GL.val (v := (.int .u32 (2147483648 + (((k.2.1 - ((i : Nat) : Int)) + 150) * 8388608)))) (Ex.bits rfl rfl (by simp) (Z := 2147483648 + (((k.2.1 - ((i : Nat) : Int)) + 150) * 8388608)) (orm 31 (by omega) (by omega) (by decide) (by omega) rfl)) (by decide) ?_
                    refine GL.val (Ex.move rfl) (by decide) ?_
                    refine GL.val (v := (.int .u64 ((k.1 * 2 ^ i) - 8388608))) (Ex.sub' rfl rfl (Z := (k.1 * 2 ^ i) - 8388608) (wu64b (by omega))) (by decide) ?_
                    refine GL.val (v := (.int .u32 ((k.1 * 2 ^ i) - 8388608))) (Ex.conv rfl Try.underlying47 Try.underlying23 (Z := (k.1 * 2 ^ i) - 8388608) (wu32b (by omega))) (by decide) ?_
                    refine GL.val (v := (.int .u32 ((2147483648 + (((k.2.1 - ((i : Nat) : Int)) + 150) * 8388608)) + ((k.1 * 2 ^ i) - 8388608)))) (Ex.bits rfl rfl (by simp) (Z := (2147483648 + (((k.2.1 - ((i : Nat) : Int)) + 150) * 8388608)) + ((k.1 * 2 ^ i) - 8388608)) (orm 23 (by omega) (by omega) (by decide) (by omega) rfl)) (by decide) ?_
                    refine GL.val (Ex.assign rfl) (by decide) ?_
                    refine GL.val (Ex.assign rfl) (by decide) ?_
                    refine GL.nil ?_
                    refine GE.thenN ?_
                    refine GC.ret ?_
                    refine GC.ret2 rfl (Rv.tmp rfl) (Rv.tmp rfl) (fun wN HN => ?_)
                    exact HN.ret ((2147483648 + (((k.2.1 - ((i : Nat) : Int)) + 150) * 8388608)) + ((k.1 * 2 ^ i) - 8388608), true) (Bt.FP.prog (s := k.1) (x := k.2.1) (j := k.2.2) (i := i) (by omega) hp1 hp3 (by omega) (by omega) hq1 (by omega) (Or.inr ⟨by omega, by omega, by omega, rfl, by unfold Bt.sgn Bt.enc; first | (rw [if_pos (by omega), if_pos (by omega)] <;> omega) | (rw [if_pos (by omega), if_neg (by omega)] <;> omega) | (rw [if_neg (by omega), if_pos (by omega)] <;> omega) | (rw [if_neg (by omega), if_neg (by omega)] <;> omega)⟩)) rfl (List.nil_sublist _) rfl
        · refine GL.val (v := (.bool false)) (Ex.cast (Ex.lss rfl rfl) (congrArg Value.bool (decide_eq_false hq23))) (by decide) ?_
          refine GL.val (Ex.move rfl) (by decide) ?_
          refine GL.skipG (tj := 33) rfl rfl rfl (by decide) ?_
          refine GL.skipG (tj := 33) rfl rfl rfl (by decide) ?_
          refine GL.val (v := (.bool false)) (Ex.pickF rfl rfl) (by decide) ?_
          refine GL.nil ?_
          refine GE.thenN ?_
          refine GC.cond rfl (fun hq31 => by cases hq31) (fun _ => ?_)
          refine GC.exit ?_
          refine GE.thenE ?_
          refine GE.thenE ?_
          refine GE.blockE ?_
          refine GE.thenN ?_
          refine GC.seq ?_
          refine GC.block ?_
          refine GC.seq ?_
          refine GC.region ?_
          refine GL.val (Ex.move rfl) (by decide) ?_
          by_cases hq32 : 16777216 ≤ (k.1 * 2 ^ i)
          · refine GL.val (v := (.bool true)) (Ex.cast (Ex.geq rfl rfl) (congrArg Value.bool (decide_eq_true hq32))) (by decide) ?_
            refine GL.val (Ex.move rfl) (by decide) ?_
            refine GL.skipG (tj := 44) rfl rfl rfl (by decide) ?_
            refine GL.skipG (tj := 44) rfl rfl rfl (by decide) ?_
            refine GL.val (v := (.bool true)) (Ex.pickT rfl rfl) (by decide) ?_
            refine GL.val (Ex.move rfl) (by decide) ?_
            refine GL.skipG (tj := 48) rfl rfl rfl (by decide) ?_
            refine GL.skipG (tj := 48) rfl rfl rfl (by decide) ?_
            refine GL.val (v := (.bool true)) (Ex.pickT rfl rfl) (by decide) ?_
            refine GL.val (Ex.assign rfl) (by decide) ?_
            refine GL.nil ?_
            refine GE.thenN ?_
            refine GC.cond rfl (fun _ => ?_) (fun hq33 => by cases hq33)
            refine GC.seq ?_
            refine GC.region ?_
            refine GL.val (Ex.assign rfl) (by decide) ?_
            refine GL.val (Ex.assign rfl) (by decide) ?_
            refine GL.nil ?_
            refine GE.thenN ?_
            refine GC.ret ?_
            refine GE.blockR ?_
            refine GE.thenR ?_
            refine GC.ret2 rfl (Rv.tmp rfl) (Rv.tmp rfl) (fun wN HN => ?_)
            exact HN.ret (0, false) (Bt.FP.prog (s := k.1) (x := k.2.1) (j := k.2.2) (i := i) (by omega) hp1 hp3 (by omega) (by omega) hq1 (by omega) (Or.inl ⟨by omega, rfl, rfl⟩)) rfl (List.nil_sublist _) rfl
          · refine GL.val (v := (.bool false)) (Ex.cast (Ex.geq rfl rfl) (congrArg Value.bool (decide_eq_false hq32))) (by decide) ?_
            refine GL.val (Ex.move rfl) (by decide) ?_
            refine GL.stepG (tj := 44) rfl rfl (Ex.wp (v := (.int .i64 (k.2.1 - ((i : Nat) : Int)))) (Ex.move rfl) (by decide)) (fun _ _ => ?_)
            by_cases hq34 : (k.2.1 - ((i : Nat) : Int)) < (-149)
            · refine GL.stepG (tj := 44) rfl rfl (Ex.wp (v := (.bool true)) (Ex.cast (Ex.lss rfl rfl) (congrArg Value.bool (decide_eq_true hq34))) (by decide)) (fun _ _ => ?_)
              refine GL.val (v := (.bool true)) (Ex.pickF rfl rfl) (by decide) ?_
              refine GL.val (Ex.move rfl) (by decide) ?_
              refine GL.skipG (tj := 48) rfl rfl rfl (by decide) ?_
              refine GL.skipG (tj := 48) rfl rfl rfl (by decide) ?_
              refine GL.val (v := (.bool true)) (Ex.pickT rfl rfl) (by decide) ?_
              refine GL.val (Ex.assign rfl) (by decide) ?_
              refine GL.nil ?_
              refine GE.thenN ?_
              refine GC.cond rfl (fun _ => ?_) (fun hq35 => by cases hq35)
              refine GC.seq ?_
              refine GC.region ?_
              refine GL.val (Ex.assign rfl) (by decide) ?_
              refine GL.val (Ex.assign rfl) (by decide) ?_
              refine GL.nil ?_
              refine GE.thenN ?_
              refine GC.ret ?_
              refine GE.blockR ?_
              refine GE.thenR ?_
              refine GC.ret2 rfl (Rv.tmp rfl) (Rv.tmp rfl) (fun wN HN => ?_)
              exact HN.ret (0, false) (Bt.FP.prog (s := k.1) (x := k.2.1) (j := k.2.2) (i := i) (by omega) hp1 hp3 (by omega) (by omega) hq1 (by omega) (Or.inl ⟨by omega, rfl, rfl⟩)) rfl (List.nil_sublist _) rfl
            · refine GL.stepG (tj := 44) rfl rfl (Ex.wp (v := (.bool false)) (Ex.cast (Ex.lss rfl rfl) (congrArg Value.bool (decide_eq_false hq34))) (by decide)) (fun _ _ => ?_)
              refine GL.val (v := (.bool false)) (Ex.pickF rfl rfl) (by decide) ?_
              refine GL.val (Ex.move rfl) (by decide) ?_
              refine GL.stepG (tj := 48) rfl rfl (Ex.wp (v := (.int .i64 (k.2.1 - ((i : Nat) : Int)))) (Ex.move rfl) (by decide)) (fun _ _ => ?_)
              refine GL.stepG (tj := 48) rfl rfl (Ex.wp (v := (.bool (decide (104 < (k.2.1 - ((i : Nat) : Int)))))) (Ex.gtr rfl rfl) (by decide)) (fun _ _ => ?_)
              refine GL.val (v := (.bool (decide (104 < (k.2.1 - ((i : Nat) : Int)))))) (Ex.pickF rfl rfl) (by decide) ?_
              refine GL.val (Ex.assign rfl) (by decide) ?_
              refine GL.nil ?_
              refine GE.thenN ?_
              refine GC.cond rfl (fun hq36 => ?_) (fun hq36 => ?_)
              · replace hq36 := of_decide_eq_true hq36
                refine GC.seq ?_
                refine GC.region ?_
                refine GL.val (Ex.assign rfl) (by decide) ?_
                refine GL.val (Ex.assign rfl) (by decide) ?_
                refine GL.nil ?_
                refine GE.thenN ?_
                refine GC.ret ?_
                refine GE.blockR ?_
                refine GE.thenR ?_
                refine GC.ret2 rfl (Rv.tmp rfl) (Rv.tmp rfl) (fun wN HN => ?_)
                exact HN.ret (0, false) (Bt.FP.prog (s := k.1) (x := k.2.1) (j := k.2.2) (i := i) (by omega) hp1 hp3 (by omega) (by omega) hq1 (by omega) (Or.inl ⟨by omega, rfl, rfl⟩)) rfl (List.nil_sublist _) rfl
              · replace hq36 := of_decide_eq_false hq36
                refine GC.seq ?_
                refine GC.region ?_
                refine GL.val (Ex.move rfl) (by decide) ?_
                refine GL.val (v := (.bool (decide ((k.1 * 2 ^ i) < 8388608)))) (Ex.lss rfl rfl) (by decide) ?_
                refine GL.val (Ex.assign rfl) (by decide) ?_
                refine GL.nil ?_
                refine GE.thenN ?_
                refine GC.cond rfl (fun hq37 => ?_) (fun hq37 => ?_)
                · replace hq37 := of_decide_eq_true hq37
                  refine GC.seq ?_
                  refine GC.region ?_
                  refine GL.val (Ex.move rfl) (by decide) ?_
                  refine GL.val (Ex.move rfl) (by decide) ?_
                  refine GL.val (v := (.int .u32 (k.1 * 2 ^ i))) (Ex.conv rfl Try.underlying47 Try.underlying23 (Z := k.1 * 2 ^ i) (wu32b (by omega))) (by decide) ?_
                  refine GL.val (v := (.int .u32 (2147483648 + (k.1 * 2 ^ i)))) (Ex.bits rfl rfl (by simp) (Z := 2147483648 + (k.1 * 2 ^ i)) (orm 31 (by omega) (by omega) (by decide) (by omega) rfl)) (by decide) ?_
                  refine GL.val (Ex.assign rfl) (by decide) ?_
                  refine GL.val (Ex.assign rfl) (by decide) ?_
                  refine GL.nil ?_
                  refine GE.thenN ?_
                  refine GC.ret ?_
                  refine GE.blockR ?_
                  refine GE.thenR ?_
                  refine GC.ret2 rfl (Rv.tmp rfl) (Rv.tmp rfl) (fun wN HN => ?_)
                  exact HN.ret (2147483648 + (k.1 * 2 ^ i), true) (Bt.FP.prog (s := k.1) (x := k.2.1) (j := k.2.2) (i := i) (by omega) hp1 hp3 (by omega) (by omega) hq1 (by omega) (Or.inr ⟨by omega, by omega, by omega, rfl, by unfold Bt.sgn Bt.enc; first | (rw [if_pos (by omega), if_pos (by omega)] <;> omega) | (rw [if_pos (by omega), if_neg (by omega)] <;> omega) | (rw [if_neg (by omega), if_pos (by omega)] <;> omega) | (rw [if_neg (by omega), if_neg (by omega)] <;> omega)⟩)) rfl (List.nil_sublist _) rfl
                · replace hq37 := of_decide_eq_false hq37
                  refine GC.skip ?_
                  refine GE.blockN ?_
                  refine GE.thenN ?_
                  refine GC.seq ?_
                  refine GC.region ?_
                  refine GL.val (Ex.move rfl) (by decide) ?_
                  refine GL.val (Ex.move rfl) (by decide) ?_
                  refine GL.val (v := (.int .i64 ((k.2.1 - ((i : Nat) : Int)) + 150))) (Ex.add rfl rfl (Z := (k.2.1 - ((i : Nat) : Int)) + 150) (w64 (by omega))) (by decide) ?_
                  refine GL.val (v := (.int .u32 ((k.2.1 - ((i : Nat) : Int)) + 150))) (Ex.conv rfl Try.underlying3 Try.underlying23 (Z := (k.2.1 - ((i : Nat) : Int)) + 150) (wu32b (by omega))) (by decide) ?_
                  refine GL.val (v := (.int .u32 (((k.2.1 - ((i : Nat) : Int)) + 150) * 8388608))) (Ex.shl rfl (m := 23) rfl (by decide) (Z := ((k.2.1 - ((i : Nat) : Int)) + 150) * 8388608) (wu32b (by omega))) (by decide) ?_
                  refine GL.val (v := (.int .u32 (2147483648 + (((k.2.1 - ((i : Nat) : Int)) + 150) * 8388608)))) (Ex.bits rfl rfl (by simp) (Z := 2147483648 + (((k.2.1 - ((i : Nat) : Int)) + 150) * 8388608)) (orm 31 (by omega) (by omega) (by decide) (by omega) rfl)) (by decide) ?_
                  refine GL.val (Ex.move rfl) (by decide) ?_
                  refine GL.val (v := (.int .u64 ((k.1 * 2 ^ i) - 8388608))) (Ex.sub' rfl rfl (Z := (k.1 * 2 ^ i) - 8388608) (wu64b (by omega))) (by decide) ?_
                  refine GL.val (v := (.int .u32 ((k.1 * 2 ^ i) - 8388608))) (Ex.conv rfl Try.underlying47 Try.underlying23 (Z := (k.1 * 2 ^ i) - 8388608) (wu32b (by omega))) (by decide) ?_
                  refine GL.val (v := (.int .u32 ((2147483648 + (((k.2.1 - ((i : Nat) : Int)) + 150) * 8388608)) + ((k.1 * 2 ^ i) - 8388608)))) (Ex.bits rfl rfl (by simp) (Z := (2147483648 + (((k.2.1 - ((i : Nat) : Int)) + 150) * 8388608)) + ((k.1 * 2 ^ i) - 8388608)) (orm 23 (by omega) (by omega) (by decide) (by omega) rfl)) (by decide) ?_
                  refine GL.val (Ex.assign rfl) (by decide) ?_
                  refine GL.val (Ex.assign rfl) (by decide) ?_
                  refine GL.nil ?_
                  refine GE.thenN ?_
                  refine GC.ret ?_
                  refine GC.ret2 rfl (Rv.tmp rfl) (Rv.tmp rfl) (fun wN HN => ?_)
                  exact HN.ret ((2147483648 + (((k.2.1 - ((i : Nat) : Int)) + 150) * 8388608)) + ((k.1 * 2 ^ i) - 8388608), true) (Bt.FP.prog (s := k.1) (x := k.2.1) (j := k.2.2) (i := i) (by omega) hp1 hp3 (by omega) (by omega) hq1 (by omega) (Or.inr ⟨by omega, by omega, by omega, rfl, by unfold Bt.sgn Bt.enc; first | (rw [if_pos (by omega), if_pos (by omega)] <;> omega) | (rw [if_pos (by omega), if_neg (by omega)] <;> omega) | (rw [if_neg (by omega), if_pos (by omega)] <;> omega) | (rw [if_neg (by omega), if_neg (by omega)] <;> omega)⟩)) rfl (List.nil_sublist _) rfl
    · replace hq2 := of_decide_eq_false hq2
      refine GC.skip ?_
      refine GE.thenN ?_
      refine GC.seq ?_
      refine GC.block ?_
      refine GC.loop (σ := Int × Int × Nat) (fun k => 0 < k.1 ∧ k.1 ≤ 9223372036854775808 ∧ (n.natAbs : Int) = k.1 * 2 ^ k.2.2 ∧ (-9223372036854775808 ≤ k.2.1 ∧ k.2.1 ≤ 9223372036854775807) ∧ (k.2.1 = e + k.2.2 ∨ k.2.1 = e + k.2.2 - 18446744073709551616)) (fun k => [(0, (.int .i64 n)), (6, (.int .u32 0)), (1, (.int .i64 k.2.1)), (7, (.int .u64 k.1))]) (fun k => []) (fun k => k.1.toNat) ((n % 18446744073709551616, e, 0)) ⟨by dsimp only; omega, by dsimp only; omega, by dsimp only; simp; omega, by dsimp only; omega, by dsimp only; omega⟩ ((sub_cons rfl ((sub_cons rfl ((sub_cons rfl ((sub_cons rfl ((sub_nil _)))))))))) ulN (fun k hp => ?_)
      obtain ⟨hp1, hp2, hp3, hp4, hp5⟩ := hp; have hj : k.2.2 < 64 := Bt.pow_le 64 hp1 hp3 (by omega)
      refine GC.seq ?_
      refine GC.seq ?_
      refine GC.region ?_
      refine GL.val (Ex.move rfl) (by decide) ?_
      refine GL.val (v := (.int .u64 (k.1 % 2))) (Ex.rem rfl rfl (Z := k.1 % 2) (by omega) (rem64 (by omega) (by omega))) (by decide) ?_
      by_cases hq38 : (k.1 % 2) = 0
      · refine GL.val (v := (.bool true)) (Ex.cast (Ex.eql rfl rfl) (congrArg Value.bool (decide_eq_true hq38))) (by decide) ?_
        refine GL.val (Ex.move rfl) (by decide) ?_
        refine GL.stepG (tj := 19) rfl rfl (Ex.wp (v := (.int .u64 k.1)) (Ex.move rfl) (by decide)) (fun _ _ => ?_)
        by_cases hq39 : 16777216 ≤ k.1
        · refine GL.stepG (tj := 19) rfl rfl (Ex.wp (v := (.bool true)) (Ex.cast (Ex.geq rfl rfl) (congrArg Value.bool (decide_eq_true hq39))) (by decide)) (fun _ _ => ?_)
          refine GL.stepG (tj := 19) rfl rfl (Ex.wp (v := (.bool true)) (Ex.move rfl) (by decide)) (fun _ _ => ?_)
          refine GL.skipG (tj := 22) rfl rfl rfl (by decide) ?_
          refine GL.skipG (tj := 22) rfl rfl rfl (by decide) ?_
          refine GL.stepG (tj := 19) rfl rfl (Ex.wp (v := (.bool true)) (Ex.pickT rfl rfl) (by decide)) (fun _ _ => ?_)
          refine GL.val (v := (.bool true)) (Ex.pickT rfl rfl) (by decide) ?_
          refine GL.nil ?_
          refine GE.thenN ?_
          refine GC.cond rfl (fun _ => ?_) (fun hq40 => by cases hq40)
          refine GC.skip ?_
          refine GE.thenN ?_
          refine GC.block ?_
          refine GC.region ?_
          refine GL.val (Ex.move rfl) (by decide) ?_
          refine GL.val (v := (.int .u64 (k.1 / 2))) (Ex.quo rfl rfl (Z := k.1 / 2) (by omega) (quoU64 (by omega) (by omega) (by omega))) (by decide) ?_
          refine GL.val (Ex.move rfl) (by decide) ?_
          refine GL.val (v := (.int .i64 (Bt.inc k.2.1))) (Ex.add rfl rfl (Z := Bt.inc k.2.1) (Bt.inc_eq hp4)) (by decide) ?_
          refine GL.val (Ex.assign rfl) (by decide) ?_
          refine GL.val (Ex.assign rfl) (by decide) ?_
          refine GL.nil ?_
          refine GE.blockN ?_
          refine GE.thenN ?_
          exact Head.mk (k.1 / 2, Bt.inc k.2.1, k.2.2 + 1) (by have hj2 : k.2.2 + 1 < 64 := Bt.pow_le 64 (by omega) (Bt.half_step hp3 (by omega)) (by omega); exact ⟨by dsimp only; omega, by dsimp only; omega, Bt.half_step hp3 (by omega), Bt.inc_or hp4 he.2 (by omega) hp5⟩) (by dsimp only; omega) ((sub_cons rfl ((sub_cons rfl ((sub_cons rfl ((sub_cons rfl ((sub_nil _)))))))))) ulN
        · refine GL.stepG (tj := 19) rfl rfl (Ex.wp (v := (.bool false)) (Ex.cast (Ex.geq rfl rfl) (congrArg Value.bool (decide_eq_false hq39))) (by decide)) (fun _ _ => ?_)
          refine GL.stepG (tj := 19) rfl rfl (Ex.wp (v := (.bool false)) (Ex.move rfl) (by decide)) (fun _ _ => ?_)
          refine GL.stepG (tj := 22) rfl rfl (Ex.wp (v := (.int .i64 k.2.1)) (Ex.move rfl) (by decide)) (fun _ _ => ?_)
          refine GL.stepG (tj := 22) rfl rfl (Ex.wp (v := (.bool (decide (k.2.1 < (-149))))) (Ex.lss rfl rfl) (by decide)) (fun _ _ => ?_)
          refine GL.stepG (tj := 19) rfl rfl (Ex.wp (v := (.bool (decide (k.2.1 < (-149))))) (Ex.pickF rfl rfl) (by decide)) (fun _ _ => ?_)
          refine GL.val (v := (.bool (decide (k.2.1 < (-149))))) (Ex.pickT rfl rfl) (by decide) ?_
          refine GL.nil ?_
          refine GE.thenN ?_
          refine GC.cond rfl (fun hq41 => ?_) (fun hq41 => ?_)
          · replace hq41 := of_decide_eq_true hq41
            refine GC.skip ?_
            refine GE.thenN ?_
            refine GC.block ?_
            refine GC.region ?_
            refine GL.val (Ex.move rfl) (by decide) ?_
            refine GL.val (v := (.int .u64 (k.1 / 2))) (Ex.quo rfl rfl (Z := k.1 / 2) (by omega) (quoU64 (by omega) (by omega) (by omega))) (by decide) ?_
            refine GL.val (Ex.move rfl) (by decide) ?_
            refine GL.val (v := (.int .i64 (Bt.inc k.2.1))) (Ex.add rfl rfl (Z := Bt.inc k.2.1) (Bt.inc_eq hp4)) (by decide) ?_
            refine GL.val (Ex.assign rfl) (by decide) ?_
            refine GL.val (Ex.assign rfl) (by decide) ?_
            refine GL.nil ?_
            refine GE.blockN ?_
            refine GE.thenN ?_
            exact Head.mk (k.1 / 2, Bt.inc k.2.1, k.2.2 + 1) (by have hj2 : k.2.2 + 1 < 64 := Bt.pow_le 64 (by omega) (Bt.half_step hp3 (by omega)) (by omega); exact ⟨by dsimp only; omega, by dsimp only; omega, Bt.half_step hp3 (by omega), Bt.inc_or hp4 he.2 (by omega) hp5⟩) (by dsimp only; omega) ((sub_cons rfl ((sub_cons rfl ((sub_cons rfl ((sub_cons rfl ((sub_nil _)))))))))) ulN
          · replace hq41 := of_decide_eq_false hq41
            refine GC.exit ?_
            refine GE.thenE ?_
            refine GE.thenE ?_
            refine GE.blockE ?_
            refine GE.thenN ?_
            refine GC.seq ?_
            refine GC.block ?_
            refine GC.loop (σ := Nat) (fun i => (i = 0 ∨ (k.1 * 2 ^ i < 16777216 ∧ -149 ≤ k.2.1 - ((i : Nat) : Int))) ∧ k.1 ≤ k.1 * 2 ^ i ∧ (i = 0 → k.1 * 2 ^ i = k.1)) (fun i => [(0, (.int .i64 n)), (6, (.int .u32 0)), (1, (.int .i64 (k.2.1 - ((i : Nat) : Int)))), (7, (.int .u64 (k.1 * 2 ^ i)))]) (fun i => []) (fun i => (8388608 - k.1 * 2 ^ i).toNat) (0) ⟨Or.inl rfl, by simp, by simp⟩ ((sub_cons rfl ((sub_cons rfl ((sub_cons (congrArg (fun z => some (Value.int .i64 z)) (by simp)) ((sub_cons (congrArg (fun z => some (Value.int .u64 z)) (by simp)) ((sub_nil _)))))))))) ulN (fun i hp => ?_)
            obtain ⟨hq1, hq2, hq3⟩ := hp
            refine GC.seq ?_
            refine GC.seq ?_
            refine GC.region ?_
            refine GL.val (Ex.move rfl) (by decide) ?_
            by_cases hq42 : (k.1 * 2 ^ i) < 8388608
            · refine GL.val (v := (.bool true)) (Ex.cast (Ex.lss rfl rfl) (congrArg Value.bool (decide_eq_true hq42))) (by decide) ?_
              refine GL.val (Ex.move rfl) (by decide) ?_
              refine GL.stepG (tj := 33) rfl rfl (Ex.wp (v := (.int .i64 (k.2.1 - ((i : Nat) : Int)))) (Ex.move rfl) (by decide)) (fun _ _ => ?_)
              refine GL.stepG (tj := 33) rfl rfl (Ex.wp (v := (.bool (decide ((-149) < (k.2.1 - ((i : Nat) : Int)))))) (Ex.gtr rfl rfl) (by decide)) (fun _ _ => ?_)
              refine GL.val (v := (.bool (decide ((-149) < (k.2.1 - ((i : Nat) : Int)))))) (Ex.pickT rfl rfl) (by decide) ?_
              refine GL.nil ?_
              refine GE.thenN ?_
              refine GC.cond rfl (fun hq43 => ?_) (fun hq43 => ?_)
              · replace hq43 := of_decide_eq_true hq43
                refine GC.skip ?_
                refine GE.thenN ?_
                refine GC.block ?_
                refine GC.region ?_
                refine GL.val (Ex.move rfl) (by decide) ?_
                refine GL.val (v := (.int .u64 (k.1 * 2 ^ (i + 1)))) (Ex.mul rfl rfl (Z := k.1 * 2 ^ (i + 1)) (by rw [wu64b (by omega), Bt.pow_step]; omega)) (by decide) ?_
                refine GL.val (Ex.move rfl) (by decide) ?_
                refine GL.val (v := (.int .i64 (k.2.1 - ((i + 1 : Nat) : Int)))) (Ex.sub' rfl rfl (Z := k.2.1 - ((i + 1 : Nat) : Int)) (by rw [w64 (by omega)]; omega)) (by decide) ?_
                refine GL.val (Ex.assign rfl) (by decide) ?_
                refine GL.val (Ex.assign rfl) (by decide) ?_
                refine GL.nil ?_
                refine GE.blockN ?_
                refine GE.thenN ?_
                exact Head.mk (i + 1) ⟨Or.inr ⟨by rw [Bt.pow_step]; omega, by omega⟩, by rw [Bt.pow_step]; omega, by omega⟩ (by rw [Bt.pow_step]; omega) ((sub_cons rfl ((sub_cons rfl ((sub_cons rfl ((sub_cons rfl ((sub_nil _)))))))))) ulN
              · replace hq43 := of_decide_eq_false hq43
                refine GC.exit ?_
                refine GE.thenE ?_
                refine GE.thenE ?_
                refine GE.blockE ?_
                refine GE.thenN ?_
                refine GC.seq ?_
                refine GC.block ?_
                refine GC.seq ?_
                refine GC.region ?_
                refine GL.val (Ex.move rfl) (by decide) ?_
                by_cases hq44 : 16777216 ≤ (k.1 * 2 ^ i)
                · refine GL.val (v := (.bool true)) (Ex.cast (Ex.geq rfl rfl) (congrArg Value.bool (decide_eq_true hq44))) (by decide) ?_
                  refine GL.val (Ex.move rfl) (by decide) ?_
                  refine GL.skipG (tj := 44) rfl rfl rfl (by decide) ?_
                  refine GL.skipG (tj := 44) rfl rfl rfl (by decide) ?_
                  refine GL.val (v := (.bool true)) (Ex.pickT rfl rfl) (by decide) ?_
                  refine GL.val (Ex.move rfl) (by decide) ?_
                  refine GL.skipG (tj := 48) rfl rfl rfl (by decide) ?_
                  refine GL.skipG (tj := 48) rfl rfl rfl (by decide) ?_
                  refine GL.val (v := (.bool true)) (Ex.pickT rfl rfl) (by decide) ?_
                  refine GL.val (Ex.assign rfl) (by decide) ?_
                  refine GL.nil ?_
                  refine GE.thenN ?_
                  refine GC.cond rfl (fun _ => ?_) (fun hq45 => by cases hq45)
                  refine GC.seq ?_
                  refine GC.region ?_
                  refine GL.val (Ex.assign rfl) (by decide) ?_
                  refine GL.val (Ex.assign rfl) (by decide) ?_
                  refine GL.nil ?_
                  refine GE.thenN ?_
                  refine GC.ret ?_
                  refine GE.blockR ?_
                  refine GE.thenR ?_
                  refine GC.ret2 rfl (Rv.tmp rfl) (Rv.tmp rfl) (fun wN HN => ?_)
                  exact HN.ret (0, false) (Bt.FP.prog (s := k.1) (x := k.2.1) (j := k.2.2) (i := i) (by omega) hp1 hp3 (by omega) (by omega) hq1 (by omega) (Or.inl ⟨by omega, rfl, rfl⟩)) rfl (List.nil_sublist _) rfl
                · refine GL.val (v := (.bool false)) (Ex.cast (Ex.geq rfl rfl) (congrArg Value.bool (decide_eq_false hq44))) (by decide) ?_
                  refine GL.val (Ex.move rfl) (by decide) ?_
                  refine GL.stepG (tj := 44) rfl rfl (Ex.wp (v := (.int .i64 (k.2.1 - ((i : Nat) : Int)))) (Ex.move rfl) (by decide)) (fun _ _ => ?_)
                  by_cases hq46 : (k.2.1 - ((i : Nat) : Int)) < (-149)
                  · refine GL.stepG (tj := 44) rfl rfl (Ex.wp (v := (.bool true)) (Ex.cast (Ex.lss rfl rfl) (congrArg Value.bool (decide_eq_true hq46))) (by decide)) (fun _ _ => ?_)
                    refine GL.val (v := (.bool true)) (Ex.pickF rfl rfl) (by decide) ?_
                    refine GL.val (Ex.move rfl) (by decide) ?_
                    refine GL.skipG (tj := 48) rfl rfl rfl (by decide) ?_
                    refine GL.skipG (tj := 48) rfl rfl rfl (by decide) ?_
                    refine GL.val (v := (.bool true)) (Ex.pickT rfl rfl) (by decide) ?_
                    refine GL.val (Ex.assign rfl) (by decide) ?_
                    refine GL.nil ?_
                    refine GE.thenN ?_
                    refine GC.cond rfl (fun _ => ?_) (fun hq47 => by cases hq47)
                    refine GC.seq ?_
                    refine GC.region ?_
                    refine GL.val (Ex.assign rfl) (by decide) ?_
                    refine GL.val (Ex.assign rfl) (by decide) ?_
                    refine GL.nil ?_
                    refine GE.thenN ?_
                    refine GC.ret ?_
                    refine GE.blockR ?_
                    refine GE.thenR ?_
                    refine GC.ret2 rfl (Rv.tmp rfl) (Rv.tmp rfl) (fun wN HN => ?_)
                    exact HN.ret (0, false) (Bt.FP.prog (s := k.1) (x := k.2.1) (j := k.2.2) (i := i) (by omega) hp1 hp3 (by omega) (by omega) hq1 (by omega) (Or.inl ⟨by omega, rfl, rfl⟩)) rfl (List.nil_sublist _) rfl
                  · refine GL.stepG (tj := 44) rfl rfl (Ex.wp (v := (.bool false)) (Ex.cast (Ex.lss rfl rfl) (congrArg Value.bool (decide_eq_false hq46))) (by decide)) (fun _ _ => ?_)
                    refine GL.val (v := (.bool false)) (Ex.pickF rfl rfl) (by decide) ?_
                    refine GL.val (Ex.move rfl) (by decide) ?_
                    refine GL.stepG (tj := 48) rfl rfl (Ex.wp (v := (.int .i64 (k.2.1 - ((i : Nat) : Int)))) (Ex.move rfl) (by decide)) (fun _ _ => ?_)
                    refine GL.stepG (tj := 48) rfl rfl (Ex.wp (v := (.bool (decide (104 < (k.2.1 - ((i : Nat) : Int)))))) (Ex.gtr rfl rfl) (by decide)) (fun _ _ => ?_)
                    refine GL.val (v := (.bool (decide (104 < (k.2.1 - ((i : Nat) : Int)))))) (Ex.pickF rfl rfl) (by decide) ?_
                    refine GL.val (Ex.assign rfl) (by decide) ?_
                    refine GL.nil ?_
                    refine GE.thenN ?_
                    refine GC.cond rfl (fun hq48 => ?_) (fun hq48 => ?_)
                    · replace hq48 := of_decide_eq_true hq48
                      refine GC.seq ?_
                      refine GC.region ?_
                      refine GL.val (Ex.assign rfl) (by decide) ?_
                      refine GL.val (Ex.assign rfl) (by decide) ?_
                      refine GL.nil ?_
                      refine GE.thenN ?_
                      refine GC.ret ?_
                      refine GE.blockR ?_
                      refine GE.thenR ?_
                      refine GC.ret2 rfl (Rv.tmp rfl) (Rv.tmp rfl) (fun wN HN => ?_)
                      exact HN.ret (0, false) (Bt.FP.prog (s := k.1) (x := k.2.1) (j := k.2.2) (i := i) (by omega) hp1 hp3 (by omega) (by omega) hq1 (by omega) (Or.inl ⟨by omega, rfl, rfl⟩)) rfl (List.nil_sublist _) rfl
                    · replace hq48 := of_decide_eq_false hq48
                      refine GC.seq ?_
                      refine GC.region ?_
                      refine GL.val (Ex.move rfl) (by decide) ?_
                      refine GL.val (v := (.bool (decide ((k.1 * 2 ^ i) < 8388608)))) (Ex.lss rfl rfl) (by decide) ?_
                      refine GL.val (Ex.assign rfl) (by decide) ?_
                      refine GL.nil ?_
                      refine GE.thenN ?_
                      refine GC.cond rfl (fun hq49 => ?_) (fun hq49 => ?_)
                      · replace hq49 := of_decide_eq_true hq49
                        refine GC.seq ?_
                        refine GC.region ?_
                        refine GL.val (Ex.move rfl) (by decide) ?_
                        refine GL.val (Ex.move rfl) (by decide) ?_
                        refine GL.val (v := (.int .u32 (k.1 * 2 ^ i))) (Ex.conv rfl Try.underlying47 Try.underlying23 (Z := k.1 * 2 ^ i) (wu32b (by omega))) (by decide) ?_
                        refine GL.val (v := (.int .u32 (0 + (k.1 * 2 ^ i)))) (Ex.bits rfl rfl (by simp) (Z := 0 + (k.1 * 2 ^ i)) (orm 31 (by omega) (by omega) (by decide) (by omega) rfl)) (by decide) ?_
                        refine GL.val (Ex.assign rfl) (by decide) ?_
                        refine GL.val (Ex.assign rfl) (by decide) ?_
                        refine GL.nil ?_
                        refine GE.thenN ?_
                        refine GC.ret ?_
                        refine GE.blockR ?_
                        refine GE.thenR ?_
                        refine GC.ret2 rfl (Rv.tmp rfl) (Rv.tmp rfl) (fun wN HN => ?_)
                        exact HN.ret (0 + (k.1 * 2 ^ i), true) (Bt.FP.prog (s := k.1) (x := k.2.1) (j := k.2.2) (i := i) (by omega) hp1 hp3 (by omega) (by omega) hq1 (by omega) (Or.inr ⟨by omega, by omega, by omega, rfl, by unfold Bt.sgn Bt.enc; first | (rw [if_pos (by omega), if_pos (by omega)] <;> omega) | (rw [if_pos (by omega), if_neg (by omega)] <;> omega) | (rw [if_neg (by omega), if_pos (by omega)] <;> omega) | (rw [if_neg (by omega), if_neg (by omega)] <;> omega)⟩)) rfl (List.nil_sublist _) rfl
                      · replace hq49 := of_decide_eq_false hq49
                        refine GC.skip ?_
                        refine GE.blockN ?_
                        refine GE.thenN ?_
                        refine GC.seq ?_
                        refine GC.region ?_
                        refine GL.val (Ex.move rfl) (by decide) ?_
                        refine GL.val (Ex.move rfl) (by decide) ?_
                        refine GL.val (v := (.int .i64 ((k.2.1 - ((i : Nat) : Int)) + 150))) (Ex.add rfl rfl (Z := (k.2.1 - ((i : Nat) : Int)) + 150) (w64 (by omega))) (by decide) ?_
                        refine GL.val (v := (.int .u32 ((k.2.1 - ((i : Nat) : Int)) + 150))) (Ex.conv rfl Try.underlying3 Try.underlying23 (Z := (k.2.1 - ((i : Nat) : Int)) + 150) (wu32b (by omega))) (by decide) ?_
                        refine GL.val (v := (.int .u32 (((k.2.1 - ((i : Nat) : Int)) + 150) * 8388608))) (Ex.shl rfl (m := 23) rfl (by decide) (Z := ((k.2.1 - ((i : Nat) : Int)) + 150) * 8388608) (wu32b (by omega))) (by decide) ?_
                        refine GL.val (v := (.int .u32 (0 + (((k.2.1 - ((i : Nat) : Int)) + 150) * 8388608)))) (Ex.bits rfl rfl (by simp) (Z := 0 + (((k.2.1 - ((i : Nat) : Int)) + 150) * 8388608)) (orm 31 (by omega) (by omega) (by decide) (by omega) rfl)) (by decide) ?_
                        refine GL.val (Ex.move rfl) (by decide) ?_
                        refine GL.val (v := (.int .u64 ((k.1 * 2 ^ i) - 8388608))) (Ex.sub' rfl rfl (Z := (k.1 * 2 ^ i) - 8388608) (wu64b (by omega))) (by decide) ?_
                        refine GL.val (v := (.int .u32 ((k.1 * 2 ^ i) - 8388608))) (Ex.conv rfl Try.underlying47 Try.underlying23 (Z := (k.1 * 2 ^ i) - 8388608) (wu32b (by omega))) (by decide) ?_
                        refine GL.val (v := (.int .u32 ((0 + (((k.2.1 - ((i : Nat) : Int)) + 150) * 8388608)) + ((k.1 * 2 ^ i) - 8388608)))) (Ex.bits rfl rfl (by simp) (Z := (0 + (((k.2.1 - ((i : Nat) : Int)) + 150) * 8388608)) + ((k.1 * 2 ^ i) - 8388608)) (orm 23 (by omega) (by omega) (by decide) (by omega) rfl)) (by decide) ?_
                        refine GL.val (Ex.assign rfl) (by decide) ?_
                        refine GL.val (Ex.assign rfl) (by decide) ?_
                        refine GL.nil ?_
                        refine GE.thenN ?_
                        refine GC.ret ?_
                        refine GC.ret2 rfl (Rv.tmp rfl) (Rv.tmp rfl) (fun wN HN => ?_)
                        exact HN.ret ((0 + (((k.2.1 - ((i : Nat) : Int)) + 150) * 8388608)) + ((k.1 * 2 ^ i) - 8388608), true) (Bt.FP.prog (s := k.1) (x := k.2.1) (j := k.2.2) (i := i) (by omega) hp1 hp3 (by omega) (by omega) hq1 (by omega) (Or.inr ⟨by omega, by omega, by omega, rfl, by unfold Bt.sgn Bt.enc; first | (rw [if_pos (by omega), if_pos (by omega)] <;> omega) | (rw [if_pos (by omega), if_neg (by omega)] <;> omega) | (rw [if_neg (by omega), if_pos (by omega)] <;> omega) | (rw [if_neg (by omega), if_neg (by omega)] <;> omega)⟩)) rfl (List.nil_sublist _) rfl
            · refine GL.val (v := (.bool false)) (Ex.cast (Ex.lss rfl rfl) (congrArg Value.bool (decide_eq_false hq42))) (by decide) ?_
              refine GL.val (Ex.move rfl) (by decide) ?_
              refine GL.skipG (tj := 33) rfl rfl rfl (by decide) ?_
              refine GL.skipG (tj := 33) rfl rfl rfl (by decide) ?_
              refine GL.val (v := (.bool false)) (Ex.pickF rfl rfl) (by decide) ?_
              refine GL.nil ?_
              refine GE.thenN ?_
              refine GC.cond rfl (fun hq50 => by cases hq50) (fun _ => ?_)
              refine GC.exit ?_
              refine GE.thenE ?_
              refine GE.thenE ?_
              refine GE.blockE ?_
              refine GE.thenN ?_
              refine GC.seq ?_
              refine GC.block ?_
              refine GC.seq ?_
              refine GC.region ?_
              refine GL.val (Ex.move rfl) (by decide) ?_
              by_cases hq51 : 16777216 ≤ (k.1 * 2 ^ i)
              · refine GL.val (v := (.bool true)) (Ex.cast (Ex.geq rfl rfl) (congrArg Value.bool (decide_eq_true hq51))) (by decide) ?_
                refine GL.val (Ex.move rfl) (by decide) ?_
                refine GL.skipG (tj := 44) rfl rfl rfl (by decide) ?_
                refine GL.skipG (tj := 44) rfl rfl rfl (by decide) ?_
                refine GL.val (v := (.bool true)) (Ex.pickT rfl rfl) (by decide) ?_
                refine GL.val (Ex.move rfl) (by decide) ?_
                refine GL.skipG (tj := 48) rfl rfl rfl (by decide) ?_
                refine GL.skipG (tj := 48) rfl rfl rfl (by decide) ?_
                refine GL.val (v := (.bool true)) (Ex.pickT rfl rfl) (by decide) ?_
                refine GL.val (Ex.assign rfl) (by decide) ?_
                refine GL.nil ?_
                refine GE.thenN ?_
                refine GC.cond rfl (fun _ => ?_) (fun hq52 => by cases hq52)
                refine GC.seq ?_
                refine GC.region ?_
                refine GL.val (Ex.assign rfl) (by decide) ?_
                refine GL.val (Ex.assign rfl) (by decide) ?_
                refine GL.nil ?_
                refine GE.thenN ?_
                refine GC.ret ?_
                refine GE.blockR ?_
                refine GE.thenR ?_
                refine GC.ret2 rfl (Rv.tmp rfl) (Rv.tmp rfl) (fun wN HN => ?_)
                exact HN.ret (0, false) (Bt.FP.prog (s := k.1) (x := k.2.1) (j := k.2.2) (i := i) (by omega) hp1 hp3 (by omega) (by omega) hq1 (by omega) (Or.inl ⟨by omega, rfl, rfl⟩)) rfl (List.nil_sublist _) rfl
              · refine GL.val (v := (.bool false)) (Ex.cast (Ex.geq rfl rfl) (congrArg Value.bool (decide_eq_false hq51))) (by decide) ?_
                refine GL.val (Ex.move rfl) (by decide) ?_
                refine GL.stepG (tj := 44) rfl rfl (Ex.wp (v := (.int .i64 (k.2.1 - ((i : Nat) : Int)))) (Ex.move rfl) (by decide)) (fun _ _ => ?_)
                by_cases hq53 : (k.2.1 - ((i : Nat) : Int)) < (-149)
                · refine GL.stepG (tj := 44) rfl rfl (Ex.wp (v := (.bool true)) (Ex.cast (Ex.lss rfl rfl) (congrArg Value.bool (decide_eq_true hq53))) (by decide)) (fun _ _ => ?_)
                  refine GL.val (v := (.bool true)) (Ex.pickF rfl rfl) (by decide) ?_
                  refine GL.val (Ex.move rfl) (by decide) ?_
                  refine GL.skipG (tj := 48) rfl rfl rfl (by decide) ?_
                  refine GL.skipG (tj := 48) rfl rfl rfl (by decide) ?_
                  refine GL.val (v := (.bool true)) (Ex.pickT rfl rfl) (by decide) ?_
                  refine GL.val (Ex.assign rfl) (by decide) ?_
                  refine GL.nil ?_
                  refine GE.thenN ?_
                  refine GC.cond rfl (fun _ => ?_) (fun hq54 => by cases hq54)
                  refine GC.seq ?_
                  refine GC.region ?_
                  refine GL.val (Ex.assign rfl) (by decide) ?_
                  refine GL.val (Ex.assign rfl) (by decide) ?_
                  refine GL.nil ?_
                  refine GE.thenN ?_
                  refine GC.ret ?_
                  refine GE.blockR ?_
                  refine GE.thenR ?_
                  refine GC.ret2 rfl (Rv.tmp rfl) (Rv.tmp rfl) (fun wN HN => ?_)
                  exact HN.ret (0, false) (Bt.FP.prog (s := k.1) (x := k.2.1) (j := k.2.2) (i := i) (by omega) hp1 hp3 (by omega) (by omega) hq1 (by omega) (Or.inl ⟨by omega, rfl, rfl⟩)) rfl (List.nil_sublist _) rfl
                · refine GL.stepG (tj := 44) rfl rfl (Ex.wp (v := (.bool false)) (Ex.cast (Ex.lss rfl rfl) (congrArg Value.bool (decide_eq_false hq53))) (by decide)) (fun _ _ => ?_)
                  refine GL.val (v := (.bool false)) (Ex.pickF rfl rfl) (by decide) ?_
                  refine GL.val (Ex.move rfl) (by decide) ?_
                  refine GL.stepG (tj := 48) rfl rfl (Ex.wp (v := (.int .i64 (k.2.1 - ((i : Nat) : Int)))) (Ex.move rfl) (by decide)) (fun _ _ => ?_)
                  refine GL.stepG (tj := 48) rfl rfl (Ex.wp (v := (.bool (decide (104 < (k.2.1 - ((i : Nat) : Int)))))) (Ex.gtr rfl rfl) (by decide)) (fun _ _ => ?_)
                  refine GL.val (v := (.bool (decide (104 < (k.2.1 - ((i : Nat) : Int)))))) (Ex.pickF rfl rfl) (by decide) ?_
                  refine GL.val (Ex.assign rfl) (by decide) ?_
                  refine GL.nil ?_
                  refine GE.thenN ?_
                  refine GC.cond rfl (fun hq55 => ?_) (fun hq55 => ?_)
                  · replace hq55 := of_decide_eq_true hq55
                    refine GC.seq ?_
                    refine GC.region ?_
                    refine GL.val (Ex.assign rfl) (by decide) ?_
                    refine GL.val (Ex.assign rfl) (by decide) ?_
                    refine GL.nil ?_
                    refine GE.thenN ?_
                    refine GC.ret ?_
                    refine GE.blockR ?_
                    refine GE.thenR ?_
                    refine GC.ret2 rfl (Rv.tmp rfl) (Rv.tmp rfl) (fun wN HN => ?_)
                    exact HN.ret (0, false) (Bt.FP.prog (s := k.1) (x := k.2.1) (j := k.2.2) (i := i) (by omega) hp1 hp3 (by omega) (by omega) hq1 (by omega) (Or.inl ⟨by omega, rfl, rfl⟩)) rfl (List.nil_sublist _) rfl
                  · replace hq55 := of_decide_eq_false hq55
                    refine GC.seq ?_
                    refine GC.region ?_
                    refine GL.val (Ex.move rfl) (by decide) ?_
                    refine GL.val (v := (.bool (decide ((k.1 * 2 ^ i) < 8388608)))) (Ex.lss rfl rfl) (by decide) ?_
                    refine GL.val (Ex.assign rfl) (by decide) ?_
                    refine GL.nil ?_
                    refine GE.thenN ?_
                    refine GC.cond rfl (fun hq56 => ?_) (fun hq56 => ?_)
                    · replace hq56 := of_decide_eq_true hq56
                      refine GC.seq ?_
                      refine GC.region ?_
                      refine GL.val (Ex.move rfl) (by decide) ?_
                      refine GL.val (Ex.move rfl) (by decide) ?_
                      refine GL.val (v := (.int .u32 (k.1 * 2 ^ i))) (Ex.conv rfl Try.underlying47 Try.underlying23 (Z := k.1 * 2 ^ i) (wu32b (by omega))) (by decide) ?_
                      refine GL.val (v := (.int .u32 (0 + (k.1 * 2 ^ i)))) (Ex.bits rfl rfl (by simp) (Z := 0 + (k.1 * 2 ^ i)) (orm 31 (by omega) (by omega) (by decide) (by omega) rfl)) (by decide) ?_
                      refine GL.val (Ex.assign rfl) (by decide) ?_
                      refine GL.val (Ex.assign rfl) (by decide) ?_
                      refine GL.nil ?_
                      refine GE.thenN ?_
                      refine GC.ret ?_
                      refine GE.blockR ?_
                      refine GE.thenR ?_
                      refine GC.ret2 rfl (Rv.tmp rfl) (Rv.tmp rfl) (fun wN HN => ?_)
                      exact HN.ret (0 + (k.1 * 2 ^ i), true) (Bt.FP.prog (s := k.1) (x := k.2.1) (j := k.2.2) (i := i) (by omega) hp1 hp3 (by omega) (by omega) hq1 (by omega) (Or.inr ⟨by omega, by omega, by omega, rfl, by unfold Bt.sgn Bt.enc; first | (rw [if_pos (by omega), if_pos (by omega)] <;> omega) | (rw [if_pos (by omega), if_neg (by omega)] <;> omega) | (rw [if_neg (by omega), if_pos (by omega)] <;> omega) | (rw [if_neg (by omega), if_neg (by omega)] <;> omega)⟩)) rfl (List.nil_sublist _) rfl
                    · replace hq56 := of_decide_eq_false hq56
                      refine GC.skip ?_
                      refine GE.blockN ?_
                      refine GE.thenN ?_
                      refine GC.seq ?_
                      refine GC.region ?_
                      refine GL.val (Ex.move rfl) (by decide) ?_
                      refine GL.val (Ex.move rfl) (by decide) ?_
                      refine GL.val (v := (.int .i64 ((k.2.1 - ((i : Nat) : Int)) + 150))) (Ex.add rfl rfl (Z := (k.2.1 - ((i : Nat) : Int)) + 150) (w64 (by omega))) (by decide) ?_
                      refine GL.val (v := (.int .u32 ((k.2.1 - ((i : Nat) : Int)) + 150))) (Ex.conv rfl Try.underlying3 Try.underlying23 (Z := (k.2.1 - ((i : Nat) : Int)) + 150) (wu32b (by omega))) (by decide) ?_
                      refine GL.val (v := (.int .u32 (((k.2.1 - ((i : Nat) : Int)) + 150) * 8388608))) (Ex.shl rfl (m := 23) rfl (by decide) (Z := ((k.2.1 - ((i : Nat) : Int)) + 150) * 8388608) (wu32b (by omega))) (by decide) ?_
                      refine GL.val (v := (.int .u32 (0 + (((k.2.1 - ((i : Nat) : Int)) + 150) * 8388608)))) (Ex.bits rfl rfl (by simp) (Z := 0 + (((k.2.1 - ((i : Nat) : Int)) + 150) * 8388608)) (orm 31 (by omega) (by omega) (by decide) (by omega) rfl)) (by decide) ?_
                      refine GL.val (Ex.move rfl) (by decide) ?_
                      refine GL.val (v := (.int .u64 ((k.1 * 2 ^ i) - 8388608))) (Ex.sub' rfl rfl (Z := (k.1 * 2 ^ i) - 8388608) (wu64b (by omega))) (by decide) ?_
                      refine GL.val (v := (.int .u32 ((k.1 * 2 ^ i) - 8388608))) (Ex.conv rfl Try.underlying47 Try.underlying23 (Z := (k.1 * 2 ^ i) - 8388608) (wu32b (by omega))) (by decide) ?_
                      refine GL.val (v := (.int .u32 ((0 + (((k.2.1 - ((i : Nat) : Int)) + 150) * 8388608)) + ((k.1 * 2 ^ i) - 8388608)))) (Ex.bits rfl rfl (by simp) (Z := (0 + (((k.2.1 - ((i : Nat) : Int)) + 150) * 8388608)) + ((k.1 * 2 ^ i) - 8388608)) (orm 23 (by omega) (by omega) (by decide) (by omega) rfl)) (by decide) ?_
                      refine GL.val (Ex.assign rfl) (by decide) ?_
                      refine GL.val (Ex.assign rfl) (by decide) ?_
                      refine GL.nil ?_
                      refine GE.thenN ?_
                      refine GC.ret ?_
                      refine GC.ret2 rfl (Rv.tmp rfl) (Rv.tmp rfl) (fun wN HN => ?_)
                      exact HN.ret ((0 + (((k.2.1 - ((i : Nat) : Int)) + 150) * 8388608)) + ((k.1 * 2 ^ i) - 8388608), true) (Bt.FP.prog (s := k.1) (x := k.2.1) (j := k.2.2) (i := i) (by omega) hp1 hp3 (by omega) (by omega) hq1 (by omega) (Or.inr ⟨by omega, by omega, by omega, rfl, by unfold Bt.sgn Bt.enc; first | (rw [if_pos (by omega), if_pos (by omega)] <;> omega) | (rw [if_pos (by omega), if_neg (by omega)] <;> omega) | (rw [if_neg (by omega), if_pos (by omega)] <;> omega) | (rw [if_neg (by omega), if_neg (by omega)] <;> omega)⟩)) rfl (List.nil_sublist _) rfl
      · refine GL.val (v := (.bool false)) (Ex.cast (Ex.eql rfl rfl) (congrArg Value.bool (decide_eq_false hq38))) (by decide) ?_
        refine GL.val (Ex.move rfl) (by decide) ?_
        refine GL.skipG (tj := 19) rfl rfl rfl (by decide) ?_
        refine GL.skipG (tj := 19) rfl rfl rfl (by decide) ?_
        refine GL.skipG (tj := 19) rfl rfl rfl (by decide) ?_
        refine GL.skipU (tj := 22) rfl rfl (by decide) ?_
        refine GL.skipU (tj := 22) rfl rfl (by decide) ?_
        refine GL.skipG (tj := 19) rfl rfl rfl (by decide) ?_
        refine GL.val (v := (.bool false)) (Ex.pickF rfl rfl) (by decide) ?_
        refine GL.nil ?_
        refine GE.thenN ?_
        refine GC.cond rfl (fun hq57 => by cases hq57) (fun _ => ?_)
        refine GC.exit ?_
        refine GE.thenE ?_
        refine GE.thenE ?_
        refine GE.blockE ?_
        refine GE.thenN ?_
        refine GC.seq ?_
        refine GC.block ?_
        refine GC.loop (σ := Nat) (fun i => (i = 0 ∨ (k.1 * 2 ^ i < 16777216 ∧ -149 ≤ k.2.1 - ((i : Nat) : Int))) ∧ k.1 ≤ k.1 * 2 ^ i ∧ (i = 0 → k.1 * 2 ^ i = k.1)) (fun i => [(0, (.int .i64 n)), (6, (.int .u32 0)), (1, (.int .i64 (k.2.1 - ((i : Nat) : Int)))), (7, (.int .u64 (k.1 * 2 ^ i)))]) (fun i => []) (fun i => (8388608 - k.1 * 2 ^ i).toNat) (0) ⟨Or.inl rfl, by simp, by simp⟩ ((sub_cons rfl ((sub_cons rfl ((sub_cons (congrArg (fun z => some (Value.int .i64 z)) (by simp)) ((sub_cons (congrArg (fun z => some (Value.int .u64 z)) (by simp)) ((sub_nil _)))))))))) ulN (fun i hp => ?_)
        obtain ⟨hq1, hq2, hq3⟩ := hp
        refine GC.seq ?_
        refine GC.seq ?_
        refine GC.region ?_
        refine GL.val (Ex.move rfl) (by decide) ?_
        by_cases hq58 : (k.1 * 2 ^ i) < 8388608
        · refine GL.val (v := (.bool true)) (Ex.cast (Ex.lss rfl rfl) (congrArg Value.bool (decide_eq_true hq58))) (by decide) ?_
          refine GL.val (Ex.move rfl) (by decide) ?_
          refine GL.stepG (tj := 33) rfl rfl (Ex.wp (v := (.int .i64 (k.2.1 - ((i : Nat) : Int)))) (Ex.move rfl) (by decide)) (fun _ _ => ?_)
          refine GL.stepG (tj := 33) rfl rfl (Ex.wp (v := (.bool (decide ((-149) < (k.2.1 - ((i : Nat) : Int)))))) (Ex.gtr rfl rfl) (by decide)) (fun _ _ => ?_)
          refine GL.val (v := (.bool (decide ((-149) < (k.2.1 - ((i : Nat) : Int)))))) (Ex.pickT rfl rfl) (by decide) ?_
          refine GL.nil ?_
          refine GE.thenN ?_
          refine GC.cond rfl (fun hq59 => ?_) (fun hq59 => ?_)
          · replace hq59 := of_decide_eq_true hq59
            refine GC.skip ?_
            refine GE.thenN ?_
            refine GC.block ?_
            refine GC.region ?_
            refine GL.val (Ex.move rfl) (by decide) ?_
            refine GL.val (v := (.int .u64 (k.1 * 2 ^ (i + 1)))) (Ex.mul rfl rfl (Z := k.1 * 2 ^ (i + 1)) (by rw [wu64b (by omega), Bt.pow_step]; omega)) (by decide) ?_
            refine GL.val (Ex.move rfl) (by decide) ?_
            refine GL.val (v := (.int .i64 (k.2.1 - ((i + 1 : Nat) : Int)))) (Ex.sub' rfl rfl (Z := k.2.1 - ((i + 1 : Nat) : Int)) (by rw [w64 (by omega)]; omega)) (by decide) ?_
            refine GL.val (Ex.assign rfl) (by decide) ?_
            refine GL.val (Ex.assign rfl) (by decide) ?_
            refine GL.nil ?_
            refine GE.blockN ?_
            refine GE.thenN ?_
            exact Head.mk (i + 1) ⟨Or.inr ⟨by rw [Bt.pow_step]; omega, by omega⟩, by rw [Bt.pow_step]; omega, by omega⟩ (by rw [Bt.pow_step]; omega) ((sub_cons rfl ((sub_cons rfl ((sub_cons rfl ((sub_cons rfl ((sub_nil _)))))))))) ulN
          · replace hq59 := of_decide_eq_false hq59
            refine GC.exit ?_
            refine GE.thenE ?_
            refine GE.thenE ?_
            refine GE.blockE ?_
            refine GE.thenN ?_
            refine GC.seq ?_
            refine GC.block ?_
            refine GC.seq ?_
            refine GC.region ?_
            refine GL.val (Ex.move rfl) (by decide) ?_
            by_cases hq60 : 16777216 ≤ (k.1 * 2 ^ i)
            · refine GL.val (v := (.bool true)) (Ex.cast (Ex.geq rfl rfl) (congrArg Value.bool (decide_eq_true hq60))) (by decide) ?_
              refine GL.val (Ex.move rfl) (by decide) ?_
              refine GL.skipG (tj := 44) rfl rfl rfl (by decide) ?_
              refine GL.skipG (tj := 44) rfl rfl rfl (by decide) ?_
              refine GL.val (v := (.bool true)) (Ex.pickT rfl rfl) (by decide) ?_
              refine GL.val (Ex.move rfl) (by decide) ?_
              refine GL.skipG (tj := 48) rfl rfl rfl (by decide) ?_
              refine GL.skipG (tj := 48) rfl rfl rfl (by decide) ?_
              refine GL.val (v := (.bool true)) (Ex.pickT rfl rfl) (by decide) ?_
              refine GL.val (Ex.assign rfl) (by decide) ?_
              refine GL.nil ?_
              refine GE.thenN ?_
              refine GC.cond rfl (fun _ => ?_) (fun hq61 => by cases hq61)
              refine GC.seq ?_
              refine GC.region ?_
              refine GL.val (Ex.assign rfl) (by decide) ?_
              refine GL.val (Ex.assign rfl) (by decide) ?_
              refine GL.nil ?_
              refine GE.thenN ?_
              refine GC.ret ?_
              refine GE.blockR ?_
              refine GE.thenR ?_
              refine GC.ret2 rfl (Rv.tmp rfl) (Rv.tmp rfl) (fun wN HN => ?_)
              exact HN.ret (0, false) (Bt.FP.prog (s := k.1) (x := k.2.1) (j := k.2.2) (i := i) (by omega) hp1 hp3 (by omega) (by omega) hq1 (by omega) (Or.inl ⟨by omega, rfl, rfl⟩)) rfl (List.nil_sublist _) rfl
            · refine GL.val (v := (.bool false)) (Ex.cast (Ex.geq rfl rfl) (congrArg Value.bool (decide_eq_false hq60))) (by decide) ?_
              refine GL.val (Ex.move rfl) (by decide) ?_
              refine GL.stepG (tj := 44) rfl rfl (Ex.wp (v := (.int .i64 (k.2.1 - ((i : Nat) : Int)))) (Ex.move rfl) (by decide)) (fun _ _ => ?_)
              by_cases hq62 : (k.2.1 - ((i : Nat) : Int)) < (-149)
              · refine GL.stepG (tj := 44) rfl rfl (Ex.wp (v := (.bool true)) (Ex.cast (Ex.lss rfl rfl) (congrArg Value.bool (decide_eq_true hq62))) (by decide)) (fun _ _ => ?_)
                refine GL.val (v := (.bool true)) (Ex.pickF rfl rfl) (by decide) ?_
                refine GL.val (Ex.move rfl) (by decide) ?_
                refine GL.skipG (tj := 48) rfl rfl rfl (by decide) ?_
                refine GL.skipG (tj := 48) rfl rfl rfl (by decide) ?_
                refine GL.val (v := (.bool true)) (Ex.pickT rfl rfl) (by decide) ?_
                refine GL.val (Ex.assign rfl) (by decide) ?_
                refine GL.nil ?_
                refine GE.thenN ?_
                refine GC.cond rfl (fun _ => ?_) (fun hq63 => by cases hq63)
                refine GC.seq ?_
                refine GC.region ?_
                refine GL.val (Ex.assign rfl) (by decide) ?_
                refine GL.val (Ex.assign rfl) (by decide) ?_
                refine GL.nil ?_
                refine GE.thenN ?_
                refine GC.ret ?_
                refine GE.blockR ?_
                refine GE.thenR ?_
                refine GC.ret2 rfl (Rv.tmp rfl) (Rv.tmp rfl) (fun wN HN => ?_)
                exact HN.ret (0, false) (Bt.FP.prog (s := k.1) (x := k.2.1) (j := k.2.2) (i := i) (by omega) hp1 hp3 (by omega) (by omega) hq1 (by omega) (Or.inl ⟨by omega, rfl, rfl⟩)) rfl (List.nil_sublist _) rfl
              · refine GL.stepG (tj := 44) rfl rfl (Ex.wp (v := (.bool false)) (Ex.cast (Ex.lss rfl rfl) (congrArg Value.bool (decide_eq_false hq62))) (by decide)) (fun _ _ => ?_)
                refine GL.val (v := (.bool false)) (Ex.pickF rfl rfl) (by decide) ?_
                refine GL.val (Ex.move rfl) (by decide) ?_
                refine GL.stepG (tj := 48) rfl rfl (Ex.wp (v := (.int .i64 (k.2.1 - ((i : Nat) : Int)))) (Ex.move rfl) (by decide)) (fun _ _ => ?_)
                refine GL.stepG (tj := 48) rfl rfl (Ex.wp (v := (.bool (decide (104 < (k.2.1 - ((i : Nat) : Int)))))) (Ex.gtr rfl rfl) (by decide)) (fun _ _ => ?_)
                refine GL.val (v := (.bool (decide (104 < (k.2.1 - ((i : Nat) : Int)))))) (Ex.pickF rfl rfl) (by decide) ?_
                refine GL.val (Ex.assign rfl) (by decide) ?_
                refine GL.nil ?_
                refine GE.thenN ?_
                refine GC.cond rfl (fun hq64 => ?_) (fun hq64 => ?_)
                · replace hq64 := of_decide_eq_true hq64
                  refine GC.seq ?_
                  refine GC.region ?_
                  refine GL.val (Ex.assign rfl) (by decide) ?_
                  refine GL.val (Ex.assign rfl) (by decide) ?_
                  refine GL.nil ?_
                  refine GE.thenN ?_
                  refine GC.ret ?_
                  refine GE.blockR ?_
                  refine GE.thenR ?_
                  refine GC.ret2 rfl (Rv.tmp rfl) (Rv.tmp rfl) (fun wN HN => ?_)
                  exact HN.ret (0, false) (Bt.FP.prog (s := k.1) (x := k.2.1) (j := k.2.2) (i := i) (by omega) hp1 hp3 (by omega) (by omega) hq1 (by omega) (Or.inl ⟨by omega, rfl, rfl⟩)) rfl (List.nil_sublist _) rfl
                · replace hq64 := of_decide_eq_false hq64
                  refine GC.seq ?_
                  refine GC.region ?_
                  refine GL.val (Ex.move rfl) (by decide) ?_
                  refine GL.val (v := (.bool (decide ((k.1 * 2 ^ i) < 8388608)))) (Ex.lss rfl rfl) (by decide) ?_
                  refine GL.val (Ex.assign rfl) (by decide) ?_
                  refine GL.nil ?_
                  refine GE.thenN ?_
                  refine GC.cond rfl (fun hq65 => ?_) (fun hq65 => ?_)
                  · replace hq65 := of_decide_eq_true hq65
                    refine GC.seq ?_
                    refine GC.region ?_
                    refine GL.val (Ex.move rfl) (by decide) ?_
                    refine GL.val (Ex.move rfl) (by decide) ?_
                    refine GL.val (v := (.int .u32 (k.1 * 2 ^ i))) (Ex.conv rfl Try.underlying47 Try.underlying23 (Z := k.1 * 2 ^ i) (wu32b (by omega))) (by decide) ?_
                    refine GL.val (v := (.int .u32 (0 + (k.1 * 2 ^ i)))) (Ex.bits rfl rfl (by simp) (Z := 0 + (k.1 * 2 ^ i)) (orm 31 (by omega) (by omega) (by decide) (by omega) rfl)) (by decide) ?_
                    refine GL.val (Ex.assign rfl) (by decide) ?_
                    refine GL.val (Ex.assign rfl) (by decide) ?_
                    refine GL.nil ?_
                    refine GE.thenN ?_
                    refine GC.ret ?_
                    refine GE.blockR ?_
                    refine GE.thenR ?_
                    refine GC.ret2 rfl (Rv.tmp rfl) (Rv.tmp rfl) (fun wN HN => ?_)
                    exact HN.ret (0 + (k.1 * 2 ^ i), true) (Bt.FP.prog (s := k.1) (x := k.2.1) (j := k.2.2) (i := i) (by omega) hp1 hp3 (by omega) (by omega) hq1 (by omega) (Or.inr ⟨by omega, by omega, by omega, rfl, by unfold Bt.sgn Bt.enc; first | (rw [if_pos (by omega), if_pos (by omega)] <;> omega) | (rw [if_pos (by omega), if_neg (by omega)] <;> omega) | (rw [if_neg (by omega), if_pos (by omega)] <;> omega) | (rw [if_neg (by omega), if_neg (by omega)] <;> omega)⟩)) rfl (List.nil_sublist _) rfl
                  · replace hq65 := of_decide_eq_false hq65
                    refine GC.skip ?_
                    refine GE.blockN ?_
                    refine GE.thenN ?_
                    refine GC.seq ?_
                    refine GC.region ?_
                    refine GL.val (Ex.move rfl) (by decide) ?_
                    refine GL.val (Ex.move rfl) (by decide) ?_
                    refine GL.val (v := (.int .i64 ((k.2.1 - ((i : Nat) : Int)) + 150))) (Ex.add rfl rfl (Z := (k.2.1 - ((i : Nat) : Int)) + 150) (w64 (by omega))) (by decide) ?_
                    refine GL.val (v := (.int .u32 ((k.2.1 - ((i : Nat) : Int)) + 150))) (Ex.conv rfl Try.underlying3 Try.underlying23 (Z := (k.2.1 - ((i : Nat) : Int)) + 150) (wu32b (by omega))) (by decide) ?_
                    refine GL.val (v := (.int .u32 (((k.2.1 - ((i : Nat) : Int)) + 150) * 8388608))) (Ex.shl rfl (m := 23) rfl (by decide) (Z := ((k.2.1 - ((i : Nat) : Int)) + 150) * 8388608) (wu32b (by omega))) (by decide) ?_
                    refine GL.val (v := (.int .u32 (0 + (((k.2.1 - ((i : Nat) : Int)) + 150) * 8388608)))) (Ex.bits rfl rfl (by simp) (Z := 0 + (((k.2.1 - ((i : Nat) : Int)) + 150) * 8388608)) (orm 31 (by omega) (by omega) (by decide) (by omega) rfl)) (by decide) ?_
                    refine GL.val (Ex.move rfl) (by decide) ?_
                    refine GL.val (v := (.int .u64 ((k.1 * 2 ^ i) - 8388608))) (Ex.sub' rfl rfl (Z := (k.1 * 2 ^ i) - 8388608) (wu64b (by omega))) (by decide) ?_
                    refine GL.val (v := (.int .u32 ((k.1 * 2 ^ i) - 8388608))) (Ex.conv rfl Try.underlying47 Try.underlying23 (Z := (k.1 * 2 ^ i) - 8388608) (wu32b (by omega))) (by decide) ?_
                    refine GL.val (v := (.int .u32 ((0 + (((k.2.1 - ((i : Nat) : Int)) + 150) * 8388608)) + ((k.1 * 2 ^ i) - 8388608)))) (Ex.bits rfl rfl (by simp) (Z := (0 + (((k.2.1 - ((i : Nat) : Int)) + 150) * 8388608)) + ((k.1 * 2 ^ i) - 8388608)) (orm 23 (by omega) (by omega) (by decide) (by omega) rfl)) (by decide) ?_
                    refine GL.val (Ex.assign rfl) (by decide) ?_
                    refine GL.val (Ex.assign rfl) (by decide) ?_
                    refine GL.nil ?_
                    refine GE.thenN ?_
                    refine GC.ret ?_
                    refine GC.ret2 rfl (Rv.tmp rfl) (Rv.tmp rfl) (fun wN HN => ?_)
                    exact HN.ret ((0 + (((k.2.1 - ((i : Nat) : Int)) + 150) * 8388608)) + ((k.1 * 2 ^ i) - 8388608), true) (Bt.FP.prog (s := k.1) (x := k.2.1) (j := k.2.2) (i := i) (by omega) hp1 hp3 (by omega) (by omega) hq1 (by omega) (Or.inr ⟨by omega, by omega, by omega, rfl, by unfold Bt.sgn Bt.enc; first | (rw [if_pos (by omega), if_pos (by omega)] <;> omega) | (rw [if_pos (by omega), if_neg (by omega)] <;> omega) | (rw [if_neg (by omega), if_pos (by omega)] <;> omega) | (rw [if_neg (by omega), if_neg (by omega)] <;> omega)⟩)) rfl (List.nil_sublist _) rfl
        · refine GL.val (v := (.bool false)) (Ex.cast (Ex.lss rfl rfl) (congrArg Value.bool (decide_eq_false hq58))) (by decide) ?_
          refine GL.val (Ex.move rfl) (by decide) ?_
          refine GL.skipG (tj := 33) rfl rfl rfl (by decide) ?_
          refine GL.skipG (tj := 33) rfl rfl rfl (by decide) ?_
          refine GL.val (v := (.bool false)) (Ex.pickF rfl rfl) (by decide) ?_
          refine GL.nil ?_
          refine GE.thenN ?_
          refine GC.cond rfl (fun hq66 => by cases hq66) (fun _ => ?_)
          refine GC.exit ?_
          refine GE.thenE ?_
          refine GE.thenE ?_
          refine GE.blockE ?_
          refine GE.thenN ?_
          refine GC.seq ?_
          refine GC.block ?_
          refine GC.seq ?_
          refine GC.region ?_
          refine GL.val (Ex.move rfl) (by decide) ?_
          by_cases hq67 : 16777216 ≤ (k.1 * 2 ^ i)
          · refine GL.val (v := (.bool true)) (Ex.cast (Ex.geq rfl rfl) (congrArg Value.bool (decide_eq_true hq67))) (by decide) ?_
            refine GL.val (Ex.move rfl) (by decide) ?_
            refine GL.skipG (tj := 44) rfl rfl rfl (by decide) ?_
            refine GL.skipG (tj := 44) rfl rfl rfl (by decide) ?_
            refine GL.val (v := (.bool true)) (Ex.pickT rfl rfl) (by decide) ?_
            refine GL.val (Ex.move rfl) (by decide) ?_
            refine GL.skipG (tj := 48) rfl rfl rfl (by decide) ?_
            refine GL.skipG (tj := 48) rfl rfl rfl (by decide) ?_
            refine GL.val (v := (.bool true)) (Ex.pickT rfl rfl) (by decide) ?_
            refine GL.val (Ex.assign rfl) (by decide) ?_
            refine GL.nil ?_
            refine GE.thenN ?_
            refine GC.cond rfl (fun _ => ?_) (fun hq68 => by cases hq68)
            refine GC.seq ?_
            refine GC.region ?_
            refine GL.val (Ex.assign rfl) (by decide) ?_
            refine GL.val (Ex.assign rfl) (by decide) ?_
            refine GL.nil ?_
            refine GE.thenN ?_
            refine GC.ret ?_
            refine GE.blockR ?_
            refine GE.thenR ?_
            refine GC.ret2 rfl (Rv.tmp rfl) (Rv.tmp rfl) (fun wN HN => ?_)
            exact HN.ret (0, false) (Bt.FP.prog (s := k.1) (x := k.2.1) (j := k.2.2) (i := i) (by omega) hp1 hp3 (by omega) (by omega) hq1 (by omega) (Or.inl ⟨by omega, rfl, rfl⟩)) rfl (List.nil_sublist _) rfl
          · refine GL.val (v := (.bool false)) (Ex.cast (Ex.geq rfl rfl) (congrArg Value.bool (decide_eq_false hq67))) (by decide) ?_
            refine GL.val (Ex.move rfl) (by decide) ?_
            refine GL.stepG (tj := 44) rfl rfl (Ex.wp (v := (.int .i64 (k.2.1 - ((i : Nat) : Int)))) (Ex.move rfl) (by decide)) (fun _ _ => ?_)
            by_cases hq69 : (k.2.1 - ((i : Nat) : Int)) < (-149)
            · refine GL.stepG (tj := 44) rfl rfl (Ex.wp (v := (.bool true)) (Ex.cast (Ex.lss rfl rfl) (congrArg Value.bool (decide_eq_true hq69))) (by decide)) (fun _ _ => ?_)
              refine GL.val (v := (.bool true)) (Ex.pickF rfl rfl) (by decide) ?_
              refine GL.val (Ex.move rfl) (by decide) ?_
              refine GL.skipG (tj := 48) rfl rfl rfl (by decide) ?_
              refine GL.skipG (tj := 48) rfl rfl rfl (by decide) ?_
              refine GL.val (v := (.bool true)) (Ex.pickT rfl rfl) (by decide) ?_
              refine GL.val (Ex.assign rfl) (by decide) ?_
              refine GL.nil ?_
              refine GE.thenN ?_
              refine GC.cond rfl (fun _ => ?_) (fun hq70 => by cases hq70)
              refine GC.seq ?_
              refine GC.region ?_
              refine GL.val (Ex.assign rfl) (by decide) ?_
              refine GL.val (Ex.assign rfl) (by decide) ?_
              refine GL.nil ?_
              refine GE.thenN ?_
              refine GC.ret ?_
              refine GE.blockR ?_
              refine GE.thenR ?_
              refine GC.ret2 rfl (Rv.tmp rfl) (Rv.tmp rfl) (fun wN HN => ?_)
              exact HN.ret (0, false) (Bt.FP.prog (s := k.1) (x := k.2.1) (j := k.2.2) (i := i) (by omega) hp1 hp3 (by omega) (by omega) hq1 (by omega) (Or.inl ⟨by omega, rfl, rfl⟩)) rfl (List.nil_sublist _) rfl
            · refine GL.stepG (tj := 44) rfl rfl (Ex.wp (v := (.bool false)) (Ex.cast (Ex.lss rfl rfl) (congrArg Value.bool (decide_eq_false hq69))) (by decide)) (fun _ _ => ?_)
              refine GL.val (v := (.bool false)) (Ex.pickF rfl rfl) (by decide) ?_
              refine GL.val (Ex.move rfl) (by decide) ?_
              refine GL.stepG (tj := 48) rfl rfl (Ex.wp (v := (.int .i64 (k.2.1 - ((i : Nat) : Int)))) (Ex.move rfl) (by decide)) (fun _ _ => ?_)
              refine GL.stepG (tj := 48) rfl rfl (Ex.wp (v := (.bool (decide (104 < (k.2.1 - ((i : Nat) : Int)))))) (Ex.gtr rfl rfl) (by decide)) (fun _ _ => ?_)
              refine GL.val (v := (.bool (decide (104 < (k.2.1 - ((i : Nat) : Int)))))) (Ex.pickF rfl rfl) (by decide) ?_
              refine GL.val (Ex.assign rfl) (by decide) ?_
              refine GL.nil ?_
              refine GE.thenN ?_
              refine GC.cond rfl (fun hq71 => ?_) (fun hq71 => ?_)
              · replace hq71 := of_decide_eq_true hq71
                refine GC.seq ?_
                refine GC.region ?_
                refine GL.val (Ex.assign rfl) (by decide) ?_
                refine GL.val (Ex.assign rfl) (by decide) ?_
                refine GL.nil ?_
                refine GE.thenN ?_
                refine GC.ret ?_
                refine GE.blockR ?_
                refine GE.thenR ?_
                refine GC.ret2 rfl (Rv.tmp rfl) (Rv.tmp rfl) (fun wN HN => ?_)
                exact HN.ret (0, false) (Bt.FP.prog (s := k.1) (x := k.2.1) (j := k.2.2) (i := i) (by omega) hp1 hp3 (by omega) (by omega) hq1 (by omega) (Or.inl ⟨by omega, rfl, rfl⟩)) rfl (List.nil_sublist _) rfl
              · replace hq71 := of_decide_eq_false hq71
                refine GC.seq ?_
                refine GC.region ?_
                refine GL.val (Ex.move rfl) (by decide) ?_
                refine GL.val (v := (.bool (decide ((k.1 * 2 ^ i) < 8388608)))) (Ex.lss rfl rfl) (by decide) ?_
                refine GL.val (Ex.assign rfl) (by decide) ?_
                refine GL.nil ?_
                refine GE.thenN ?_
                refine GC.cond rfl (fun hq72 => ?_) (fun hq72 => ?_)
                · replace hq72 := of_decide_eq_true hq72
                  refine GC.seq ?_
                  refine GC.region ?_
                  refine GL.val (Ex.move rfl) (by decide) ?_
                  refine GL.val (Ex.move rfl) (by decide) ?_
                  refine GL.val (v := (.int .u32 (k.1 * 2 ^ i))) (Ex.conv rfl Try.underlying47 Try.underlying23 (Z := k.1 * 2 ^ i) (wu32b (by omega))) (by decide) ?_
                  refine GL.val (v := (.int .u32 (0 + (k.1 * 2 ^ i)))) (Ex.bits rfl rfl (by simp) (Z := 0 + (k.1 * 2 ^ i)) (orm 31 (by omega) (by omega) (by decide) (by omega) rfl)) (by decide) ?_
                  refine GL.val (Ex.assign rfl) (by decide) ?_
                  refine GL.val (Ex.assign rfl) (by decide) ?_
                  refine GL.nil ?_
                  refine GE.thenN ?_
                  refine GC.ret ?_
                  refine GE.blockR ?_
                  refine GE.thenR ?_
                  refine GC.ret2 rfl (Rv.tmp rfl) (Rv.tmp rfl) (fun wN HN => ?_)
                  exact HN.ret (0 + (k.1 * 2 ^ i), true) (Bt.FP.prog (s := k.1) (x := k.2.1) (j := k.2.2) (i := i) (by omega) hp1 hp3 (by omega) (by omega) hq1 (by omega) (Or.inr ⟨by omega, by omega, by omega, rfl, by unfold Bt.sgn Bt.enc; first | (rw [if_pos (by omega), if_pos (by omega)] <;> omega) | (rw [if_pos (by omega), if_neg (by omega)] <;> omega) | (rw [if_neg (by omega), if_pos (by omega)] <;> omega) | (rw [if_neg (by omega), if_neg (by omega)] <;> omega)⟩)) rfl (List.nil_sublist _) rfl
                · replace hq72 := of_decide_eq_false hq72
                  refine GC.skip ?_
                  refine GE.blockN ?_
                  refine GE.thenN ?_
                  refine GC.seq ?_
                  refine GC.region ?_
                  refine GL.val (Ex.move rfl) (by decide) ?_
                  refine GL.val (Ex.move rfl) (by decide) ?_
                  refine GL.val (v := (.int .i64 ((k.2.1 - ((i : Nat) : Int)) + 150))) (Ex.add rfl rfl (Z := (k.2.1 - ((i : Nat) : Int)) + 150) (w64 (by omega))) (by decide) ?_
                  refine GL.val (v := (.int .u32 ((k.2.1 - ((i : Nat) : Int)) + 150))) (Ex.conv rfl Try.underlying3 Try.underlying23 (Z := (k.2.1 - ((i : Nat) : Int)) + 150) (wu32b (by omega))) (by decide) ?_
                  refine GL.val (v := (.int .u32 (((k.2.1 - ((i : Nat) : Int)) + 150) * 8388608))) (Ex.shl rfl (m := 23) rfl (by decide) (Z := ((k.2.1 - ((i : Nat) : Int)) + 150) * 8388608) (wu32b (by omega))) (by decide) ?_
                  refine GL.val (v := (.int .u32 (0 + (((k.2.1 - ((i : Nat) : Int)) + 150) * 8388608)))) (Ex.bits rfl rfl (by simp) (Z := 0 + (((k.2.1 - ((i : Nat) : Int)) + 150) * 8388608)) (orm 31 (by omega) (by omega) (by decide) (by omega) rfl)) (by decide) ?_
                  refine GL.val (Ex.move rfl) (by decide) ?_
                  refine GL.val (v := (.int .u64 ((k.1 * 2 ^ i) - 8388608))) (Ex.sub' rfl rfl (Z := (k.1 * 2 ^ i) - 8388608) (wu64b (by omega))) (by decide) ?_
                  refine GL.val (v := (.int .u32 ((k.1 * 2 ^ i) - 8388608))) (Ex.conv rfl Try.underlying47 Try.underlying23 (Z := (k.1 * 2 ^ i) - 8388608) (wu32b (by omega))) (by decide) ?_
                  refine GL.val (v := (.int .u32 ((0 + (((k.2.1 - ((i : Nat) : Int)) + 150) * 8388608)) + ((k.1 * 2 ^ i) - 8388608)))) (Ex.bits rfl rfl (by simp) (Z := (0 + (((k.2.1 - ((i : Nat) : Int)) + 150) * 8388608)) + ((k.1 * 2 ^ i) - 8388608)) (orm 23 (by omega) (by omega) (by decide) (by omega) rfl)) (by decide) ?_
                  refine GL.val (Ex.assign rfl) (by decide) ?_
                  refine GL.val (Ex.assign rfl) (by decide) ?_
                  refine GL.nil ?_
                  refine GE.thenN ?_
                  refine GC.ret ?_
                  refine GC.ret2 rfl (Rv.tmp rfl) (Rv.tmp rfl) (fun wN HN => ?_)
                  exact HN.ret ((0 + (((k.2.1 - ((i : Nat) : Int)) + 150) * 8388608)) + ((k.1 * 2 ^ i) - 8388608), true) (Bt.FP.prog (s := k.1) (x := k.2.1) (j := k.2.2) (i := i) (by omega) hp1 hp3 (by omega) (by omega) hq1 (by omega) (Or.inr ⟨by omega, by omega, by omega, rfl, by unfold Bt.sgn Bt.enc; first | (rw [if_pos (by omega), if_pos (by omega)] <;> omega) | (rw [if_pos (by omega), if_neg (by omega)] <;> omega) | (rw [if_neg (by omega), if_pos (by omega)] <;> omega) | (rw [if_neg (by omega), if_neg (by omega)] <;> omega)⟩)) rfl (List.nil_sublist _) rfl

set_option maxRecDepth 100000 in
set_option maxHeartbeats 1000000 in
theorem known (w : World) :
    Calls Try.prog 10 #[] w (Ret w (fun _ : Unit => True) (fun _ => .bool true) (fun _ => [])) := by
  refine enter (M := None) (L := []) (n := 117) (l := []) Try.func10 rfl rfl (Args.nil _) (Hp.start _ _) ?_
  refine GC.seq ?_
  refine GC.region ?_
  refine GL.val (Ex.assign rfl) (by decide) ?_
  refine GL.nil ?_
  refine GE.thenN ?_
  refine GC.seq ?_
  refine GC.region ?_
  refine GL.step (Stp.callR (σ := Unit) (p := fun rz => True) (v := fun rz => (.tuple #[(.int .i64 8388608), (.int .i64 (-23)), (.bool true)])) (N := fun rz => []) (vs := [(.int .u32 1065353216)]) rfl rfl T.own11 (by decide) (fun wc hw => (by have h := parts_p 1065353216 wc (by omega); rw [show (Bt.prts 1065353216).1 = 8388608 from by decide, show (Bt.prts 1065353216).2.1 = -23 from by decide, show (Bt.prts 1065353216).2.2 = true from by decide] at h; exact h))) (fun xq1 hq2 => ?_)
  refine GL.val (Ex.move rfl) (by decide) ?_
  refine GL.val (Ex.extract rfl rfl) (by decide) ?_
  refine GL.val (Ex.extract rfl rfl) (by decide) ?_
  refine GL.val (Ex.extract rfl rfl) (by decide) ?_
  refine GL.val (Ex.assign rfl) (by decide) ?_
  refine GL.val (Ex.assign rfl) (by decide) ?_
  refine GL.val (Ex.assign rfl) (by decide) ?_
  refine GL.nil ?_
  refine GE.thenN ?_
  refine GC.seq ?_
  refine GC.region ?_
  refine GL.step (Stp.callR (σ := Unit) (p := fun rz => True) (v := fun rz => (.tuple #[(.int .u32 1065353216), (.bool true)])) (N := fun rz => []) (vs := [(.int .i64 1), (.int .i64 0)]) rfl rfl T.own13 (by decide) (fun wc hw => (by exact (Calls.mono (fp_p 1 0 wc (by omega) (by omega)) (by rintro e w' ⟨x, rfl, hx, hn⟩; obtain ⟨h1, h2⟩ := hx.uniq Bt.FP.one; exact ⟨(), by dsimp only; rw [h1, h2], trivial, hn⟩))))) (fun xq3 hq4 => ?_)
  refine GL.val (Ex.move rfl) (by decide) ?_
  refine GL.val (Ex.extract rfl rfl) (by decide) ?_
  refine GL.val (Ex.extract rfl rfl) (by decide) ?_
  refine GL.val (Ex.assign rfl) (by decide) ?_
  refine GL.val (Ex.assign rfl) (by decide) ?_
  refine GL.nil ?_
  refine GE.thenN ?_
  refine GC.seq ?_
  refine GC.region ?_
  refine GL.step (Stp.callR (σ := Unit) (p := fun rz => True) (v := fun rz => (.tuple #[(.int .u32 0), (.bool false)])) (N := fun rz => []) (vs := [(.int .i64 1), (.int .i64 (-150))]) rfl rfl T.own13 (by decide) (fun wc hw => (by exact (Calls.mono (fp_p 1 (-150) wc (by omega) (by omega)) (by rintro e w' ⟨x, rfl, hx, hn⟩; obtain ⟨h1, h2⟩ := hx.uniq Bt.FP.low; exact ⟨(), by dsimp only; rw [h1, h2], trivial, hn⟩))))) (fun xq5 hq6 => ?_)
  refine GL.val (Ex.move rfl) (by decide) ?_
  refine GL.val (Ex.extract rfl rfl) (by decide) ?_
  refine GL.val (Ex.extract rfl rfl) (by decide) ?_
  refine GL.val (Ex.assign rfl) (by decide) ?_
  refine GL.val (Ex.assign rfl) (by decide) ?_
  refine GL.nil ?_
  refine GE.thenN ?_
  refine GC.seq ?_
  refine GC.region ?_
  refine GL.step (Stp.callR (σ := Unit) (p := fun rz => True) (v := fun rz => (.tuple #[(.int .u32 0), (.bool false)])) (N := fun rz => []) (vs := [(.int .i64 16777217), (.int .i64 0)]) rfl rfl T.own13 (by decide) (fun wc hw => (by exact (Calls.mono (fp_p 16777217 0 wc (by omega) (by omega)) (by rintro e w' ⟨x, rfl, hx, hn⟩; obtain ⟨h1, h2⟩ := hx.uniq Bt.FP.odd; exact ⟨(), by dsimp only; rw [h1, h2], trivial, hn⟩))))) (fun xq7 hq8 => ?_)
  refine GL.val (Ex.move rfl) (by decide) ?_
  refine GL.val (Ex.extract rfl rfl) (by decide) ?_
  refine GL.val (Ex.extract rfl rfl) (by decide) ?_
  refine GL.val (Ex.assign rfl) (by decide) ?_
  refine GL.val (Ex.assign rfl) (by decide) ?_
  refine GL.nil ?_
  refine GE.thenN ?_
  refine GC.seq ?_
  refine GC.region ?_
  refine GL.step (Stp.callR (σ := Unit) (p := fun rz => True) (v := fun rz => (.tuple #[(.int .u32 3233808384), (.bool true)])) (N := fun rz => []) (vs := [(.int .i64 (-3)), (.int .i64 1)]) rfl rfl T.own13 (by decide) (fun wc hw => (by exact (Calls.mono (fp_p (-3) 1 wc (by omega) (by omega)) (by rintro e w' ⟨x, rfl, hx, hn⟩; obtain ⟨h1, h2⟩ := hx.uniq Bt.FP.m3; exact ⟨(), by dsimp only; rw [h1, h2], trivial, hn⟩))))) (fun xq9 hq10 => ?_)
  refine GL.val (Ex.move rfl) (by decide) ?_
  refine GL.val (Ex.extract rfl rfl) (by decide) ?_
  refine GL.val (Ex.extract rfl rfl) (by decide) ?_
  refine GL.val (Ex.assign rfl) (by decide) ?_
  refine GL.val (Ex.assign rfl) (by decide) ?_
  refine GL.nil ?_
  refine GE.thenN ?_
  refine GC.seq ?_
  refine GC.region ?_
  refine GL.step (Stp.callR (σ := Unit) (p := fun rz => True) (v := fun rz => (.tuple #[(.int .u32 0), (.bool true)])) (N := fun rz => []) (vs := [(.int .u32 2147483648)]) rfl rfl T.own21 (by decide) (fun wc hw => (by have h := next_p 2147483648 wc (by omega); rw [show (Bt.nxt 2147483648).1 = 0 from by decide, show (Bt.nxt 2147483648).2 = true from by decide] at h; exact h))) (fun xq11 hq12 => ?_)
  refine GL.val (Ex.move rfl) (by decide) ?_
  refine GL.val (Ex.extract rfl rfl) (by decide) ?_
  refine GL.val (Ex.extract rfl rfl) (by decide) ?_
  refine GL.val (Ex.assign rfl) (by decide) ?_
  refine GL.val (Ex.assign rfl) (by decide) ?_
  refine GL.nil ?_
  refine GE.thenN ?_
  refine GC.seq ?_
  refine GC.region ?_
  refine GL.step (Stp.callR (σ := Unit) (p := fun rz => True) (v := fun rz => (.tuple #[(.int .u32 0), (.bool false)])) (N := fun rz => []) (vs := [(.int .u32 2147483647)]) rfl rfl T.own21 (by decide) (fun wc hw => (by have h := next_p 2147483647 wc (by omega); rw [show (Bt.nxt 2147483647).1 = 0 from by decide, show (Bt.nxt 2147483647).2 = false from by decide] at h; exact h))) (fun xq13 hq14 => ?_)
  refine GL.val (Ex.move rfl) (by decide) ?_
  refine GL.val (Ex.extract rfl rfl) (by decide) ?_
  refine GL.val (Ex.extract rfl rfl) (by decide) ?_
  refine GL.val (Ex.assign rfl) (by decide) ?_
  refine GL.val (Ex.assign rfl) (by decide) ?_
  refine GL.nil ?_
  refine GE.thenN ?_
  refine GC.seq ?_
  refine GC.region ?_
  refine GL.step (Stp.callR (σ := Unit) (p := fun rz => True) (v := fun rz => (.int .u32 2147483648)) (N := fun rz => []) (vs := [(.int .u32 0)]) rfl rfl T.own25 (by decide) (fun wc hw => (by have h := key_p 0 wc (by omega); rw [show Bt.key 0 = 2147483648 from by decide] at h; exact h))) (fun xq15 hq16 => ?_)
  refine GL.val (v := (.bool true)) (Ex.cast (Ex.eql rfl rfl) rfl) (by decide) ?_
  refine GL.val (Ex.move rfl) (by decide) ?_
  refine GL.stepG (tj := 48) rfl rfl (Stp.callR (σ := Unit) (p := fun rz => True) (v := fun rz => (.int .u32 2147483647)) (N := fun rz => []) (vs := [(.int .u32 2147483648)]) rfl rfl T.own25 (by decide) (fun wc hw => (by have h := key_p 2147483648 wc (by omega); rw [show Bt.key 2147483648 = 2147483647 from by decide] at h; exact h))) (fun xq17 hq18 => ?_)
  refine GL.stepG (tj := 48) rfl rfl (Ex.wp (v := (.bool true)) (Ex.cast (Ex.eql rfl rfl) rfl) (by decide)) (fun _ _ => ?_)
  refine GL.val (v := (.bool true)) (Ex.pickT rfl rfl) (by decide) ?_
  refine GL.val (Ex.move rfl) (by decide) ?_
  refine GL.stepG (tj := 52) rfl rfl (Stp.callR (σ := Unit) (p := fun rz => True) (v := fun rz => (.int .u32 4290772992)) (N := fun rz => []) (vs := [(.int .u32 2143289344)]) rfl rfl T.own25 (by decide) (fun wc hw => (by have h := key_p 2143289344 wc (by omega); rw [show Bt.key 2143289344 = 4290772992 from by decide] at h; exact h))) (fun xq19 hq20 => ?_)
  refine GL.stepG (tj := 52) rfl rfl (Ex.wp (v := (.bool true)) (Ex.cast (Ex.eql rfl rfl) rfl) (by decide)) (fun _ _ => ?_)
  refine GL.val (v := (.bool true)) (Ex.pickT rfl rfl) (by decide) ?_
  refine GL.val (Ex.move rfl) (by decide) ?_
  refine GL.stepG (tj := 56) rfl rfl (Stp.callR (σ := Unit) (p := fun rz => True) (v := fun rz => (.int .u32 4294967295)) (N := fun rz => []) (vs := [(.int .u32 0)]) rfl rfl T.own27 (by decide) (fun wc hw => (by have h := unkey_p 0 wc (by omega); rw [show Bt.unkey 0 = 4294967295 from by decide] at h; exact h))) (fun xq21 hq22 => ?_)
  refine GL.stepG (tj := 56) rfl rfl (Ex.wp (v := (.bool true)) (Ex.cast (Ex.eql rfl rfl) rfl) (by decide)) (fun _ _ => ?_)
  refine GL.val (v := (.bool true)) (Ex.pickT rfl rfl) (by decide) ?_
  refine GL.val (Ex.assign rfl) (by decide) ?_
  refine GL.nil ?_
  refine GE.thenN ?_
  refine GC.seq ?_
  refine GC.region ?_
  refine GL.val (Ex.move rfl) (by decide) ?_
  refine GL.val (Ex.move rfl) (by decide) ?_
  refine GL.stepG (tj := 61) rfl rfl (Ex.wp (v := (.int .i64 8388608)) (Ex.move rfl) (by decide)) (fun _ _ => ?_)
  refine GL.stepG (tj := 61) rfl rfl (Ex.wp (v := (.bool true)) (Ex.cast (Ex.eql rfl rfl) rfl) (by decide)) (fun _ _ => ?_)
  refine GL.val (v := (.bool true)) (Ex.pickT rfl rfl) (by decide) ?_
  refine GL.val (Ex.move rfl) (by decide) ?_
  refine GL.stepG (tj := 65) rfl rfl (Ex.wp (v := (.int .i64 (-23))) (Ex.move rfl) (by decide)) (fun _ _ => ?_)
  refine GL.stepG (tj := 65) rfl rfl (Ex.wp (v := (.bool true)) (Ex.cast (Ex.eql rfl rfl) rfl) (by decide)) (fun _ _ => ?_)
  refine GL.val (v := (.bool true)) (Ex.pickT rfl rfl) (by decide) ?_
  refine GL.val (Ex.move rfl) (by decide) ?_
  refine GL.stepG (tj := 69) rfl rfl (Ex.wp (v := (.bool true)) (Ex.move rfl) (by decide)) (fun _ _ => ?_)
  refine GL.val (v := (.bool true)) (Ex.pickT rfl rfl) (by decide) ?_
  refine GL.val (Ex.move rfl) (by decide) ?_
  refine GL.stepG (tj := 72) rfl rfl (Ex.wp (v := (.int .u32 1065353216)) (Ex.move rfl) (by decide)) (fun _ _ => ?_)
  refine GL.stepG (tj := 72) rfl rfl (Ex.wp (v := (.bool true)) (Ex.cast (Ex.eql rfl rfl) rfl) (by decide)) (fun _ _ => ?_)
  refine GL.val (v := (.bool true)) (Ex.pickT rfl rfl) (by decide) ?_
  refine GL.val (Ex.move rfl) (by decide) ?_
  refine GL.stepG (tj := 76) rfl rfl (Ex.wp (v := (.bool true)) (Ex.move rfl) (by decide)) (fun _ _ => ?_)
  refine GL.val (v := (.bool true)) (Ex.pickT rfl rfl) (by decide) ?_
  refine GL.val (Ex.move rfl) (by decide) ?_
  refine GL.stepG (tj := 79) rfl rfl (Ex.wp (v := (.bool false)) (Ex.move rfl) (by decide)) (fun _ _ => ?_)
  refine GL.stepG (tj := 79) rfl rfl (Ex.wp (v := (.bool true)) (Ex.cast (Ex.not rfl) rfl) (by decide)) (fun _ _ => ?_)
  refine GL.val (v := (.bool true)) (Ex.pickT rfl rfl) (by decide) ?_
  refine GL.val (Ex.move rfl) (by decide) ?_
  refine GL.stepG (tj := 83) rfl rfl (Ex.wp (v := (.bool false)) (Ex.move rfl) (by decide)) (fun _ _ => ?_)
  refine GL.stepG (tj := 83) rfl rfl (Ex.wp (v := (.bool true)) (Ex.cast (Ex.not rfl) rfl) (by decide)) (fun _ _ => ?_)
  refine GL.val (v := (.bool true)) (Ex.pickT rfl rfl) (by decide) ?_
  refine GL.val (Ex.move rfl) (by decide) ?_
  refine GL.stepG (tj := 87) rfl rfl (Ex.wp (v := (.int .u32 3233808384)) (Ex.move rfl) (by decide)) (fun _ _ => ?_)
  refine GL.stepG (tj := 87) rfl rfl (Ex.wp (v := (.bool true)) (Ex.cast (Ex.eql rfl rfl) rfl) (by decide)) (fun _ _ => ?_)
  refine GL.val (v := (.bool true)) (Ex.pickT rfl rfl) (by decide) ?_
  refine GL.val (Ex.move rfl) (by decide) ?_
  refine GL.stepG (tj := 91) rfl rfl (Ex.wp (v := (.bool true)) (Ex.move rfl) (by decide)) (fun _ _ => ?_)
  refine GL.val (v := (.bool true)) (Ex.pickT rfl rfl) (by decide) ?_
  refine GL.val (Ex.move rfl) (by decide) ?_
  refine GL.stepG (tj := 94) rfl rfl (Ex.wp (v := (.int .u32 0)) (Ex.move rfl) (by decide)) (fun _ _ => ?_)
  refine GL.stepG (tj := 94) rfl rfl (Ex.wp (v := (.bool true)) (Ex.cast (Ex.eql rfl rfl) rfl) (by decide)) (fun _ _ => ?_)
  refine GL.val (v := (.bool true)) (Ex.pickT rfl rfl) (by decide) ?_
  refine GL.val (Ex.move rfl) (by decide) ?_
  refine GL.stepG (tj := 98) rfl rfl (Ex.wp (v := (.bool true)) (Ex.move rfl) (by decide)) (fun _ _ => ?_)
  refine GL.val (v := (.bool true)) (Ex.pickT rfl rfl) (by decide) ?_
  refine GL.val (Ex.move rfl) (by decide) ?_
  refine GL.stepG (tj := 101) rfl rfl (Ex.wp (v := (.int .u32 0)) (Ex.move rfl) (by decide)) (fun _ _ => ?_)
  refine GL.stepG (tj := 101) rfl rfl (Ex.wp (v := (.bool true)) (Ex.cast (Ex.eql rfl rfl) rfl) (by decide)) (fun _ _ => ?_)
  refine GL.val (v := (.bool true)) (Ex.pickT rfl rfl) (by decide) ?_
  refine GL.val (Ex.move rfl) (by decide) ?_
  refine GL.stepG (tj := 105) rfl rfl (Ex.wp (v := (.bool false)) (Ex.move rfl) (by decide)) (fun _ _ => ?_)
  refine GL.stepG (tj := 105) rfl rfl (Ex.wp (v := (.bool true)) (Ex.cast (Ex.not rfl) rfl) (by decide)) (fun _ _ => ?_)
  refine GL.val (v := (.bool true)) (Ex.pickT rfl rfl) (by decide) ?_
  refine GL.val (Ex.move rfl) (by decide) ?_
  refine GL.stepG (tj := 109) rfl rfl (Stp.callR (σ := Unit) (p := fun rz => True) (v := fun rz => (.int .i64 1)) (N := fun rz => []) (vs := [(.int .u32 2147483648), (.int .u32 0)]) rfl rfl T.own29 (by decide) (fun wc hw => (by have h := apart_p 2147483648 0 wc (by omega) (by omega); rw [show Bt.key 0 - Bt.key 2147483648 = 1 from by decide] at h; exact h))) (fun xq23 hq24 => ?_)
  refine GL.stepG (tj := 109) rfl rfl (Ex.wp (v := (.bool true)) (Ex.cast (Ex.eql rfl rfl) rfl) (by decide)) (fun _ _ => ?_)
  refine GL.val (v := (.bool true)) (Ex.pickT rfl rfl) (by decide) ?_
  refine GL.val (Ex.move rfl) (by decide) ?_
  refine GL.stepG (tj := 113) rfl rfl (Stp.callR (σ := Unit) (p := fun rz => True) (v := fun rz => (.int .i64 4)) (N := fun rz => []) (vs := [(.int .u32 1)]) rfl rfl T.own15 (by decide) (fun wc hw => (by have h := cls_p 1 wc (by omega); rw [show Bt.cls 1 = 4 from by decide] at h; exact h))) (fun xq25 hq26 => ?_)
  refine GL.stepG (tj := 113) rfl rfl (Ex.wp (v := (.bool true)) (Ex.cast (Ex.eql rfl rfl) rfl) (by decide)) (fun _ _ => ?_)
  refine GL.val (v := (.bool true)) (Ex.pickT rfl rfl) (by decide) ?_
  refine GL.val (Ex.assign rfl) (by decide) ?_
  refine GL.nil ?_
  refine GE.thenN ?_
  refine GC.ret ?_
  refine GC.ret1 rfl (Rv.tmp rfl) (fun wN HN => ?_)
  exact HN.ret () trivial rfl (List.nil_sublist _) rfl

set_option maxRecDepth 100000 in
set_option maxHeartbeats 1000000 in
theorem abs_p (a r : Nat) (w : World) (ha : a < 2) (hr : r < 9218868437227405312) :
    Calls Try.prog 54 #[(.float .f64 ((Ld.wd a r)))] w (Ret w (fun _ : Unit => True) (fun _ => .float .f64 r) (fun _ => [])) := by
  have hX := Ld.wd_is ha hr
  have hR := Ld.rung_is hr
  have hlt := Ld.wd_lt ha hr
  refine enter (M := None) (L := []) (n := 7) (l := [(0, (.float .f64 ((Ld.wd a r))))]) Try.func54 rfl rfl (Args.cons rfl (Args.nil _)) (Hp.start _ _) ?_
  refine GC.seq ?_
  refine GC.region ?_
  refine GL.val (Ex.assign rfl) (by decide) ?_
  refine GL.nil ?_
  refine GE.thenN ?_
  refine GC.seq ?_
  refine GC.region ?_
  refine GL.val (Ex.move rfl) (by decide) ?_
  refine GL.val (v := (.int .u64 ((((Ld.wd a r) : Nat) : Int)))) (Ex.ext (vs := [(.float .f64 ((Ld.wd a r)))]) rfl rfl T.ext50 (fun _ => rfl)) (by decide) ?_
  refine GL.val (v := (.int .u64 (((r : Nat) : Int)))) (Ex.andn rfl rfl (Z := ((r : Nat) : Int)) (by have h := Ld.andn63 hlt; rw [Ld.wd_mod hr] at h; exact h)) (by decide) ?_
  refine GL.val (v := (.float .f64 ((((r : Nat) : Int)).toNat))) (Ex.ext (vs := [(.int .u64 (((r : Nat) : Int)))]) rfl rfl T.ext53 (fun _ => rfl)) (by decide) ?_
  refine GL.val (Ex.assign rfl) (by decide) ?_
  refine GL.nil ?_
  refine GE.thenN ?_
  refine GC.ret ?_
  refine GC.ret1 rfl (Rv.tmp rfl) (fun wN HN => ?_)
  exact HN.ret () trivial rfl (List.nil_sublist _) rfl

set_option maxRecDepth 100000 in
set_option maxHeartbeats 1000000 in
theorem isinf_p (a r : Nat) (w : World) (ha : a < 2) (hr : r < 9218868437227405312) :
    Calls Try.prog 47 #[(.float .f64 ((Ld.wd a r))), (.int .i64 0)] w (Ret w (fun _ : Unit => True) (fun _ => .bool false) (fun _ => [])) := by
  have hX := Ld.wd_is ha hr
  have hR := Ld.rung_is hr
  have hlt := Ld.wd_lt ha hr
  refine enter (M := None) (L := []) (n := 15) (l := [(0, (.float .f64 ((Ld.wd a r)))), (1, (.int .i64 0))]) Try.func47 rfl rfl (Args.cons rfl (Args.cons rfl (Args.nil _))) (Hp.start _ _) ?_
  refine GC.seq ?_
  refine GC.region ?_
  refine GL.val (Ex.assign rfl) (by decide) ?_
  refine GL.nil ?_
  refine GE.thenN ?_
  refine GC.seq ?_
  refine GC.seq ?_
  refine GC.region ?_
  refine GL.val (Ex.move rfl) (by decide) ?_
  refine GL.val (v := (.bool true)) (Ex.cast (Ex.eql rfl rfl) rfl) (by decide) ?_
  refine GL.nil ?_
  refine GE.thenN ?_
  refine GC.cond rfl (fun _ => ?_) (fun hq1 => by cases hq1)
  refine GC.region ?_
  refine GL.val (Ex.move rfl) (by decide) ?_
  refine GL.step (Stp.callR (vs := [(.float .f64 ((Ld.wd a r)))]) rfl rfl T.own54 (by decide) (fun wc hw => abs_p a r wc ha hr)) (fun xq2 hq3 => ?_)
  refine GL.val (Ex.assign rfl) (by decide) ?_
  refine GL.nil ?_
  refine GE.thenN ?_
  refine GC.seq ?_
  refine GC.region ?_
  refine GL.val (Ex.move rfl) (by decide) ?_
  refine GL.val (v := (.bool false)) (Ex.fgtr (r := false) rfl rfl (Eq.trans (congrArg (fun o : Option Ordering => (o == some .gt)) (Fv.ord_eq hR (show Fv.Is .f64 9218868437227405311 (some 9218868437227405311) from ⟨rfl, by decide +kernel⟩))) (Ld.not_gt (by omega) (by decide)))) (by decide) ?_
  refine GL.val (Ex.assign rfl) (by decide) ?_
  refine GL.nil ?_
  refine GE.thenN ?_
  refine GC.ret ?_
  refine GC.ret1 rfl (Rv.tmp rfl) (fun wN HN => ?_)
  exact HN.ret () trivial rfl (List.nil_sublist _) rfl

set_option maxRecDepth 100000 in
set_option maxHeartbeats 1000000 in
theorem isnan_p (a r : Nat) (w : World) (ha : a < 2) (hr : r < 9218868437227405312) :
    Calls Try.prog 48 #[(.float .f64 ((Ld.wd a r)))] w (Ret w (fun _ : Unit => True) (fun _ => .bool false) (fun _ => [])) := by
  have hX := Ld.wd_is ha hr
  have hR := Ld.rung_is hr
  have hlt := Ld.wd_lt ha hr
  refine enter (M := None) (L := []) (n := 6) (l := [(0, (.float .f64 ((Ld.wd a r))))]) Try.func48 rfl rfl (Args.cons rfl (Args.nil _)) (Hp.start _ _) ?_
  refine GC.seq ?_
  refine GC.region ?_
  refine GL.val (Ex.assign rfl) (by decide) ?_
  refine GL.nil ?_
  refine GE.thenN ?_
  refine GC.seq ?_
  refine GC.region ?_
  refine GL.val (Ex.move rfl) (by decide) ?_
  refine GL.val (Ex.move rfl) (by decide) ?_
  refine GL.val (v := (.bool false)) (Ex.fneq (r := false) rfl rfl (Eq.trans (congrArg (fun o : Option Ordering => (o != some .eq)) (Fv.ord_eq hX hX)) (Fv.neq_self hX))) (by decide) ?_
  refine GL.val (Ex.assign rfl) (by decide) ?_
  refine GL.nil ?_
  refine GE.thenN ?_
  refine GC.ret ?_
  refine GC.ret1 rfl (Rv.tmp rfl) (fun wN HN => ?_)
  exact HN.ret () trivial rfl (List.nil_sublist _) rfl

set_option maxRecDepth 100000 in
set_option maxHeartbeats 1000000 in
theorem norm_p (a r : Nat) (w : World) (ha : a < 2) (hr : r < 9218868437227405312) (hn : 4503599627370496 ≤ r) :
    Calls Try.prog 49 #[(.float .f64 ((Ld.wd a r)))] w (Ret w (fun _ : Unit => True) (fun _ => .tuple #[.float .f64 (Ld.wd a r), .int .i64 0]) (fun _ => [])) := by
  have hX := Ld.wd_is ha hr
  have hR := Ld.rung_is hr
  have hlt := Ld.wd_lt ha hr
  refine enter (M := None) (L := []) (n := 10) (l := [(0, (.float .f64 ((Ld.wd a r))))]) Try.func49 rfl rfl (Args.cons rfl (Args.nil _)) (Hp.start _ _) ?_
  refine GC.seq ?_
  refine GC.region ?_
  refine GL.val (Ex.assign rfl) (by decide) ?_
  refine GL.val (Ex.assign rfl) (by decide) ?_
  refine GL.nil ?_
  refine GE.thenN ?_
  refine GC.seq ?_
  refine GC.seq ?_
  refine GC.region ?_
  refine GL.val (Ex.move rfl) (by decide) ?_
  refine GL.step (Stp.callR (vs := [(.float .f64 ((Ld.wd a r)))]) rfl rfl T.own54 (by decide) (fun wc hw => abs_p a r wc ha hr)) (fun xq1 hq2 => ?_)
  refine GL.val (v := (.bool false)) (Ex.flss (r := false) rfl rfl (Eq.trans (congrArg (fun o : Option Ordering => (o == some .lt)) (Fv.ord_eq hR (show Fv.Is .f64 4503599627370496 (some 4503599627370496) from ⟨rfl, by decide +kernel⟩))) (Ld.not_lt (by omega) hr))) (by decide) ?_
  refine GL.nil ?_
  refine GE.thenN ?_
  refine GC.cond rfl (fun hq3 => by cases hq3) (fun _ => ?_)
  refine GC.skip ?_
  refine GE.thenN ?_
  refine GC.seq ?_
  refine GC.region ?_
  refine GL.val (Ex.move rfl) (by decide) ?_
  refine GL.val (Ex.assign rfl) (by decide) ?_
  refine GL.val (Ex.assign rfl) (by decide) ?_
  refine GL.nil ?_
  refine GE.thenN ?_
  refine GC.ret ?_
  refine GC.ret2 rfl (Rv.tmp rfl) (Rv.tmp rfl) (fun wN HN => ?_)
  exact HN.ret () trivial rfl (List.nil_sublist _) rfl

set_option maxRecDepth 100000 in
set_option maxHeartbeats 1000000 in
theorem ldexp_p (a r : Nat) (e : Int) (w : World) (ha : a < 2) (hr : r < 9218868437227405312) (hq : 1023 ≤ r / 4503599627370496 ∧ r / 4503599627370496 ≤ 1076) (he : -300 ≤ e ∧ e ≤ 300) :
    Calls Try.prog 46 #[(.float .f64 ((Ld.wd a r))), (.int .i64 e)] w (Ret w (fun _ : Unit => True) (fun _ => .float .f64 (Ld.ldx a r e)) (fun _ => [])) := by
  have hX := Ld.wd_is ha hr
  have hR := Ld.rung_is hr
  have hlt := Ld.wd_lt ha hr
  have he1 : 1 ≤ (e + (((r / 4503599627370496) : Nat) : Int)).toNat := by omega
  have he2 : (e + (((r / 4503599627370496) : Nat) : Int)).toNat < 2047 := by omega
  have hwq : Ld.wd a r / 4503599627370496 < 4096 := by omega
  refine enter (M := None) (L := []) (n := 63) (l := [(0, (.float .f64 ((Ld.wd a r)))), (1, (.int .i64 e))]) Try.func46 rfl rfl (Args.cons rfl (Args.cons rfl (Args.nil _))) (Hp.start _ _) ?_
  refine GC.seq ?_
  refine GC.region ?_
  refine GL.val (Ex.assign rfl) (by decide) ?_
  refine GL.nil ?_
  refine GE.thenN ?_
  refine GC.seq ?_
  refine GC.block ?_
  refine GC.seq ?_
  refine GC.region ?_
  refine GL.val (Ex.move rfl) (by decide) ?_
  refine GL.val (v := (.bool false)) (Ex.feql (r := false) rfl rfl (Eq.trans (congrArg (fun o : Option Ordering => (o == some .eq)) (Fv.ord_eq hX (show Fv.Is .f64 0 (some 0) from ⟨rfl, by decide +kernel⟩))) (Ld.ne_zero ha (by omega) hr))) (by decide) ?_
  refine GL.val (Ex.assign rfl) (by decide) ?_
  refine GL.nil ?_
  refine GE.thenN ?_
  refine GC.cond rfl (fun hq1 => by cases hq1) (fun _ => ?_)
  refine GC.seq ?_
  refine GC.region ?_
  refine GL.val (Ex.move rfl) (by decide) ?_
  refine GL.step (Stp.callR (vs := [(.float .f64 ((Ld.wd a r))), (.int .i64 0)]) rfl rfl T.own47 (by decide) (fun wc hw => isinf_p a r wc ha hr)) (fun xq2 hq3 => ?_)
  refine GL.val (Ex.move rfl) (by decide) ?_
  refine GL.stepG (tj := 15) rfl rfl (Ex.wp (v := (.float .f64 ((Ld.wd a r)))) (Ex.move rfl) (by decide)) (fun _ _ => ?_)
  refine GL.stepG (tj := 15) rfl rfl (Stp.callR (vs := [(.float .f64 ((Ld.wd a r)))]) rfl rfl T.own48 (by decide) (fun wc hw => isnan_p a r wc ha hr)) (fun xq4 hq5 => ?_)
  refine GL.val (v := (.bool false)) (Ex.pickF rfl rfl) (by decide) ?_
  refine GL.val (Ex.assign rfl) (by decide) ?_
  refine GL.nil ?_
  refine GE.thenN ?_
  refine GC.cond rfl (fun hq6 => by cases hq6) (fun _ => ?_)
  refine GC.skip ?_
  refine GE.blockN ?_
  refine GE.thenN ?_
  refine GC.seq ?_
  refine GC.region ?_
  refine GL.val (Ex.move rfl) (by decide) ?_
  refine GL.step (Stp.callR (vs := [(.float .f64 ((Ld.wd a r)))]) rfl rfl T.own49 (by decide) (fun wc hw => norm_p a r wc ha hr (by omega))) (fun xq7 hq8 => ?_)
  refine GL.val (Ex.move rfl) (by decide) ?_
  refine GL.val (Ex.extract rfl rfl) (by decide) ?_
  refine GL.val (Ex.extract rfl rfl) (by decide) ?_
  refine GL.val (Ex.assign rfl) (by decide) ?_
  refine GL.val (Ex.assign rfl) (by decide) ?_
  refine GL.nil ?_
  refine GE.thenN ?_
  refine GC.seq ?_
  refine GC.region ?_
  refine GL.val (Ex.move rfl) (by decide) ?_
  refine GL.val (Ex.move rfl) (by decide) ?_
  refine GL.val (v := (.int .i64 (e + 0))) (Ex.add rfl rfl (Z := e + 0) (w64 (by omega))) (by decide) ?_
  refine GL.val (Ex.assign rfl) (by decide) ?_
  refine GL.nil ?_
  refine GE.thenN ?_
  refine GC.seq ?_
  refine GC.region ?_
  refine GL.val (Ex.move rfl) (by decide) ?_
  refine GL.val (v := (.int .u64 ((((Ld.wd a r) : Nat) : Int)))) (Ex.ext (vs := [(.float .f64 ((Ld.wd a r)))]) rfl rfl T.ext50 (fun _ => rfl)) (by decide) ?_
  refine GL.val (Ex.assign rfl) (by decide) ?_
  refine GL.nil ?_
  refine GE.thenN ?_
  refine GC.seq ?_
  refine GC.region ?_
  refine GL.val (Ex.move rfl) (by decide) ?_
  refine GL.val (Ex.move rfl) (by decide) ?_
  refine GL.val (v := (.int .u64 (((Ld.wd a r / 4503599627370496 : Nat) : Int)))) (Ex.shr rfl (m := 52) rfl (by decide) (Z := ((Ld.wd a r / 4503599627370496 : Nat) : Int)) (by show ((Ld.wd a r : Nat) : Int) / 4503599627370496 = _; omega)) (by decide) ?_
  refine GL.val (v := (.int .i64 (((Ld.wd a r / 4503599627370496 : Nat) : Int)))) (Ex.conv rfl Try.underlying47 Try.underlying3 (Z := ((Ld.wd a r / 4503599627370496 : Nat) : Int)) (w64 (by omega))) (by decide) ?_
  refine GL.val (v := (.int .i64 ((((r / 4503599627370496) : Nat) : Int)))) (Ex.bits rfl rfl (by simp) (Z := (((r / 4503599627370496) : Nat) : Int)) (Ld.low11 ha hr)) (by decide) ?_
  refine GL.val (v := (.int .i64 (((((r / 4503599627370496) : Nat) : Int)) - 1023))) (Ex.sub' rfl rfl (Z := ((((r / 4503599627370496) : Nat) : Int)) - 1023) (w64 (by omega))) (by decide) ?_
  refine GL.val (v := (.int .i64 (e + 0 + ((((r / 4503599627370496) : Nat) : Int) - 1023)))) (Ex.add rfl rfl (Z := e + 0 + ((((r / 4503599627370496) : Nat) : Int) - 1023)) (w64 (by omega))) (by decide) ?_
  refine GL.val (Ex.assign rfl) (by decide) ?_
  refine GL.nil ?_
  refine GE.thenN ?_
  refine GC.seq ?_
  refine GC.seq ?_
  refine GC.region ?_
  refine GL.val (Ex.move rfl) (by decide) ?_
  refine GL.val (v := (.bool (decide ((e + 0 + ((((r / 4503599627370496) : Nat) : Int) - 1023)) < (-1075))))) (Ex.lss rfl rfl) (by decide) ?_
  refine GL.nil ?_
  refine GE.thenN ?_
  refine GC.cond rfl (fun hq9 => by exfalso; have hq9 := of_decide_eq_true hq9; omega) (fun _ => ?_)
  refine GC.skip ?_
  refine GE.thenN ?_
  refine GC.seq ?_
  refine GC.seq ?_
  refine GC.region ?_
  refine GL.val (Ex.move rfl) (by decide) ?_
  refine GL.val (v := (.bool (decide (1023 < (e + 0 + ((((r / 4503599627370496) : Nat) : Int) - 1023)))))) (Ex.gtr rfl rfl) (by decide) ?_
  refine GL.nil ?_
  refine GE.thenN ?_
  refine GC.cond rfl (fun hq10 => by exfalso; have hq10 := of_decide_eq_true hq10; omega) (fun _ => ?_)
  refine GC.skip ?_
  refine GE.thenN ?_
  refine GC.seq ?_
  refine GC.region ?_
  refine GL.val (Ex.assign rfl) (by decide) ?_
  refine GL.nil ?_
  refine GE.thenN ?_
  refine GC.seq ?_
  refine GC.seq ?_
  refine GC.region ?_
  refine GL.val (Ex.move rfl) (by decide) ?_
  refine GL.val (v := (.bool (decide ((e + 0 + ((((r / 4503599627370496) : Nat) : Int) - 1023)) < (-1022))))) (Ex.lss rfl rfl) (by decide) ?_
  refine GL.nil ?_
  refine GE.thenN ?_
  refine GC.cond rfl (fun hq11 => by exfalso; have hq11 := of_decide_eq_true hq11; omega) (fun _ => ?_)
  refine GC.skip ?_
  refine GE.thenN ?_
  refine GC.seq ?_
  refine GC.region ?_
  refine GL.val (Ex.move rfl) (by decide) ?_
  refine GL.val (v := (.int .u64 (((a * 9223372036854775808 + r % 4503599627370496 : Nat) : Int)))) (Ex.andn rfl rfl (Z := ((a * 9223372036854775808 + r % 4503599627370496 : Nat) : Int)) (Ld.andn52' ha hr)) (by decide) ?_
  refine GL.val (Ex.assign rfl) (by decide) ?_
  refine GL.nil ?_
  refine GE.thenN ?_
  refine GC.seq ?_
  refine GC.region ?_
  refine GL.val (Ex.move rfl) (by decide) ?_
  refine GL.val (Ex.move rfl) (by decide) ?_
  refine GL.val (v := (.int .i64 (((((e + (((r / 4503599627370496) : Nat) : Int)).toNat : Nat) : Int))))) (Ex.add rfl rfl (Z := ((((e + (((r / 4503599627370496) : Nat) : Int)).toNat : Nat) : Int))) (by rw [w64 (by omega)]; omega)) (by decide) ?_
  refine GL.val (v := (.int .u64 (((((e + (((r / 4503599627370496) : Nat) : Int)).toNat : Nat) : Int))))) (Ex.conv rfl Try.underlying3 Try.underlying47 (Z := ((((e + (((r / 4503599627370496) : Nat) : Int)).toNat : Nat) : Int))) (wu64b (by omega))) (by decide) ?_
  refine GL.val (v := (.int .u64 (((((e + (((r / 4503599627370496) : Nat) : Int)).toNat : Nat) : Int) * 4503599627370496)))) (Ex.shl rfl (m := 52) rfl (by decide) (Z := ((((e + (((r / 4503599627370496) : Nat) : Int)).toNat : Nat) : Int) * 4503599627370496)) (Ld.shl52 he1 he2)) (by decide) ?_
  refine GL.val (v := (.int .u64 (((Ld.ldx a r e : Nat) : Int)))) (Ex.bits rfl rfl (by simp) (Z := ((Ld.ldx a r e : Nat) : Int)) (Ld.or52 ha hr he1 he2)) (by decide) ?_
  refine GL.val (Ex.assign rfl) (by decide) ?_
  refine GL.nil ?_
  refine GE.thenN ?_
  refine GC.seq ?_
  refine GC.region ?_
  refine GL.val (Ex.move rfl) (by decide) ?_
  refine GL.val (Ex.move rfl) (by decide) ?_
  refine GL.val (v := (.float .f64 ((((Ld.ldx a r e : Nat) : Int)).toNat))) (Ex.ext (vs := [(.int .u64 (((Ld.ldx a r e : Nat) : Int)))]) rfl rfl T.ext53 (fun _ => rfl)) (by decide) ?_
  refine GL.step (Stp.fop (fx := (some 4607182418800017408)) (fy := (Fv.rd .f64 ((((Ld.ldx a r e : Nat) : Int)).toNat))) rfl rfl rfl (show Fv.Is .f64 4607182418800017408 (some 4607182418800017408) from ⟨rfl, by decide +kernel⟩) (Fv.Is.rd _ _) (by decide)) (fun xq12 hq13 => ?_)
  refine GL.val (Ex.assign rfl) (by decide) ?_
  refine GL.nil ?_
  refine GE.thenN ?_
  refine GC.ret ?_
  refine GC.ret1 rfl (Rv.tmp rfl) (fun wN HN => ?_)
  have e0 := hq13
  rw [Int.toNat_natCast, Ld.rd_ldx ha hr he1 he2, Ld.ldx_one ha hr he1 he2] at e0
  exact HN.ret () trivial (by rw [e0.1]) (List.nil_sublist _) rfl

set_option maxRecDepth 100000 in
set_option maxHeartbeats 1000000 in
theorem ldexp_0 (e : Int) (w : World) :
    Calls Try.prog 46 #[(.float .f64 0), (.int .i64 e)] w (Ret w (fun _ : Unit => True) (fun _ => .float .f64 0) (fun _ => [])) := by
  refine enter (M := None) (L := []) (n := 63) (l := [(0, (.float .f64 0)), (1, (.int .i64 e))]) Try.func46 rfl rfl (Args.cons rfl (Args.cons rfl (Args.nil _))) (Hp.start _ _) ?_
  refine GC.seq ?_
  refine GC.region ?_
  refine GL.val (Ex.assign rfl) (by decide) ?_
  refine GL.nil ?_
  refine GE.thenN ?_
  refine GC.seq ?_
  refine GC.block ?_
  refine GC.seq ?_
  refine GC.region ?_
  refine GL.val (Ex.move rfl) (by decide) ?_
  refine GL.val (v := (.bool true)) (Ex.feql (r := true) rfl rfl (by kernel_rfl)) (by decide) ?_
  refine GL.val (Ex.assign rfl) (by decide) ?_
  refine GL.nil ?_
  refine GE.thenN ?_
  refine GC.cond rfl (fun _ => ?_) (fun hq1 => by cases hq1)
  refine GC.seq ?_
  refine GC.region ?_
  refine GL.val (Ex.move rfl) (by decide) ?_
  refine GL.val (Ex.assign rfl) (by decide) ?_
  refine GL.nil ?_
  refine GE.thenN ?_
  refine GC.ret ?_
  refine GE.blockR ?_
  refine GE.thenR ?_
  refine GC.ret1 rfl (Rv.tmp rfl) (fun wN HN => ?_)
  exact HN.ret () trivial rfl (List.nil_sublist _) rfl

set_option maxRecDepth 100000 in
set_option maxHeartbeats 1000000 in
theorem Ldexp_p (a r : Nat) (e : Int) (w : World) (ha : a < 2) (hr : r < 9218868437227405312) (hq : 1023 ≤ r / 4503599627370496 ∧ r / 4503599627370496 ≤ 1076) (he : -300 ≤ e ∧ e ≤ 300) :
    Calls Try.prog 42 #[(.float .f64 ((Ld.wd a r))), (.int .i64 e)] w (Ret w (fun _ : Unit => True) (fun _ => .float .f64 (Ld.ldx a r e)) (fun _ => [])) := by
  have hX := Ld.wd_is ha hr
  have hR := Ld.rung_is hr
  have hlt := Ld.wd_lt ha hr
  refine enter (M := None) (L := []) (n := 11) (l := [(0, (.float .f64 ((Ld.wd a r)))), (1, (.int .i64 e))]) Try.func42 rfl rfl (Args.cons rfl (Args.cons rfl (Args.nil _))) (Hp.start _ _) ?_
  refine GC.seq ?_
  refine GC.region ?_
  refine GL.val (Ex.assign rfl) (by decide) ?_
  refine GL.nil ?_
  refine GE.thenN ?_
  refine GC.seq ?_
  refine GC.cond rfl (fun hq1 => by cases hq1) (fun _ => ?_)
  refine GC.skip ?_
  refine GE.thenN ?_
  refine GC.seq ?_
  refine GC.region ?_
  refine GL.val (Ex.move rfl) (by decide) ?_
  refine GL.val (Ex.move rfl) (by decide) ?_
  refine GL.step (Stp.callR (vs := [(.float .f64 ((Ld.wd a r))), (.int .i64 e)]) rfl rfl T.own46 (by decide) (fun wc hw => ldexp_p a r e wc ha hr hq he)) (fun xq2 hq3 => ?_)
  refine GL.val (Ex.assign rfl) (by decide) ?_
  refine GL.nil ?_
  refine GE.thenN ?_
  refine GC.ret ?_
  refine GC.ret1 rfl (Rv.tmp rfl) (fun wN HN => ?_)
  exact HN.ret () trivial rfl (List.nil_sublist _) rfl

set_option maxRecDepth 100000 in
set_option maxHeartbeats 1000000 in
theorem Ldexp_0 (e : Int) (w : World) :
    Calls Try.prog 42 #[(.float .f64 0), (.int .i64 e)] w (Ret w (fun _ : Unit => True) (fun _ => .float .f64 0) (fun _ => [])) := by
  refine enter (M := None) (L := []) (n := 11) (l := [(0, (.float .f64 0)), (1, (.int .i64 e))]) Try.func42 rfl rfl (Args.cons rfl (Args.cons rfl (Args.nil _))) (Hp.start _ _) ?_
  refine GC.seq ?_
  refine GC.region ?_
  refine GL.val (Ex.assign rfl) (by decide) ?_
  refine GL.nil ?_
  refine GE.thenN ?_
  refine GC.seq ?_
  refine GC.cond rfl (fun hq1 => by cases hq1) (fun _ => ?_)
  refine GC.skip ?_
  refine GE.thenN ?_
  refine GC.seq ?_
  refine GC.region ?_
  refine GL.val (Ex.move rfl) (by decide) ?_
  refine GL.val (Ex.move rfl) (by decide) ?_
  refine GL.step (Stp.callR (vs := [(.float .f64 0), (.int .i64 e)]) rfl rfl T.own46 (by decide) (fun wc hw => ldexp_0 e wc)) (fun xq2 hq3 => ?_)
  refine GL.val (Ex.assign rfl) (by decide) ?_
  refine GL.nil ?_
  refine GE.thenN ?_
  refine GC.ret ?_
  refine GC.ret1 rfl (Rv.tmp rfl) (fun wN HN => ?_)
  exact HN.ret () trivial rfl (List.nil_sublist _) rfl

theorem ldexp_int (m e : Int) (w : World) (hm : m.natAbs ≤ 9007199254740992) (he : -300 ≤ e ∧ e ≤ 300) : Calls Try.prog 42 #[.float .f64 (floatOfInt .f64 m), .int .i64 e] w (Ret w (fun z : Nat => Sl.At (some z) (m * ((2 ^ (e + 1300).toNat : Nat) : Int))) (fun z => .float .f64 z) (fun _ => [])) := by
  by_cases h0 : m = 0
  · subst h0
    rw [Ld.int_zero, Int.zero_mul]
    exact Calls.mono (Ldexp_0 e w) fun _ _ ⟨x, h, hp, hn⟩ => ⟨0, h, Ld.at_zero, hn⟩
  · obtain ⟨s, r, h1, h2, h3, h4⟩ := Ld.int_word h0 hm
    have hq := Ld.int_parts h0 hm h2 h4
    have ha := Ld.toNat_two s
    rw [h1, Ld.word_wd]
    exact Calls.mono (Ldexp_p s.toNat r e w ha h2 hq he) fun _ _ ⟨x, h, hp, hn⟩ => ⟨_, h, Ld.ldx_at h0 hm he ha (Ld.toNat_one s h3) h2 h4 hq, hn⟩

set_option maxRecDepth 100000 in
set_option maxHeartbeats 1000000 in
theorem bv_fin (s n e : Int) (w : World) (hs : 0 ≤ s ∧ s < 4294967296) (hn : -9223372036854775808 ≤ n ∧ n ≤ 9223372036854775807) (he : -9223372036854775808 ≤ e ∧ e ≤ 9223372036854775807) (hf : s / 8388608 % 256 ≠ 255) :
    Calls Try.prog 9 #[(.int .u32 s), (.int .i64 n), (.int .i64 e)] w (Ret w (fun _ : Unit => True) (fun _ => .bool true) (fun _ => [])) := by
  have hpb := Ld.prts_bd hs
  have hVs := Ld.V_parts hs hf
  refine enter (M := None) (L := []) (n := 116) (l := [(0, (.int .u32 s)), (1, (.int .i64 n)), (2, (.int .i64 e))]) Try.func9 rfl rfl (Args.cons rfl (Args.cons rfl (Args.cons rfl (Args.nil _)))) (Hp.start _ _) ?_
  refine GC.seq ?_
  refine GC.region ?_
  refine GL.val (Ex.assign rfl) (by decide) ?_
  refine GL.nil ?_
  refine GE.thenN ?_
  refine GC.seq ?_
  refine GC.seq ?_
  refine GC.region ?_
  refine GL.step (Stp.callR (vs := []) rfl rfl T.own10 (by decide) (fun wc hw => known wc)) (fun xq1 hq2 => ?_)
  refine GL.val (v := (.bool false)) (Ex.cast (Ex.not rfl) rfl) (by decide) ?_
  refine GL.nil ?_
  refine GE.thenN ?_
  refine GC.cond rfl (fun hq3 => by cases hq3) (fun _ => ?_)
  refine GC.skip ?_
  refine GE.thenN ?_
  refine GC.seq ?_
  refine GC.region ?_
  refine GL.val (Ex.move rfl) (by decide) ?_
  refine GL.step (Stp.callR (σ := Unit) (p := fun rz => True) (v := fun rz => (.tuple #[(.int .i64 ((Bt.prts s).1)), (.int .i64 ((Bt.prts s).2.1)), (.bool true)])) (N := fun rz => []) (vs := [(.int .u32 s)]) rfl rfl T.own11 (by decide) (fun wc hw => (by have h := parts_p s wc hs; rw [show (Bt.prts s).2.2 = true from Ld.prts_ok hf] at h; exact h))) (fun xq4 hq5 => ?_)
  refine GL.val (Ex.move rfl) (by decide) ?_
  refine GL.val (Ex.extract rfl rfl) (by decide) ?_
  refine GL.val (Ex.extract rfl rfl) (by decide) ?_
  refine GL.val (Ex.extract rfl rfl) (by decide) ?_
  refine GL.val (Ex.assign rfl) (by decide) ?_
  refine GL.val (Ex.assign rfl) (by decide) ?_
  refine GL.val (Ex.assign rfl) (by decide) ?_
  refine GL.nil ?_
  refine GE.thenN ?_
  refine GC.seq ?_
  refine GC.region ?_
  refine GL.val (Ex.move rfl) (by decide) ?_
  refine GL.val (v := (.float .f32 s.toNat)) (Ex.ext (vs := [(.int .u32 s)]) rfl rfl T.ext33 (fun _ => rfl)) (by decide) ?_
  refine GL.val (Ex.assign rfl) (by decide) ?_
  refine GL.nil ?_
  refine GE.thenN ?_
  refine GC.seq ?_
  refine GC.region ?_
  refine GL.val (Ex.move rfl) (by decide) ?_
  refine GL.val (Ex.move rfl) (by decide) ?_
  refine GL.val (v := (.bool true)) (Ex.feql (r := true) rfl rfl (Eq.trans (congrArg (fun o : Option Ordering => (o == some .eq)) (Fv.ord_eq (Fv.Is.rd _ _) (Fv.Is.rd _ _))) (Ld.fin_self hs hf).1)) (by decide) ?_
  refine GL.val (Ex.move rfl) (by decide) ?_
  refine GL.stepG (tj := 29) rfl rfl (Ex.wp (v := (.float .f32 s.toNat)) (Ex.move rfl) (by decide)) (fun _ _ => ?_)
  refine GL.stepG (tj := 29) rfl rfl (Ex.wp (v := (.float .f32 s.toNat)) (Ex.move rfl) (by decide)) (fun _ _ => ?_)
  refine GL.stepG (tj := 29) rfl rfl (Stp.fop (fx := (Fv.rd .f32 s.toNat)) (fy := (Fv.rd .f32 s.toNat)) rfl rfl rfl (Fv.Is.rd _ _) (Fv.Is.rd _ _) (by decide)) (fun xq6 hq7 => ?_)
  refine GL.stepG (tj := 29) rfl rfl (Ex.wp (v := (.bool true)) (Ex.feql (r := true) rfl rfl (Eq.trans (congrArg (fun o : Option Ordering => (o == some .eq)) (Fv.ord_eq hq7 (show Fv.Is .f32 0 (some 0) from ⟨rfl, by decide +kernel⟩))) (Ld.fin_self hs hf).2)) (by decide)) (fun _ _ => ?_)
  refine GL.val (v := (.bool true)) (Ex.pickT rfl rfl) (by decide) ?_
  refine GL.val (Ex.assign rfl) (by decide) ?_
  refine GL.nil ?_
  refine GE.thenN ?_
  refine GC.seq ?_
  refine GC.seq ?_
  refine GC.region ?_
  refine GL.val (Ex.move rfl) (by decide) ?_
  refine GL.val (Ex.move rfl) (by decide) ?_
  refine GL.val (v := (.bool false)) (Ex.cast (Ex.neqB rfl rfl Try.underlying4) rfl) (by decide) ?_
  refine GL.val (Ex.move rfl) (by decide) ?_
  refine GL.stepG (tj := 38) rfl rfl (Ex.wp (v := (.bool true)) (Ex.move rfl) (by decide)) (fun _ _ => ?_)
  refine GL.stepG (tj := 38) rfl rfl (Ex.wp (v := (.bool true)) (Ex.move rfl) (by decide)) (fun _ _ => ?_)
  refine GL.stepG (tj := 40) rfl rfl (Ex.wp (v := (.int .i64 ((Bt.prts s).1))) (Ex.move rfl) (by decide)) (fun _ _ => ?_)
  refine GL.stepG (tj := 40) rfl rfl (Ex.wp (v := (.float .f64 ((floatOfInt .f64 ((Bt.prts s).1))))) (Ex.cif rfl Try.underlying3 Try.underlying40) (by decide)) (fun _ _ => ?_)
  refine GL.stepG (tj := 40) rfl rfl (Ex.wp (v := (.int .i64 ((Bt.prts s).2.1))) (Ex.move rfl) (by decide)) (fun _ _ => ?_)
  refine GL.stepG (tj := 40) rfl rfl (Stp.callR (vs := [(.float .f64 ((floatOfInt .f64 ((Bt.prts s).1)))), (.int .i64 ((Bt.prts s).2.1))]) rfl rfl T.own42 (by decide) (fun wc hw => ldexp_int (((Bt.prts s).1)) ((Bt.prts s).2.1) wc (by omega) (by omega))) (fun xq8 hq9 => ?_)
  refine GL.stepG (tj := 40) rfl rfl (Ex.wp (v := (.float .f32 s.toNat)) (Ex.move rfl) (by decide)) (fun _ _ => ?_)
  refine GL.stepG (tj := 40) rfl rfl (Stp.fcv (fx := (Fv.rd .f32 s.toNat)) (by decide) rfl Try.underlying35 Try.underlying40 (Fv.Is.rd _ _) Fv.holds_up (by decide)) (fun xq10 hq11 => ?_)
  refine GL.stepG (tj := 40) rfl rfl (Ex.wp (v := (.bool false)) (Ex.fneq (r := false) rfl rfl (Eq.trans (congrArg (fun o : Option Ordering => (o != some .eq)) (Fv.ord_eq (Ld.at_is hq9) hq11.1)) (Ld.same_ne hq9 hVs).1)) (by decide)) (fun _ _ => ?_)
  refine GL.stepG (tj := 38) rfl rfl (Ex.wp (v := (.bool false)) (Ex.pickT rfl rfl) (by decide)) (fun _ _ => ?_)
  refine GL.val (v := (.bool false)) (Ex.pickF rfl rfl) (by decide) ?_
  refine GL.nil ?_
  refine GE.thenN ?_
  refine GC.cond rfl (fun hq12 => by cases hq12) (fun _ => ?_)
  refine GC.skip ?_
  refine GE.thenN ?_
  refine GC.seq ?_
  refine GC.seq ?_
  refine GC.region ?_
  refine GL.val (Ex.move rfl) (by decide) ?_
  refine GL.nil ?_
  refine GE.thenN ?_
  refine GC.cond rfl (fun _ => ?_) (fun hq13 => by cases hq13)
  refine GC.seq ?_
  refine GC.region ?_
  refine GL.val (Ex.move rfl) (by decide) ?_
  refine GL.val (Ex.move rfl) (by decide) ?_
  refine GL.step (Stp.callR (vs := [(.int .i64 ((Bt.prts s).1)), (.int .i64 ((Bt.prts s).2.1))]) rfl rfl T.own13 (by decide) (fun wc hw => fp_p ((Bt.prts s).1) ((Bt.prts s).2.1) wc (by omega) (by omega))) (fun xq14 hq15 => ?_)
  have hbd_xq14 := Bt.FP.bd hq15
  refine GL.val (Ex.move rfl) (by decide) ?_
  refine GL.val (Ex.extract rfl rfl) (by decide) ?_
  refine GL.val (Ex.extract rfl rfl) (by decide) ?_
  refine GL.val (Ex.assign rfl) (by decide) ?_
  refine GL.val (Ex.assign rfl) (by decide) ?_
  refine GL.nil ?_
  refine GE.thenN ?_
  refine GC.seq ?_
  refine GC.region ?_
  refine GL.val (v := (.bool true)) (Ex.cast (Ex.move rfl) (congrArg Value.bool ((by exact (Ld.back_all hs hf hq15).1)))) (by decide) ?_
  refine GL.val (v := (.bool false)) (Ex.cast (Ex.not rfl) rfl) (by decide) ?_
  refine GL.val (Ex.move rfl) (by decide) ?_
  refine GL.stepG (tj := 59) rfl rfl (Ex.wp (v := (.int .u32 xq14.1)) (Ex.move rfl) (by decide)) (fun _ _ => ?_)
  refine GL.stepG (tj := 59) rfl rfl (Ex.wp (v := (.int .u32 s)) (Ex.move rfl) (by decide)) (fun _ _ => ?_)
  by_cases hq16 : xq14.1 ≠ s
  · refine GL.stepG (tj := 59) rfl rfl (Ex.wp (v := (.bool true)) (Ex.cast (Ex.neq rfl rfl) (congrArg Value.bool (decide_eq_true hq16))) (by decide)) (fun _ _ => ?_)
    refine GL.stepG (tj := 59) rfl rfl (Ex.wp (v := (.bool true)) (Ex.move rfl) (by decide)) (fun _ _ => ?_)
    refine GL.stepG (tj := 63) rfl rfl (Ex.wp (v := (.int .i64 ((Bt.prts s).1))) (Ex.move rfl) (by decide)) (fun _ _ => ?_)
    refine GL.stepG (tj := 63) rfl rfl (Ex.wp (v := (.bool false)) (Ex.cast (Ex.neq rfl rfl) (congrArg Value.bool (decide_eq_false (by rcases (Ld.back_all hs hf hq15).2 with q | q; exact absurd q hq16; exact fun h => h q.1)))) (by decide)) (fun _ _ => ?_)
    refine GL.stepG (tj := 63) rfl rfl (Ex.wp (v := (.bool false)) (Ex.move rfl) (by decide)) (fun _ _ => ?_)
    refine GL.stepG (tj := 66) rfl rfl (Ex.wp (v := (.int .u32 xq14.1)) (Ex.move rfl) (by decide)) (fun _ _ => ?_)
    refine GL.stepG (tj := 66) rfl rfl (Ex.wp (v := (.bool false)) (Ex.cast (Ex.neq rfl rfl) (congrArg Value.bool (decide_eq_false (by rcases (Ld.back_all hs hf hq15).2 with q | q; exact absurd q hq16; exact fun h => h q.2)))) (by decide)) (fun _ _ => ?_)
    refine GL.stepG (tj := 63) rfl rfl (Ex.wp (v := (.bool false)) (Ex.pickF rfl rfl) (by decide)) (fun _ _ => ?_)
    refine GL.stepG (tj := 59) rfl rfl (Ex.wp (v := (.bool false)) (Ex.pickT rfl rfl) (by decide)) (fun _ _ => ?_)
    refine GL.val (v := (.bool false)) (Ex.pickF rfl rfl) (by decide) ?_
    refine GL.nil ?_
    refine GE.thenN ?_
    refine GC.cond rfl (fun hq17 => by cases hq17) (fun _ => ?_)
    refine GC.skip ?_
    refine GE.thenN ?_
    refine GC.seq ?_
    refine GC.region ?_
    refine GL.val (Ex.move rfl) (by decide) ?_
    refine GL.val (Ex.move rfl) (by decide) ?_
    refine GL.step (Stp.callR (vs := [(.int .i64 n), (.int .i64 e)]) rfl rfl T.own13 (by decide) (fun wc hw => fp_p n e wc (by omega) (by omega))) (fun xq18 hq19 => ?_)
    have hbd_xq18 := Bt.FP.bd hq19
    refine GL.val (Ex.move rfl) (by decide) ?_
    refine GL.val (Ex.extract rfl rfl) (by decide) ?_
    refine GL.val (Ex.extract rfl rfl) (by decide) ?_
    refine GL.val (Ex.assign rfl) (by decide) ?_
    refine GL.val (Ex.assign rfl) (by decide) ?_
    refine GL.nil ?_
    refine GE.thenN ?_
    refine GC.seq ?_
    refine GC.seq ?_
    refine GC.region ?_
    refine GL.val (Ex.move rfl) (by decide) ?_
    refine GL.val (v := (.bool (!xq18.2))) (Ex.not rfl) (by decide) ?_
    refine GL.nil ?_
    refine GE.thenN ?_
    refine GC.cond rfl (fun hq20 => ?_) (fun hq20 => ?_)
    · have hk : xq18.2 = false := by simpa using hq20
      refine GC.seq ?_
      refine GC.region ?_
      refine GL.val (Ex.move rfl) (by decide) ?_
      refine GL.val (v := (.bool true)) (Ex.cast (Ex.eql rfl rfl) (congrArg Value.bool (decide_eq_true (by exact Ld.fp_bad (by rw [hk] at hq19; exact hq19))))) (by decide) ?_
      refine GL.val (Ex.assign rfl) (by decide) ?_
      refine GL.nil ?_
      refine GE.thenN ?_
      refine GC.ret ?_
      refine GE.thenR ?_
      refine GC.ret1 rfl (Rv.tmp rfl) (fun wN HN => ?_)
      exact HN.ret () trivial rfl (List.nil_sublist _) rfl
    · have hk : xq18.2 = true := by simpa using hq20
      refine GC.skip ?_
      refine GE.thenN ?_
      refine GC.seq ?_
      refine GC.seq ?_
      refine GC.region ?_
      refine GL.val (Ex.move rfl) (by decide) ?_
      refine GL.val (v := (.bool (decide (n = 0)))) (Ex.eql rfl rfl) (by decide) ?_
      refine GL.nil ?_
      refine GE.thenN ?_
      refine GC.cond rfl (fun hq21 => ?_) (fun hq21 => ?_)
      · replace hq21 := of_decide_eq_true hq21
        have hn0 := hq21
        refine GC.seq ?_
        refine GC.region ?_
        refine GL.val (Ex.move rfl) (by decide) ?_
        refine GL.val (v := (.bool true)) (Ex.cast (Ex.eql rfl rfl) (congrArg Value.bool (decide_eq_true (by exact (Ld.fp_zero (by rw [hn0] at hq19; exact hq19)).1)))) (by decide) ?_
        refine GL.val (Ex.assign rfl) (by decide) ?_
        refine GL.nil ?_
        refine GE.thenN ?_
        refine GC.ret ?_
        refine GE.thenR ?_
        refine GC.ret1 rfl (Rv.tmp rfl) (fun wN HN => ?_)
        exact HN.ret () trivial rfl (List.nil_sublist _) rfl
      · replace hq21 := of_decide_eq_false hq21
        have hn0 := hq21
        refine GC.skip ?_
        refine GE.thenN ?_
        refine GC.seq ?_
        refine GC.seq ?_
        refine GC.region ?_
        refine GL.val (Ex.move rfl) (by decide) ?_
        by_cases hq22 : e < (-300)
        · refine GL.val (v := (.bool true)) (Ex.cast (Ex.lss rfl rfl) (congrArg Value.bool (decide_eq_true hq22))) (by decide) ?_
          refine GL.val (Ex.move rfl) (by decide) ?_
          refine GL.skipG (tj := 88) rfl rfl rfl (by decide) ?_
          refine GL.skipG (tj := 88) rfl rfl rfl (by decide) ?_
          refine GL.val (v := (.bool true)) (Ex.pickT rfl rfl) (by decide) ?_
          refine GL.nil ?_
          refine GE.thenN ?_
          refine GC.cond rfl (fun _ => ?_) (fun hq23 => by cases hq23)
          refine GC.seq ?_
          refine GC.region ?_
          refine GL.val (Ex.move rfl) (by decide) ?_
          refine GL.step (Stp.callR (vs := [(.int .u32 xq18.1)]) rfl rfl T.own15 (by decide) (fun wc hw => cls_p xq18.1 wc (by first | assumption | omega | exact Bt.lst_bd (by assumption) (by assumption) | exact Bt.gst_bd (by assumption) (by assumption) | exact Bt.key_bd (by assumption) | exact Bt.unkey_bd (by assumption) | exact Bt.nxt_bd (by assumption) | exact Bt.lst_bd (Bt.gst_bd (by assumption) (by assumption)) (by assumption) | exact Bt.btw_bd (by assumption) (Bt.lst_bd (by assumption) (by assumption)) (Bt.gst_bd (by assumption) (by assumption))))) (fun xq24 hq25 => ?_)
          by_cases hq26 : (Bt.cls xq18.1) = 3
          · refine GL.val (v := (.bool true)) (Ex.cast (Ex.eql rfl rfl) (congrArg Value.bool (decide_eq_true hq26))) (by decide) ?_
            refine GL.val (Ex.move rfl) (by decide) ?_
            refine GL.skipG (tj := 95) rfl rfl rfl (by decide) ?_
            refine GL.skipG (tj := 95) rfl rfl rfl (by decide) ?_
            refine GL.skipG (tj := 95) rfl rfl rfl (by decide) ?_
            refine GL.val (v := (.bool true)) (Ex.pickT rfl rfl) (by decide) ?_
            refine GL.val (Ex.assign rfl) (by decide) ?_
            refine GL.nil ?_
            refine GE.thenN ?_
            refine GC.ret ?_
            refine GE.thenR ?_
            refine GC.ret1 rfl (Rv.tmp rfl) (fun wN HN => ?_)
            exact HN.ret () trivial rfl (List.nil_sublist _) rfl
          · refine GL.val (v := (.bool false)) (Ex.cast (Ex.eql rfl rfl) (congrArg Value.bool (decide_eq_false hq26))) (by decide) ?_
            refine GL.val (Ex.move rfl) (by decide) ?_
            refine GL.stepG (tj := 95) rfl rfl (Ex.wp (v := (.int .u32 xq18.1)) (Ex.move rfl) (by decide)) (fun _ _ => ?_)
            refine GL.stepG (tj := 95) rfl rfl (Stp.callR (vs := [(.int .u32 xq18.1)]) rfl rfl T.own15 (by decide) (fun wc hw => cls_p xq18.1 wc (by first | assumption | omega | exact Bt.lst_bd (by assumption) (by assumption) | exact Bt.gst_bd (by assumption) (by assumption) | exact Bt.key_bd (by assumption) | exact Bt.unkey_bd (by assumption) | exact Bt.nxt_bd (by assumption) | exact Bt.lst_bd (Bt.gst_bd (by assumption) (by assumption)) (by assumption) | exact Bt.btw_bd (by assumption) (Bt.lst_bd (by assumption) (by assumption)) (Bt.gst_bd (by assumption) (by assumption))))) (fun xq27 hq28 => ?_)
            refine GL.stepG (tj := 95) rfl rfl (Ex.wp (v := (.bool true)) (Ex.cast (Ex.eql rfl rfl) (congrArg Value.bool (decide_eq_true (by rcases Ld.fp_cls (by rw [hk] at hq19; exact hq19) hn0 with q | q <;> omega)))) (by decide)) (fun _ _ => ?_)
            refine GL.val (v := (.bool true)) (Ex.pickF rfl rfl) (by decide) ?_
            refine GL.val (Ex.assign rfl) (by decide) ?_
            refine GL.nil ?_
            refine GE.thenN ?_
            refine GC.ret ?_
            refine GE.thenR ?_
            refine GC.ret1 rfl (Rv.tmp rfl) (fun wN HN => ?_)
            exact HN.ret () trivial rfl (List.nil_sublist _) rfl
        · refine GL.val (v := (.bool false)) (Ex.cast (Ex.lss rfl rfl) (congrArg Value.bool (decide_eq_false hq22))) (by decide) ?_
          refine GL.val (Ex.move rfl) (by decide) ?_
          refine GL.stepG (tj := 88) rfl rfl (Ex.wp (v := (.int .i64 e)) (Ex.move rfl) (by decide)) (fun _ _ => ?_)
          refine GL.stepG (tj := 88) rfl rfl (Ex.wp (v := (.bool (decide (300 < e)))) (Ex.gtr rfl rfl) (by decide)) (fun _ _ => ?_)
          refine GL.val (v := (.bool (decide (300 < e)))) (Ex.pickF rfl rfl) (by decide) ?_
          refine GL.nil ?_
          refine GE.thenN ?_
          refine GC.cond rfl (fun hq29 => ?_) (fun hq29 => ?_)
          · replace hq29 := of_decide_eq_true hq29
            refine GC.seq ?_
            refine GC.region ?_
            refine GL.val (Ex.move rfl) (by decide) ?_
            refine GL.step (Stp.callR (vs := [(.int .u32 xq18.1)]) rfl rfl T.own15 (by decide) (fun wc hw => cls_p xq18.1 wc (by first | assumption | omega | exact Bt.lst_bd (by assumption) (by assumption) | exact Bt.gst_bd (by assumption) (by assumption) | exact Bt.key_bd (by assumption) | exact Bt.unkey_bd (by assumption) | exact Bt.nxt_bd (by assumption) | exact Bt.lst_bd (Bt.gst_bd (by assumption) (by assumption)) (by assumption) | exact Bt.btw_bd (by assumption) (Bt.lst_bd (by assumption) (by assumption)) (Bt.gst_bd (by assumption) (by assumption))))) (fun xq30 hq31 => ?_)
            by_cases hq32 : (Bt.cls xq18.1) = 3
            · refine GL.val (v := (.bool true)) (Ex.cast (Ex.eql rfl rfl) (congrArg Value.bool (decide_eq_true hq32))) (by decide) ?_
              refine GL.val (Ex.move rfl) (by decide) ?_
              refine GL.skipG (tj := 95) rfl rfl rfl (by decide) ?_
              refine GL.skipG (tj := 95) rfl rfl rfl (by decide) ?_
              refine GL.skipG (tj := 95) rfl rfl rfl (by decide) ?_
              refine GL.val (v := (.bool true)) (Ex.pickT rfl rfl) (by decide) ?_
              refine GL.val (Ex.assign rfl) (by decide) ?_
              refine GL.nil ?_
              refine GE.thenN ?_
              refine GC.ret ?_
              refine GE.thenR ?_
              refine GC.ret1 rfl (Rv.tmp rfl) (fun wN HN => ?_)
              exact HN.ret () trivial rfl (List.nil_sublist _) rfl
            · refine GL.val (v := (.bool false)) (Ex.cast (Ex.eql rfl rfl) (congrArg Value.bool (decide_eq_false hq32))) (by decide) ?_
              refine GL.val (Ex.move rfl) (by decide) ?_
              refine GL.stepG (tj := 95) rfl rfl (Ex.wp (v := (.int .u32 xq18.1)) (Ex.move rfl) (by decide)) (fun _ _ => ?_)
              refine GL.stepG (tj := 95) rfl rfl (Stp.callR (vs := [(.int .u32 xq18.1)]) rfl rfl T.own15 (by decide) (fun wc hw => cls_p xq18.1 wc (by first | assumption | omega | exact Bt.lst_bd (by assumption) (by assumption) | exact Bt.gst_bd (by assumption) (by assumption) | exact Bt.key_bd (by assumption) | exact Bt.unkey_bd (by assumption) | exact Bt.nxt_bd (by assumption) | exact Bt.lst_bd (Bt.gst_bd (by assumption) (by assumption)) (by assumption) | exact Bt.btw_bd (by assumption) (Bt.lst_bd (by assumption) (by assumption)) (Bt.gst_bd (by assumption) (by assumption))))) (fun xq33 hq34 => ?_)
              refine GL.stepG (tj := 95) rfl rfl (Ex.wp (v := (.bool true)) (Ex.cast (Ex.eql rfl rfl) (congrArg Value.bool (decide_eq_true (by rcases Ld.fp_cls (by rw [hk] at hq19; exact hq19) hn0 with q | q <;> omega)))) (by decide)) (fun _ _ => ?_)
              refine GL.val (v := (.bool true)) (Ex.pickF rfl rfl) (by decide) ?_
              refine GL.val (Ex.assign rfl) (by decide) ?_
              refine GL.nil ?_
              refine GE.thenN ?_
              refine GC.ret ?_
              refine GE.thenR ?_
              refine GC.ret1 rfl (Rv.tmp rfl) (fun wN HN => ?_)
              exact HN.ret () trivial rfl (List.nil_sublist _) rfl
          · replace hq29 := of_decide_eq_false hq29
            refine GC.skip ?_
            refine GE.thenN ?_
            refine GC.seq ?_
            refine GC.region ?_
            refine GL.val (Ex.move rfl) (by decide) ?_
            by_cases hq35 : 9007199254740992 < n
            · refine GL.val (v := (.bool true)) (Ex.cast (Ex.gtr rfl rfl) (congrArg Value.bool (decide_eq_true hq35))) (by decide) ?_
              refine GL.val (Ex.move rfl) (by decide) ?_
              refine GL.skipG (tj := 102) rfl rfl rfl (by decide) ?_
              refine GL.skipG (tj := 102) rfl rfl rfl (by decide) ?_
              refine GL.val (v := (.bool true)) (Ex.pickT rfl rfl) (by decide) ?_
              refine GL.val (Ex.move rfl) (by decide) ?_
              refine GL.skipG (tj := 106) rfl rfl rfl (by decide) ?_
              refine GL.skipG (tj := 106) rfl rfl rfl (by decide) ?_
              refine GL.skipG (tj := 106) rfl rfl rfl (by decide) ?_
              refine GL.skipG (tj := 106) rfl rfl rfl (by decide) ?_
              refine GL.skipG (tj := 106) rfl rfl rfl (by decide) ?_
              refine GL.skipG (tj := 106) rfl rfl rfl (by decide) ?_
              refine GL.skipG (tj := 106) rfl rfl rfl (by decide) ?_
              refine GL.skipG (tj := 106) rfl rfl rfl (by decide) ?_
              refine GL.val (v := (.bool true)) (Ex.pickT rfl rfl) (by decide) ?_
              refine GL.val (Ex.assign rfl) (by decide) ?_
              refine GL.nil ?_
              refine GE.thenN ?_
              refine GC.ret ?_
              refine GC.ret1 rfl (Rv.tmp rfl) (fun wN HN => ?_)
              exact HN.ret () trivial rfl (List.nil_sublist _) rfl
            · refine GL.val (v := (.bool false)) (Ex.cast (Ex.gtr rfl rfl) (congrArg Value.bool (decide_eq_false hq35))) (by decide) ?_
              refine GL.val (Ex.move rfl) (by decide) ?_
              refine GL.stepG (tj := 102) rfl rfl (Ex.wp (v := (.int .i64 n)) (Ex.move rfl) (by decide)) (fun _ _ => ?_)
              by_cases hq36 : n < (-9007199254740992)
              · refine GL.stepG (tj := 102) rfl rfl (Ex.wp (v := (.bool true)) (Ex.cast (Ex.lss rfl rfl) (congrArg Value.bool (decide_eq_true hq36))) (by decide)) (fun _ _ => ?_)
                refine GL.val (v := (.bool true)) (Ex.pickF rfl rfl) (by decide) ?_
                refine GL.val (Ex.move rfl) (by decide) ?_
                refine GL.skipG (tj := 106) rfl rfl rfl (by decide) ?_
                refine GL.skipG (tj := 106) rfl rfl rfl (by decide) ?_
                refine GL.skipG (tj := 106) rfl rfl rfl (by decide) ?_
                refine GL.skipG (tj := 106) rfl rfl rfl (by decide) ?_
                refine GL.skipG (tj := 106) rfl rfl rfl (by decide) ?_
                refine GL.skipG (tj := 106) rfl rfl rfl (by decide) ?_
                refine GL.skipG (tj := 106) rfl rfl rfl (by decide) ?_
                refine GL.skipG (tj := 106) rfl rfl rfl (by decide) ?_
                refine GL.val (v := (.bool true)) (Ex.pickT rfl rfl) (by decide) ?_
                refine GL.val (Ex.assign rfl) (by decide) ?_
                refine GL.nil ?_
                refine GE.thenN ?_
                refine GC.ret ?_
                refine GC.ret1 rfl (Rv.tmp rfl) (fun wN HN => ?_)
                exact HN.ret () trivial rfl (List.nil_sublist _) rfl
              · refine GL.stepG (tj := 102) rfl rfl (Ex.wp (v := (.bool false)) (Ex.cast (Ex.lss rfl rfl) (congrArg Value.bool (decide_eq_false hq36))) (by decide)) (fun _ _ => ?_)
                refine GL.val (v := (.bool false)) (Ex.pickF rfl rfl) (by decide) ?_
                refine GL.val (Ex.move rfl) (by decide) ?_
                refine GL.stepG (tj := 106) rfl rfl (Ex.wp (v := (.int .u32 xq18.1)) (Ex.move rfl) (by decide)) (fun _ _ => ?_)
                refine GL.stepG (tj := 106) rfl rfl (Ex.wp (v := (.float .f32 xq18.1.toNat)) (Ex.ext (vs := [(.int .u32 xq18.1)]) rfl rfl T.ext33 (fun _ => rfl)) (by decide)) (fun _ _ => ?_)
                refine GL.stepG (tj := 106) rfl rfl (Stp.fcv (fx := (Fv.rd .f32 xq18.1.toNat)) (by decide) rfl Try.underlying35 Try.underlying40 (Fv.Is.rd _ _) Fv.holds_up (by decide)) (fun xq37 hq38 => ?_)
                refine GL.stepG (tj := 106) rfl rfl (Ex.wp (v := (.int .i64 n)) (Ex.move rfl) (by decide)) (fun _ _ => ?_)
                refine GL.stepG (tj := 106) rfl rfl (Ex.wp (v := (.float .f64 ((floatOfInt .f64 n)))) (Ex.cif rfl Try.underlying3 Try.underlying40) (by decide)) (fun _ _ => ?_)
                refine GL.stepG (tj := 106) rfl rfl (Ex.wp (v := (.int .i64 e)) (Ex.move rfl) (by decide)) (fun _ _ => ?_)
                refine GL.stepG (tj := 106) rfl rfl (Stp.callR (vs := [(.float .f64 ((floatOfInt .f64 n))), (.int .i64 e)]) rfl rfl T.own42 (by decide) (fun wc hw => ldexp_int n e wc (by omega) (by omega))) (fun xq39 hq40 => ?_)
                refine GL.stepG (tj := 106) rfl rfl (Ex.wp (v := (.bool true)) (Ex.feql (r := true) rfl rfl (Eq.trans (congrArg (fun o : Option Ordering => (o == some .eq)) (Fv.ord_eq hq38.1 (Ld.at_is hq40))) (Ld.same_ne (Ld.fp_at hq19 hk hn0 (by omega)) hq40).2)) (by decide)) (fun _ _ => ?_)
                refine GL.val (v := (.bool true)) (Ex.pickF rfl rfl) (by decide) ?_
                refine GL.val (Ex.assign rfl) (by decide) ?_
                refine GL.nil ?_
                refine GE.thenN ?_
                refine GC.ret ?_
                refine GC.ret1 rfl (Rv.tmp rfl) (fun wN HN => ?_)
                exact HN.ret () trivial rfl (List.nil_sublist _) rfl
  · refine GL.stepG (tj := 59) rfl rfl (Ex.wp (v := (.bool false)) (Ex.cast (Ex.neq rfl rfl) (congrArg Value.bool (decide_eq_false hq16))) (by decide)) (fun _ _ => ?_)
    refine GL.stepG (tj := 59) rfl rfl (Ex.wp (v := (.bool false)) (Ex.move rfl) (by decide)) (fun _ _ => ?_)
    refine GL.skipG (tj := 63) rfl rfl rfl (by decide) ?_
    refine GL.skipG (tj := 63) rfl rfl rfl (by decide) ?_
    refine GL.skipG (tj := 63) rfl rfl rfl (by decide) ?_
    refine GL.skipU (tj := 66) rfl rfl (by decide) ?_
    refine GL.skipU (tj := 66) rfl rfl (by decide) ?_
    refine GL.skipG (tj := 63) rfl rfl rfl (by decide) ?_
    refine GL.stepG (tj := 59) rfl rfl (Ex.wp (v := (.bool false)) (Ex.pickF rfl rfl) (by decide)) (fun _ _ => ?_)
    refine GL.val (v := (.bool false)) (Ex.pickF rfl rfl) (by decide) ?_
    refine GL.nil ?_
    refine GE.thenN ?_
    refine GC.cond rfl (fun hq41 => by cases hq41) (fun _ => ?_)
    refine GC.skip ?_
    refine GE.thenN ?_
    refine GC.seq ?_
    refine GC.region ?_
    refine GL.val (Ex.move rfl) (by decide) ?_
    refine GL.val (Ex.move rfl) (by decide) ?_
    refine GL.step (Stp.callR (vs := [(.int .i64 n), (.int .i64 e)]) rfl rfl T.own13 (by decide) (fun wc hw => fp_p n e wc (by omega) (by omega))) (fun xq42 hq43 => ?_)
    have hbd_xq42 := Bt.FP.bd hq43
    refine GL.val (Ex.move rfl) (by decide) ?_
    refine GL.val (Ex.extract rfl rfl) (by decide) ?_
    refine GL.val (Ex.extract rfl rfl) (by decide) ?_
    refine GL.val (Ex.assign rfl) (by decide) ?_
    refine GL.val (Ex.assign rfl) (by decide) ?_
    refine GL.nil ?_
    refine GE.thenN ?_
    refine GC.seq ?_
    refine GC.seq ?_
    refine GC.region ?_
    refine GL.val (Ex.move rfl) (by decide) ?_
    refine GL.val (v := (.bool (!xq42.2))) (Ex.not rfl) (by decide) ?_
    refine GL.nil ?_
    refine GE.thenN ?_
    refine GC.cond rfl (fun hq44 => ?_) (fun hq44 => ?_)
    · have hk : xq42.2 = false := by simpa using hq44
      refine GC.seq ?_
      refine GC.region ?_
      refine GL.val (Ex.move rfl) (by decide) ?_
      refine GL.val (v := (.bool true)) (Ex.cast (Ex.eql rfl rfl) (congrArg Value.bool (decide_eq_true (by exact Ld.fp_bad (by rw [hk] at hq43; exact hq43))))) (by decide) ?_
      refine GL.val (Ex.assign rfl) (by decide) ?_
      refine GL.nil ?_
      refine GE.thenN ?_
      refine GC.ret ?_
      refine GE.thenR ?_
      refine GC.ret1 rfl (Rv.tmp rfl) (fun wN HN => ?_)
      exact HN.ret () trivial rfl (List.nil_sublist _) rfl
    · have hk : xq42.2 = true := by simpa using hq44
      refine GC.skip ?_
      refine GE.thenN ?_
      refine GC.seq ?_
      refine GC.seq ?_
      refine GC.region ?_
      refine GL.val (Ex.move rfl) (by decide) ?_
      refine GL.val (v := (.bool (decide (n = 0)))) (Ex.eql rfl rfl) (by decide) ?_
      refine GL.nil ?_
      refine GE.thenN ?_
      refine GC.cond rfl (fun hq45 => ?_) (fun hq45 => ?_)
      · replace hq45 := of_decide_eq_true hq45
        have hn0 := hq45
        refine GC.seq ?_
        refine GC.region ?_
        refine GL.val (Ex.move rfl) (by decide) ?_
        refine GL.val (v := (.bool true)) (Ex.cast (Ex.eql rfl rfl) (congrArg Value.bool (decide_eq_true (by exact (Ld.fp_zero (by rw [hn0] at hq43; exact hq43)).1)))) (by decide) ?_
        refine GL.val (Ex.assign rfl) (by decide) ?_
        refine GL.nil ?_
        refine GE.thenN ?_
        refine GC.ret ?_
        refine GE.thenR ?_
        refine GC.ret1 rfl (Rv.tmp rfl) (fun wN HN => ?_)
        exact HN.ret () trivial rfl (List.nil_sublist _) rfl
      · replace hq45 := of_decide_eq_false hq45
        have hn0 := hq45
        refine GC.skip ?_
        refine GE.thenN ?_
        refine GC.seq ?_
        refine GC.seq ?_
        refine GC.region ?_
        refine GL.val (Ex.move rfl) (by decide) ?_
        by_cases hq46 : e < (-300)
        · refine GL.val (v := (.bool true)) (Ex.cast (Ex.lss rfl rfl) (congrArg Value.bool (decide_eq_true hq46))) (by decide) ?_
          refine GL.val (Ex.move rfl) (by decide) ?_
          refine GL.skipG (tj := 88) rfl rfl rfl (by decide) ?_
          refine GL.skipG (tj := 88) rfl rfl rfl (by decide) ?_
          refine GL.val (v := (.bool true)) (Ex.pickT rfl rfl) (by decide) ?_
          refine GL.nil ?_
          refine GE.thenN ?_
          refine GC.cond rfl (fun _ => ?_) (fun hq47 => by cases hq47)
          refine GC.seq ?_
          refine GC.region ?_
          refine GL.val (Ex.move rfl) (by decide) ?_
          refine GL.step (Stp.callR (vs := [(.int .u32 xq42.1)]) rfl rfl T.own15 (by decide) (fun wc hw => cls_p xq42.1 wc (by first | assumption | omega | exact Bt.lst_bd (by assumption) (by assumption) | exact Bt.gst_bd (by assumption) (by assumption) | exact Bt.key_bd (by assumption) | exact Bt.unkey_bd (by assumption) | exact Bt.nxt_bd (by assumption) | exact Bt.lst_bd (Bt.gst_bd (by assumption) (by assumption)) (by assumption) | exact Bt.btw_bd (by assumption) (Bt.lst_bd (by assumption) (by assumption)) (Bt.gst_bd (by assumption) (by assumption))))) (fun xq48 hq49 => ?_)
          by_cases hq50 : (Bt.cls xq42.1) = 3
          · refine GL.val (v := (.bool true)) (Ex.cast (Ex.eql rfl rfl) (congrArg Value.bool (decide_eq_true hq50))) (by decide) ?_
            refine GL.val (Ex.move rfl) (by decide) ?_
            refine GL.skipG (tj := 95) rfl rfl rfl (by decide) ?_
            refine GL.skipG (tj := 95) rfl rfl rfl (by decide) ?_
            refine GL.skipG (tj := 95) rfl rfl rfl (by decide) ?_
            refine GL.val (v := (.bool true)) (Ex.pickT rfl rfl) (by decide) ?_
            refine GL.val (Ex.assign rfl) (by decide) ?_
            refine GL.nil ?_
            refine GE.thenN ?_
            refine GC.ret ?_
            refine GE.thenR ?_
            refine GC.ret1 rfl (Rv.tmp rfl) (fun wN HN => ?_)
            exact HN.ret () trivial rfl (List.nil_sublist _) rfl
          · refine GL.val (v := (.bool false)) (Ex.cast (Ex.eql rfl rfl) (congrArg Value.bool (decide_eq_false hq50))) (by decide) ?_
            refine GL.val (Ex.move rfl) (by decide) ?_
            refine GL.stepG (tj := 95) rfl rfl (Ex.wp (v := (.int .u32 xq42.1)) (Ex.move rfl) (by decide)) (fun _ _ => ?_)
            refine GL.stepG (tj := 95) rfl rfl (Stp.callR (vs := [(.int .u32 xq42.1)]) rfl rfl T.own15 (by decide) (fun wc hw => cls_p xq42.1 wc (by first | assumption | omega | exact Bt.lst_bd (by assumption) (by assumption) | exact Bt.gst_bd (by assumption) (by assumption) | exact Bt.key_bd (by assumption) | exact Bt.unkey_bd (by assumption) | exact Bt.nxt_bd (by assumption) | exact Bt.lst_bd (Bt.gst_bd (by assumption) (by assumption)) (by assumption) | exact Bt.btw_bd (by assumption) (Bt.lst_bd (by assumption) (by assumption)) (Bt.gst_bd (by assumption) (by assumption))))) (fun xq51 hq52 => ?_)
            refine GL.stepG (tj := 95) rfl rfl (Ex.wp (v := (.bool true)) (Ex.cast (Ex.eql rfl rfl) (congrArg Value.bool (decide_eq_true (by rcases Ld.fp_cls (by rw [hk] at hq43; exact hq43) hn0 with q | q <;> omega)))) (by decide)) (fun _ _ => ?_)
            refine GL.val (v := (.bool true)) (Ex.pickF rfl rfl) (by decide) ?_
            refine GL.val (Ex.assign rfl) (by decide) ?_
            refine GL.nil ?_
            refine GE.thenN ?_
            refine GC.ret ?_
            refine GE.thenR ?_
            refine GC.ret1 rfl (Rv.tmp rfl) (fun wN HN => ?_)
            exact HN.ret () trivial rfl (List.nil_sublist _) rfl
        · refine GL.val (v := (.bool false)) (Ex.cast (Ex.lss rfl rfl) (congrArg Value.bool (decide_eq_false hq46))) (by decide) ?_
          refine GL.val (Ex.move rfl) (by decide) ?_
          refine GL.stepG (tj := 88) rfl rfl (Ex.wp (v := (.int .i64 e)) (Ex.move rfl) (by decide)) (fun _ _ => ?_)
          refine GL.stepG (tj := 88) rfl rfl (Ex.wp (v := (.bool (decide (300 < e)))) (Ex.gtr rfl rfl) (by decide)) (fun _ _ => ?_)
          refine GL.val (v := (.bool (decide (300 < e)))) (Ex.pickF rfl rfl) (by decide) ?_
          refine GL.nil ?_
          refine GE.thenN ?_
          refine GC.cond rfl (fun hq53 => ?_) (fun hq53 => ?_)
          · replace hq53 := of_decide_eq_true hq53
            refine GC.seq ?_
            refine GC.region ?_
            refine GL.val (Ex.move rfl) (by decide) ?_
            refine GL.step (Stp.callR (vs := [(.int .u32 xq42.1)]) rfl rfl T.own15 (by decide) (fun wc hw => cls_p xq42.1 wc (by first | assumption | omega | exact Bt.lst_bd (by assumption) (by assumption) | exact Bt.gst_bd (by assumption) (by assumption) | exact Bt.key_bd (by assumption) | exact Bt.unkey_bd (by assumption) | exact Bt.nxt_bd (by assumption) | exact Bt.lst_bd (Bt.gst_bd (by assumption) (by assumption)) (by assumption) | exact Bt.btw_bd (by assumption) (Bt.lst_bd (by assumption) (by assumption)) (Bt.gst_bd (by assumption) (by assumption))))) (fun xq54 hq55 => ?_)
            by_cases hq56 : (Bt.cls xq42.1) = 3
            · refine GL.val (v := (.bool true)) (Ex.cast (Ex.eql rfl rfl) (congrArg Value.bool (decide_eq_true hq56))) (by decide) ?_
              refine GL.val (Ex.move rfl) (by decide) ?_
              refine GL.skipG (tj := 95) rfl rfl rfl (by decide) ?_
              refine GL.skipG (tj := 95) rfl rfl rfl (by decide) ?_
              refine GL.skipG (tj := 95) rfl rfl rfl (by decide) ?_
              refine GL.val (v := (.bool true)) (Ex.pickT rfl rfl) (by decide) ?_
              refine GL.val (Ex.assign rfl) (by decide) ?_
              refine GL.nil ?_
              refine GE.thenN ?_
              refine GC.ret ?_
              refine GE.thenR ?_
              refine GC.ret1 rfl (Rv.tmp rfl) (fun wN HN => ?_)
              exact HN.ret () trivial rfl (List.nil_sublist _) rfl
            · refine GL.val (v := (.bool false)) (Ex.cast (Ex.eql rfl rfl) (congrArg Value.bool (decide_eq_false hq56))) (by decide) ?_
              refine GL.val (Ex.move rfl) (by decide) ?_
              refine GL.stepG (tj := 95) rfl rfl (Ex.wp (v := (.int .u32 xq42.1)) (Ex.move rfl) (by decide)) (fun _ _ => ?_)
              refine GL.stepG (tj := 95) rfl rfl (Stp.callR (vs := [(.int .u32 xq42.1)]) rfl rfl T.own15 (by decide) (fun wc hw => cls_p xq42.1 wc (by first | assumption | omega | exact Bt.lst_bd (by assumption) (by assumption) | exact Bt.gst_bd (by assumption) (by assumption) | exact Bt.key_bd (by assumption) | exact Bt.unkey_bd (by assumption) | exact Bt.nxt_bd (by assumption) | exact Bt.lst_bd (Bt.gst_bd (by assumption) (by assumption)) (by assumption) | exact Bt.btw_bd (by assumption) (Bt.lst_bd (by assumption) (by assumption)) (Bt.gst_bd (by assumption) (by assumption))))) (fun xq57 hq58 => ?_)
              refine GL.stepG (tj := 95) rfl rfl (Ex.wp (v := (.bool true)) (Ex.cast (Ex.eql rfl rfl) (congrArg Value.bool (decide_eq_true (by rcases Ld.fp_cls (by rw [hk] at hq43; exact hq43) hn0 with q | q <;> omega)))) (by decide)) (fun _ _ => ?_)
              refine GL.val (v := (.bool true)) (Ex.pickF rfl rfl) (by decide) ?_
              refine GL.val (Ex.assign rfl) (by decide) ?_
              refine GL.nil ?_
              refine GE.thenN ?_
              refine GC.ret ?_
              refine GE.thenR ?_
              refine GC.ret1 rfl (Rv.tmp rfl) (fun wN HN => ?_)
              exact HN.ret () trivial rfl (List.nil_sublist _) rfl
          · replace hq53 := of_decide_eq_false hq53
            refine GC.skip ?_
            refine GE.thenN ?_
            refine GC.seq ?_
            refine GC.region ?_
            refine GL.val (Ex.move rfl) (by decide) ?_
            by_cases hq59 : 9007199254740992 < n
            · refine GL.val (v := (.bool true)) (Ex.cast (Ex.gtr rfl rfl) (congrArg Value.bool (decide_eq_true hq59))) (by decide) ?_
              refine GL.val (Ex.move rfl) (by decide) ?_
              refine GL.skipG (tj := 102) rfl rfl rfl (by decide) ?_
              refine GL.skipG (tj := 102) rfl rfl rfl (by decide) ?_
              refine GL.val (v := (.bool true)) (Ex.pickT rfl rfl) (by decide) ?_
              refine GL.val (Ex.move rfl) (by decide) ?_
              refine GL.skipG (tj := 106) rfl rfl rfl (by decide) ?_
              refine GL.skipG (tj := 106) rfl rfl rfl (by decide) ?_
              refine GL.skipG (tj := 106) rfl rfl rfl (by decide) ?_
              refine GL.skipG (tj := 106) rfl rfl rfl (by decide) ?_
              refine GL.skipG (tj := 106) rfl rfl rfl (by decide) ?_
              refine GL.skipG (tj := 106) rfl rfl rfl (by decide) ?_
              refine GL.skipG (tj := 106) rfl rfl rfl (by decide) ?_
              refine GL.skipG (tj := 106) rfl rfl rfl (by decide) ?_
              refine GL.val (v := (.bool true)) (Ex.pickT rfl rfl) (by decide) ?_
              refine GL.val (Ex.assign rfl) (by decide) ?_
              refine GL.nil ?_
              refine GE.thenN ?_
              refine GC.ret ?_
              refine GC.ret1 rfl (Rv.tmp rfl) (fun wN HN => ?_)
              exact HN.ret () trivial rfl (List.nil_sublist _) rfl
            · refine GL.val (v := (.bool false)) (Ex.cast (Ex.gtr rfl rfl) (congrArg Value.bool (decide_eq_false hq59))) (by decide) ?_
              refine GL.val (Ex.move rfl) (by decide) ?_
              refine GL.stepG (tj := 102) rfl rfl (Ex.wp (v := (.int .i64 n)) (Ex.move rfl) (by decide)) (fun _ _ => ?_)
              by_cases hq60 : n < (-9007199254740992)
              · refine GL.stepG (tj := 102) rfl rfl (Ex.wp (v := (.bool true)) (Ex.cast (Ex.lss rfl rfl) (congrArg Value.bool (decide_eq_true hq60))) (by decide)) (fun _ _ => ?_)
                refine GL.val (v := (.bool true)) (Ex.pickF rfl rfl) (by decide) ?_
                refine GL.val (Ex.move rfl) (by decide) ?_
                refine GL.skipG (tj := 106) rfl rfl rfl (by decide) ?_
                refine GL.skipG (tj := 106) rfl rfl rfl (by decide) ?_
                refine GL.skipG (tj := 106) rfl rfl rfl (by decide) ?_
                refine GL.skipG (tj := 106) rfl rfl rfl (by decide) ?_
                refine GL.skipG (tj := 106) rfl rfl rfl (by decide) ?_
                refine GL.skipG (tj := 106) rfl rfl rfl (by decide) ?_
                refine GL.skipG (tj := 106) rfl rfl rfl (by decide) ?_
                refine GL.skipG (tj := 106) rfl rfl rfl (by decide) ?_
                refine GL.val (v := (.bool true)) (Ex.pickT rfl rfl) (by decide) ?_
                refine GL.val (Ex.assign rfl) (by decide) ?_
                refine GL.nil ?_
                refine GE.thenN ?_
                refine GC.ret ?_
                refine GC.ret1 rfl (Rv.tmp rfl) (fun wN HN => ?_)
                exact HN.ret () trivial rfl (List.nil_sublist _) rfl
              · refine GL.stepG (tj := 102) rfl rfl (Ex.wp (v := (.bool false)) (Ex.cast (Ex.lss rfl rfl) (congrArg Value.bool (decide_eq_false hq60))) (by decide)) (fun _ _ => ?_)
                refine GL.val (v := (.bool false)) (Ex.pickF rfl rfl) (by decide) ?_
                refine GL.val (Ex.move rfl) (by decide) ?_
                refine GL.stepG (tj := 106) rfl rfl (Ex.wp (v := (.int .u32 xq42.1)) (Ex.move rfl) (by decide)) (fun _ _ => ?_)
                refine GL.stepG (tj := 106) rfl rfl (Ex.wp (v := (.float .f32 xq42.1.toNat)) (Ex.ext (vs := [(.int .u32 xq42.1)]) rfl rfl T.ext33 (fun _ => rfl)) (by decide)) (fun _ _ => ?_)
                refine GL.stepG (tj := 106) rfl rfl (Stp.fcv (fx := (Fv.rd .f32 xq42.1.toNat)) (by decide) rfl Try.underlying35 Try.underlying40 (Fv.Is.rd _ _) Fv.holds_up (by decide)) (fun xq61 hq62 => ?_)
                refine GL.stepG (tj := 106) rfl rfl (Ex.wp (v := (.int .i64 n)) (Ex.move rfl) (by decide)) (fun _ _ => ?_)
                refine GL.stepG (tj := 106) rfl rfl (Ex.wp (v := (.float .f64 ((floatOfInt .f64 n)))) (Ex.cif rfl Try.underlying3 Try.underlying40) (by decide)) (fun _ _ => ?_)
                refine GL.stepG (tj := 106) rfl rfl (Ex.wp (v := (.int .i64 e)) (Ex.move rfl) (by decide)) (fun _ _ => ?_)
                refine GL.stepG (tj := 106) rfl rfl (Stp.callR (vs := [(.float .f64 ((floatOfInt .f64 n))), (.int .i64 e)]) rfl rfl T.own42 (by decide) (fun wc hw => ldexp_int n e wc (by omega) (by omega))) (fun xq63 hq64 => ?_)
                refine GL.stepG (tj := 106) rfl rfl (Ex.wp (v := (.bool true)) (Ex.feql (r := true) rfl rfl (Eq.trans (congrArg (fun o : Option Ordering => (o == some .eq)) (Fv.ord_eq hq62.1 (Ld.at_is hq64))) (Ld.same_ne (Ld.fp_at hq43 hk hn0 (by omega)) hq64).2)) (by decide)) (fun _ _ => ?_)
                refine GL.val (v := (.bool true)) (Ex.pickF rfl rfl) (by decide) ?_
                refine GL.val (Ex.assign rfl) (by decide) ?_
                refine GL.nil ?_
                refine GE.thenN ?_
                refine GC.ret ?_
                refine GC.ret1 rfl (Rv.tmp rfl) (fun wN HN => ?_)
                exact HN.ret () trivial rfl (List.nil_sublist _) rfl

end Go.Proofs.Ytnpmfinjommjkaa.B
