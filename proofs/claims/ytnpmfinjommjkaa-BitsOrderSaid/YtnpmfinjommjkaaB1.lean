/- Bits' functions: what each call tells. -/
import Derived.Test.YtnpmfinjommjkaaT
import Derived.Test.YtnpmfinjommjkaaFl
namespace Go.Proofs.Ytnpmfinjommjkaa.B
open Go Go.RowKit Sx
set_option linter.unusedVariables false
set_option maxRecDepth 100000 in
set_option maxHeartbeats 1000000 in
theorem split (a : Int) (w : World) (ha : 0 ≤ a ∧ a < 4294967296) :
    Calls Try.prog 43 #[(.int .u32 a)] w (Ret w (fun _ : Unit => True) (fun _ => (.agg #[(.bool (decide (2147483648 ≤ a))), (.int .i64 (a / 8388608 % 256)), (.int .i64 (a % 8388608))])) (fun _ => [])) := by
  refine enter (M := None) (L := []) (n := 13) (l := [(0, (.int .u32 a))]) Try.func43 rfl rfl (Args.cons rfl (Args.nil _)) (Hp.start _ _) ?_
  refine GC.seq ?_
  refine GC.region ?_
  refine GL.step (Stp.alloc T.zr43 (by decide)) (fun bq1 _ => ?_)
  refine GL.nil ?_
  refine GE.thenN ?_
  refine GC.seq ?_
  refine GC.region ?_
  refine GL.val (v := (.int .u32 a)) (Ex.move rfl) (by decide) ?_
  refine GL.val (v := (.bool (decide (2147483648 ≤ a)))) (Ex.geq rfl rfl) (by decide) ?_
  refine GL.val (v := (.int .u32 a)) (Ex.move rfl) (by decide) ?_
  refine GL.val (v := (.int .u32 (a / 8388608))) (Ex.shr rfl (m := 23) rfl (by decide) (Z := a / 8388608) rfl) (by decide) ?_
  refine GL.val (v := (.int .u32 ((a / 8388608) % 256))) (Ex.bits rfl rfl (by simp) (Z := (a / 8388608) % 256) (andm 8 (by omega) (by omega) (by decide) rfl rfl)) (by decide) ?_
  refine GL.val (v := (.int .i64 ((a / 8388608) % 256))) (Ex.conv rfl Try.underlying23 Try.underlying3 (Z := (a / 8388608) % 256) (w64 (by omega))) (by decide) ?_
  refine GL.val (v := (.int .u32 a)) (Ex.move rfl) (by decide) ?_
  refine GL.val (v := (.int .u32 (a % 8388608))) (Ex.bits rfl rfl (by simp) (Z := a % 8388608) (andm 23 (by omega) (by omega) (by decide) rfl rfl)) (by decide) ?_
  refine GL.val (v := (.int .i64 (a % 8388608))) (Ex.conv rfl Try.underlying23 Try.underlying3 (Z := a % 8388608) (w64 (by omega))) (by decide) ?_
  refine GL.val (v := (.agg #[(.bool (decide (2147483648 ≤ a))), (.int .i64 ((a / 8388608) % 256)), (.int .i64 (a % 8388608))])) (Ex.build (vs := [(0, (.bool (decide (2147483648 ≤ a)))), (1, (.int .i64 ((a / 8388608) % 256))), (2, (.int .i64 (a % 8388608)))]) rfl (by first | rfl | kernel_rfl)) (by decide) ?_
  refine GL.step (Stp.storeL (i := 0) (L1 := [⟨bq1, [(.bool (decide (2147483648 ≤ a))), (.int .i64 ((a / 8388608) % 256)), (.int .i64 (a % 8388608))], 43, true⟩]) rfl rfl rfl T.sz43 rfl rfl rfl rfl) (fun _ _ => ?_)
  refine GL.nil ?_
  refine GE.thenN ?_
  refine GC.ret ?_
  refine GC.ret1 rfl (Rv.cellA rfl T.ag43 T.sz43 (L := _) (i := 0) rfl (vs := [(.bool (decide (2147483648 ≤ a))), (.int .i64 ((a / 8388608) % 256)), (.int .i64 (a % 8388608))]) rfl rfl) (fun wN HN => ?_)
  exact HN.ret () trivial rfl (List.nil_sublist _) rfl

set_option maxRecDepth 100000 in
set_option maxHeartbeats 1000000 in
theorem fields (a : Int) (w : World) (ha : 0 ≤ a ∧ a < 4294967296) :
    Calls Try.prog 44 #[(.int .u32 a)] w (Ret w (fun _ : Unit => True) (fun _ => (.tuple #[(.int .i64 (a / 2147483648)), (.int .i64 (a / 8388608 % 256)), (.int .i64 (a % 8388608))])) (fun _ => [])) := by
  refine enter (M := None) (L := []) (n := 15) (l := [(0, (.int .u32 a))]) Try.func44 rfl rfl (Args.cons rfl (Args.nil _)) (Hp.start _ _) ?_
  refine GC.seq ?_
  refine GC.region ?_
  refine GL.val (v := (.int .i64 0)) (Ex.assign rfl) (by decide) ?_
  refine GL.val (v := (.int .i64 0)) (Ex.assign rfl) (by decide) ?_
  refine GL.val (v := (.int .i64 0)) (Ex.assign rfl) (by decide) ?_
  refine GL.nil ?_
  refine GE.thenN ?_
  refine GC.seq ?_
  refine GC.region ?_
  refine GL.val (v := (.int .u32 a)) (Ex.move rfl) (by decide) ?_
  refine GL.val (v := (.int .i64 a)) (Ex.conv rfl Try.underlying23 Try.underlying3 (Z := a) (w64 (by omega))) (by decide) ?_
  refine GL.val (v := (.int .i64 a)) (Ex.assign rfl) (by decide) ?_
  refine GL.nil ?_
  refine GE.thenN ?_
  refine GC.seq ?_
  refine GC.region ?_
  refine GL.val (v := (.int .i64 a)) (Ex.move rfl) (by decide) ?_
  refine GL.val (v := (.int .i64 (a / 2147483648))) (Ex.quo rfl rfl (Z := a / 2147483648) (by omega) (quo64 (by omega) (by omega) (by omega))) (by decide) ?_
  refine GL.val (v := (.int .i64 a)) (Ex.move rfl) (by decide) ?_
  refine GL.val (v := (.int .i64 (a / 8388608))) (Ex.quo rfl rfl (Z := a / 8388608) (by omega) (quo64 (by omega) (by omega) (by omega))) (by decide) ?_
  refine GL.val (v := (.int .i64 ((a / 8388608) % 256))) (Ex.rem rfl rfl (Z := (a / 8388608) % 256) (by omega) (rem64 (by omega) (by omega))) (by decide) ?_
  refine GL.val (v := (.int .i64 a)) (Ex.move rfl) (by decide) ?_
  refine GL.val (v := (.int .i64 (a % 8388608))) (Ex.rem rfl rfl (Z := a % 8388608) (by omega) (rem64 (by omega) (by omega))) (by decide) ?_
  refine GL.val (v := (.int .i64 (a / 2147483648))) (Ex.assign rfl) (by decide) ?_
  refine GL.val (v := (.int .i64 ((a / 8388608) % 256))) (Ex.assign rfl) (by decide) ?_
  refine GL.val (v := (.int .i64 (a % 8388608))) (Ex.assign rfl) (by decide) ?_
  refine GL.nil ?_
  refine GE.thenN ?_
  refine GC.ret ?_
  refine GC.ret3 rfl (Rv.tmp rfl) (Rv.tmp rfl) (Rv.tmp rfl) (fun wN HN => ?_)
  exact HN.ret () trivial rfl (List.nil_sublist _) rfl

set_option maxRecDepth 100000 in
set_option maxHeartbeats 1000000 in
theorem cls_p (a : Int) (w : World) (ha : 0 ≤ a ∧ a < 4294967296) :
    Calls Try.prog 15 #[(.int .u32 a)] w (Ret w (fun _ : Unit => True) (fun _ => (.int .i64 (Bt.cls a))) (fun _ => [])) := by
  refine enter (M := None) (L := []) (n := 23) (l := [(0, (.int .u32 a))]) Try.func15 rfl rfl (Args.cons rfl (Args.nil _)) (Hp.start _ _) ?_
  refine GC.seq ?_
  refine GC.region ?_
  refine GL.val (v := (.int .i64 0)) (Ex.assign rfl) (by decide) ?_
  refine GL.nil ?_
  refine GE.thenN ?_
  refine GC.seq ?_
  refine GC.region ?_
  refine GL.val (v := (.int .u32 a)) (Ex.move rfl) (by decide) ?_
  refine GL.step (Stp.callR (σ := Unit) (p := fun rz => True) (v := fun rz => (.agg #[(.bool (decide (2147483648 ≤ a))), (.int .i64 (a / 8388608 % 256)), (.int .i64 (a % 8388608))])) (N := fun rz => []) (vs := [(.int .u32 a)]) rfl rfl T.own43 (by decide) (fun wc hw => split a wc (by first | assumption | omega | exact Bt.lst_bd (by assumption) (by assumption) | exact Bt.gst_bd (by assumption) (by assumption) | exact Bt.key_bd (by assumption) | exact Bt.unkey_bd (by assumption) | exact Bt.nxt_bd (by assumption) | exact Bt.lst_bd (Bt.gst_bd (by assumption) (by assumption)) (by assumption) | exact Bt.btw_bd (by assumption) (Bt.lst_bd (by assumption) (by assumption)) (Bt.gst_bd (by assumption) (by assumption))))) (fun xq1 hq2 => ?_)
  refine GL.step (Stp.alloc T.zr43 (by decide)) (fun bq3 _ => ?_)
  refine GL.step (Stp.storeL (i := 0) (L1 := [⟨bq3, [(.bool (decide (2147483648 ≤ a))), (.int .i64 (a / 8388608 % 256)), (.int .i64 (a % 8388608))], 43, true⟩]) rfl rfl rfl T.sz43 rfl rfl rfl rfl) (fun _ _ => ?_)
  refine GL.nil ?_
  refine GE.thenN ?_
  refine GC.seq ?_
  refine GC.region ?_
  refine GL.val (v := (.pointer (some ⟨bq3, 0, none⟩))) (Ex.cast (Ex.fieldAddr rfl Try.underlying43 rfl T.sz4 (by decide)) rfl) (by decide) ?_
  refine GL.step (Stp.storeL (i := 0) (L1 := [⟨bq3, [(.bool false), (.int .i64 (a / 8388608 % 256)), (.int .i64 (a % 8388608))], 43, true⟩]) rfl rfl rfl T.sz4 rfl rfl rfl rfl) (fun _ _ => ?_)
  refine GL.nil ?_
  refine GE.thenN ?_
  refine GC.seq ?_
  refine GC.block ?_
  refine GC.seq ?_
  refine GC.region ?_
  refine GL.val (v := (.agg #[(.bool false), (.int .i64 (a / 8388608 % 256)), (.int .i64 (a % 8388608))])) (Ex.loadA rfl T.ag43 T.sz43 (i := 0) rfl (vs := [(.bool false), (.int .i64 (a / 8388608 % 256)), (.int .i64 (a % 8388608))]) rfl rfl) (by decide) ?_
  refine GL.val (v := (.agg #[(.bool false), (.int .i64 0), (.int .i64 0)])) (Ex.build (vs := []) rfl (by first | rfl | kernel_rfl)) (by decide) ?_
  refine GL.val (v := (.bool (decide ((a / 8388608 % 256) = 0 ∧ (a % 8388608) = 0)))) (Ex.eqS rfl rfl T.sfs43 (EqFs.cons rfl rfl (EqC.bool Try.underlying4) (EqFs.cons rfl rfl (EqC.int Try.underlying3) (EqFs.cons rfl rfl (EqC.int Try.underlying3) EqFs.nil))) (by simp [Bool.decide_and])) (by decide) ?_
  refine GL.val (v := (.bool (decide ((a / 8388608 % 256) = 0 ∧ (a % 8388608) = 0)))) (Ex.assign rfl) (by decide) ?_
  refine GL.nil ?_
  refine GE.thenN ?_
  refine GC.cond rfl (fun hq4 => ?_) (fun hq4 => ?_)
  · replace hq4 := of_decide_eq_true hq4
    refine GC.seq ?_
    refine GC.region ?_
    refine GL.val (v := (.int .i64 5)) (Ex.assign rfl) (by decide) ?_
    refine GL.nil ?_
    refine GE.thenN ?_
    refine GC.ret ?_
    refine GE.blockR ?_
    refine GE.thenR ?_
    refine GC.ret1 rfl (Rv.tmp rfl) (fun wN HN => ?_)
    exact HN.ret () trivial (by rw [show Bt.cls a = 5 from by first | (exfalso; omega) | (unfold Bt.cls; (repeat (first | rw [if_pos (by omega)] | rw [if_neg (by omega)])); try omega)]) (List.nil_sublist _) rfl
  · replace hq4 := of_decide_eq_false hq4
    refine GC.seq ?_
    refine GC.region ?_
    refine GL.val (v := (.agg #[(.bool false), (.int .i64 (a / 8388608 % 256)), (.int .i64 (a % 8388608))])) (Ex.loadA rfl T.ag43 T.sz43 (i := 0) rfl (vs := [(.bool false), (.int .i64 (a / 8388608 % 256)), (.int .i64 (a % 8388608))]) rfl rfl) (by decide) ?_
    refine GL.val (v := (.agg #[(.bool false), (.int .i64 255), (.int .i64 0)])) (Ex.build (vs := [(1, (.int .i64 255))]) rfl (by first | rfl | kernel_rfl)) (by decide) ?_
    refine GL.val (v := (.bool (decide ((a / 8388608 % 256) = 255 ∧ (a % 8388608) = 0)))) (Ex.eqS rfl rfl T.sfs43 (EqFs.cons rfl rfl (EqC.bool Try.underlying4) (EqFs.cons rfl rfl (EqC.int Try.underlying3) (EqFs.cons rfl rfl (EqC.int Try.underlying3) EqFs.nil))) (by simp [Bool.decide_and])) (by decide) ?_
    refine GL.val (v := (.bool (decide ((a / 8388608 % 256) = 255 ∧ (a % 8388608) = 0)))) (Ex.assign rfl) (by decide) ?_
    refine GL.nil ?_
    refine GE.thenN ?_
    refine GC.cond rfl (fun hq5 => ?_) (fun hq5 => ?_)
    · replace hq5 := of_decide_eq_true hq5
      refine GC.seq ?_
      refine GC.region ?_
      refine GL.val (v := (.int .i64 2)) (Ex.assign rfl) (by decide) ?_
      refine GL.nil ?_
      refine GE.thenN ?_
      refine GC.ret ?_
      refine GE.blockR ?_
      refine GE.thenR ?_
      refine GC.ret1 rfl (Rv.tmp rfl) (fun wN HN => ?_)
      exact HN.ret () trivial (by rw [show Bt.cls a = 2 from by first | (exfalso; omega) | (unfold Bt.cls; (repeat (first | rw [if_pos (by omega)] | rw [if_neg (by omega)])); try omega)]) (List.nil_sublist _) rfl
    · replace hq5 := of_decide_eq_false hq5
      refine GC.seq ?_
      refine GC.region ?_
      refine GL.val (v := (.pointer (some ⟨bq3, 1, none⟩))) (Ex.cast (Ex.fieldAddr rfl Try.underlying43 rfl T.sz3 (by decide)) rfl) (by decide) ?_
      refine GL.val (v := (.int .i64 (a / 8388608 % 256))) (Ex.load rfl T.ag3 (i := 0) rfl rfl) (by decide) ?_
      refine GL.val (v := (.bool (decide ((a / 8388608 % 256) = 255)))) (Ex.eql rfl rfl) (by decide) ?_
      refine GL.val (v := (.bool (decide ((a / 8388608 % 256) = 255)))) (Ex.assign rfl) (by decide) ?_
      refine GL.nil ?_
      refine GE.thenN ?_
      refine GC.cond rfl (fun hq6 => ?_) (fun hq6 => ?_)
      · replace hq6 := of_decide_eq_true hq6
        refine GC.seq ?_
        refine GC.region ?_
        refine GL.val (v := (.int .i64 1)) (Ex.assign rfl) (by decide) ?_
        refine GL.nil ?_
        refine GE.thenN ?_
        refine GC.ret ?_
        refine GE.blockR ?_
        refine GE.thenR ?_
        refine GC.ret1 rfl (Rv.tmp rfl) (fun wN HN => ?_)
        exact HN.ret () trivial (by rw [show Bt.cls a = 1 from by first | (exfalso; omega) | (unfold Bt.cls; (repeat (first | rw [if_pos (by omega)] | rw [if_neg (by omega)])); try omega)]) (List.nil_sublist _) rfl
      · replace hq6 := of_decide_eq_false hq6
        refine GC.seq ?_
        refine GC.region ?_
        refine GL.val (v := (.pointer (some ⟨bq3, 1, none⟩))) (Ex.cast (Ex.fieldAddr rfl Try.underlying43 rfl T.sz3 (by decide)) rfl) (by decide) ?_
        refine GL.val (v := (.int .i64 (a / 8388608 % 256))) (Ex.load rfl T.ag3 (i := 0) rfl rfl) (by decide) ?_
        refine GL.val (v := (.bool (decide ((a / 8388608 % 256) = 0)))) (Ex.eql rfl rfl) (by decide) ?_
        refine GL.val (v := (.bool (decide ((a / 8388608 % 256) = 0)))) (Ex.assign rfl) (by decide) ?_
        refine GL.nil ?_
        refine GE.thenN ?_
        refine GC.cond rfl (fun hq7 => ?_) (fun hq7 => ?_)
        · replace hq7 := of_decide_eq_true hq7
          refine GC.seq ?_
          refine GC.region ?_
          refine GL.val (v := (.int .i64 4)) (Ex.assign rfl) (by decide) ?_
          refine GL.nil ?_
          refine GE.thenN ?_
          refine GC.ret ?_
          refine GE.blockR ?_
          refine GE.thenR ?_
          refine GC.ret1 rfl (Rv.tmp rfl) (fun wN HN => ?_)
          exact HN.ret () trivial (by rw [show Bt.cls a = 4 from by first | (exfalso; omega) | (unfold Bt.cls; (repeat (first | rw [if_pos (by omega)] | rw [if_neg (by omega)])); try omega)]) (List.nil_sublist _) rfl
        · replace hq7 := of_decide_eq_false hq7
          refine GC.skip ?_
          refine GE.blockN ?_
          refine GE.thenN ?_
          refine GC.seq ?_
          refine GC.region ?_
          refine GL.val (v := (.int .i64 3)) (Ex.assign rfl) (by decide) ?_
          refine GL.nil ?_
          refine GE.thenN ?_
          refine GC.ret ?_
          refine GC.ret1 rfl (Rv.tmp rfl) (fun wN HN => ?_)
          exact HN.ret () trivial (by rw [show Bt.cls a = 3 from by first | (exfalso; omega) | (unfold Bt.cls; (repeat (first | rw [if_pos (by omega)] | rw [if_neg (by omega)])); try omega)]) (List.nil_sublist _) rfl

set_option maxRecDepth 100000 in
set_option maxHeartbeats 1000000 in
theorem cls_r (a : Int) (w : World) (ha : 0 ≤ a ∧ a < 4294967296) :
    Calls Try.prog 16 #[(.int .u32 a)] w (Ret w (fun _ : Unit => True) (fun _ => (.int .i64 (Bt.cls a))) (fun _ => [])) := by
  refine enter (M := None) (L := []) (n := 28) (l := [(0, (.int .u32 a))]) Try.func16 rfl rfl (Args.cons rfl (Args.nil _)) (Hp.start _ _) ?_
  refine GC.seq ?_
  refine GC.region ?_
  refine GL.val (v := (.int .i64 0)) (Ex.assign rfl) (by decide) ?_
  refine GL.nil ?_
  refine GE.thenN ?_
  refine GC.seq ?_
  refine GC.region ?_
  refine GL.val (v := (.int .u32 a)) (Ex.move rfl) (by decide) ?_
  refine GL.step (Stp.callR (σ := Unit) (p := fun rz => True) (v := fun rz => (.tuple #[(.int .i64 (a / 2147483648)), (.int .i64 (a / 8388608 % 256)), (.int .i64 (a % 8388608))])) (N := fun rz => []) (vs := [(.int .u32 a)]) rfl rfl T.own44 (by decide) (fun wc hw => fields a wc (by first | assumption | omega | exact Bt.lst_bd (by assumption) (by assumption) | exact Bt.gst_bd (by assumption) (by assumption) | exact Bt.key_bd (by assumption) | exact Bt.unkey_bd (by assumption) | exact Bt.nxt_bd (by assumption) | exact Bt.lst_bd (Bt.gst_bd (by assumption) (by assumption)) (by assumption) | exact Bt.btw_bd (by assumption) (Bt.lst_bd (by assumption) (by assumption)) (Bt.gst_bd (by assumption) (by assumption))))) (fun xq1 hq2 => ?_)
  refine GL.val (v := (.tuple #[(.int .i64 (a / 2147483648)), (.int .i64 (a / 8388608 % 256)), (.int .i64 (a % 8388608))])) (Ex.move rfl) (by decide) ?_
  refine GL.val (v := (.int .i64 (a / 2147483648))) (Ex.extract rfl rfl) (by decide) ?_
  refine GL.val (v := (.int .i64 (a / 8388608 % 256))) (Ex.extract rfl rfl) (by decide) ?_
  refine GL.val (v := (.int .i64 (a % 8388608))) (Ex.extract rfl rfl) (by decide) ?_
  refine GL.val (v := (.int .i64 (a / 2147483648))) (Ex.assign rfl) (by decide) ?_
  refine GL.val (v := (.int .i64 (a / 8388608 % 256))) (Ex.assign rfl) (by decide) ?_
  refine GL.val (v := (.int .i64 (a % 8388608))) (Ex.assign rfl) (by decide) ?_
  refine GL.nil ?_
  refine GE.thenN ?_
  refine GC.seq ?_
  refine GC.block ?_
  refine GC.seq ?_
  refine GC.region ?_
  refine GL.val (v := (.int .i64 (a / 8388608 % 256))) (Ex.move rfl) (by decide) ?_
  by_cases hq3 : (a / 8388608 % 256) = 255
  · refine GL.val (v := (.bool true)) (Ex.cast (Ex.eql rfl rfl) (congrArg Value.bool (decide_eq_true hq3))) (by decide) ?_
    refine GL.val (v := (.bool true)) (Ex.move rfl) (by decide) ?_
    refine GL.stepG (tj := 15) rfl rfl (Ex.wp (v := (.int .i64 (a % 8388608))) (Ex.move rfl) (by decide)) (fun _ _ => ?_)
    refine GL.stepG (tj := 15) rfl rfl (Ex.wp (v := (.bool (decide ((a % 8388608) ≠ 0)))) (Ex.neq rfl rfl) (by decide)) (fun _ _ => ?_)
    refine GL.val (v := (.bool (decide ((a % 8388608) ≠ 0)))) (Ex.pickT rfl rfl) (by decide) ?_
    refine GL.val (v := (.bool (decide ((a % 8388608) ≠ 0)))) (Ex.assign rfl) (by decide) ?_
    refine GL.nil ?_
    refine GE.thenN ?_
    refine GC.cond rfl (fun hq4 => ?_) (fun hq4 => ?_)
    · replace hq4 := of_decide_eq_true hq4
      refine GC.seq ?_
      refine GC.region ?_
      refine GL.val (v := (.int .i64 1)) (Ex.assign rfl) (by decide) ?_
      refine GL.nil ?_
      refine GE.thenN ?_
      refine GC.ret ?_
      refine GE.blockR ?_
      refine GE.thenR ?_
      refine GC.ret1 rfl (Rv.tmp rfl) (fun wN HN => ?_)
      exact HN.ret () trivial (by rw [show Bt.cls a = 1 from by first | (exfalso; omega) | (unfold Bt.cls; (repeat (first | rw [if_pos (by omega)] | rw [if_neg (by omega)])); try omega)]) (List.nil_sublist _) rfl
    · replace hq4 := of_decide_eq_false hq4
      refine GC.seq ?_
      refine GC.region ?_
      refine GL.val (v := (.int .i64 (a / 8388608 % 256))) (Ex.move rfl) (by decide) ?_
      refine GL.val (v := (.bool (decide ((a / 8388608 % 256) = 255)))) (Ex.eql rfl rfl) (by decide) ?_
      refine GL.val (v := (.bool (decide ((a / 8388608 % 256) = 255)))) (Ex.assign rfl) (by decide) ?_
      refine GL.nil ?_
      refine GE.thenN ?_
      refine GC.cond rfl (fun hq5 => ?_) (fun hq5 => ?_)
      · replace hq5 := of_decide_eq_true hq5
        refine GC.seq ?_
        refine GC.region ?_
        refine GL.val (v := (.int .i64 2)) (Ex.assign rfl) (by decide) ?_
        refine GL.nil ?_
        refine GE.thenN ?_
        refine GC.ret ?_
        refine GE.blockR ?_
        refine GE.thenR ?_
        refine GC.ret1 rfl (Rv.tmp rfl) (fun wN HN => ?_)
        exact HN.ret () trivial (by rw [show Bt.cls a = 2 from by first | (exfalso; omega) | (unfold Bt.cls; (repeat (first | rw [if_pos (by omega)] | rw [if_neg (by omega)])); try omega)]) (List.nil_sublist _) rfl
      · replace hq5 := of_decide_eq_false hq5
        refine GC.seq ?_
        refine GC.region ?_
        refine GL.val (v := (.int .i64 (a / 8388608 % 256))) (Ex.move rfl) (by decide) ?_
        refine GL.val (v := (.bool (decide ((a / 8388608 % 256) ≠ 0)))) (Ex.neq rfl rfl) (by decide) ?_
        refine GL.val (v := (.bool (decide ((a / 8388608 % 256) ≠ 0)))) (Ex.assign rfl) (by decide) ?_
        refine GL.nil ?_
        refine GE.thenN ?_
        refine GC.cond rfl (fun hq6 => ?_) (fun hq6 => ?_)
        · replace hq6 := of_decide_eq_true hq6
          refine GC.seq ?_
          refine GC.region ?_
          refine GL.val (v := (.int .i64 3)) (Ex.assign rfl) (by decide) ?_
          refine GL.nil ?_
          refine GE.thenN ?_
          refine GC.ret ?_
          refine GE.blockR ?_
          refine GE.thenR ?_
          refine GC.ret1 rfl (Rv.tmp rfl) (fun wN HN => ?_)
          exact HN.ret () trivial (by rw [show Bt.cls a = 3 from by first | (exfalso; omega) | (unfold Bt.cls; (repeat (first | rw [if_pos (by omega)] | rw [if_neg (by omega)])); try omega)]) (List.nil_sublist _) rfl
        · replace hq6 := of_decide_eq_false hq6
          refine GC.seq ?_
          refine GC.region ?_
          refine GL.val (v := (.int .i64 (a % 8388608))) (Ex.move rfl) (by decide) ?_
          refine GL.val (v := (.bool (decide ((a % 8388608) ≠ 0)))) (Ex.neq rfl rfl) (by decide) ?_
          refine GL.val (v := (.bool (decide ((a % 8388608) ≠ 0)))) (Ex.assign rfl) (by decide) ?_
          refine GL.nil ?_
          refine GE.thenN ?_
          refine GC.cond rfl (fun hq7 => ?_) (fun hq7 => ?_)
          · replace hq7 := of_decide_eq_true hq7
            refine GC.seq ?_
            refine GC.region ?_
            refine GL.val (v := (.int .i64 4)) (Ex.assign rfl) (by decide) ?_
            refine GL.nil ?_
            refine GE.thenN ?_
            refine GC.ret ?_
            refine GE.blockR ?_
            refine GE.thenR ?_
            refine GC.ret1 rfl (Rv.tmp rfl) (fun wN HN => ?_)
            exact HN.ret () trivial (by rw [show Bt.cls a = 4 from by first | (exfalso; omega) | (unfold Bt.cls; (repeat (first | rw [if_pos (by omega)] | rw [if_neg (by omega)])); try omega)]) (List.nil_sublist _) rfl
          · replace hq7 := of_decide_eq_false hq7
            refine GC.skip ?_
            refine GE.blockN ?_
            refine GE.thenN ?_
            refine GC.seq ?_
            refine GC.region ?_
            refine GL.val (v := (.int .i64 5)) (Ex.assign rfl) (by decide) ?_
            refine GL.nil ?_
            refine GE.thenN ?_
            refine GC.ret ?_
            refine GC.ret1 rfl (Rv.tmp rfl) (fun wN HN => ?_)
            exact HN.ret () trivial (by rw [show Bt.cls a = 5 from by first | (exfalso; omega) | (unfold Bt.cls; (repeat (first | rw [if_pos (by omega)] | rw [if_neg (by omega)])); try omega)]) (List.nil_sublist _) rfl
  · refine GL.val (v := (.bool false)) (Ex.cast (Ex.eql rfl rfl) (congrArg Value.bool (decide_eq_false hq3))) (by decide) ?_
    refine GL.val (v := (.bool false)) (Ex.move rfl) (by decide) ?_
    refine GL.skipG (tj := 15) rfl rfl rfl (by decide) ?_
    refine GL.skipG (tj := 15) rfl rfl rfl (by decide) ?_
    refine GL.val (v := (.bool false)) (Ex.pickF rfl rfl) (by decide) ?_
    refine GL.val (v := (.bool false)) (Ex.assign rfl) (by decide) ?_
    refine GL.nil ?_
    refine GE.thenN ?_
    refine GC.cond rfl (fun hq8 => by cases hq8) (fun _ => ?_)
    refine GC.seq ?_
    refine GC.region ?_
    refine GL.val (v := (.int .i64 (a / 8388608 % 256))) (Ex.move rfl) (by decide) ?_
    refine GL.val (v := (.bool (decide ((a / 8388608 % 256) = 255)))) (Ex.eql rfl rfl) (by decide) ?_
    refine GL.val (v := (.bool (decide ((a / 8388608 % 256) = 255)))) (Ex.assign rfl) (by decide) ?_
    refine GL.nil ?_
    refine GE.thenN ?_
    refine GC.cond rfl (fun hq9 => ?_) (fun hq9 => ?_)
    · replace hq9 := of_decide_eq_true hq9
      refine GC.seq ?_
      refine GC.region ?_
      refine GL.val (v := (.int .i64 2)) (Ex.assign rfl) (by decide) ?_
      refine GL.nil ?_
      refine GE.thenN ?_
      refine GC.ret ?_
      refine GE.blockR ?_
      refine GE.thenR ?_
      refine GC.ret1 rfl (Rv.tmp rfl) (fun wN HN => ?_)
      exact HN.ret () trivial (by rw [show Bt.cls a = 2 from by first | (exfalso; omega) | (unfold Bt.cls; (repeat (first | rw [if_pos (by omega)] | rw [if_neg (by omega)])); try omega)]) (List.nil_sublist _) rfl
    · replace hq9 := of_decide_eq_false hq9
      refine GC.seq ?_
      refine GC.region ?_
      refine GL.val (v := (.int .i64 (a / 8388608 % 256))) (Ex.move rfl) (by decide) ?_
      refine GL.val (v := (.bool (decide ((a / 8388608 % 256) ≠ 0)))) (Ex.neq rfl rfl) (by decide) ?_
      refine GL.val (v := (.bool (decide ((a / 8388608 % 256) ≠ 0)))) (Ex.assign rfl) (by decide) ?_
      refine GL.nil ?_
      refine GE.thenN ?_
      refine GC.cond rfl (fun hq10 => ?_) (fun hq10 => ?_)
      · replace hq10 := of_decide_eq_true hq10
        refine GC.seq ?_
        refine GC.region ?_
        refine GL.val (v := (.int .i64 3)) (Ex.assign rfl) (by decide) ?_
        refine GL.nil ?_
        refine GE.thenN ?_
        refine GC.ret ?_
        refine GE.blockR ?_
        refine GE.thenR ?_
        refine GC.ret1 rfl (Rv.tmp rfl) (fun wN HN => ?_)
        exact HN.ret () trivial (by rw [show Bt.cls a = 3 from by first | (exfalso; omega) | (unfold Bt.cls; (repeat (first | rw [if_pos (by omega)] | rw [if_neg (by omega)])); try omega)]) (List.nil_sublist _) rfl
      · replace hq10 := of_decide_eq_false hq10
        refine GC.seq ?_
        refine GC.region ?_
        refine GL.val (v := (.int .i64 (a % 8388608))) (Ex.move rfl) (by decide) ?_
        refine GL.val (v := (.bool (decide ((a % 8388608) ≠ 0)))) (Ex.neq rfl rfl) (by decide) ?_
        refine GL.val (v := (.bool (decide ((a % 8388608) ≠ 0)))) (Ex.assign rfl) (by decide) ?_
        refine GL.nil ?_
        refine GE.thenN ?_
        refine GC.cond rfl (fun hq11 => ?_) (fun hq11 => ?_)
        · replace hq11 := of_decide_eq_true hq11
          refine GC.seq ?_
          refine GC.region ?_
          refine GL.val (v := (.int .i64 4)) (Ex.assign rfl) (by decide) ?_
          refine GL.nil ?_
          refine GE.thenN ?_
          refine GC.ret ?_
          refine GE.blockR ?_
          refine GE.thenR ?_
          refine GC.ret1 rfl (Rv.tmp rfl) (fun wN HN => ?_)
          exact HN.ret () trivial (by rw [show Bt.cls a = 4 from by first | (exfalso; omega) | (unfold Bt.cls; (repeat (first | rw [if_pos (by omega)] | rw [if_neg (by omega)])); try omega)]) (List.nil_sublist _) rfl
        · replace hq11 := of_decide_eq_false hq11
          refine GC.skip ?_
          refine GE.blockN ?_
          refine GE.thenN ?_
          refine GC.seq ?_
          refine GC.region ?_
          refine GL.val (v := (.int .i64 5)) (Ex.assign rfl) (by decide) ?_
          refine GL.nil ?_
          refine GE.thenN ?_
          refine GC.ret ?_
          refine GC.ret1 rfl (Rv.tmp rfl) (fun wN HN => ?_)
          exact HN.ret () trivial (by rw [show Bt.cls a = 5 from by first | (exfalso; omega) | (unfold Bt.cls; (repeat (first | rw [if_pos (by omega)] | rw [if_neg (by omega)])); try omega)]) (List.nil_sublist _) rfl

set_option maxRecDepth 100000 in
set_option maxHeartbeats 1000000 in
theorem nan_p (a : Int) (w : World) (ha : 0 ≤ a ∧ a < 4294967296) :
    Calls Try.prog 17 #[(.int .u32 a)] w (Ret w (fun _ : Unit => True) (fun _ => (.bool (decide (Bt.cls a = 1)))) (fun _ => [])) := by
  refine enter (M := None) (L := []) (n := 6) (l := [(0, (.int .u32 a))]) Try.func17 rfl rfl (Args.cons rfl (Args.nil _)) (Hp.start _ _) ?_
  refine GC.seq ?_
  refine GC.region ?_
  refine GL.val (v := (.bool false)) (Ex.assign rfl) (by decide) ?_
  refine GL.nil ?_
  refine GE.thenN ?_
  refine GC.seq ?_
  refine GC.region ?_
  refine GL.val (v := (.int .u32 a)) (Ex.move rfl) (by decide) ?_
  refine GL.step (Stp.callR (σ := Unit) (p := fun rz => True) (v := fun rz => (.int .i64 (Bt.cls a))) (N := fun rz => []) (vs := [(.int .u32 a)]) rfl rfl T.own15 (by decide) (fun wc hw => cls_p a wc (by first | assumption | omega | exact Bt.lst_bd (by assumption) (by assumption) | exact Bt.gst_bd (by assumption) (by assumption) | exact Bt.key_bd (by assumption) | exact Bt.unkey_bd (by assumption) | exact Bt.nxt_bd (by assumption) | exact Bt.lst_bd (Bt.gst_bd (by assumption) (by assumption)) (by assumption) | exact Bt.btw_bd (by assumption) (Bt.lst_bd (by assumption) (by assumption)) (Bt.gst_bd (by assumption) (by assumption))))) (fun xq1 hq2 => ?_)
  refine GL.val (v := (.bool (decide ((Bt.cls a) = 1)))) (Ex.eql rfl rfl) (by decide) ?_
  refine GL.val (v := (.bool (decide ((Bt.cls a) = 1)))) (Ex.assign rfl) (by decide) ?_
  refine GL.nil ?_
  refine GE.thenN ?_
  refine GC.ret ?_
  refine GC.ret1 rfl (Rv.tmp rfl) (fun wN HN => ?_)
  exact HN.ret () trivial rfl (List.nil_sublist _) rfl

set_option maxRecDepth 100000 in
set_option maxHeartbeats 1000000 in
theorem nan_r (a : Int) (w : World) (ha : 0 ≤ a ∧ a < 4294967296) :
    Calls Try.prog 18 #[(.int .u32 a)] w (Ret w (fun _ : Unit => True) (fun _ => (.bool (decide (Bt.cls a = 1)))) (fun _ => [])) := by
  refine enter (M := None) (L := []) (n := 6) (l := [(0, (.int .u32 a))]) Try.func18 rfl rfl (Args.cons rfl (Args.nil _)) (Hp.start _ _) ?_
  refine GC.seq ?_
  refine GC.region ?_
  refine GL.val (v := (.bool false)) (Ex.assign rfl) (by decide) ?_
  refine GL.nil ?_
  refine GE.thenN ?_
  refine GC.seq ?_
  refine GC.region ?_
  refine GL.val (v := (.int .u32 a)) (Ex.move rfl) (by decide) ?_
  refine GL.step (Stp.callR (σ := Unit) (p := fun rz => True) (v := fun rz => (.int .i64 (Bt.cls a))) (N := fun rz => []) (vs := [(.int .u32 a)]) rfl rfl T.own16 (by decide) (fun wc hw => cls_r a wc (by first | assumption | omega | exact Bt.lst_bd (by assumption) (by assumption) | exact Bt.gst_bd (by assumption) (by assumption) | exact Bt.key_bd (by assumption) | exact Bt.unkey_bd (by assumption) | exact Bt.nxt_bd (by assumption) | exact Bt.lst_bd (Bt.gst_bd (by assumption) (by assumption)) (by assumption) | exact Bt.btw_bd (by assumption) (Bt.lst_bd (by assumption) (by assumption)) (Bt.gst_bd (by assumption) (by assumption))))) (fun xq1 hq2 => ?_)
  refine GL.val (v := (.bool (decide ((Bt.cls a) = 1)))) (Ex.eql rfl rfl) (by decide) ?_
  refine GL.val (v := (.bool (decide ((Bt.cls a) = 1)))) (Ex.assign rfl) (by decide) ?_
  refine GL.nil ?_
  refine GE.thenN ?_
  refine GC.ret ?_
  refine GC.ret1 rfl (Rv.tmp rfl) (fun wN HN => ?_)
  exact HN.ret () trivial rfl (List.nil_sublist _) rfl

set_option maxRecDepth 100000 in
set_option maxHeartbeats 1000000 in
theorem made_p (a : Int) (w : World) (ha : 0 ≤ a ∧ a < 4294967296) :
    Calls Try.prog 19 #[(.int .u32 a)] w (Ret w (fun _ : Unit => True) (fun _ => (.int .u32 (Bt.mde a))) (fun _ => [])) := by
  refine enter (M := None) (L := []) (n := 6) (l := [(0, (.int .u32 a))]) Try.func19 rfl rfl (Args.cons rfl (Args.nil _)) (Hp.start _ _) ?_
  refine GC.seq ?_
  refine GC.region ?_
  refine GL.val (v := (.int .u32 0)) (Ex.assign rfl) (by decide) ?_
  refine GL.nil ?_
  refine GE.thenN ?_
  refine GC.seq ?_
  refine GC.seq ?_
  refine GC.region ?_
  refine GL.val (v := (.int .u32 a)) (Ex.move rfl) (by decide) ?_
  refine GL.step (Stp.callR (σ := Unit) (p := fun rz => True) (v := fun rz => (.bool (decide (Bt.cls a = 1)))) (N := fun rz => []) (vs := [(.int .u32 a)]) rfl rfl T.own17 (by decide) (fun wc hw => nan_p a wc (by first | assumption | omega | exact Bt.lst_bd (by assumption) (by assumption) | exact Bt.gst_bd (by assumption) (by assumption) | exact Bt.key_bd (by assumption) | exact Bt.unkey_bd (by assumption) | exact Bt.nxt_bd (by assumption) | exact Bt.lst_bd (Bt.gst_bd (by assumption) (by assumption)) (by assumption) | exact Bt.btw_bd (by assumption) (Bt.lst_bd (by assumption) (by assumption)) (Bt.gst_bd (by assumption) (by assumption))))) (fun xq1 hq2 => ?_)
  refine GL.nil ?_
  refine GE.thenN ?_
  refine GC.cond rfl (fun hq3 => ?_) (fun hq3 => ?_)
  · replace hq3 := of_decide_eq_true hq3
    refine GC.seq ?_
    refine GC.region ?_
    refine GL.val (v := (.int .u32 2143289344)) (Ex.assign rfl) (by decide) ?_
    refine GL.nil ?_
    refine GE.thenN ?_
    refine GC.ret ?_
    refine GE.thenR ?_
    refine GC.ret1 rfl (Rv.tmp rfl) (fun wN HN => ?_)
    exact HN.ret () trivial (by rw [show Bt.mde a = 2143289344 from by first | (exfalso; omega) | (unfold Bt.mde; (repeat (first | rw [if_pos (by omega)] | rw [if_neg (by omega)])); try omega)]) (List.nil_sublist _) rfl
  · replace hq3 := of_decide_eq_false hq3
    refine GC.skip ?_
    refine GE.thenN ?_
    refine GC.seq ?_
    refine GC.region ?_
    refine GL.val (v := (.int .u32 a)) (Ex.move rfl) (by decide) ?_
    refine GL.val (v := (.int .u32 a)) (Ex.assign rfl) (by decide) ?_
    refine GL.nil ?_
    refine GE.thenN ?_
    refine GC.ret ?_
    refine GC.ret1 rfl (Rv.tmp rfl) (fun wN HN => ?_)
    exact HN.ret () trivial (by rw [show Bt.mde a = a from by first | (exfalso; omega) | (unfold Bt.mde; (repeat (first | rw [if_pos (by omega)] | rw [if_neg (by omega)])); try omega)]) (List.nil_sublist _) rfl

set_option maxRecDepth 100000 in
set_option maxHeartbeats 1000000 in
theorem made_r (a : Int) (w : World) (ha : 0 ≤ a ∧ a < 4294967296) :
    Calls Try.prog 20 #[(.int .u32 a)] w (Ret w (fun _ : Unit => True) (fun _ => (.int .u32 (Bt.mde a))) (fun _ => [])) := by
  refine enter (M := None) (L := []) (n := 6) (l := [(0, (.int .u32 a))]) Try.func20 rfl rfl (Args.cons rfl (Args.nil _)) (Hp.start _ _) ?_
  refine GC.seq ?_
  refine GC.region ?_
  refine GL.val (v := (.int .u32 0)) (Ex.assign rfl) (by decide) ?_
  refine GL.nil ?_
  refine GE.thenN ?_
  refine GC.seq ?_
  refine GC.seq ?_
  refine GC.region ?_
  refine GL.val (v := (.int .u32 a)) (Ex.move rfl) (by decide) ?_
  refine GL.step (Stp.callR (σ := Unit) (p := fun rz => True) (v := fun rz => (.bool (decide (Bt.cls a = 1)))) (N := fun rz => []) (vs := [(.int .u32 a)]) rfl rfl T.own18 (by decide) (fun wc hw => nan_r a wc (by first | assumption | omega | exact Bt.lst_bd (by assumption) (by assumption) | exact Bt.gst_bd (by assumption) (by assumption) | exact Bt.key_bd (by assumption) | exact Bt.unkey_bd (by assumption) | exact Bt.nxt_bd (by assumption) | exact Bt.lst_bd (Bt.gst_bd (by assumption) (by assumption)) (by assumption) | exact Bt.btw_bd (by assumption) (Bt.lst_bd (by assumption) (by assumption)) (Bt.gst_bd (by assumption) (by assumption))))) (fun xq1 hq2 => ?_)
  refine GL.nil ?_
  refine GE.thenN ?_
  refine GC.cond rfl (fun hq3 => ?_) (fun hq3 => ?_)
  · replace hq3 := of_decide_eq_true hq3
    refine GC.seq ?_
    refine GC.region ?_
    refine GL.val (v := (.int .u32 2143289344)) (Ex.assign rfl) (by decide) ?_
    refine GL.nil ?_
    refine GE.thenN ?_
    refine GC.ret ?_
    refine GE.thenR ?_
    refine GC.ret1 rfl (Rv.tmp rfl) (fun wN HN => ?_)
    exact HN.ret () trivial (by rw [show Bt.mde a = 2143289344 from by first | (exfalso; omega) | (unfold Bt.mde; (repeat (first | rw [if_pos (by omega)] | rw [if_neg (by omega)])); try omega)]) (List.nil_sublist _) rfl
  · replace hq3 := of_decide_eq_false hq3
    refine GC.skip ?_
    refine GE.thenN ?_
    refine GC.seq ?_
    refine GC.region ?_
    refine GL.val (v := (.int .u32 a)) (Ex.move rfl) (by decide) ?_
    refine GL.val (v := (.int .u32 a)) (Ex.assign rfl) (by decide) ?_
    refine GL.nil ?_
    refine GE.thenN ?_
    refine GC.ret ?_
    refine GC.ret1 rfl (Rv.tmp rfl) (fun wN HN => ?_)
    exact HN.ret () trivial (by rw [show Bt.mde a = a from by first | (exfalso; omega) | (unfold Bt.mde; (repeat (first | rw [if_pos (by omega)] | rw [if_neg (by omega)])); try omega)]) (List.nil_sublist _) rfl

set_option maxRecDepth 100000 in
set_option maxHeartbeats 1000000 in
theorem parts_p (a : Int) (w : World) (ha : 0 ≤ a ∧ a < 4294967296) :
    Calls Try.prog 11 #[(.int .u32 a)] w (Ret w (fun _ : Unit => True) (fun _ => (.tuple #[(.int .i64 ((Bt.prts a).1)), (.int .i64 ((Bt.prts a).2.1)), (.bool ((Bt.prts a).2.2))])) (fun _ => [])) := by
  refine enter (M := None) (L := []) (n := 29) (l := [(0, (.int .u32 a))]) Try.func11 rfl rfl (Args.cons rfl (Args.nil _)) (Hp.start _ _) ?_
  refine GC.seq ?_
  refine GC.region ?_
  refine GL.val (v := (.int .i64 0)) (Ex.assign rfl) (by decide) ?_
  refine GL.val (v := (.int .i64 0)) (Ex.assign rfl) (by decide) ?_
  refine GL.val (v := (.bool false)) (Ex.assign rfl) (by decide) ?_
  refine GL.nil ?_
  refine GE.thenN ?_
  refine GC.seq ?_
  refine GC.region ?_
  refine GL.val (v := (.int .u32 a)) (Ex.move rfl) (by decide) ?_
  refine GL.step (Stp.callR (σ := Unit) (p := fun rz => True) (v := fun rz => (.agg #[(.bool (decide (2147483648 ≤ a))), (.int .i64 (a / 8388608 % 256)), (.int .i64 (a % 8388608))])) (N := fun rz => []) (vs := [(.int .u32 a)]) rfl rfl T.own43 (by decide) (fun wc hw => split a wc (by first | assumption | omega | exact Bt.lst_bd (by assumption) (by assumption) | exact Bt.gst_bd (by assumption) (by assumption) | exact Bt.key_bd (by assumption) | exact Bt.unkey_bd (by assumption) | exact Bt.nxt_bd (by assumption) | exact Bt.lst_bd (Bt.gst_bd (by assumption) (by assumption)) (by assumption) | exact Bt.btw_bd (by assumption) (Bt.lst_bd (by assumption) (by assumption)) (Bt.gst_bd (by assumption) (by assumption))))) (fun xq1 hq2 => ?_)
  refine GL.step (Stp.alloc T.zr43 (by decide)) (fun bq3 _ => ?_)
  refine GL.step (Stp.storeL (i := 0) (L1 := [⟨bq3, [(.bool (decide (2147483648 ≤ a))), (.int .i64 (a / 8388608 % 256)), (.int .i64 (a % 8388608))], 43, true⟩]) rfl rfl rfl T.sz43 rfl rfl rfl rfl) (fun _ _ => ?_)
  refine GL.nil ?_
  refine GE.thenN ?_
  refine GC.seq ?_
  refine GC.region ?_
  refine GL.val (v := (.pointer (some ⟨bq3, 2, none⟩))) (Ex.cast (Ex.fieldAddr rfl Try.underlying43 rfl T.sz3 (by decide)) rfl) (by decide) ?_
  refine GL.val (v := (.int .i64 (a % 8388608))) (Ex.load rfl T.ag3 (i := 0) rfl rfl) (by decide) ?_
  refine GL.val (v := (.int .i64 (a % 8388608))) (Ex.assign rfl) (by decide) ?_
  refine GL.val (v := (.int .i64 (-149))) (Ex.assign rfl) (by decide) ?_
  refine GL.nil ?_
  refine GE.thenN ?_
  refine GC.seq ?_
  refine GC.seq ?_
  refine GC.region ?_
  refine GL.val (v := (.pointer (some ⟨bq3, 1, none⟩))) (Ex.cast (Ex.fieldAddr rfl Try.underlying43 rfl T.sz3 (by decide)) rfl) (by decide) ?_
  refine GL.val (v := (.int .i64 (a / 8388608 % 256))) (Ex.load rfl T.ag3 (i := 0) rfl rfl) (by decide) ?_
  refine GL.nil ?_
  refine GE.thenN ?_
  refine GC.block ?_
  refine GC.seq ?_
  refine GC.region ?_
  refine GL.val (v := (.bool (decide ((a / 8388608 % 256) = 255)))) (Ex.eql rfl rfl) (by decide) ?_
  refine GL.val (v := (.bool (decide ((a / 8388608 % 256) = 255)))) (Ex.assign rfl) (by decide) ?_
  refine GL.nil ?_
  refine GE.thenN ?_
  refine GC.cond rfl (fun hq4 => ?_) (fun hq4 => ?_)
  · replace hq4 := of_decide_eq_true hq4
    refine GC.seq ?_
    refine GC.region ?_
    refine GL.val (v := (.int .i64 0)) (Ex.assign rfl) (by decide) ?_
    refine GL.val (v := (.int .i64 0)) (Ex.assign rfl) (by decide) ?_
    refine GL.val (v := (.bool false)) (Ex.assign rfl) (by decide) ?_
    refine GL.nil ?_
    refine GE.thenN ?_
    refine GC.ret ?_
    refine GE.blockR ?_
    refine GE.thenR ?_
    refine GC.ret3 rfl (Rv.tmp rfl) (Rv.tmp rfl) (Rv.tmp rfl) (fun wN HN => ?_)
    exact HN.ret () trivial (by rw [show Bt.prts a = (0, 0, false) from by first | (exfalso; omega) | (unfold Bt.prts Bt.mant Bt.expo; (repeat (first | rw [if_pos (by omega)] | rw [if_neg (by omega)])); try exact Prod.ext (by dsimp only; try omega) (Prod.ext (by dsimp only; try omega) rfl))]) (List.nil_sublist _) rfl
  · replace hq4 := of_decide_eq_false hq4
    refine GC.seq ?_
    refine GC.region ?_
    refine GL.val (v := (.bool (decide ((a / 8388608 % 256) = 0)))) (Ex.eql rfl rfl) (by decide) ?_
    refine GL.val (v := (.bool (decide ((a / 8388608 % 256) = 0)))) (Ex.assign rfl) (by decide) ?_
    refine GL.nil ?_
    refine GE.thenN ?_
    refine GC.cond rfl (fun hq5 => ?_) (fun hq5 => ?_)
    · replace hq5 := of_decide_eq_true hq5
      refine GC.skip ?_
      refine GE.blockN ?_
      refine GE.thenN ?_
      refine GC.seq ?_
      refine GC.seq ?_
      refine GC.region ?_
      refine GL.val (v := (.pointer (some ⟨bq3, 0, none⟩))) (Ex.cast (Ex.fieldAddr rfl Try.underlying43 rfl T.sz4 (by decide)) rfl) (by decide) ?_
      refine GL.val (v := (.bool (decide (2147483648 ≤ a)))) (Ex.load rfl T.ag4 (i := 0) rfl rfl) (by decide) ?_
      refine GL.nil ?_
      refine GE.thenN ?_
      refine GC.cond rfl (fun hq6 => ?_) (fun hq6 => ?_)
      · replace hq6 := of_decide_eq_true hq6
        refine GC.region ?_
        refine GL.val (v := (.int .i64 (a % 8388608))) (Ex.move rfl) (by decide) ?_
        refine GL.val (v := (.int .i64 (-(a % 8388608)))) (Ex.neg rfl (Z := -(a % 8388608)) (by rw [w64 (by omega)]; omega)) (by decide) ?_
        refine GL.val (v := (.int .i64 (-(a % 8388608)))) (Ex.assign rfl) (by decide) ?_
        refine GL.nil ?_
        refine GE.thenN ?_
        refine GC.seq ?_
        refine GC.region ?_
        refine GL.val (v := (.int .i64 (-(a % 8388608)))) (Ex.move rfl) (by decide) ?_
        refine GL.val (v := (.int .i64 (-149))) (Ex.move rfl) (by decide) ?_
        refine GL.val (v := (.int .i64 (-(a % 8388608)))) (Ex.assign rfl) (by decide) ?_
        refine GL.val (v := (.int .i64 (-149))) (Ex.assign rfl) (by decide) ?_
        refine GL.val (v := (.bool true)) (Ex.assign rfl) (by decide) ?_
        refine GL.nil ?_
        refine GE.thenN ?_
        refine GC.ret ?_
        refine GC.ret3 rfl (Rv.tmp rfl) (Rv.tmp rfl) (Rv.tmp rfl) (fun wN HN => ?_)
        exact HN.ret () trivial (by rw [show Bt.prts a = (-(a % 8388608), -149, true) from by first | (exfalso; omega) | (unfold Bt.prts Bt.mant Bt.expo; (repeat (first | rw [if_pos (by omega)] | rw [if_neg (by omega)])); try exact Prod.ext (by dsimp only; try omega) (Prod.ext (by dsimp only; try omega) rfl))]) (List.nil_sublist _) rfl
      · replace hq6 := of_decide_eq_false hq6
        refine GC.skip ?_
        refine GE.thenN ?_
        refine GC.seq ?_
        refine GC.region ?_
        refine GL.val (v := (.int .i64 (a % 8388608))) (Ex.move rfl) (by decide) ?_
        refine GL.val (v := (.int .i64 (-149))) (Ex.move rfl) (by decide) ?_
        refine GL.val (v := (.int .i64 (a % 8388608))) (Ex.assign rfl) (by decide) ?_
        refine GL.val (v := (.int .i64 (-149))) (Ex.assign rfl) (by decide) ?_
        refine GL.val (v := (.bool true)) (Ex.assign rfl) (by decide) ?_
        refine GL.nil ?_
        refine GE.thenN ?_
        refine GC.ret ?_
        refine GC.ret3 rfl (Rv.tmp rfl) (Rv.tmp rfl) (Rv.tmp rfl) (fun wN HN => ?_)
        exact HN.ret () trivial (by rw [show Bt.prts a = (a % 8388608, -149, true) from by first | (exfalso; omega) | (unfold Bt.prts Bt.mant Bt.expo; (repeat (first | rw [if_pos (by omega)] | rw [if_neg (by omega)])); try exact Prod.ext (by dsimp only; try omega) (Prod.ext (by dsimp only; try omega) rfl))]) (List.nil_sublist _) rfl
    · replace hq5 := of_decide_eq_false hq5
      refine GC.drawP [⟨bq3, [(.bool (decide (2147483648 ≤ a))), (.int .i64 (a / 8388608 % 256)), (.int .i64 (a % 8388608))], 43, true⟩] T.mixed (by kernel_rfl) (by kernel_rfl) (fuel := 6) rfl rfl ?_
      refine GH.take 0 (v := (.int .i64 (a % 8388608))) rfl (by kernel_rfl) (by kernel_rfl) (by kernel_rfl) (fun _ _ _ h => h) (Ex.move rfl) (List.Sublist.cons_cons _ (List.nil_sublist _)) (by decide) ?_
      refine GH.take 1 (v := (.int .i64 ((a % 8388608) + 8388608))) rfl (by kernel_rfl) (by kernel_rfl) (by kernel_rfl) (fun _ _ _ h => h) (Ex.add rfl rfl (Z := (a % 8388608) + 8388608) (w64 (by omega))) (List.Sublist.cons_cons _ (List.nil_sublist _)) (by decide) ?_
      refine GH.take 2 (v := (.pointer (some ⟨bq3, 1, none⟩))) rfl (by kernel_rfl) (by kernel_rfl) (by kernel_rfl) (fun _ _ _ h => h) (Ex.cast (Ex.fieldAddr rfl Try.underlying43 rfl T.sz3 (by decide)) rfl) (List.Sublist.cons_cons _ (List.nil_sublist _)) (by decide) ?_
      refine GH.take 3 (v := (.int .i64 (a / 8388608 % 256))) rfl (by kernel_rfl) (by kernel_rfl) (by kernel_rfl) (fun _ _ _ h => h) (Ex.load rfl T.ag3 (i := 0) rfl rfl) (List.Sublist.cons_cons _ (List.nil_sublist _)) (by decide) ?_
      refine GH.take 4 (v := (.int .i64 ((a / 8388608 % 256) - 150))) rfl (by kernel_rfl) (by kernel_rfl) (by kernel_rfl) (fun _ _ _ h => h) (Ex.sub' rfl rfl (Z := (a / 8388608 % 256) - 150) (w64 (by omega))) (List.Sublist.cons_cons _ (List.nil_sublist _)) (by decide) ?_
      refine GH.take 5 (v := (.int .i64 ((a % 8388608) + 8388608))) rfl (by kernel_rfl) (by kernel_rfl) (by kernel_rfl) (fun _ _ _ h => h) (Ex.assign rfl) (List.Sublist.cons_cons _ (List.nil_sublist _)) (by decide) ?_
      refine GH.done (by kernel_rfl) ?_
      refine GE.thenN ?_
      refine GE.tail rfl (Ex.wp (v := (.int .i64 ((a / 8388608 % 256) - 150))) (Ex.assign rfl) (by decide)) (fun _ _ => ?_)
      refine GE.blockN ?_
      refine GE.thenN ?_
      refine GC.seq ?_
      refine GC.seq ?_
      refine GC.region ?_
      refine GL.val (v := (.pointer (some ⟨bq3, 0, none⟩))) (Ex.cast (Ex.fieldAddr rfl Try.underlying43 rfl T.sz4 (by decide)) rfl) (by decide) ?_
      refine GL.val (v := (.bool (decide (2147483648 ≤ a)))) (Ex.load rfl T.ag4 (i := 0) rfl rfl) (by decide) ?_
      refine GL.nil ?_
      refine GE.thenN ?_
      refine GC.cond rfl (fun hq7 => ?_) (fun hq7 => ?_)
      · replace hq7 := of_decide_eq_true hq7
        refine GC.region ?_
        refine GL.val (v := (.int .i64 ((a % 8388608) + 8388608))) (Ex.move rfl) (by decide) ?_
        refine GL.val (v := (.int .i64 (-((a % 8388608) + 8388608)))) (Ex.neg rfl (Z := -((a % 8388608) + 8388608)) (by rw [w64 (by omega)]; omega)) (by decide) ?_
        refine GL.val (v := (.int .i64 (-((a % 8388608) + 8388608)))) (Ex.assign rfl) (by decide) ?_
        refine GL.nil ?_
        refine GE.thenN ?_
        refine GC.seq ?_
        refine GC.region ?_
        refine GL.val (v := (.int .i64 (-((a % 8388608) + 8388608)))) (Ex.move rfl) (by decide) ?_
        refine GL.val (v := (.int .i64 ((a / 8388608 % 256) - 150))) (Ex.move rfl) (by decide) ?_
        refine GL.val (v := (.int .i64 (-((a % 8388608) + 8388608)))) (Ex.assign rfl) (by decide) ?_
        refine GL.val (v := (.int .i64 ((a / 8388608 % 256) - 150))) (Ex.assign rfl) (by decide) ?_
        refine GL.val (v := (.bool true)) (Ex.assign rfl) (by decide) ?_
        refine GL.nil ?_
        refine GE.thenN ?_
        refine GC.ret ?_
        refine GC.ret3 rfl (Rv.tmp rfl) (Rv.tmp rfl) (Rv.tmp rfl) (fun wN HN => ?_)
        exact HN.ret () trivial (by rw [show Bt.prts a = (-((a % 8388608) + 8388608), (a / 8388608 % 256) - 150, true) from by first | (exfalso; omega) | (unfold Bt.prts Bt.mant Bt.expo; (repeat (first | rw [if_pos (by omega)] | rw [if_neg (by omega)])); try exact Prod.ext (by dsimp only; try omega) (Prod.ext (by dsimp only; try omega) rfl))]) (List.nil_sublist _) rfl
      · replace hq7 := of_decide_eq_false hq7
        refine GC.skip ?_
        refine GE.thenN ?_
        refine GC.seq ?_
        refine GC.region ?_
        refine GL.val (v := (.int .i64 ((a % 8388608) + 8388608))) (Ex.move rfl) (by decide) ?_
        refine GL.val (v := (.int .i64 ((a / 8388608 % 256) - 150))) (Ex.move rfl) (by decide) ?_
        refine GL.val (v := (.int .i64 ((a % 8388608) + 8388608))) (Ex.assign rfl) (by decide) ?_
        refine GL.val (v := (.int .i64 ((a / 8388608 % 256) - 150))) (Ex.assign rfl) (by decide) ?_
        refine GL.val (v := (.bool true)) (Ex.assign rfl) (by decide) ?_
        refine GL.nil ?_
        refine GE.thenN ?_
        refine GC.ret ?_
        refine GC.ret3 rfl (Rv.tmp rfl) (Rv.tmp rfl) (Rv.tmp rfl) (fun wN HN => ?_)
        exact HN.ret () trivial (by rw [show Bt.prts a = ((a % 8388608) + 8388608, (a / 8388608 % 256) - 150, true) from by first | (exfalso; omega) | (unfold Bt.prts Bt.mant Bt.expo; (repeat (first | rw [if_pos (by omega)] | rw [if_neg (by omega)])); try exact Prod.ext (by dsimp only; try omega) (Prod.ext (by dsimp only; try omega) rfl))]) (List.nil_sublist _) rfl

set_option maxRecDepth 100000 in
set_option maxHeartbeats 1000000 in
theorem parts_r (a : Int) (w : World) (ha : 0 ≤ a ∧ a < 4294967296) :
    Calls Try.prog 12 #[(.int .u32 a)] w (Ret w (fun _ : Unit => True) (fun _ => (.tuple #[(.int .i64 ((Bt.prts a).1)), (.int .i64 ((Bt.prts a).2.1)), (.bool ((Bt.prts a).2.2))])) (fun _ => [])) := by
  refine enter (M := None) (L := []) (n := 27) (l := [(0, (.int .u32 a))]) Try.func12 rfl rfl (Args.cons rfl (Args.nil _)) (Hp.start _ _) ?_
  refine GC.seq ?_
  refine GC.region ?_
  refine GL.val (v := (.int .i64 0)) (Ex.assign rfl) (by decide) ?_
  refine GL.val (v := (.int .i64 0)) (Ex.assign rfl) (by decide) ?_
  refine GL.val (v := (.bool false)) (Ex.assign rfl) (by decide) ?_
  refine GL.nil ?_
  refine GE.thenN ?_
  refine GC.seq ?_
  refine GC.region ?_
  refine GL.val (v := (.int .u32 a)) (Ex.move rfl) (by decide) ?_
  refine GL.step (Stp.callR (σ := Unit) (p := fun rz => True) (v := fun rz => (.tuple #[(.int .i64 (a / 2147483648)), (.int .i64 (a / 8388608 % 256)), (.int .i64 (a % 8388608))])) (N := fun rz => []) (vs := [(.int .u32 a)]) rfl rfl T.own44 (by decide) (fun wc hw => fields a wc (by first | assumption | omega | exact Bt.lst_bd (by assumption) (by assumption) | exact Bt.gst_bd (by assumption) (by assumption) | exact Bt.key_bd (by assumption) | exact Bt.unkey_bd (by assumption) | exact Bt.nxt_bd (by assumption) | exact Bt.lst_bd (Bt.gst_bd (by assumption) (by assumption)) (by assumption) | exact Bt.btw_bd (by assumption) (Bt.lst_bd (by assumption) (by assumption)) (Bt.gst_bd (by assumption) (by assumption))))) (fun xq1 hq2 => ?_)
  refine GL.val (v := (.tuple #[(.int .i64 (a / 2147483648)), (.int .i64 (a / 8388608 % 256)), (.int .i64 (a % 8388608))])) (Ex.move rfl) (by decide) ?_
  refine GL.val (v := (.int .i64 (a / 2147483648))) (Ex.extract rfl rfl) (by decide) ?_
  refine GL.val (v := (.int .i64 (a / 8388608 % 256))) (Ex.extract rfl rfl) (by decide) ?_
  refine GL.val (v := (.int .i64 (a % 8388608))) (Ex.extract rfl rfl) (by decide) ?_
  refine GL.val (v := (.int .i64 (a / 2147483648))) (Ex.assign rfl) (by decide) ?_
  refine GL.val (v := (.int .i64 (a / 8388608 % 256))) (Ex.assign rfl) (by decide) ?_
  refine GL.val (v := (.int .i64 (a % 8388608))) (Ex.assign rfl) (by decide) ?_
  refine GL.nil ?_
  refine GE.thenN ?_
  refine GC.seq ?_
  refine GC.seq ?_
  refine GC.region ?_
  refine GL.val (v := (.int .i64 (a / 8388608 % 256))) (Ex.move rfl) (by decide) ?_
  refine GL.val (v := (.bool (decide ((a / 8388608 % 256) = 255)))) (Ex.eql rfl rfl) (by decide) ?_
  refine GL.nil ?_
  refine GE.thenN ?_
  refine GC.cond rfl (fun hq3 => ?_) (fun hq3 => ?_)
  · replace hq3 := of_decide_eq_true hq3
    refine GC.seq ?_
    refine GC.region ?_
    refine GL.val (v := (.int .i64 0)) (Ex.assign rfl) (by decide) ?_
    refine GL.val (v := (.int .i64 0)) (Ex.assign rfl) (by decide) ?_
    refine GL.val (v := (.bool false)) (Ex.assign rfl) (by decide) ?_
    refine GL.nil ?_
    refine GE.thenN ?_
    refine GC.ret ?_
    refine GE.thenR ?_
    refine GC.ret3 rfl (Rv.tmp rfl) (Rv.tmp rfl) (Rv.tmp rfl) (fun wN HN => ?_)
    exact HN.ret () trivial (by rw [show Bt.prts a = (0, 0, false) from by first | (exfalso; omega) | (unfold Bt.prts Bt.mant Bt.expo; (repeat (first | rw [if_pos (by omega)] | rw [if_neg (by omega)])); try exact Prod.ext (by dsimp only; try omega) (Prod.ext (by dsimp only; try omega) rfl))]) (List.nil_sublist _) rfl
  · replace hq3 := of_decide_eq_false hq3
    refine GC.skip ?_
    refine GE.thenN ?_
    refine GC.seq ?_
    refine GC.seq ?_
    refine GC.region ?_
    refine GL.val (v := (.int .i64 (a / 8388608 % 256))) (Ex.move rfl) (by decide) ?_
    refine GL.val (v := (.bool (decide ((a / 8388608 % 256) = 0)))) (Ex.eql rfl rfl) (by decide) ?_
    refine GL.nil ?_
    refine GE.thenN ?_
    refine GC.cond rfl (fun hq4 => ?_) (fun hq4 => ?_)
    · replace hq4 := of_decide_eq_true hq4
      refine GC.region ?_
      refine GL.val (v := (.int .i64 1)) (Ex.assign rfl) (by decide) ?_
      refine GL.nil ?_
      refine GE.thenN ?_
      refine GC.seq ?_
      refine GC.seq ?_
      refine GC.region ?_
      refine GL.val (v := (.int .i64 (a / 2147483648))) (Ex.move rfl) (by decide) ?_
      refine GL.val (v := (.bool (decide ((a / 2147483648) = 1)))) (Ex.eql rfl rfl) (by decide) ?_
      refine GL.nil ?_
      refine GE.thenN ?_
      refine GC.cond rfl (fun hq5 => ?_) (fun hq5 => ?_)
      · replace hq5 := of_decide_eq_true hq5
        refine GC.region ?_
        refine GL.val (v := (.int .i64 (a % 8388608))) (Ex.move rfl) (by decide) ?_
        refine GL.val (v := (.int .i64 (-(a % 8388608)))) (Ex.neg rfl (Z := -(a % 8388608)) (by rw [w64 (by omega)]; omega)) (by decide) ?_
        refine GL.val (v := (.int .i64 (-(a % 8388608)))) (Ex.assign rfl) (by decide) ?_
        refine GL.nil ?_
        refine GE.thenN ?_
        refine GC.seq ?_
        refine GC.region ?_
        refine GL.val (v := (.int .i64 (-(a % 8388608)))) (Ex.move rfl) (by decide) ?_
        refine GL.val (v := (.int .i64 1)) (Ex.move rfl) (by decide) ?_
        refine GL.val (v := (.int .i64 (-149))) (Ex.sub' rfl rfl (Z := -149) (by decide)) (by decide) ?_
        refine GL.val (v := (.int .i64 (-(a % 8388608)))) (Ex.assign rfl) (by decide) ?_
        refine GL.val (v := (.int .i64 (-149))) (Ex.assign rfl) (by decide) ?_
        refine GL.val (v := (.bool true)) (Ex.assign rfl) (by decide) ?_
        refine GL.nil ?_
        refine GE.thenN ?_
        refine GC.ret ?_
        refine GC.ret3 rfl (Rv.tmp rfl) (Rv.tmp rfl) (Rv.tmp rfl) (fun wN HN => ?_)
        exact HN.ret () trivial (by rw [show Bt.prts a = (-(a % 8388608), -149, true) from by first | (exfalso; omega) | (unfold Bt.prts Bt.mant Bt.expo; (repeat (first | rw [if_pos (by omega)] | rw [if_neg (by omega)])); try exact Prod.ext (by dsimp only; try omega) (Prod.ext (by dsimp only; try omega) rfl))]) (List.nil_sublist _) rfl
      · replace hq5 := of_decide_eq_false hq5
        refine GC.skip ?_
        refine GE.thenN ?_
        refine GC.seq ?_
        refine GC.region ?_
        refine GL.val (v := (.int .i64 (a % 8388608))) (Ex.move rfl) (by decide) ?_
        refine GL.val (v := (.int .i64 1)) (Ex.move rfl) (by decide) ?_
        refine GL.val (v := (.int .i64 (-149))) (Ex.sub' rfl rfl (Z := -149) (by decide)) (by decide) ?_
        refine GL.val (v := (.int .i64 (a % 8388608))) (Ex.assign rfl) (by decide) ?_
        refine GL.val (v := (.int .i64 (-149))) (Ex.assign rfl) (by decide) ?_
        refine GL.val (v := (.bool true)) (Ex.assign rfl) (by decide) ?_
        refine GL.nil ?_
        refine GE.thenN ?_
        refine GC.ret ?_
        refine GC.ret3 rfl (Rv.tmp rfl) (Rv.tmp rfl) (Rv.tmp rfl) (fun wN HN => ?_)
        exact HN.ret () trivial (by rw [show Bt.prts a = (a % 8388608, -149, true) from by first | (exfalso; omega) | (unfold Bt.prts Bt.mant Bt.expo; (repeat (first | rw [if_pos (by omega)] | rw [if_neg (by omega)])); try exact Prod.ext (by dsimp only; try omega) (Prod.ext (by dsimp only; try omega) rfl))]) (List.nil_sublist _) rfl
    · replace hq4 := of_decide_eq_false hq4
      refine GC.region ?_
      refine GL.val (v := (.int .i64 (a % 8388608))) (Ex.move rfl) (by decide) ?_
      refine GL.val (v := (.int .i64 ((a % 8388608) + 8388608))) (Ex.add rfl rfl (Z := (a % 8388608) + 8388608) (w64 (by omega))) (by decide) ?_
      refine GL.val (v := (.int .i64 ((a % 8388608) + 8388608))) (Ex.assign rfl) (by decide) ?_
      refine GL.nil ?_
      refine GE.thenN ?_
      refine GC.seq ?_
      refine GC.seq ?_
      refine GC.region ?_
      refine GL.val (v := (.int .i64 (a / 2147483648))) (Ex.move rfl) (by decide) ?_
      refine GL.val (v := (.bool (decide ((a / 2147483648) = 1)))) (Ex.eql rfl rfl) (by decide) ?_
      refine GL.nil ?_
      refine GE.thenN ?_
      refine GC.cond rfl (fun hq6 => ?_) (fun hq6 => ?_)
      · replace hq6 := of_decide_eq_true hq6
        refine GC.region ?_
        refine GL.val (v := (.int .i64 ((a % 8388608) + 8388608))) (Ex.move rfl) (by decide) ?_
        refine GL.val (v := (.int .i64 (-((a % 8388608) + 8388608)))) (Ex.neg rfl (Z := -((a % 8388608) + 8388608)) (by rw [w64 (by omega)]; omega)) (by decide) ?_
        refine GL.val (v := (.int .i64 (-((a % 8388608) + 8388608)))) (Ex.assign rfl) (by decide) ?_
        refine GL.nil ?_
        refine GE.thenN ?_
        refine GC.seq ?_
        refine GC.region ?_
        refine GL.val (v := (.int .i64 (-((a % 8388608) + 8388608)))) (Ex.move rfl) (by decide) ?_
        refine GL.val (v := (.int .i64 (a / 8388608 % 256))) (Ex.move rfl) (by decide) ?_
        refine GL.val (v := (.int .i64 ((a / 8388608 % 256) - 150))) (Ex.sub' rfl rfl (Z := (a / 8388608 % 256) - 150) (w64 (by omega))) (by decide) ?_
        refine GL.val (v := (.int .i64 (-((a % 8388608) + 8388608)))) (Ex.assign rfl) (by decide) ?_
        refine GL.val (v := (.int .i64 ((a / 8388608 % 256) - 150))) (Ex.assign rfl) (by decide) ?_
        refine GL.val (v := (.bool true)) (Ex.assign rfl) (by decide) ?_
        refine GL.nil ?_
        refine GE.thenN ?_
        refine GC.ret ?_
        refine GC.ret3 rfl (Rv.tmp rfl) (Rv.tmp rfl) (Rv.tmp rfl) (fun wN HN => ?_)
        exact HN.ret () trivial (by rw [show Bt.prts a = (-((a % 8388608) + 8388608), (a / 8388608 % 256) - 150, true) from by first | (exfalso; omega) | (unfold Bt.prts Bt.mant Bt.expo; (repeat (first | rw [if_pos (by omega)] | rw [if_neg (by omega)])); try exact Prod.ext (by dsimp only; try omega) (Prod.ext (by dsimp only; try omega) rfl))]) (List.nil_sublist _) rfl
      · replace hq6 := of_decide_eq_false hq6
        refine GC.skip ?_
        refine GE.thenN ?_
        refine GC.seq ?_
        refine GC.region ?_
        refine GL.val (v := (.int .i64 ((a % 8388608) + 8388608))) (Ex.move rfl) (by decide) ?_
        refine GL.val (v := (.int .i64 (a / 8388608 % 256))) (Ex.move rfl) (by decide) ?_
        refine GL.val (v := (.int .i64 ((a / 8388608 % 256) - 150))) (Ex.sub' rfl rfl (Z := (a / 8388608 % 256) - 150) (w64 (by omega))) (by decide) ?_
        refine GL.val (v := (.int .i64 ((a % 8388608) + 8388608))) (Ex.assign rfl) (by decide) ?_
        refine GL.val (v := (.int .i64 ((a / 8388608 % 256) - 150))) (Ex.assign rfl) (by decide) ?_
        refine GL.val (v := (.bool true)) (Ex.assign rfl) (by decide) ?_
        refine GL.nil ?_
        refine GE.thenN ?_
        refine GC.ret ?_
        refine GC.ret3 rfl (Rv.tmp rfl) (Rv.tmp rfl) (Rv.tmp rfl) (fun wN HN => ?_)
        exact HN.ret () trivial (by rw [show Bt.prts a = ((a % 8388608) + 8388608, (a / 8388608 % 256) - 150, true) from by first | (exfalso; omega) | (unfold Bt.prts Bt.mant Bt.expo; (repeat (first | rw [if_pos (by omega)] | rw [if_neg (by omega)])); try exact Prod.ext (by dsimp only; try omega) (Prod.ext (by dsimp only; try omega) rfl))]) (List.nil_sublist _) rfl

set_option maxRecDepth 100000 in
set_option maxHeartbeats 1000000 in
theorem key_p (a : Int) (w : World) (ha : 0 ≤ a ∧ a < 4294967296) :
    Calls Try.prog 25 #[(.int .u32 a)] w (Ret w (fun _ : Unit => True) (fun _ => (.int .u32 (Bt.key a))) (fun _ => [])) := by
  refine enter (M := None) (L := []) (n := 9) (l := [(0, (.int .u32 a))]) Try.func25 rfl rfl (Args.cons rfl (Args.nil _)) (Hp.start _ _) ?_
  refine GC.seq ?_
  refine GC.region ?_
  refine GL.val (v := (.int .u32 0)) (Ex.assign rfl) (by decide) ?_
  refine GL.nil ?_
  refine GE.thenN ?_
  refine GC.seq ?_
  refine GC.seq ?_
  refine GC.region ?_
  refine GL.val (v := (.int .u32 a)) (Ex.move rfl) (by decide) ?_
  refine GL.val (v := (.bool (decide (a < 2147483648)))) (Ex.lss rfl rfl) (by decide) ?_
  refine GL.nil ?_
  refine GE.thenN ?_
  refine GC.cond rfl (fun hq1 => ?_) (fun hq1 => ?_)
  · replace hq1 := of_decide_eq_true hq1
    refine GC.seq ?_
    refine GC.region ?_
    refine GL.val (v := (.int .u32 a)) (Ex.move rfl) (by decide) ?_
    refine GL.val (v := (.int .u32 (a + 2147483648))) (Ex.add rfl rfl (Z := a + 2147483648) (wu32b (by omega))) (by decide) ?_
    refine GL.val (v := (.int .u32 (a + 2147483648))) (Ex.assign rfl) (by decide) ?_
    refine GL.nil ?_
    refine GE.thenN ?_
    refine GC.ret ?_
    refine GE.thenR ?_
    refine GC.ret1 rfl (Rv.tmp rfl) (fun wN HN => ?_)
    exact HN.ret () trivial (by rw [show Bt.key a = a + 2147483648 from by first | (exfalso; omega) | (unfold Bt.key; (repeat (first | rw [if_pos (by omega)] | rw [if_neg (by omega)])); try omega)]) (List.nil_sublist _) rfl
  · replace hq1 := of_decide_eq_false hq1
    refine GC.skip ?_
    refine GE.thenN ?_
    refine GC.seq ?_
    refine GC.region ?_
    refine GL.val (v := (.int .u32 a)) (Ex.move rfl) (by decide) ?_
    refine GL.val (v := (.int .u32 (4294967295 - a))) (Ex.sub' rfl rfl (Z := 4294967295 - a) (wu32b (by omega))) (by decide) ?_
    refine GL.val (v := (.int .u32 (4294967295 - a))) (Ex.assign rfl) (by decide) ?_
    refine GL.nil ?_
    refine GE.thenN ?_
    refine GC.ret ?_
    refine GC.ret1 rfl (Rv.tmp rfl) (fun wN HN => ?_)
    exact HN.ret () trivial (by rw [show Bt.key a = 4294967295 - a from by first | (exfalso; omega) | (unfold Bt.key; (repeat (first | rw [if_pos (by omega)] | rw [if_neg (by omega)])); try omega)]) (List.nil_sublist _) rfl

set_option maxRecDepth 100000 in
set_option maxHeartbeats 1000000 in
theorem key_r (a : Int) (w : World) (ha : 0 ≤ a ∧ a < 4294967296) :
    Calls Try.prog 26 #[(.int .u32 a)] w (Ret w (fun _ : Unit => True) (fun _ => (.int .u32 (Bt.key a))) (fun _ => [])) := by
  refine enter (M := None) (L := []) (n := 14) (l := [(0, (.int .u32 a))]) Try.func26 rfl rfl (Args.cons rfl (Args.nil _)) (Hp.start _ _) ?_
  refine GC.seq ?_
  refine GC.region ?_
  refine GL.val (v := (.int .u32 0)) (Ex.assign rfl) (by decide) ?_
  refine GL.nil ?_
  refine GE.thenN ?_
  refine GC.seq ?_
  refine GC.region ?_
  refine GL.val (v := (.int .u32 a)) (Ex.move rfl) (by decide) ?_
  refine GL.val (v := (.int .i64 a)) (Ex.conv rfl Try.underlying23 Try.underlying3 (Z := a) (w64 (by omega))) (by decide) ?_
  refine GL.val (v := (.int .i64 a)) (Ex.assign rfl) (by decide) ?_
  refine GL.nil ?_
  refine GE.thenN ?_
  refine GC.seq ?_
  refine GC.seq ?_
  refine GC.region ?_
  refine GL.val (v := (.int .i64 a)) (Ex.move rfl) (by decide) ?_
  refine GL.val (v := (.bool (decide (a < 2147483648)))) (Ex.lss rfl rfl) (by decide) ?_
  refine GL.nil ?_
  refine GE.thenN ?_
  refine GC.cond rfl (fun hq1 => ?_) (fun hq1 => ?_)
  · replace hq1 := of_decide_eq_true hq1
    refine GC.seq ?_
    refine GC.region ?_
    refine GL.val (v := (.int .i64 a)) (Ex.move rfl) (by decide) ?_
    refine GL.val (v := (.int .i64 (a + 2147483648))) (Ex.add rfl rfl (Z := a + 2147483648) (w64 (by omega))) (by decide) ?_
    refine GL.val (v := (.int .u32 (a + 2147483648))) (Ex.conv rfl Try.underlying3 Try.underlying23 (Z := a + 2147483648) (wu32b (by omega))) (by decide) ?_
    refine GL.val (v := (.int .u32 (a + 2147483648))) (Ex.assign rfl) (by decide) ?_
    refine GL.nil ?_
    refine GE.thenN ?_
    refine GC.ret ?_
    refine GE.thenR ?_
    refine GC.ret1 rfl (Rv.tmp rfl) (fun wN HN => ?_)
    exact HN.ret () trivial (by rw [show Bt.key a = a + 2147483648 from by first | (exfalso; omega) | (unfold Bt.key; (repeat (first | rw [if_pos (by omega)] | rw [if_neg (by omega)])); try omega)]) (List.nil_sublist _) rfl
  · replace hq1 := of_decide_eq_false hq1
    refine GC.skip ?_
    refine GE.thenN ?_
    refine GC.seq ?_
    refine GC.region ?_
    refine GL.val (v := (.int .i64 a)) (Ex.move rfl) (by decide) ?_
    refine GL.val (v := (.int .i64 (4294967295 - a))) (Ex.sub' rfl rfl (Z := 4294967295 - a) (w64 (by omega))) (by decide) ?_
    refine GL.val (v := (.int .u32 (4294967295 - a))) (Ex.conv rfl Try.underlying3 Try.underlying23 (Z := 4294967295 - a) (wu32b (by omega))) (by decide) ?_
    refine GL.val (v := (.int .u32 (4294967295 - a))) (Ex.assign rfl) (by decide) ?_
    refine GL.nil ?_
    refine GE.thenN ?_
    refine GC.ret ?_
    refine GC.ret1 rfl (Rv.tmp rfl) (fun wN HN => ?_)
    exact HN.ret () trivial (by rw [show Bt.key a = 4294967295 - a from by first | (exfalso; omega) | (unfold Bt.key; (repeat (first | rw [if_pos (by omega)] | rw [if_neg (by omega)])); try omega)]) (List.nil_sublist _) rfl

set_option maxRecDepth 100000 in
set_option maxHeartbeats 1000000 in
theorem unkey_p (a : Int) (w : World) (ha : 0 ≤ a ∧ a < 4294967296) :
    Calls Try.prog 27 #[(.int .u32 a)] w (Ret w (fun _ : Unit => True) (fun _ => (.int .u32 (Bt.unkey a))) (fun _ => [])) := by
  refine enter (M := None) (L := []) (n := 9) (l := [(0, (.int .u32 a))]) Try.func27 rfl rfl (Args.cons rfl (Args.nil _)) (Hp.start _ _) ?_
  refine GC.seq ?_
  refine GC.region ?_
  refine GL.val (v := (.int .u32 0)) (Ex.assign rfl) (by decide) ?_
  refine GL.nil ?_
  refine GE.thenN ?_
  refine GC.seq ?_
  refine GC.seq ?_
  refine GC.region ?_
  refine GL.val (v := (.int .u32 a)) (Ex.move rfl) (by decide) ?_
  refine GL.val (v := (.bool (decide (2147483648 ≤ a)))) (Ex.geq rfl rfl) (by decide) ?_
  refine GL.nil ?_
  refine GE.thenN ?_
  refine GC.cond rfl (fun hq1 => ?_) (fun hq1 => ?_)
  · replace hq1 := of_decide_eq_true hq1
    refine GC.seq ?_
    refine GC.region ?_
    refine GL.val (v := (.int .u32 a)) (Ex.move rfl) (by decide) ?_
    refine GL.val (v := (.int .u32 (a - 2147483648))) (Ex.sub' rfl rfl (Z := a - 2147483648) (wu32b (by omega))) (by decide) ?_
    refine GL.val (v := (.int .u32 (a - 2147483648))) (Ex.assign rfl) (by decide) ?_
    refine GL.nil ?_
    refine GE.thenN ?_
    refine GC.ret ?_
    refine GE.thenR ?_
    refine GC.ret1 rfl (Rv.tmp rfl) (fun wN HN => ?_)
    exact HN.ret () trivial (by rw [show Bt.unkey a = a - 2147483648 from by first | (exfalso; omega) | (unfold Bt.unkey; (repeat (first | rw [if_pos (by omega)] | rw [if_neg (by omega)])); try omega)]) (List.nil_sublist _) rfl
  · replace hq1 := of_decide_eq_false hq1
    refine GC.skip ?_
    refine GE.thenN ?_
    refine GC.seq ?_
    refine GC.region ?_
    refine GL.val (v := (.int .u32 a)) (Ex.move rfl) (by decide) ?_
    refine GL.val (v := (.int .u32 (4294967295 - a))) (Ex.sub' rfl rfl (Z := 4294967295 - a) (wu32b (by omega))) (by decide) ?_
    refine GL.val (v := (.int .u32 (4294967295 - a))) (Ex.assign rfl) (by decide) ?_
    refine GL.nil ?_
    refine GE.thenN ?_
    refine GC.ret ?_
    refine GC.ret1 rfl (Rv.tmp rfl) (fun wN HN => ?_)
    exact HN.ret () trivial (by rw [show Bt.unkey a = 4294967295 - a from by first | (exfalso; omega) | (unfold Bt.unkey; (repeat (first | rw [if_pos (by omega)] | rw [if_neg (by omega)])); try omega)]) (List.nil_sublist _) rfl

set_option maxRecDepth 100000 in
set_option maxHeartbeats 1000000 in
theorem unkey_r (a : Int) (w : World) (ha : 0 ≤ a ∧ a < 4294967296) :
    Calls Try.prog 28 #[(.int .u32 a)] w (Ret w (fun _ : Unit => True) (fun _ => (.int .u32 (Bt.unkey a))) (fun _ => [])) := by
  refine enter (M := None) (L := []) (n := 14) (l := [(0, (.int .u32 a))]) Try.func28 rfl rfl (Args.cons rfl (Args.nil _)) (Hp.start _ _) ?_
  refine GC.seq ?_
  refine GC.region ?_
  refine GL.val (v := (.int .u32 0)) (Ex.assign rfl) (by decide) ?_
  refine GL.nil ?_
  refine GE.thenN ?_
  refine GC.seq ?_
  refine GC.region ?_
  refine GL.val (v := (.int .u32 a)) (Ex.move rfl) (by decide) ?_
  refine GL.val (v := (.int .i64 a)) (Ex.conv rfl Try.underlying23 Try.underlying3 (Z := a) (w64 (by omega))) (by decide) ?_
  refine GL.val (v := (.int .i64 a)) (Ex.assign rfl) (by decide) ?_
  refine GL.nil ?_
  refine GE.thenN ?_
  refine GC.seq ?_
  refine GC.seq ?_
  refine GC.region ?_
  refine GL.val (v := (.int .i64 a)) (Ex.move rfl) (by decide) ?_
  refine GL.val (v := (.bool (decide (2147483648 ≤ a)))) (Ex.geq rfl rfl) (by decide) ?_
  refine GL.nil ?_
  refine GE.thenN ?_
  refine GC.cond rfl (fun hq1 => ?_) (fun hq1 => ?_)
  · replace hq1 := of_decide_eq_true hq1
    refine GC.seq ?_
    refine GC.region ?_
    refine GL.val (v := (.int .i64 a)) (Ex.move rfl) (by decide) ?_
    refine GL.val (v := (.int .i64 (a - 2147483648))) (Ex.sub' rfl rfl (Z := a - 2147483648) (w64 (by omega))) (by decide) ?_
    refine GL.val (v := (.int .u32 (a - 2147483648))) (Ex.conv rfl Try.underlying3 Try.underlying23 (Z := a - 2147483648) (wu32b (by omega))) (by decide) ?_
    refine GL.val (v := (.int .u32 (a - 2147483648))) (Ex.assign rfl) (by decide) ?_
    refine GL.nil ?_
    refine GE.thenN ?_
    refine GC.ret ?_
    refine GE.thenR ?_
    refine GC.ret1 rfl (Rv.tmp rfl) (fun wN HN => ?_)
    exact HN.ret () trivial (by rw [show Bt.unkey a = a - 2147483648 from by first | (exfalso; omega) | (unfold Bt.unkey; (repeat (first | rw [if_pos (by omega)] | rw [if_neg (by omega)])); try omega)]) (List.nil_sublist _) rfl
  · replace hq1 := of_decide_eq_false hq1
    refine GC.skip ?_
    refine GE.thenN ?_
    refine GC.seq ?_
    refine GC.region ?_
    refine GL.val (v := (.int .i64 a)) (Ex.move rfl) (by decide) ?_
    refine GL.val (v := (.int .i64 (4294967295 - a))) (Ex.sub' rfl rfl (Z := 4294967295 - a) (w64 (by omega))) (by decide) ?_
    refine GL.val (v := (.int .u32 (4294967295 - a))) (Ex.conv rfl Try.underlying3 Try.underlying23 (Z := 4294967295 - a) (wu32b (by omega))) (by decide) ?_
    refine GL.val (v := (.int .u32 (4294967295 - a))) (Ex.assign rfl) (by decide) ?_
    refine GL.nil ?_
    refine GE.thenN ?_
    refine GC.ret ?_
    refine GC.ret1 rfl (Rv.tmp rfl) (fun wN HN => ?_)
    exact HN.ret () trivial (by rw [show Bt.unkey a = 4294967295 - a from by first | (exfalso; omega) | (unfold Bt.unkey; (repeat (first | rw [if_pos (by omega)] | rw [if_neg (by omega)])); try omega)]) (List.nil_sublist _) rfl

set_option maxRecDepth 100000 in
set_option maxHeartbeats 1000000 in
theorem next_p (a : Int) (w : World) (ha : 0 ≤ a ∧ a < 4294967296) :
    Calls Try.prog 21 #[(.int .u32 a)] w (Ret w (fun _ : Unit => True) (fun _ => (.tuple #[(.int .u32 ((Bt.nxt a).1)), (.bool ((Bt.nxt a).2))])) (fun _ => [])) := by
  refine enter (M := None) (L := []) (n := 12) (l := [(0, (.int .u32 a))]) Try.func21 rfl rfl (Args.cons rfl (Args.nil _)) (Hp.start _ _) ?_
  refine GC.seq ?_
  have hka := Bt.key_bd ha
  refine GC.region ?_
  refine GL.val (v := (.int .u32 0)) (Ex.assign rfl) (by decide) ?_
  refine GL.val (v := (.bool false)) (Ex.assign rfl) (by decide) ?_
  refine GL.nil ?_
  refine GE.thenN ?_
  refine GC.seq ?_
  refine GC.region ?_
  refine GL.val (v := (.int .u32 a)) (Ex.move rfl) (by decide) ?_
  refine GL.step (Stp.callR (σ := Unit) (p := fun rz => True) (v := fun rz => (.int .u32 (Bt.key a))) (N := fun rz => []) (vs := [(.int .u32 a)]) rfl rfl T.own25 (by decide) (fun wc hw => key_p a wc (by first | assumption | omega | exact Bt.lst_bd (by assumption) (by assumption) | exact Bt.gst_bd (by assumption) (by assumption) | exact Bt.key_bd (by assumption) | exact Bt.unkey_bd (by assumption) | exact Bt.nxt_bd (by assumption) | exact Bt.lst_bd (Bt.gst_bd (by assumption) (by assumption)) (by assumption) | exact Bt.btw_bd (by assumption) (Bt.lst_bd (by assumption) (by assumption)) (Bt.gst_bd (by assumption) (by assumption))))) (fun xq1 hq2 => ?_)
  refine GL.val (v := (.int .u32 (Bt.key a))) (Ex.assign rfl) (by decide) ?_
  refine GL.nil ?_
  refine GE.thenN ?_
  refine GC.seq ?_
  refine GC.seq ?_
  refine GC.region ?_
  refine GL.val (v := (.int .u32 (Bt.key a))) (Ex.move rfl) (by decide) ?_
  refine GL.val (v := (.bool (decide ((Bt.key a) = 4294967295)))) (Ex.eql rfl rfl) (by decide) ?_
  refine GL.nil ?_
  refine GE.thenN ?_
  refine GC.cond rfl (fun hq3 => ?_) (fun hq3 => ?_)
  · replace hq3 := of_decide_eq_true hq3
    refine GC.seq ?_
    refine GC.region ?_
    refine GL.val (v := (.int .u32 0)) (Ex.assign rfl) (by decide) ?_
    refine GL.val (v := (.bool false)) (Ex.assign rfl) (by decide) ?_
    refine GL.nil ?_
    refine GE.thenN ?_
    refine GC.ret ?_
    refine GE.thenR ?_
    refine GC.ret2 rfl (Rv.tmp rfl) (Rv.tmp rfl) (fun wN HN => ?_)
    exact HN.ret () trivial (by rw [show Bt.nxt a = (0, false) from by first | (exfalso; omega) | (unfold Bt.nxt; (repeat (first | rw [if_pos (by omega)] | rw [if_neg (by omega)])))]) (List.nil_sublist _) rfl
  · replace hq3 := of_decide_eq_false hq3
    refine GC.skip ?_
    refine GE.thenN ?_
    refine GC.seq ?_
    refine GC.region ?_
    refine GL.val (v := (.int .u32 (Bt.key a))) (Ex.move rfl) (by decide) ?_
    refine GL.val (v := (.int .u32 ((Bt.key a) + 1))) (Ex.add rfl rfl (Z := (Bt.key a) + 1) (wu32b (by omega))) (by decide) ?_
    refine GL.step (Stp.callR (σ := Unit) (p := fun rz => True) (v := fun rz => (.int .u32 (Bt.unkey ((Bt.key a) + 1)))) (N := fun rz => []) (vs := [(.int .u32 ((Bt.key a) + 1))]) rfl rfl T.own27 (by decide) (fun wc hw => unkey_p ((Bt.key a) + 1) wc (by first | assumption | omega | exact Bt.lst_bd (by assumption) (by assumption) | exact Bt.gst_bd (by assumption) (by assumption) | exact Bt.key_bd (by assumption) | exact Bt.unkey_bd (by assumption) | exact Bt.nxt_bd (by assumption) | exact Bt.lst_bd (Bt.gst_bd (by assumption) (by assumption)) (by assumption) | exact Bt.btw_bd (by assumption) (Bt.lst_bd (by assumption) (by assumption)) (Bt.gst_bd (by assumption) (by assumption))))) (fun xq4 hq5 => ?_)
    refine GL.val (v := (.int .u32 (Bt.unkey ((Bt.key a) + 1)))) (Ex.assign rfl) (by decide) ?_
    refine GL.val (v := (.bool true)) (Ex.assign rfl) (by decide) ?_
    refine GL.nil ?_
    refine GE.thenN ?_
    refine GC.ret ?_
    refine GC.ret2 rfl (Rv.tmp rfl) (Rv.tmp rfl) (fun wN HN => ?_)
    exact HN.ret () trivial (by rw [show Bt.nxt a = (Bt.unkey ((Bt.key a) + 1), true) from by first | (exfalso; omega) | (unfold Bt.nxt; (repeat (first | rw [if_pos (by omega)] | rw [if_neg (by omega)])))]) (List.nil_sublist _) rfl

set_option maxRecDepth 100000 in
set_option maxHeartbeats 1000000 in
theorem next_r (a : Int) (w : World) (ha : 0 ≤ a ∧ a < 4294967296) :
    Calls Try.prog 22 #[(.int .u32 a)] w (Ret w (fun _ : Unit => True) (fun _ => (.tuple #[(.int .u32 ((Bt.nxt a).1)), (.bool ((Bt.nxt a).2))])) (fun _ => [])) := by
  refine enter (M := None) (L := []) (n := 14) (l := [(0, (.int .u32 a))]) Try.func22 rfl rfl (Args.cons rfl (Args.nil _)) (Hp.start _ _) ?_
  refine GC.seq ?_
  have hka := Bt.key_bd ha
  refine GC.region ?_
  refine GL.val (v := (.int .u32 0)) (Ex.assign rfl) (by decide) ?_
  refine GL.val (v := (.bool false)) (Ex.assign rfl) (by decide) ?_
  refine GL.nil ?_
  refine GE.thenN ?_
  refine GC.seq ?_
  refine GC.region ?_
  refine GL.val (v := (.int .u32 a)) (Ex.move rfl) (by decide) ?_
  refine GL.step (Stp.callR (σ := Unit) (p := fun rz => True) (v := fun rz => (.int .u32 (Bt.key a))) (N := fun rz => []) (vs := [(.int .u32 a)]) rfl rfl T.own26 (by decide) (fun wc hw => key_r a wc (by first | assumption | omega | exact Bt.lst_bd (by assumption) (by assumption) | exact Bt.gst_bd (by assumption) (by assumption) | exact Bt.key_bd (by assumption) | exact Bt.unkey_bd (by assumption) | exact Bt.nxt_bd (by assumption) | exact Bt.lst_bd (Bt.gst_bd (by assumption) (by assumption)) (by assumption) | exact Bt.btw_bd (by assumption) (Bt.lst_bd (by assumption) (by assumption)) (Bt.gst_bd (by assumption) (by assumption))))) (fun xq1 hq2 => ?_)
  refine GL.val (v := (.int .i64 (Bt.key a))) (Ex.conv rfl Try.underlying23 Try.underlying3 (Z := Bt.key a) (w64 (by omega))) (by decide) ?_
  refine GL.val (v := (.int .i64 (Bt.key a))) (Ex.assign rfl) (by decide) ?_
  refine GL.nil ?_
  refine GE.thenN ?_
  refine GC.seq ?_
  refine GC.seq ?_
  refine GC.region ?_
  refine GL.val (v := (.int .i64 (Bt.key a))) (Ex.move rfl) (by decide) ?_
  refine GL.val (v := (.bool (decide ((Bt.key a) = 4294967295)))) (Ex.eql rfl rfl) (by decide) ?_
  refine GL.nil ?_
  refine GE.thenN ?_
  refine GC.cond rfl (fun hq3 => ?_) (fun hq3 => ?_)
  · replace hq3 := of_decide_eq_true hq3
    refine GC.seq ?_
    refine GC.region ?_
    refine GL.val (v := (.int .u32 0)) (Ex.assign rfl) (by decide) ?_
    refine GL.val (v := (.bool false)) (Ex.assign rfl) (by decide) ?_
    refine GL.nil ?_
    refine GE.thenN ?_
    refine GC.ret ?_
    refine GE.thenR ?_
    refine GC.ret2 rfl (Rv.tmp rfl) (Rv.tmp rfl) (fun wN HN => ?_)
    exact HN.ret () trivial (by rw [show Bt.nxt a = (0, false) from by first | (exfalso; omega) | (unfold Bt.nxt; (repeat (first | rw [if_pos (by omega)] | rw [if_neg (by omega)])))]) (List.nil_sublist _) rfl
  · replace hq3 := of_decide_eq_false hq3
    refine GC.skip ?_
    refine GE.thenN ?_
    refine GC.seq ?_
    refine GC.region ?_
    refine GL.val (v := (.int .i64 (Bt.key a))) (Ex.move rfl) (by decide) ?_
    refine GL.val (v := (.int .i64 ((Bt.key a) + 1))) (Ex.add rfl rfl (Z := (Bt.key a) + 1) (w64 (by omega))) (by decide) ?_
    refine GL.val (v := (.int .u32 ((Bt.key a) + 1))) (Ex.conv rfl Try.underlying3 Try.underlying23 (Z := (Bt.key a) + 1) (wu32b (by omega))) (by decide) ?_
    refine GL.step (Stp.callR (σ := Unit) (p := fun rz => True) (v := fun rz => (.int .u32 (Bt.unkey ((Bt.key a) + 1)))) (N := fun rz => []) (vs := [(.int .u32 ((Bt.key a) + 1))]) rfl rfl T.own28 (by decide) (fun wc hw => unkey_r ((Bt.key a) + 1) wc (by first | assumption | omega | exact Bt.lst_bd (by assumption) (by assumption) | exact Bt.gst_bd (by assumption) (by assumption) | exact Bt.key_bd (by assumption) | exact Bt.unkey_bd (by assumption) | exact Bt.nxt_bd (by assumption) | exact Bt.lst_bd (Bt.gst_bd (by assumption) (by assumption)) (by assumption) | exact Bt.btw_bd (by assumption) (Bt.lst_bd (by assumption) (by assumption)) (Bt.gst_bd (by assumption) (by assumption))))) (fun xq4 hq5 => ?_)
    refine GL.val (v := (.int .u32 (Bt.unkey ((Bt.key a) + 1)))) (Ex.assign rfl) (by decide) ?_
    refine GL.val (v := (.bool true)) (Ex.assign rfl) (by decide) ?_
    refine GL.nil ?_
    refine GE.thenN ?_
    refine GC.ret ?_
    refine GC.ret2 rfl (Rv.tmp rfl) (Rv.tmp rfl) (fun wN HN => ?_)
    exact HN.ret () trivial (by rw [show Bt.nxt a = (Bt.unkey ((Bt.key a) + 1), true) from by first | (exfalso; omega) | (unfold Bt.nxt; (repeat (first | rw [if_pos (by omega)] | rw [if_neg (by omega)])))]) (List.nil_sublist _) rfl

set_option maxRecDepth 100000 in
set_option maxHeartbeats 1000000 in
theorem prev_p (a : Int) (w : World) (ha : 0 ≤ a ∧ a < 4294967296) :
    Calls Try.prog 23 #[(.int .u32 a)] w (Ret w (fun _ : Unit => True) (fun _ => (.tuple #[(.int .u32 ((Bt.prv a).1)), (.bool ((Bt.prv a).2))])) (fun _ => [])) := by
  refine enter (M := None) (L := []) (n := 12) (l := [(0, (.int .u32 a))]) Try.func23 rfl rfl (Args.cons rfl (Args.nil _)) (Hp.start _ _) ?_
  refine GC.seq ?_
  have hka := Bt.key_bd ha
  refine GC.region ?_
  refine GL.val (v := (.int .u32 0)) (Ex.assign rfl) (by decide) ?_
  refine GL.val (v := (.bool false)) (Ex.assign rfl) (by decide) ?_
  refine GL.nil ?_
  refine GE.thenN ?_
  refine GC.seq ?_
  refine GC.region ?_
  refine GL.val (v := (.int .u32 a)) (Ex.move rfl) (by decide) ?_
  refine GL.step (Stp.callR (σ := Unit) (p := fun rz => True) (v := fun rz => (.int .u32 (Bt.key a))) (N := fun rz => []) (vs := [(.int .u32 a)]) rfl rfl T.own25 (by decide) (fun wc hw => key_p a wc (by first | assumption | omega | exact Bt.lst_bd (by assumption) (by assumption) | exact Bt.gst_bd (by assumption) (by assumption) | exact Bt.key_bd (by assumption) | exact Bt.unkey_bd (by assumption) | exact Bt.nxt_bd (by assumption) | exact Bt.lst_bd (Bt.gst_bd (by assumption) (by assumption)) (by assumption) | exact Bt.btw_bd (by assumption) (Bt.lst_bd (by assumption) (by assumption)) (Bt.gst_bd (by assumption) (by assumption))))) (fun xq1 hq2 => ?_)
  refine GL.val (v := (.int .u32 (Bt.key a))) (Ex.assign rfl) (by decide) ?_
  refine GL.nil ?_
  refine GE.thenN ?_
  refine GC.seq ?_
  refine GC.seq ?_
  refine GC.region ?_
  refine GL.val (v := (.int .u32 (Bt.key a))) (Ex.move rfl) (by decide) ?_
  refine GL.val (v := (.bool (decide ((Bt.key a) = 0)))) (Ex.eql rfl rfl) (by decide) ?_
  refine GL.nil ?_
  refine GE.thenN ?_
  refine GC.cond rfl (fun hq3 => ?_) (fun hq3 => ?_)
  · replace hq3 := of_decide_eq_true hq3
    refine GC.seq ?_
    refine GC.region ?_
    refine GL.val (v := (.int .u32 0)) (Ex.assign rfl) (by decide) ?_
    refine GL.val (v := (.bool false)) (Ex.assign rfl) (by decide) ?_
    refine GL.nil ?_
    refine GE.thenN ?_
    refine GC.ret ?_
    refine GE.thenR ?_
    refine GC.ret2 rfl (Rv.tmp rfl) (Rv.tmp rfl) (fun wN HN => ?_)
    exact HN.ret () trivial (by rw [show Bt.prv a = (0, false) from by first | (exfalso; omega) | (unfold Bt.prv; (repeat (first | rw [if_pos (by omega)] | rw [if_neg (by omega)])))]) (List.nil_sublist _) rfl
  · replace hq3 := of_decide_eq_false hq3
    refine GC.skip ?_
    refine GE.thenN ?_
    refine GC.seq ?_
    refine GC.region ?_
    refine GL.val (v := (.int .u32 (Bt.key a))) (Ex.move rfl) (by decide) ?_
    refine GL.val (v := (.int .u32 ((Bt.key a) - 1))) (Ex.sub' rfl rfl (Z := (Bt.key a) - 1) (wu32b (by omega))) (by decide) ?_
    refine GL.step (Stp.callR (σ := Unit) (p := fun rz => True) (v := fun rz => (.int .u32 (Bt.unkey ((Bt.key a) - 1)))) (N := fun rz => []) (vs := [(.int .u32 ((Bt.key a) - 1))]) rfl rfl T.own27 (by decide) (fun wc hw => unkey_p ((Bt.key a) - 1) wc (by first | assumption | omega | exact Bt.lst_bd (by assumption) (by assumption) | exact Bt.gst_bd (by assumption) (by assumption) | exact Bt.key_bd (by assumption) | exact Bt.unkey_bd (by assumption) | exact Bt.nxt_bd (by assumption) | exact Bt.lst_bd (Bt.gst_bd (by assumption) (by assumption)) (by assumption) | exact Bt.btw_bd (by assumption) (Bt.lst_bd (by assumption) (by assumption)) (Bt.gst_bd (by assumption) (by assumption))))) (fun xq4 hq5 => ?_)
    refine GL.val (v := (.int .u32 (Bt.unkey ((Bt.key a) - 1)))) (Ex.assign rfl) (by decide) ?_
    refine GL.val (v := (.bool true)) (Ex.assign rfl) (by decide) ?_
    refine GL.nil ?_
    refine GE.thenN ?_
    refine GC.ret ?_
    refine GC.ret2 rfl (Rv.tmp rfl) (Rv.tmp rfl) (fun wN HN => ?_)
    exact HN.ret () trivial (by rw [show Bt.prv a = (Bt.unkey ((Bt.key a) - 1), true) from by first | (exfalso; omega) | (unfold Bt.prv; (repeat (first | rw [if_pos (by omega)] | rw [if_neg (by omega)])))]) (List.nil_sublist _) rfl

set_option maxRecDepth 100000 in
set_option maxHeartbeats 1000000 in
theorem prev_r (a : Int) (w : World) (ha : 0 ≤ a ∧ a < 4294967296) :
    Calls Try.prog 24 #[(.int .u32 a)] w (Ret w (fun _ : Unit => True) (fun _ => (.tuple #[(.int .u32 ((Bt.prv a).1)), (.bool ((Bt.prv a).2))])) (fun _ => [])) := by
  refine enter (M := None) (L := []) (n := 14) (l := [(0, (.int .u32 a))]) Try.func24 rfl rfl (Args.cons rfl (Args.nil _)) (Hp.start _ _) ?_
  refine GC.seq ?_
  have hka := Bt.key_bd ha
  refine GC.region ?_
  refine GL.val (v := (.int .u32 0)) (Ex.assign rfl) (by decide) ?_
  refine GL.val (v := (.bool false)) (Ex.assign rfl) (by decide) ?_
  refine GL.nil ?_
  refine GE.thenN ?_
  refine GC.seq ?_
  refine GC.region ?_
  refine GL.val (v := (.int .u32 a)) (Ex.move rfl) (by decide) ?_
  refine GL.step (Stp.callR (σ := Unit) (p := fun rz => True) (v := fun rz => (.int .u32 (Bt.key a))) (N := fun rz => []) (vs := [(.int .u32 a)]) rfl rfl T.own26 (by decide) (fun wc hw => key_r a wc (by first | assumption | omega | exact Bt.lst_bd (by assumption) (by assumption) | exact Bt.gst_bd (by assumption) (by assumption) | exact Bt.key_bd (by assumption) | exact Bt.unkey_bd (by assumption) | exact Bt.nxt_bd (by assumption) | exact Bt.lst_bd (Bt.gst_bd (by assumption) (by assumption)) (by assumption) | exact Bt.btw_bd (by assumption) (Bt.lst_bd (by assumption) (by assumption)) (Bt.gst_bd (by assumption) (by assumption))))) (fun xq1 hq2 => ?_)
  refine GL.val (v := (.int .i64 (Bt.key a))) (Ex.conv rfl Try.underlying23 Try.underlying3 (Z := Bt.key a) (w64 (by omega))) (by decide) ?_
  refine GL.val (v := (.int .i64 (Bt.key a))) (Ex.assign rfl) (by decide) ?_
  refine GL.nil ?_
  refine GE.thenN ?_
  refine GC.seq ?_
  refine GC.seq ?_
  refine GC.region ?_
  refine GL.val (v := (.int .i64 (Bt.key a))) (Ex.move rfl) (by decide) ?_
  refine GL.val (v := (.bool (decide ((Bt.key a) = 0)))) (Ex.eql rfl rfl) (by decide) ?_
  refine GL.nil ?_
  refine GE.thenN ?_
  refine GC.cond rfl (fun hq3 => ?_) (fun hq3 => ?_)
  · replace hq3 := of_decide_eq_true hq3
    refine GC.seq ?_
    refine GC.region ?_
    refine GL.val (v := (.int .u32 0)) (Ex.assign rfl) (by decide) ?_
    refine GL.val (v := (.bool false)) (Ex.assign rfl) (by decide) ?_
    refine GL.nil ?_
    refine GE.thenN ?_
    refine GC.ret ?_
    refine GE.thenR ?_
    refine GC.ret2 rfl (Rv.tmp rfl) (Rv.tmp rfl) (fun wN HN => ?_)
    exact HN.ret () trivial (by rw [show Bt.prv a = (0, false) from by first | (exfalso; omega) | (unfold Bt.prv; (repeat (first | rw [if_pos (by omega)] | rw [if_neg (by omega)])))]) (List.nil_sublist _) rfl
  · replace hq3 := of_decide_eq_false hq3
    refine GC.skip ?_
    refine GE.thenN ?_
    refine GC.seq ?_
    refine GC.region ?_
    refine GL.val (v := (.int .i64 (Bt.key a))) (Ex.move rfl) (by decide) ?_
    refine GL.val (v := (.int .i64 ((Bt.key a) - 1))) (Ex.sub' rfl rfl (Z := (Bt.key a) - 1) (w64 (by omega))) (by decide) ?_
    refine GL.val (v := (.int .u32 ((Bt.key a) - 1))) (Ex.conv rfl Try.underlying3 Try.underlying23 (Z := (Bt.key a) - 1) (wu32b (by omega))) (by decide) ?_
    refine GL.step (Stp.callR (σ := Unit) (p := fun rz => True) (v := fun rz => (.int .u32 (Bt.unkey ((Bt.key a) - 1)))) (N := fun rz => []) (vs := [(.int .u32 ((Bt.key a) - 1))]) rfl rfl T.own28 (by decide) (fun wc hw => unkey_r ((Bt.key a) - 1) wc (by first | assumption | omega | exact Bt.lst_bd (by assumption) (by assumption) | exact Bt.gst_bd (by assumption) (by assumption) | exact Bt.key_bd (by assumption) | exact Bt.unkey_bd (by assumption) | exact Bt.nxt_bd (by assumption) | exact Bt.lst_bd (Bt.gst_bd (by assumption) (by assumption)) (by assumption) | exact Bt.btw_bd (by assumption) (Bt.lst_bd (by assumption) (by assumption)) (Bt.gst_bd (by assumption) (by assumption))))) (fun xq4 hq5 => ?_)
    refine GL.val (v := (.int .u32 (Bt.unkey ((Bt.key a) - 1)))) (Ex.assign rfl) (by decide) ?_
    refine GL.val (v := (.bool true)) (Ex.assign rfl) (by decide) ?_
    refine GL.nil ?_
    refine GE.thenN ?_
    refine GC.ret ?_
    refine GC.ret2 rfl (Rv.tmp rfl) (Rv.tmp rfl) (fun wN HN => ?_)
    exact HN.ret () trivial (by rw [show Bt.prv a = (Bt.unkey ((Bt.key a) - 1), true) from by first | (exfalso; omega) | (unfold Bt.prv; (repeat (first | rw [if_pos (by omega)] | rw [if_neg (by omega)])))]) (List.nil_sublist _) rfl

set_option maxRecDepth 100000 in
set_option maxHeartbeats 1000000 in
theorem apart_p (a b : Int) (w : World) (ha : 0 ≤ a ∧ a < 4294967296) (hb : 0 ≤ b ∧ b < 4294967296) :
    Calls Try.prog 29 #[(.int .u32 a), (.int .u32 b)] w (Ret w (fun _ : Unit => True) (fun _ => (.int .i64 (Bt.key b - Bt.key a))) (fun _ => [])) := by
  refine enter (M := None) (L := []) (n := 12) (l := [(0, (.int .u32 a)), (1, (.int .u32 b))]) Try.func29 rfl rfl (Args.cons rfl (Args.cons rfl (Args.nil _))) (Hp.start _ _) ?_
  refine GC.seq ?_
  have hka := Bt.key_bd ha
  have hkb := Bt.key_bd hb
  refine GC.region ?_
  refine GL.val (v := (.int .i64 0)) (Ex.assign rfl) (by decide) ?_
  refine GL.nil ?_
  refine GE.thenN ?_
  refine GC.seq ?_
  refine GC.region ?_
  refine GL.val (v := (.int .u32 b)) (Ex.move rfl) (by decide) ?_
  refine GL.step (Stp.callR (σ := Unit) (p := fun rz => True) (v := fun rz => (.int .u32 (Bt.key b))) (N := fun rz => []) (vs := [(.int .u32 b)]) rfl rfl T.own25 (by decide) (fun wc hw => key_p b wc (by first | assumption | omega | exact Bt.lst_bd (by assumption) (by assumption) | exact Bt.gst_bd (by assumption) (by assumption) | exact Bt.key_bd (by assumption) | exact Bt.unkey_bd (by assumption) | exact Bt.nxt_bd (by assumption) | exact Bt.lst_bd (Bt.gst_bd (by assumption) (by assumption)) (by assumption) | exact Bt.btw_bd (by assumption) (Bt.lst_bd (by assumption) (by assumption)) (Bt.gst_bd (by assumption) (by assumption))))) (fun xq1 hq2 => ?_)
  refine GL.val (v := (.int .i64 (Bt.key b))) (Ex.conv rfl Try.underlying23 Try.underlying3 (Z := Bt.key b) (w64 (by omega))) (by decide) ?_
  refine GL.val (v := (.int .u32 a)) (Ex.move rfl) (by decide) ?_
  refine GL.step (Stp.callR (σ := Unit) (p := fun rz => True) (v := fun rz => (.int .u32 (Bt.key a))) (N := fun rz => []) (vs := [(.int .u32 a)]) rfl rfl T.own25 (by decide) (fun wc hw => key_p a wc (by first | assumption | omega | exact Bt.lst_bd (by assumption) (by assumption) | exact Bt.gst_bd (by assumption) (by assumption) | exact Bt.key_bd (by assumption) | exact Bt.unkey_bd (by assumption) | exact Bt.nxt_bd (by assumption) | exact Bt.lst_bd (Bt.gst_bd (by assumption) (by assumption)) (by assumption) | exact Bt.btw_bd (by assumption) (Bt.lst_bd (by assumption) (by assumption)) (Bt.gst_bd (by assumption) (by assumption))))) (fun xq3 hq4 => ?_)
  refine GL.val (v := (.int .i64 (Bt.key a))) (Ex.conv rfl Try.underlying23 Try.underlying3 (Z := Bt.key a) (w64 (by omega))) (by decide) ?_
  refine GL.val (v := (.int .i64 ((Bt.key b) - (Bt.key a)))) (Ex.sub' rfl rfl (Z := (Bt.key b) - (Bt.key a)) (w64 (by omega))) (by decide) ?_
  refine GL.val (v := (.int .i64 ((Bt.key b) - (Bt.key a)))) (Ex.assign rfl) (by decide) ?_
  refine GL.nil ?_
  refine GE.thenN ?_
  refine GC.ret ?_
  refine GC.ret1 rfl (Rv.tmp rfl) (fun wN HN => ?_)
  exact HN.ret () trivial rfl (List.nil_sublist _) rfl

set_option maxRecDepth 100000 in
set_option maxHeartbeats 1000000 in
theorem apart_r (a b : Int) (w : World) (ha : 0 ≤ a ∧ a < 4294967296) (hb : 0 ≤ b ∧ b < 4294967296) :
    Calls Try.prog 30 #[(.int .u32 a), (.int .u32 b)] w (Ret w (fun _ : Unit => True) (fun _ => (.int .i64 (Bt.key b - Bt.key a))) (fun _ => [])) := by
  refine enter (M := None) (L := []) (n := 12) (l := [(0, (.int .u32 a)), (1, (.int .u32 b))]) Try.func30 rfl rfl (Args.cons rfl (Args.cons rfl (Args.nil _))) (Hp.start _ _) ?_
  refine GC.seq ?_
  have hka := Bt.key_bd ha
  have hkb := Bt.key_bd hb
  refine GC.region ?_
  refine GL.val (v := (.int .i64 0)) (Ex.assign rfl) (by decide) ?_
  refine GL.nil ?_
  refine GE.thenN ?_
  refine GC.seq ?_
  refine GC.region ?_
  refine GL.val (v := (.int .u32 b)) (Ex.move rfl) (by decide) ?_
  refine GL.step (Stp.callR (σ := Unit) (p := fun rz => True) (v := fun rz => (.int .u32 (Bt.key b))) (N := fun rz => []) (vs := [(.int .u32 b)]) rfl rfl T.own26 (by decide) (fun wc hw => key_r b wc (by first | assumption | omega | exact Bt.lst_bd (by assumption) (by assumption) | exact Bt.gst_bd (by assumption) (by assumption) | exact Bt.key_bd (by assumption) | exact Bt.unkey_bd (by assumption) | exact Bt.nxt_bd (by assumption) | exact Bt.lst_bd (Bt.gst_bd (by assumption) (by assumption)) (by assumption) | exact Bt.btw_bd (by assumption) (Bt.lst_bd (by assumption) (by assumption)) (Bt.gst_bd (by assumption) (by assumption))))) (fun xq1 hq2 => ?_)
  refine GL.val (v := (.int .i64 (Bt.key b))) (Ex.conv rfl Try.underlying23 Try.underlying3 (Z := Bt.key b) (w64 (by omega))) (by decide) ?_
  refine GL.val (v := (.int .u32 a)) (Ex.move rfl) (by decide) ?_
  refine GL.step (Stp.callR (σ := Unit) (p := fun rz => True) (v := fun rz => (.int .u32 (Bt.key a))) (N := fun rz => []) (vs := [(.int .u32 a)]) rfl rfl T.own26 (by decide) (fun wc hw => key_r a wc (by first | assumption | omega | exact Bt.lst_bd (by assumption) (by assumption) | exact Bt.gst_bd (by assumption) (by assumption) | exact Bt.key_bd (by assumption) | exact Bt.unkey_bd (by assumption) | exact Bt.nxt_bd (by assumption) | exact Bt.lst_bd (Bt.gst_bd (by assumption) (by assumption)) (by assumption) | exact Bt.btw_bd (by assumption) (Bt.lst_bd (by assumption) (by assumption)) (Bt.gst_bd (by assumption) (by assumption))))) (fun xq3 hq4 => ?_)
  refine GL.val (v := (.int .i64 (Bt.key a))) (Ex.conv rfl Try.underlying23 Try.underlying3 (Z := Bt.key a) (w64 (by omega))) (by decide) ?_
  refine GL.val (v := (.int .i64 ((Bt.key b) - (Bt.key a)))) (Ex.sub' rfl rfl (Z := (Bt.key b) - (Bt.key a)) (w64 (by omega))) (by decide) ?_
  refine GL.val (v := (.int .i64 ((Bt.key b) - (Bt.key a)))) (Ex.assign rfl) (by decide) ?_
  refine GL.nil ?_
  refine GE.thenN ?_
  refine GC.ret ?_
  refine GC.ret1 rfl (Rv.tmp rfl) (fun wN HN => ?_)
  exact HN.ret () trivial rfl (List.nil_sublist _) rfl

set_option maxRecDepth 100000 in
set_option maxHeartbeats 1000000 in
theorem before_p (a b : Int) (w : World) (ha : 0 ≤ a ∧ a < 4294967296) (hb : 0 ≤ b ∧ b < 4294967296) :
    Calls Try.prog 31 #[(.int .u32 a), (.int .u32 b)] w (Ret w (fun _ : Unit => True) (fun _ => (.bool (decide (Bt.key a < Bt.key b)))) (fun _ => [])) := by
  refine enter (M := None) (L := []) (n := 10) (l := [(0, (.int .u32 a)), (1, (.int .u32 b))]) Try.func31 rfl rfl (Args.cons rfl (Args.cons rfl (Args.nil _))) (Hp.start _ _) ?_
  refine GC.seq ?_
  have hka := Bt.key_bd ha
  have hkb := Bt.key_bd hb
  refine GC.region ?_
  refine GL.val (v := (.bool false)) (Ex.assign rfl) (by decide) ?_
  refine GL.nil ?_
  refine GE.thenN ?_
  refine GC.seq ?_
  refine GC.region ?_
  refine GL.val (v := (.int .u32 a)) (Ex.move rfl) (by decide) ?_
  refine GL.step (Stp.callR (σ := Unit) (p := fun rz => True) (v := fun rz => (.int .u32 (Bt.key a))) (N := fun rz => []) (vs := [(.int .u32 a)]) rfl rfl T.own25 (by decide) (fun wc hw => key_p a wc (by first | assumption | omega | exact Bt.lst_bd (by assumption) (by assumption) | exact Bt.gst_bd (by assumption) (by assumption) | exact Bt.key_bd (by assumption) | exact Bt.unkey_bd (by assumption) | exact Bt.nxt_bd (by assumption) | exact Bt.lst_bd (Bt.gst_bd (by assumption) (by assumption)) (by assumption) | exact Bt.btw_bd (by assumption) (Bt.lst_bd (by assumption) (by assumption)) (Bt.gst_bd (by assumption) (by assumption))))) (fun xq1 hq2 => ?_)
  refine GL.val (v := (.int .u32 b)) (Ex.move rfl) (by decide) ?_
  refine GL.step (Stp.callR (σ := Unit) (p := fun rz => True) (v := fun rz => (.int .u32 (Bt.key b))) (N := fun rz => []) (vs := [(.int .u32 b)]) rfl rfl T.own25 (by decide) (fun wc hw => key_p b wc (by first | assumption | omega | exact Bt.lst_bd (by assumption) (by assumption) | exact Bt.gst_bd (by assumption) (by assumption) | exact Bt.key_bd (by assumption) | exact Bt.unkey_bd (by assumption) | exact Bt.nxt_bd (by assumption) | exact Bt.lst_bd (Bt.gst_bd (by assumption) (by assumption)) (by assumption) | exact Bt.btw_bd (by assumption) (Bt.lst_bd (by assumption) (by assumption)) (Bt.gst_bd (by assumption) (by assumption))))) (fun xq3 hq4 => ?_)
  refine GL.val (v := (.bool (decide ((Bt.key a) < (Bt.key b))))) (Ex.lss rfl rfl) (by decide) ?_
  refine GL.val (v := (.bool (decide ((Bt.key a) < (Bt.key b))))) (Ex.assign rfl) (by decide) ?_
  refine GL.nil ?_
  refine GE.thenN ?_
  refine GC.ret ?_
  refine GC.ret1 rfl (Rv.tmp rfl) (fun wN HN => ?_)
  exact HN.ret () trivial (congrArg Value.bool (decide_eq_decide.2 (by omega))) (List.nil_sublist _) rfl

set_option maxRecDepth 100000 in
set_option maxHeartbeats 1000000 in
theorem before_r (a b : Int) (w : World) (ha : 0 ≤ a ∧ a < 4294967296) (hb : 0 ≤ b ∧ b < 4294967296) :
    Calls Try.prog 32 #[(.int .u32 a), (.int .u32 b)] w (Ret w (fun _ : Unit => True) (fun _ => (.bool (decide (Bt.key a < Bt.key b)))) (fun _ => [])) := by
  refine enter (M := None) (L := []) (n := 9) (l := [(0, (.int .u32 a)), (1, (.int .u32 b))]) Try.func32 rfl rfl (Args.cons rfl (Args.cons rfl (Args.nil _))) (Hp.start _ _) ?_
  refine GC.seq ?_
  have hka := Bt.key_bd ha
  have hkb := Bt.key_bd hb
  refine GC.region ?_
  refine GL.val (v := (.bool false)) (Ex.assign rfl) (by decide) ?_
  refine GL.nil ?_
  refine GE.thenN ?_
  refine GC.seq ?_
  refine GC.region ?_
  refine GL.val (v := (.int .u32 a)) (Ex.move rfl) (by decide) ?_
  refine GL.val (v := (.int .u32 b)) (Ex.move rfl) (by decide) ?_
  refine GL.step (Stp.callR (σ := Unit) (p := fun rz => True) (v := fun rz => (.int .i64 (Bt.key b - Bt.key a))) (N := fun rz => []) (vs := [(.int .u32 a), (.int .u32 b)]) rfl rfl T.own30 (by decide) (fun wc hw => apart_r a b wc (by first | assumption | omega | exact Bt.lst_bd (by assumption) (by assumption) | exact Bt.gst_bd (by assumption) (by assumption) | exact Bt.key_bd (by assumption) | exact Bt.unkey_bd (by assumption) | exact Bt.nxt_bd (by assumption) | exact Bt.lst_bd (Bt.gst_bd (by assumption) (by assumption)) (by assumption) | exact Bt.btw_bd (by assumption) (Bt.lst_bd (by assumption) (by assumption)) (Bt.gst_bd (by assumption) (by assumption))) (by first | assumption | omega | exact Bt.lst_bd (by assumption) (by assumption) | exact Bt.gst_bd (by assumption) (by assumption) | exact Bt.key_bd (by assumption) | exact Bt.unkey_bd (by assumption) | exact Bt.nxt_bd (by assumption) | exact Bt.lst_bd (Bt.gst_bd (by assumption) (by assumption)) (by assumption) | exact Bt.btw_bd (by assumption) (Bt.lst_bd (by assumption) (by assumption)) (Bt.gst_bd (by assumption) (by assumption))))) (fun xq1 hq2 => ?_)
  refine GL.val (v := (.bool (decide (0 < (Bt.key b - Bt.key a))))) (Ex.gtr rfl rfl) (by decide) ?_
  refine GL.val (v := (.bool (decide (0 < (Bt.key b - Bt.key a))))) (Ex.assign rfl) (by decide) ?_
  refine GL.nil ?_
  refine GE.thenN ?_
  refine GC.ret ?_
  refine GC.ret1 rfl (Rv.tmp rfl) (fun wN HN => ?_)
  exact HN.ret () trivial (congrArg Value.bool (decide_eq_decide.2 (by omega))) (List.nil_sublist _) rfl

set_option maxRecDepth 100000 in
set_option maxHeartbeats 1000000 in
theorem least_p (a b : Int) (w : World) (ha : 0 ≤ a ∧ a < 4294967296) (hb : 0 ≤ b ∧ b < 4294967296) :
    Calls Try.prog 34 #[(.int .u32 a), (.int .u32 b)] w (Ret w (fun _ : Unit => True) (fun _ => (.int .u32 (Bt.lst a b))) (fun _ => [])) := by
  refine enter (M := None) (L := []) (n := 10) (l := [(0, (.int .u32 a)), (1, (.int .u32 b))]) Try.func34 rfl rfl (Args.cons rfl (Args.cons rfl (Args.nil _))) (Hp.start _ _) ?_
  refine GC.seq ?_
  refine GC.region ?_
  refine GL.val (v := (.int .u32 0)) (Ex.assign rfl) (by decide) ?_
  refine GL.nil ?_
  refine GE.thenN ?_
  refine GC.seq ?_
  refine GC.seq ?_
  refine GC.region ?_
  refine GL.val (v := (.int .u32 b)) (Ex.move rfl) (by decide) ?_
  refine GL.val (v := (.int .u32 a)) (Ex.move rfl) (by decide) ?_
  refine GL.step (Stp.callR (σ := Unit) (p := fun rz => True) (v := fun rz => (.bool (decide (Bt.key b < Bt.key a)))) (N := fun rz => []) (vs := [(.int .u32 b), (.int .u32 a)]) rfl rfl T.own31 (by decide) (fun wc hw => before_p b a wc (by first | assumption | omega | exact Bt.lst_bd (by assumption) (by assumption) | exact Bt.gst_bd (by assumption) (by assumption) | exact Bt.key_bd (by assumption) | exact Bt.unkey_bd (by assumption) | exact Bt.nxt_bd (by assumption) | exact Bt.lst_bd (Bt.gst_bd (by assumption) (by assumption)) (by assumption) | exact Bt.btw_bd (by assumption) (Bt.lst_bd (by assumption) (by assumption)) (Bt.gst_bd (by assumption) (by assumption))) (by first | assumption | omega | exact Bt.lst_bd (by assumption) (by assumption) | exact Bt.gst_bd (by assumption) (by assumption) | exact Bt.key_bd (by assumption) | exact Bt.unkey_bd (by assumption) | exact Bt.nxt_bd (by assumption) | exact Bt.lst_bd (Bt.gst_bd (by assumption) (by assumption)) (by assumption) | exact Bt.btw_bd (by assumption) (Bt.lst_bd (by assumption) (by assumption)) (Bt.gst_bd (by assumption) (by assumption))))) (fun xq1 hq2 => ?_)
  refine GL.nil ?_
  refine GE.thenN ?_
  refine GC.cond rfl (fun hq3 => ?_) (fun hq3 => ?_)
  · replace hq3 := of_decide_eq_true hq3
    refine GC.seq ?_
    refine GC.region ?_
    refine GL.val (v := (.int .u32 b)) (Ex.move rfl) (by decide) ?_
    refine GL.val (v := (.int .u32 b)) (Ex.assign rfl) (by decide) ?_
    refine GL.nil ?_
    refine GE.thenN ?_
    refine GC.ret ?_
    refine GE.thenR ?_
    refine GC.ret1 rfl (Rv.tmp rfl) (fun wN HN => ?_)
    exact HN.ret () trivial (by rw [show Bt.lst a b = b from by first | (exfalso; omega) | (unfold Bt.lst; (repeat (first | rw [if_pos (by omega)] | rw [if_neg (by omega)])))]) (List.nil_sublist _) rfl
  · replace hq3 := of_decide_eq_false hq3
    refine GC.skip ?_
    refine GE.thenN ?_
    refine GC.seq ?_
    refine GC.region ?_
    refine GL.val (v := (.int .u32 a)) (Ex.move rfl) (by decide) ?_
    refine GL.val (v := (.int .u32 a)) (Ex.assign rfl) (by decide) ?_
    refine GL.nil ?_
    refine GE.thenN ?_
    refine GC.ret ?_
    refine GC.ret1 rfl (Rv.tmp rfl) (fun wN HN => ?_)
    exact HN.ret () trivial (by rw [show Bt.lst a b = a from by first | (exfalso; omega) | (unfold Bt.lst; (repeat (first | rw [if_pos (by omega)] | rw [if_neg (by omega)])))]) (List.nil_sublist _) rfl

set_option maxRecDepth 100000 in
set_option maxHeartbeats 1000000 in
theorem least_r (a b : Int) (w : World) (ha : 0 ≤ a ∧ a < 4294967296) (hb : 0 ≤ b ∧ b < 4294967296) :
    Calls Try.prog 35 #[(.int .u32 a), (.int .u32 b)] w (Ret w (fun _ : Unit => True) (fun _ => (.int .u32 (Bt.lst a b))) (fun _ => [])) := by
  refine enter (M := None) (L := []) (n := 10) (l := [(0, (.int .u32 a)), (1, (.int .u32 b))]) Try.func35 rfl rfl (Args.cons rfl (Args.cons rfl (Args.nil _))) (Hp.start _ _) ?_
  refine GC.seq ?_
  refine GC.region ?_
  refine GL.val (v := (.int .u32 0)) (Ex.assign rfl) (by decide) ?_
  refine GL.nil ?_
  refine GE.thenN ?_
  refine GC.seq ?_
  refine GC.seq ?_
  refine GC.region ?_
  refine GL.val (v := (.int .u32 b)) (Ex.move rfl) (by decide) ?_
  refine GL.val (v := (.int .u32 a)) (Ex.move rfl) (by decide) ?_
  refine GL.step (Stp.callR (σ := Unit) (p := fun rz => True) (v := fun rz => (.bool (decide (Bt.key b < Bt.key a)))) (N := fun rz => []) (vs := [(.int .u32 b), (.int .u32 a)]) rfl rfl T.own32 (by decide) (fun wc hw => before_r b a wc (by first | assumption | omega | exact Bt.lst_bd (by assumption) (by assumption) | exact Bt.gst_bd (by assumption) (by assumption) | exact Bt.key_bd (by assumption) | exact Bt.unkey_bd (by assumption) | exact Bt.nxt_bd (by assumption) | exact Bt.lst_bd (Bt.gst_bd (by assumption) (by assumption)) (by assumption) | exact Bt.btw_bd (by assumption) (Bt.lst_bd (by assumption) (by assumption)) (Bt.gst_bd (by assumption) (by assumption))) (by first | assumption | omega | exact Bt.lst_bd (by assumption) (by assumption) | exact Bt.gst_bd (by assumption) (by assumption) | exact Bt.key_bd (by assumption) | exact Bt.unkey_bd (by assumption) | exact Bt.nxt_bd (by assumption) | exact Bt.lst_bd (Bt.gst_bd (by assumption) (by assumption)) (by assumption) | exact Bt.btw_bd (by assumption) (Bt.lst_bd (by assumption) (by assumption)) (Bt.gst_bd (by assumption) (by assumption))))) (fun xq1 hq2 => ?_)
  refine GL.nil ?_
  refine GE.thenN ?_
  refine GC.cond rfl (fun hq3 => ?_) (fun hq3 => ?_)
  · replace hq3 := of_decide_eq_true hq3
    refine GC.seq ?_
    refine GC.region ?_
    refine GL.val (v := (.int .u32 b)) (Ex.move rfl) (by decide) ?_
    refine GL.val (v := (.int .u32 b)) (Ex.assign rfl) (by decide) ?_
    refine GL.nil ?_
    refine GE.thenN ?_
    refine GC.ret ?_
    refine GE.thenR ?_
    refine GC.ret1 rfl (Rv.tmp rfl) (fun wN HN => ?_)
    exact HN.ret () trivial (by rw [show Bt.lst a b = b from by first | (exfalso; omega) | (unfold Bt.lst; (repeat (first | rw [if_pos (by omega)] | rw [if_neg (by omega)])))]) (List.nil_sublist _) rfl
  · replace hq3 := of_decide_eq_false hq3
    refine GC.skip ?_
    refine GE.thenN ?_
    refine GC.seq ?_
    refine GC.region ?_
    refine GL.val (v := (.int .u32 a)) (Ex.move rfl) (by decide) ?_
    refine GL.val (v := (.int .u32 a)) (Ex.assign rfl) (by decide) ?_
    refine GL.nil ?_
    refine GE.thenN ?_
    refine GC.ret ?_
    refine GC.ret1 rfl (Rv.tmp rfl) (fun wN HN => ?_)
    exact HN.ret () trivial (by rw [show Bt.lst a b = a from by first | (exfalso; omega) | (unfold Bt.lst; (repeat (first | rw [if_pos (by omega)] | rw [if_neg (by omega)])))]) (List.nil_sublist _) rfl

set_option maxRecDepth 100000 in
set_option maxHeartbeats 1000000 in
theorem greatest_p (a b : Int) (w : World) (ha : 0 ≤ a ∧ a < 4294967296) (hb : 0 ≤ b ∧ b < 4294967296) :
    Calls Try.prog 36 #[(.int .u32 a), (.int .u32 b)] w (Ret w (fun _ : Unit => True) (fun _ => (.int .u32 (Bt.gst a b))) (fun _ => [])) := by
  refine enter (M := None) (L := []) (n := 10) (l := [(0, (.int .u32 a)), (1, (.int .u32 b))]) Try.func36 rfl rfl (Args.cons rfl (Args.cons rfl (Args.nil _))) (Hp.start _ _) ?_
  refine GC.seq ?_
  refine GC.region ?_
  refine GL.val (v := (.int .u32 0)) (Ex.assign rfl) (by decide) ?_
  refine GL.nil ?_
  refine GE.thenN ?_
  refine GC.seq ?_
  refine GC.seq ?_
  refine GC.region ?_
  refine GL.val (v := (.int .u32 a)) (Ex.move rfl) (by decide) ?_
  refine GL.val (v := (.int .u32 b)) (Ex.move rfl) (by decide) ?_
  refine GL.step (Stp.callR (σ := Unit) (p := fun rz => True) (v := fun rz => (.bool (decide (Bt.key a < Bt.key b)))) (N := fun rz => []) (vs := [(.int .u32 a), (.int .u32 b)]) rfl rfl T.own31 (by decide) (fun wc hw => before_p a b wc (by first | assumption | omega | exact Bt.lst_bd (by assumption) (by assumption) | exact Bt.gst_bd (by assumption) (by assumption) | exact Bt.key_bd (by assumption) | exact Bt.unkey_bd (by assumption) | exact Bt.nxt_bd (by assumption) | exact Bt.lst_bd (Bt.gst_bd (by assumption) (by assumption)) (by assumption) | exact Bt.btw_bd (by assumption) (Bt.lst_bd (by assumption) (by assumption)) (Bt.gst_bd (by assumption) (by assumption))) (by first | assumption | omega | exact Bt.lst_bd (by assumption) (by assumption) | exact Bt.gst_bd (by assumption) (by assumption) | exact Bt.key_bd (by assumption) | exact Bt.unkey_bd (by assumption) | exact Bt.nxt_bd (by assumption) | exact Bt.lst_bd (Bt.gst_bd (by assumption) (by assumption)) (by assumption) | exact Bt.btw_bd (by assumption) (Bt.lst_bd (by assumption) (by assumption)) (Bt.gst_bd (by assumption) (by assumption))))) (fun xq1 hq2 => ?_)
  refine GL.nil ?_
  refine GE.thenN ?_
  refine GC.cond rfl (fun hq3 => ?_) (fun hq3 => ?_)
  · replace hq3 := of_decide_eq_true hq3
    refine GC.seq ?_
    refine GC.region ?_
    refine GL.val (v := (.int .u32 b)) (Ex.move rfl) (by decide) ?_
    refine GL.val (v := (.int .u32 b)) (Ex.assign rfl) (by decide) ?_
    refine GL.nil ?_
    refine GE.thenN ?_
    refine GC.ret ?_
    refine GE.thenR ?_
    refine GC.ret1 rfl (Rv.tmp rfl) (fun wN HN => ?_)
    exact HN.ret () trivial (by rw [show Bt.gst a b = b from by first | (exfalso; omega) | (unfold Bt.gst; (repeat (first | rw [if_pos (by omega)] | rw [if_neg (by omega)])))]) (List.nil_sublist _) rfl
  · replace hq3 := of_decide_eq_false hq3
    refine GC.skip ?_
    refine GE.thenN ?_
    refine GC.seq ?_
    refine GC.region ?_
    refine GL.val (v := (.int .u32 a)) (Ex.move rfl) (by decide) ?_
    refine GL.val (v := (.int .u32 a)) (Ex.assign rfl) (by decide) ?_
    refine GL.nil ?_
    refine GE.thenN ?_
    refine GC.ret ?_
    refine GC.ret1 rfl (Rv.tmp rfl) (fun wN HN => ?_)
    exact HN.ret () trivial (by rw [show Bt.gst a b = a from by first | (exfalso; omega) | (unfold Bt.gst; (repeat (first | rw [if_pos (by omega)] | rw [if_neg (by omega)])))]) (List.nil_sublist _) rfl

set_option maxRecDepth 100000 in
set_option maxHeartbeats 1000000 in
theorem greatest_r (a b : Int) (w : World) (ha : 0 ≤ a ∧ a < 4294967296) (hb : 0 ≤ b ∧ b < 4294967296) :
    Calls Try.prog 37 #[(.int .u32 a), (.int .u32 b)] w (Ret w (fun _ : Unit => True) (fun _ => (.int .u32 (Bt.gst a b))) (fun _ => [])) := by
  refine enter (M := None) (L := []) (n := 10) (l := [(0, (.int .u32 a)), (1, (.int .u32 b))]) Try.func37 rfl rfl (Args.cons rfl (Args.cons rfl (Args.nil _))) (Hp.start _ _) ?_
  refine GC.seq ?_
  refine GC.region ?_
  refine GL.val (v := (.int .u32 0)) (Ex.assign rfl) (by decide) ?_
  refine GL.nil ?_
  refine GE.thenN ?_
  refine GC.seq ?_
  refine GC.seq ?_
  refine GC.region ?_
  refine GL.val (v := (.int .u32 a)) (Ex.move rfl) (by decide) ?_
  refine GL.val (v := (.int .u32 b)) (Ex.move rfl) (by decide) ?_
  refine GL.step (Stp.callR (σ := Unit) (p := fun rz => True) (v := fun rz => (.bool (decide (Bt.key a < Bt.key b)))) (N := fun rz => []) (vs := [(.int .u32 a), (.int .u32 b)]) rfl rfl T.own32 (by decide) (fun wc hw => before_r a b wc (by first | assumption | omega | exact Bt.lst_bd (by assumption) (by assumption) | exact Bt.gst_bd (by assumption) (by assumption) | exact Bt.key_bd (by assumption) | exact Bt.unkey_bd (by assumption) | exact Bt.nxt_bd (by assumption) | exact Bt.lst_bd (Bt.gst_bd (by assumption) (by assumption)) (by assumption) | exact Bt.btw_bd (by assumption) (Bt.lst_bd (by assumption) (by assumption)) (Bt.gst_bd (by assumption) (by assumption))) (by first | assumption | omega | exact Bt.lst_bd (by assumption) (by assumption) | exact Bt.gst_bd (by assumption) (by assumption) | exact Bt.key_bd (by assumption) | exact Bt.unkey_bd (by assumption) | exact Bt.nxt_bd (by assumption) | exact Bt.lst_bd (Bt.gst_bd (by assumption) (by assumption)) (by assumption) | exact Bt.btw_bd (by assumption) (Bt.lst_bd (by assumption) (by assumption)) (Bt.gst_bd (by assumption) (by assumption))))) (fun xq1 hq2 => ?_)
  refine GL.nil ?_
  refine GE.thenN ?_
  refine GC.cond rfl (fun hq3 => ?_) (fun hq3 => ?_)
  · replace hq3 := of_decide_eq_true hq3
    refine GC.seq ?_
    refine GC.region ?_
    refine GL.val (v := (.int .u32 b)) (Ex.move rfl) (by decide) ?_
    refine GL.val (v := (.int .u32 b)) (Ex.assign rfl) (by decide) ?_
    refine GL.nil ?_
    refine GE.thenN ?_
    refine GC.ret ?_
    refine GE.thenR ?_
    refine GC.ret1 rfl (Rv.tmp rfl) (fun wN HN => ?_)
    exact HN.ret () trivial (by rw [show Bt.gst a b = b from by first | (exfalso; omega) | (unfold Bt.gst; (repeat (first | rw [if_pos (by omega)] | rw [if_neg (by omega)])))]) (List.nil_sublist _) rfl
  · replace hq3 := of_decide_eq_false hq3
    refine GC.skip ?_
    refine GE.thenN ?_
    refine GC.seq ?_
    refine GC.region ?_
    refine GL.val (v := (.int .u32 a)) (Ex.move rfl) (by decide) ?_
    refine GL.val (v := (.int .u32 a)) (Ex.assign rfl) (by decide) ?_
    refine GL.nil ?_
    refine GE.thenN ?_
    refine GC.ret ?_
    refine GC.ret1 rfl (Rv.tmp rfl) (fun wN HN => ?_)
    exact HN.ret () trivial (by rw [show Bt.gst a b = a from by first | (exfalso; omega) | (unfold Bt.gst; (repeat (first | rw [if_pos (by omega)] | rw [if_neg (by omega)])))]) (List.nil_sublist _) rfl

set_option maxRecDepth 100000 in
set_option maxHeartbeats 1000000 in
theorem median_p (a b c : Int) (w : World) (ha : 0 ≤ a ∧ a < 4294967296) (hb : 0 ≤ b ∧ b < 4294967296) (hc : 0 ≤ c ∧ c < 4294967296) :
    Calls Try.prog 38 #[(.int .u32 a), (.int .u32 b), (.int .u32 c)] w (Ret w (fun _ : Unit => True) (fun _ => (.int .u32 (Bt.med a b c))) (fun _ => [])) := by
  refine enter (M := None) (L := []) (n := 16) (l := [(0, (.int .u32 a)), (1, (.int .u32 b)), (2, (.int .u32 c))]) Try.func38 rfl rfl (Args.cons rfl (Args.cons rfl (Args.cons rfl (Args.nil _)))) (Hp.start _ _) ?_
  refine GC.seq ?_
  have hl0 : 0 ≤ Bt.lst a b ∧ Bt.lst a b < 4294967296 := by rcases Bt.lst_in a b with h | h <;> rw [h] <;> assumption
  have hl1 : 0 ≤ Bt.gst a b ∧ Bt.gst a b < 4294967296 := by rcases Bt.gst_in a b with h | h <;> rw [h] <;> assumption
  have hl2 : 0 ≤ Bt.lst (Bt.gst a b) c ∧ Bt.lst (Bt.gst a b) c < 4294967296 := by rcases Bt.lst_in (Bt.gst a b) c with h | h <;> rw [h] <;> assumption
  refine GC.region ?_
  refine GL.val (v := (.int .u32 0)) (Ex.assign rfl) (by decide) ?_
  refine GL.nil ?_
  refine GE.thenN ?_
  refine GC.seq ?_
  refine GC.region ?_
  refine GL.val (v := (.int .u32 a)) (Ex.move rfl) (by decide) ?_
  refine GL.val (v := (.int .u32 b)) (Ex.move rfl) (by decide) ?_
  refine GL.step (Stp.callR (σ := Unit) (p := fun rz => True) (v := fun rz => (.int .u32 (Bt.lst a b))) (N := fun rz => []) (vs := [(.int .u32 a), (.int .u32 b)]) rfl rfl T.own34 (by decide) (fun wc hw => least_p a b wc (by first | assumption | omega | exact Bt.lst_bd (by assumption) (by assumption) | exact Bt.gst_bd (by assumption) (by assumption) | exact Bt.key_bd (by assumption) | exact Bt.unkey_bd (by assumption) | exact Bt.nxt_bd (by assumption) | exact Bt.lst_bd (Bt.gst_bd (by assumption) (by assumption)) (by assumption) | exact Bt.btw_bd (by assumption) (Bt.lst_bd (by assumption) (by assumption)) (Bt.gst_bd (by assumption) (by assumption))) (by first | assumption | omega | exact Bt.lst_bd (by assumption) (by assumption) | exact Bt.gst_bd (by assumption) (by assumption) | exact Bt.key_bd (by assumption) | exact Bt.unkey_bd (by assumption) | exact Bt.nxt_bd (by assumption) | exact Bt.lst_bd (Bt.gst_bd (by assumption) (by assumption)) (by assumption) | exact Bt.btw_bd (by assumption) (Bt.lst_bd (by assumption) (by assumption)) (Bt.gst_bd (by assumption) (by assumption))))) (fun xq1 hq2 => ?_)
  refine GL.val (v := (.int .u32 a)) (Ex.move rfl) (by decide) ?_
  refine GL.val (v := (.int .u32 b)) (Ex.move rfl) (by decide) ?_
  refine GL.step (Stp.callR (σ := Unit) (p := fun rz => True) (v := fun rz => (.int .u32 (Bt.gst a b))) (N := fun rz => []) (vs := [(.int .u32 a), (.int .u32 b)]) rfl rfl T.own36 (by decide) (fun wc hw => greatest_p a b wc (by first | assumption | omega | exact Bt.lst_bd (by assumption) (by assumption) | exact Bt.gst_bd (by assumption) (by assumption) | exact Bt.key_bd (by assumption) | exact Bt.unkey_bd (by assumption) | exact Bt.nxt_bd (by assumption) | exact Bt.lst_bd (Bt.gst_bd (by assumption) (by assumption)) (by assumption) | exact Bt.btw_bd (by assumption) (Bt.lst_bd (by assumption) (by assumption)) (Bt.gst_bd (by assumption) (by assumption))) (by first | assumption | omega | exact Bt.lst_bd (by assumption) (by assumption) | exact Bt.gst_bd (by assumption) (by assumption) | exact Bt.key_bd (by assumption) | exact Bt.unkey_bd (by assumption) | exact Bt.nxt_bd (by assumption) | exact Bt.lst_bd (Bt.gst_bd (by assumption) (by assumption)) (by assumption) | exact Bt.btw_bd (by assumption) (Bt.lst_bd (by assumption) (by assumption)) (Bt.gst_bd (by assumption) (by assumption))))) (fun xq3 hq4 => ?_)
  refine GL.val (v := (.int .u32 c)) (Ex.move rfl) (by decide) ?_
  refine GL.step (Stp.callR (σ := Unit) (p := fun rz => True) (v := fun rz => (.int .u32 (Bt.lst (Bt.gst a b) c))) (N := fun rz => []) (vs := [(.int .u32 (Bt.gst a b)), (.int .u32 c)]) rfl rfl T.own34 (by decide) (fun wc hw => least_p (Bt.gst a b) c wc (by first | assumption | omega | exact Bt.lst_bd (by assumption) (by assumption) | exact Bt.gst_bd (by assumption) (by assumption) | exact Bt.key_bd (by assumption) | exact Bt.unkey_bd (by assumption) | exact Bt.nxt_bd (by assumption) | exact Bt.lst_bd (Bt.gst_bd (by assumption) (by assumption)) (by assumption) | exact Bt.btw_bd (by assumption) (Bt.lst_bd (by assumption) (by assumption)) (Bt.gst_bd (by assumption) (by assumption))) (by first | assumption | omega | exact Bt.lst_bd (by assumption) (by assumption) | exact Bt.gst_bd (by assumption) (by assumption) | exact Bt.key_bd (by assumption) | exact Bt.unkey_bd (by assumption) | exact Bt.nxt_bd (by assumption) | exact Bt.lst_bd (Bt.gst_bd (by assumption) (by assumption)) (by assumption) | exact Bt.btw_bd (by assumption) (Bt.lst_bd (by assumption) (by assumption)) (Bt.gst_bd (by assumption) (by assumption))))) (fun xq5 hq6 => ?_)
  refine GL.step (Stp.callR (σ := Unit) (p := fun rz => True) (v := fun rz => (.int .u32 (Bt.gst (Bt.lst a b) (Bt.lst (Bt.gst a b) c)))) (N := fun rz => []) (vs := [(.int .u32 (Bt.lst a b)), (.int .u32 (Bt.lst (Bt.gst a b) c))]) rfl rfl T.own36 (by decide) (fun wc hw => greatest_p (Bt.lst a b) (Bt.lst (Bt.gst a b) c) wc (by first | assumption | omega | exact Bt.lst_bd (by assumption) (by assumption) | exact Bt.gst_bd (by assumption) (by assumption) | exact Bt.key_bd (by assumption) | exact Bt.unkey_bd (by assumption) | exact Bt.nxt_bd (by assumption) | exact Bt.lst_bd (Bt.gst_bd (by assumption) (by assumption)) (by assumption) | exact Bt.btw_bd (by assumption) (Bt.lst_bd (by assumption) (by assumption)) (Bt.gst_bd (by assumption) (by assumption))) (by first | assumption | omega | exact Bt.lst_bd (by assumption) (by assumption) | exact Bt.gst_bd (by assumption) (by assumption) | exact Bt.key_bd (by assumption) | exact Bt.unkey_bd (by assumption) | exact Bt.nxt_bd (by assumption) | exact Bt.lst_bd (Bt.gst_bd (by assumption) (by assumption)) (by assumption) | exact Bt.btw_bd (by assumption) (Bt.lst_bd (by assumption) (by assumption)) (Bt.gst_bd (by assumption) (by assumption))))) (fun xq7 hq8 => ?_)
  refine GL.val (v := (.int .u32 (Bt.gst (Bt.lst a b) (Bt.lst (Bt.gst a b) c)))) (Ex.assign rfl) (by decide) ?_
  refine GL.nil ?_
  refine GE.thenN ?_
  refine GC.ret ?_
  refine GC.ret1 rfl (Rv.tmp rfl) (fun wN HN => ?_)
  exact HN.ret () trivial rfl (List.nil_sublist _) rfl

set_option maxRecDepth 100000 in
set_option maxHeartbeats 1000000 in
theorem median_r (a b c : Int) (w : World) (ha : 0 ≤ a ∧ a < 4294967296) (hb : 0 ≤ b ∧ b < 4294967296) (hc : 0 ≤ c ∧ c < 4294967296) :
    Calls Try.prog 39 #[(.int .u32 a), (.int .u32 b), (.int .u32 c)] w (Ret w (fun _ : Unit => True) (fun _ => (.int .u32 (Bt.med a b c))) (fun _ => [])) := by
  refine enter (M := None) (L := []) (n := 22) (l := [(0, (.int .u32 a)), (1, (.int .u32 b)), (2, (.int .u32 c))]) Try.func39 rfl rfl (Args.cons rfl (Args.cons rfl (Args.cons rfl (Args.nil _)))) (Hp.start _ _) ?_
  refine GC.seq ?_
  refine GC.region ?_
  refine GL.val (v := (.int .u32 0)) (Ex.assign rfl) (by decide) ?_
  refine GL.nil ?_
  refine GE.thenN ?_
  refine GC.seq ?_
  refine GC.seq ?_
  refine GC.region ?_
  refine GL.val (v := (.int .u32 b)) (Ex.move rfl) (by decide) ?_
  refine GL.val (v := (.int .u32 a)) (Ex.move rfl) (by decide) ?_
  refine GL.step (Stp.callR (σ := Unit) (p := fun rz => True) (v := fun rz => (.bool (decide (Bt.key b < Bt.key a)))) (N := fun rz => []) (vs := [(.int .u32 b), (.int .u32 a)]) rfl rfl T.own32 (by decide) (fun wc hw => before_r b a wc (by first | assumption | omega | exact Bt.lst_bd (by assumption) (by assumption) | exact Bt.gst_bd (by assumption) (by assumption) | exact Bt.key_bd (by assumption) | exact Bt.unkey_bd (by assumption) | exact Bt.nxt_bd (by assumption) | exact Bt.lst_bd (Bt.gst_bd (by assumption) (by assumption)) (by assumption) | exact Bt.btw_bd (by assumption) (Bt.lst_bd (by assumption) (by assumption)) (Bt.gst_bd (by assumption) (by assumption))) (by first | assumption | omega | exact Bt.lst_bd (by assumption) (by assumption) | exact Bt.gst_bd (by assumption) (by assumption) | exact Bt.key_bd (by assumption) | exact Bt.unkey_bd (by assumption) | exact Bt.nxt_bd (by assumption) | exact Bt.lst_bd (Bt.gst_bd (by assumption) (by assumption)) (by assumption) | exact Bt.btw_bd (by assumption) (Bt.lst_bd (by assumption) (by assumption)) (Bt.gst_bd (by assumption) (by assumption))))) (fun xq1 hq2 => ?_)
  refine GL.nil ?_
  refine GE.thenN ?_
  refine GC.cond rfl (fun hq3 => ?_) (fun hq3 => ?_)
  · replace hq3 := of_decide_eq_true hq3
    refine GC.region ?_
    refine GL.val (v := (.int .u32 b)) (Ex.move rfl) (by decide) ?_
    refine GL.val (v := (.int .u32 a)) (Ex.move rfl) (by decide) ?_
    refine GL.val (v := (.int .u32 b)) (Ex.assign rfl) (by decide) ?_
    refine GL.val (v := (.int .u32 a)) (Ex.assign rfl) (by decide) ?_
    refine GL.nil ?_
    refine GE.thenN ?_
    refine GC.seq ?_
    refine GC.seq ?_
    refine GC.region ?_
    refine GL.val (v := (.int .u32 c)) (Ex.move rfl) (by decide) ?_
    refine GL.val (v := (.int .u32 a)) (Ex.move rfl) (by decide) ?_
    refine GL.step (Stp.callR (σ := Unit) (p := fun rz => True) (v := fun rz => (.bool (decide (Bt.key c < Bt.key a)))) (N := fun rz => []) (vs := [(.int .u32 c), (.int .u32 a)]) rfl rfl T.own32 (by decide) (fun wc hw => before_r c a wc (by first | assumption | omega | exact Bt.lst_bd (by assumption) (by assumption) | exact Bt.gst_bd (by assumption) (by assumption) | exact Bt.key_bd (by assumption) | exact Bt.unkey_bd (by assumption) | exact Bt.nxt_bd (by assumption) | exact Bt.lst_bd (Bt.gst_bd (by assumption) (by assumption)) (by assumption) | exact Bt.btw_bd (by assumption) (Bt.lst_bd (by assumption) (by assumption)) (Bt.gst_bd (by assumption) (by assumption))) (by first | assumption | omega | exact Bt.lst_bd (by assumption) (by assumption) | exact Bt.gst_bd (by assumption) (by assumption) | exact Bt.key_bd (by assumption) | exact Bt.unkey_bd (by assumption) | exact Bt.nxt_bd (by assumption) | exact Bt.lst_bd (Bt.gst_bd (by assumption) (by assumption)) (by assumption) | exact Bt.btw_bd (by assumption) (Bt.lst_bd (by assumption) (by assumption)) (Bt.gst_bd (by assumption) (by assumption))))) (fun xq4 hq5 => ?_)
    refine GL.nil ?_
    refine GE.thenN ?_
    refine GC.cond rfl (fun hq6 => ?_) (fun hq6 => ?_)
    · replace hq6 := of_decide_eq_true hq6
      refine GC.region ?_
      refine GL.val (v := (.int .u32 c)) (Ex.move rfl) (by decide) ?_
      refine GL.val (v := (.int .u32 a)) (Ex.move rfl) (by decide) ?_
      refine GL.val (v := (.int .u32 c)) (Ex.assign rfl) (by decide) ?_
      refine GL.val (v := (.int .u32 a)) (Ex.assign rfl) (by decide) ?_
      refine GL.nil ?_
      refine GE.thenN ?_
      refine GC.seq ?_
      refine GC.seq ?_
      refine GC.region ?_
      refine GL.val (v := (.int .u32 c)) (Ex.move rfl) (by decide) ?_
      refine GL.val (v := (.int .u32 b)) (Ex.move rfl) (by decide) ?_
      refine GL.step (Stp.callR (σ := Unit) (p := fun rz => True) (v := fun rz => (.bool (decide (Bt.key c < Bt.key b)))) (N := fun rz => []) (vs := [(.int .u32 c), (.int .u32 b)]) rfl rfl T.own32 (by decide) (fun wc hw => before_r c b wc (by first | assumption | omega | exact Bt.lst_bd (by assumption) (by assumption) | exact Bt.gst_bd (by assumption) (by assumption) | exact Bt.key_bd (by assumption) | exact Bt.unkey_bd (by assumption) | exact Bt.nxt_bd (by assumption) | exact Bt.lst_bd (Bt.gst_bd (by assumption) (by assumption)) (by assumption) | exact Bt.btw_bd (by assumption) (Bt.lst_bd (by assumption) (by assumption)) (Bt.gst_bd (by assumption) (by assumption))) (by first | assumption | omega | exact Bt.lst_bd (by assumption) (by assumption) | exact Bt.gst_bd (by assumption) (by assumption) | exact Bt.key_bd (by assumption) | exact Bt.unkey_bd (by assumption) | exact Bt.nxt_bd (by assumption) | exact Bt.lst_bd (Bt.gst_bd (by assumption) (by assumption)) (by assumption) | exact Bt.btw_bd (by assumption) (Bt.lst_bd (by assumption) (by assumption)) (Bt.gst_bd (by assumption) (by assumption))))) (fun xq7 hq8 => ?_)
      refine GL.nil ?_
      refine GE.thenN ?_
      refine GC.cond rfl (fun hq9 => ?_) (fun hq9 => ?_)
      · replace hq9 := of_decide_eq_true hq9
        refine GC.seq ?_
        refine GC.region ?_
        refine GL.val (v := (.int .u32 b)) (Ex.move rfl) (by decide) ?_
        refine GL.val (v := (.int .u32 b)) (Ex.assign rfl) (by decide) ?_
        refine GL.nil ?_
        refine GE.thenN ?_
        refine GC.ret ?_
        refine GE.thenR ?_
        refine GC.ret1 rfl (Rv.tmp rfl) (fun wN HN => ?_)
        exact HN.ret () trivial (by rw [show Bt.med a b c = b from by unfold Bt.med Bt.lst Bt.gst; (repeat' split) <;> first | rfl | (exfalso; omega) | (apply Bt.key_inj <;> first | assumption | omega)]) (List.nil_sublist _) rfl
      · replace hq9 := of_decide_eq_false hq9
        refine GC.skip ?_
        refine GE.thenN ?_
        refine GC.seq ?_
        refine GC.region ?_
        refine GL.val (v := (.int .u32 c)) (Ex.move rfl) (by decide) ?_
        refine GL.val (v := (.int .u32 c)) (Ex.assign rfl) (by decide) ?_
        refine GL.nil ?_
        refine GE.thenN ?_
        refine GC.ret ?_
        refine GC.ret1 rfl (Rv.tmp rfl) (fun wN HN => ?_)
        exact HN.ret () trivial (by rw [show Bt.med a b c = c from by unfold Bt.med Bt.lst Bt.gst; (repeat' split) <;> first | rfl | (exfalso; omega) | (apply Bt.key_inj <;> first | assumption | omega)]) (List.nil_sublist _) rfl
    · replace hq6 := of_decide_eq_false hq6
      refine GC.skip ?_
      refine GE.thenN ?_
      refine GC.seq ?_
      refine GC.seq ?_
      refine GC.region ?_
      refine GL.val (v := (.int .u32 a)) (Ex.move rfl) (by decide) ?_
      refine GL.val (v := (.int .u32 b)) (Ex.move rfl) (by decide) ?_
      refine GL.step (Stp.callR (σ := Unit) (p := fun rz => True) (v := fun rz => (.bool (decide (Bt.key a < Bt.key b)))) (N := fun rz => []) (vs := [(.int .u32 a), (.int .u32 b)]) rfl rfl T.own32 (by decide) (fun wc hw => before_r a b wc (by first | assumption | omega | exact Bt.lst_bd (by assumption) (by assumption) | exact Bt.gst_bd (by assumption) (by assumption) | exact Bt.key_bd (by assumption) | exact Bt.unkey_bd (by assumption) | exact Bt.nxt_bd (by assumption) | exact Bt.lst_bd (Bt.gst_bd (by assumption) (by assumption)) (by assumption) | exact Bt.btw_bd (by assumption) (Bt.lst_bd (by assumption) (by assumption)) (Bt.gst_bd (by assumption) (by assumption))) (by first | assumption | omega | exact Bt.lst_bd (by assumption) (by assumption) | exact Bt.gst_bd (by assumption) (by assumption) | exact Bt.key_bd (by assumption) | exact Bt.unkey_bd (by assumption) | exact Bt.nxt_bd (by assumption) | exact Bt.lst_bd (Bt.gst_bd (by assumption) (by assumption)) (by assumption) | exact Bt.btw_bd (by assumption) (Bt.lst_bd (by assumption) (by assumption)) (Bt.gst_bd (by assumption) (by assumption))))) (fun xq10 hq11 => ?_)
      refine GL.nil ?_
      refine GE.thenN ?_
      refine GC.cond rfl (fun hq12 => ?_) (fun hq12 => ?_)
      · replace hq12 := of_decide_eq_true hq12
        refine GC.seq ?_
        refine GC.region ?_
        refine GL.val (v := (.int .u32 b)) (Ex.move rfl) (by decide) ?_
        refine GL.val (v := (.int .u32 b)) (Ex.assign rfl) (by decide) ?_
        refine GL.nil ?_
        refine GE.thenN ?_
        refine GC.ret ?_
        refine GE.thenR ?_
        refine GC.ret1 rfl (Rv.tmp rfl) (fun wN HN => ?_)
        exact HN.ret () trivial (by rw [show Bt.med a b c = b from by unfold Bt.med Bt.lst Bt.gst; (repeat' split) <;> first | rfl | (exfalso; omega) | (apply Bt.key_inj <;> first | assumption | omega)]) (List.nil_sublist _) rfl
      · replace hq12 := of_decide_eq_false hq12
        refine GC.skip ?_
        refine GE.thenN ?_
        refine GC.seq ?_
        refine GC.region ?_
        refine GL.val (v := (.int .u32 a)) (Ex.move rfl) (by decide) ?_
        refine GL.val (v := (.int .u32 a)) (Ex.assign rfl) (by decide) ?_
        refine GL.nil ?_
        refine GE.thenN ?_
        refine GC.ret ?_
        refine GC.ret1 rfl (Rv.tmp rfl) (fun wN HN => ?_)
        exact HN.ret () trivial (by rw [show Bt.med a b c = a from by unfold Bt.med Bt.lst Bt.gst; (repeat' split) <;> first | rfl | (exfalso; omega) | (apply Bt.key_inj <;> first | assumption | omega)]) (List.nil_sublist _) rfl
  · replace hq3 := of_decide_eq_false hq3
    refine GC.skip ?_
    refine GE.thenN ?_
    refine GC.seq ?_
    refine GC.seq ?_
    refine GC.region ?_
    refine GL.val (v := (.int .u32 c)) (Ex.move rfl) (by decide) ?_
    refine GL.val (v := (.int .u32 b)) (Ex.move rfl) (by decide) ?_
    refine GL.step (Stp.callR (σ := Unit) (p := fun rz => True) (v := fun rz => (.bool (decide (Bt.key c < Bt.key b)))) (N := fun rz => []) (vs := [(.int .u32 c), (.int .u32 b)]) rfl rfl T.own32 (by decide) (fun wc hw => before_r c b wc (by first | assumption | omega | exact Bt.lst_bd (by assumption) (by assumption) | exact Bt.gst_bd (by assumption) (by assumption) | exact Bt.key_bd (by assumption) | exact Bt.unkey_bd (by assumption) | exact Bt.nxt_bd (by assumption) | exact Bt.lst_bd (Bt.gst_bd (by assumption) (by assumption)) (by assumption) | exact Bt.btw_bd (by assumption) (Bt.lst_bd (by assumption) (by assumption)) (Bt.gst_bd (by assumption) (by assumption))) (by first | assumption | omega | exact Bt.lst_bd (by assumption) (by assumption) | exact Bt.gst_bd (by assumption) (by assumption) | exact Bt.key_bd (by assumption) | exact Bt.unkey_bd (by assumption) | exact Bt.nxt_bd (by assumption) | exact Bt.lst_bd (Bt.gst_bd (by assumption) (by assumption)) (by assumption) | exact Bt.btw_bd (by assumption) (Bt.lst_bd (by assumption) (by assumption)) (Bt.gst_bd (by assumption) (by assumption))))) (fun xq13 hq14 => ?_)
    refine GL.nil ?_
    refine GE.thenN ?_
    refine GC.cond rfl (fun hq15 => ?_) (fun hq15 => ?_)
    · replace hq15 := of_decide_eq_true hq15
      refine GC.region ?_
      refine GL.val (v := (.int .u32 c)) (Ex.move rfl) (by decide) ?_
      refine GL.val (v := (.int .u32 b)) (Ex.move rfl) (by decide) ?_
      refine GL.val (v := (.int .u32 c)) (Ex.assign rfl) (by decide) ?_
      refine GL.val (v := (.int .u32 b)) (Ex.assign rfl) (by decide) ?_
      refine GL.nil ?_
      refine GE.thenN ?_
      refine GC.seq ?_
      refine GC.seq ?_
      refine GC.region ?_
      refine GL.val (v := (.int .u32 c)) (Ex.move rfl) (by decide) ?_
      refine GL.val (v := (.int .u32 a)) (Ex.move rfl) (by decide) ?_
      refine GL.step (Stp.callR (σ := Unit) (p := fun rz => True) (v := fun rz => (.bool (decide (Bt.key c < Bt.key a)))) (N := fun rz => []) (vs := [(.int .u32 c), (.int .u32 a)]) rfl rfl T.own32 (by decide) (fun wc hw => before_r c a wc (by first | assumption | omega | exact Bt.lst_bd (by assumption) (by assumption) | exact Bt.gst_bd (by assumption) (by assumption) | exact Bt.key_bd (by assumption) | exact Bt.unkey_bd (by assumption) | exact Bt.nxt_bd (by assumption) | exact Bt.lst_bd (Bt.gst_bd (by assumption) (by assumption)) (by assumption) | exact Bt.btw_bd (by assumption) (Bt.lst_bd (by assumption) (by assumption)) (Bt.gst_bd (by assumption) (by assumption))) (by first | assumption | omega | exact Bt.lst_bd (by assumption) (by assumption) | exact Bt.gst_bd (by assumption) (by assumption) | exact Bt.key_bd (by assumption) | exact Bt.unkey_bd (by assumption) | exact Bt.nxt_bd (by assumption) | exact Bt.lst_bd (Bt.gst_bd (by assumption) (by assumption)) (by assumption) | exact Bt.btw_bd (by assumption) (Bt.lst_bd (by assumption) (by assumption)) (Bt.gst_bd (by assumption) (by assumption))))) (fun xq16 hq17 => ?_)
      refine GL.nil ?_
      refine GE.thenN ?_
      refine GC.cond rfl (fun hq18 => ?_) (fun hq18 => ?_)
      · replace hq18 := of_decide_eq_true hq18
        refine GC.seq ?_
        refine GC.region ?_
        refine GL.val (v := (.int .u32 a)) (Ex.move rfl) (by decide) ?_
        refine GL.val (v := (.int .u32 a)) (Ex.assign rfl) (by decide) ?_
        refine GL.nil ?_
        refine GE.thenN ?_
        refine GC.ret ?_
        refine GE.thenR ?_
        refine GC.ret1 rfl (Rv.tmp rfl) (fun wN HN => ?_)
        exact HN.ret () trivial (by rw [show Bt.med a b c = a from by unfold Bt.med Bt.lst Bt.gst; (repeat' split) <;> first | rfl | (exfalso; omega) | (apply Bt.key_inj <;> first | assumption | omega)]) (List.nil_sublist _) rfl
      · replace hq18 := of_decide_eq_false hq18
        refine GC.skip ?_
        refine GE.thenN ?_
        refine GC.seq ?_
        refine GC.region ?_
        refine GL.val (v := (.int .u32 c)) (Ex.move rfl) (by decide) ?_
        refine GL.val (v := (.int .u32 c)) (Ex.assign rfl) (by decide) ?_
        refine GL.nil ?_
        refine GE.thenN ?_
        refine GC.ret ?_
        refine GC.ret1 rfl (Rv.tmp rfl) (fun wN HN => ?_)
        exact HN.ret () trivial (by rw [show Bt.med a b c = c from by unfold Bt.med Bt.lst Bt.gst; (repeat' split) <;> first | rfl | (exfalso; omega) | (apply Bt.key_inj <;> first | assumption | omega)]) (List.nil_sublist _) rfl
    · replace hq15 := of_decide_eq_false hq15
      refine GC.skip ?_
      refine GE.thenN ?_
      refine GC.seq ?_
      refine GC.seq ?_
      refine GC.region ?_
      refine GL.val (v := (.int .u32 b)) (Ex.move rfl) (by decide) ?_
      refine GL.val (v := (.int .u32 a)) (Ex.move rfl) (by decide) ?_
      refine GL.step (Stp.callR (σ := Unit) (p := fun rz => True) (v := fun rz => (.bool (decide (Bt.key b < Bt.key a)))) (N := fun rz => []) (vs := [(.int .u32 b), (.int .u32 a)]) rfl rfl T.own32 (by decide) (fun wc hw => before_r b a wc (by first | assumption | omega | exact Bt.lst_bd (by assumption) (by assumption) | exact Bt.gst_bd (by assumption) (by assumption) | exact Bt.key_bd (by assumption) | exact Bt.unkey_bd (by assumption) | exact Bt.nxt_bd (by assumption) | exact Bt.lst_bd (Bt.gst_bd (by assumption) (by assumption)) (by assumption) | exact Bt.btw_bd (by assumption) (Bt.lst_bd (by assumption) (by assumption)) (Bt.gst_bd (by assumption) (by assumption))) (by first | assumption | omega | exact Bt.lst_bd (by assumption) (by assumption) | exact Bt.gst_bd (by assumption) (by assumption) | exact Bt.key_bd (by assumption) | exact Bt.unkey_bd (by assumption) | exact Bt.nxt_bd (by assumption) | exact Bt.lst_bd (Bt.gst_bd (by assumption) (by assumption)) (by assumption) | exact Bt.btw_bd (by assumption) (Bt.lst_bd (by assumption) (by assumption)) (Bt.gst_bd (by assumption) (by assumption))))) (fun xq19 hq20 => ?_)
      refine GL.nil ?_
      refine GE.thenN ?_
      refine GC.cond rfl (fun hq21 => ?_) (fun hq21 => ?_)
      · replace hq21 := of_decide_eq_true hq21
        refine GC.seq ?_
        refine GC.region ?_
        refine GL.val (v := (.int .u32 a)) (Ex.move rfl) (by decide) ?_
        refine GL.val (v := (.int .u32 a)) (Ex.assign rfl) (by decide) ?_
        refine GL.nil ?_
        refine GE.thenN ?_
        refine GC.ret ?_
        refine GE.thenR ?_
        refine GC.ret1 rfl (Rv.tmp rfl) (fun wN HN => ?_)
        exact HN.ret () trivial (by rw [show Bt.med a b c = a from by unfold Bt.med Bt.lst Bt.gst; (repeat' split) <;> first | rfl | (exfalso; omega) | (apply Bt.key_inj <;> first | assumption | omega)]) (List.nil_sublist _) rfl
      · replace hq21 := of_decide_eq_false hq21
        refine GC.skip ?_
        refine GE.thenN ?_
        refine GC.seq ?_
        refine GC.region ?_
        refine GL.val (v := (.int .u32 b)) (Ex.move rfl) (by decide) ?_
        refine GL.val (v := (.int .u32 b)) (Ex.assign rfl) (by decide) ?_
        refine GL.nil ?_
        refine GE.thenN ?_
        refine GC.ret ?_
        refine GC.ret1 rfl (Rv.tmp rfl) (fun wN HN => ?_)
        exact HN.ret () trivial (by rw [show Bt.med a b c = b from by unfold Bt.med Bt.lst Bt.gst; (repeat' split) <;> first | rfl | (exfalso; omega) | (apply Bt.key_inj <;> first | assumption | omega)]) (List.nil_sublist _) rfl

set_option maxRecDepth 100000 in
set_option maxHeartbeats 1000000 in
theorem btw_p (a b c : Int) (w : World) (ha : 0 ≤ a ∧ a < 4294967296) (hb : 0 ≤ b ∧ b < 4294967296) (hc : 0 ≤ c ∧ c < 4294967296) :
    Calls Try.prog 40 #[(.int .u32 a), (.int .u32 b), (.int .u32 c)] w (Ret w (fun _ : Unit => True) (fun _ => (.int .u32 (Bt.btw a b c))) (fun _ => [])) := by
  refine enter (M := None) (L := []) (n := 12) (l := [(0, (.int .u32 a)), (1, (.int .u32 b)), (2, (.int .u32 c))]) Try.func40 rfl rfl (Args.cons rfl (Args.cons rfl (Args.cons rfl (Args.nil _)))) (Hp.start _ _) ?_
  refine GC.seq ?_
  have hl0 : 0 ≤ Bt.gst a b ∧ Bt.gst a b < 4294967296 := by rcases Bt.gst_in a b with h | h <;> rw [h] <;> assumption
  refine GC.region ?_
  refine GL.val (v := (.int .u32 0)) (Ex.assign rfl) (by decide) ?_
  refine GL.nil ?_
  refine GE.thenN ?_
  refine GC.seq ?_
  refine GC.region ?_
  refine GL.val (v := (.int .u32 a)) (Ex.move rfl) (by decide) ?_
  refine GL.val (v := (.int .u32 b)) (Ex.move rfl) (by decide) ?_
  refine GL.step (Stp.callR (σ := Unit) (p := fun rz => True) (v := fun rz => (.int .u32 (Bt.gst a b))) (N := fun rz => []) (vs := [(.int .u32 a), (.int .u32 b)]) rfl rfl T.own36 (by decide) (fun wc hw => greatest_p a b wc (by first | assumption | omega | exact Bt.lst_bd (by assumption) (by assumption) | exact Bt.gst_bd (by assumption) (by assumption) | exact Bt.key_bd (by assumption) | exact Bt.unkey_bd (by assumption) | exact Bt.nxt_bd (by assumption) | exact Bt.lst_bd (Bt.gst_bd (by assumption) (by assumption)) (by assumption) | exact Bt.btw_bd (by assumption) (Bt.lst_bd (by assumption) (by assumption)) (Bt.gst_bd (by assumption) (by assumption))) (by first | assumption | omega | exact Bt.lst_bd (by assumption) (by assumption) | exact Bt.gst_bd (by assumption) (by assumption) | exact Bt.key_bd (by assumption) | exact Bt.unkey_bd (by assumption) | exact Bt.nxt_bd (by assumption) | exact Bt.lst_bd (Bt.gst_bd (by assumption) (by assumption)) (by assumption) | exact Bt.btw_bd (by assumption) (Bt.lst_bd (by assumption) (by assumption)) (Bt.gst_bd (by assumption) (by assumption))))) (fun xq1 hq2 => ?_)
  refine GL.val (v := (.int .u32 c)) (Ex.move rfl) (by decide) ?_
  refine GL.step (Stp.callR (σ := Unit) (p := fun rz => True) (v := fun rz => (.int .u32 (Bt.lst (Bt.gst a b) c))) (N := fun rz => []) (vs := [(.int .u32 (Bt.gst a b)), (.int .u32 c)]) rfl rfl T.own34 (by decide) (fun wc hw => least_p (Bt.gst a b) c wc (by first | assumption | omega | exact Bt.lst_bd (by assumption) (by assumption) | exact Bt.gst_bd (by assumption) (by assumption) | exact Bt.key_bd (by assumption) | exact Bt.unkey_bd (by assumption) | exact Bt.nxt_bd (by assumption) | exact Bt.lst_bd (Bt.gst_bd (by assumption) (by assumption)) (by assumption) | exact Bt.btw_bd (by assumption) (Bt.lst_bd (by assumption) (by assumption)) (Bt.gst_bd (by assumption) (by assumption))) (by first | assumption | omega | exact Bt.lst_bd (by assumption) (by assumption) | exact Bt.gst_bd (by assumption) (by assumption) | exact Bt.key_bd (by assumption) | exact Bt.unkey_bd (by assumption) | exact Bt.nxt_bd (by assumption) | exact Bt.lst_bd (Bt.gst_bd (by assumption) (by assumption)) (by assumption) | exact Bt.btw_bd (by assumption) (Bt.lst_bd (by assumption) (by assumption)) (Bt.gst_bd (by assumption) (by assumption))))) (fun xq3 hq4 => ?_)
  refine GL.val (v := (.int .u32 (Bt.lst (Bt.gst a b) c))) (Ex.assign rfl) (by decide) ?_
  refine GL.nil ?_
  refine GE.thenN ?_
  refine GC.ret ?_
  refine GC.ret1 rfl (Rv.tmp rfl) (fun wN HN => ?_)
  exact HN.ret () trivial rfl (List.nil_sublist _) rfl

set_option maxRecDepth 100000 in
set_option maxHeartbeats 1000000 in
theorem btw_r (a b c : Int) (w : World) (ha : 0 ≤ a ∧ a < 4294967296) (hb : 0 ≤ b ∧ b < 4294967296) (hc : 0 ≤ c ∧ c < 4294967296) :
    Calls Try.prog 41 #[(.int .u32 a), (.int .u32 b), (.int .u32 c)] w (Ret w (fun _ : Unit => True) (fun _ => (.int .u32 (Bt.btw a b c))) (fun _ => [])) := by
  refine enter (M := None) (L := []) (n := 12) (l := [(0, (.int .u32 a)), (1, (.int .u32 b)), (2, (.int .u32 c))]) Try.func41 rfl rfl (Args.cons rfl (Args.cons rfl (Args.cons rfl (Args.nil _)))) (Hp.start _ _) ?_
  refine GC.seq ?_
  have hl0 : 0 ≤ Bt.gst a b ∧ Bt.gst a b < 4294967296 := by rcases Bt.gst_in a b with h | h <;> rw [h] <;> assumption
  refine GC.region ?_
  refine GL.val (v := (.int .u32 0)) (Ex.assign rfl) (by decide) ?_
  refine GL.nil ?_
  refine GE.thenN ?_
  refine GC.seq ?_
  refine GC.region ?_
  refine GL.val (v := (.int .u32 a)) (Ex.move rfl) (by decide) ?_
  refine GL.val (v := (.int .u32 b)) (Ex.move rfl) (by decide) ?_
  refine GL.step (Stp.callR (σ := Unit) (p := fun rz => True) (v := fun rz => (.int .u32 (Bt.gst a b))) (N := fun rz => []) (vs := [(.int .u32 a), (.int .u32 b)]) rfl rfl T.own37 (by decide) (fun wc hw => greatest_r a b wc (by first | assumption | omega | exact Bt.lst_bd (by assumption) (by assumption) | exact Bt.gst_bd (by assumption) (by assumption) | exact Bt.key_bd (by assumption) | exact Bt.unkey_bd (by assumption) | exact Bt.nxt_bd (by assumption) | exact Bt.lst_bd (Bt.gst_bd (by assumption) (by assumption)) (by assumption) | exact Bt.btw_bd (by assumption) (Bt.lst_bd (by assumption) (by assumption)) (Bt.gst_bd (by assumption) (by assumption))) (by first | assumption | omega | exact Bt.lst_bd (by assumption) (by assumption) | exact Bt.gst_bd (by assumption) (by assumption) | exact Bt.key_bd (by assumption) | exact Bt.unkey_bd (by assumption) | exact Bt.nxt_bd (by assumption) | exact Bt.lst_bd (Bt.gst_bd (by assumption) (by assumption)) (by assumption) | exact Bt.btw_bd (by assumption) (Bt.lst_bd (by assumption) (by assumption)) (Bt.gst_bd (by assumption) (by assumption))))) (fun xq1 hq2 => ?_)
  refine GL.val (v := (.int .u32 c)) (Ex.move rfl) (by decide) ?_
  refine GL.step (Stp.callR (σ := Unit) (p := fun rz => True) (v := fun rz => (.int .u32 (Bt.lst (Bt.gst a b) c))) (N := fun rz => []) (vs := [(.int .u32 (Bt.gst a b)), (.int .u32 c)]) rfl rfl T.own35 (by decide) (fun wc hw => least_r (Bt.gst a b) c wc (by first | assumption | omega | exact Bt.lst_bd (by assumption) (by assumption) | exact Bt.gst_bd (by assumption) (by assumption) | exact Bt.key_bd (by assumption) | exact Bt.unkey_bd (by assumption) | exact Bt.nxt_bd (by assumption) | exact Bt.lst_bd (Bt.gst_bd (by assumption) (by assumption)) (by assumption) | exact Bt.btw_bd (by assumption) (Bt.lst_bd (by assumption) (by assumption)) (Bt.gst_bd (by assumption) (by assumption))) (by first | assumption | omega | exact Bt.lst_bd (by assumption) (by assumption) | exact Bt.gst_bd (by assumption) (by assumption) | exact Bt.key_bd (by assumption) | exact Bt.unkey_bd (by assumption) | exact Bt.nxt_bd (by assumption) | exact Bt.lst_bd (Bt.gst_bd (by assumption) (by assumption)) (by assumption) | exact Bt.btw_bd (by assumption) (Bt.lst_bd (by assumption) (by assumption)) (Bt.gst_bd (by assumption) (by assumption))))) (fun xq3 hq4 => ?_)
  refine GL.val (v := (.int .u32 (Bt.lst (Bt.gst a b) c))) (Ex.assign rfl) (by decide) ?_
  refine GL.nil ?_
  refine GE.thenN ?_
  refine GC.ret ?_
  refine GC.ret1 rfl (Rv.tmp rfl) (fun wN HN => ?_)
  exact HN.ret () trivial rfl (List.nil_sublist _) rfl

end Go.Proofs.Ytnpmfinjommjkaa.B
