/- Bits' laws, walked. -/
import Derived.Test.YtnpmfinjommjkaaL1
namespace Go.Proofs.Ytnpmfinjommjkaa.B
open Go Go.RowKit Sx
set_option linter.unusedVariables false
set_option maxRecDepth 100000 in
set_option maxHeartbeats 1000000 in
theorem lawOrder (a b : Int) (w : World) (ha : 0 ≤ a ∧ a < 4294967296) (hb : 0 ≤ b ∧ b < 4294967296) :
    Calls Try.prog 6 #[(.int .u32 a), (.int .u32 b)] w (Ret w (fun _ : Unit => True) (fun _ => .bool true) (fun _ => [])) := by
  refine enter (M := None) (L := []) (n := 115) (l := [(0, (.int .u32 a)), (1, (.int .u32 b))]) Try.func6 rfl rfl (Args.cons rfl (Args.cons rfl (Args.nil _))) (Hp.start _ _) ?_
  refine GC.seq ?_
  refine GC.region ?_
  refine GL.val (v := (.bool false)) (Ex.assign rfl) (by decide) ?_
  refine GL.nil ?_
  refine GE.thenN ?_
  refine GC.seq ?_
  refine GC.seq ?_
  refine GC.region ?_
  refine GL.step (Stp.callR (σ := Unit) (p := fun rz => True) (v := fun rz => (.bool true)) (N := fun rz => []) (vs := []) rfl rfl T.own10 (by decide) (fun wc hw => known wc)) (fun xq1 hq2 => ?_)
  refine GL.val (v := (.bool false)) (Ex.cast (Ex.not rfl) rfl) (by decide) ?_
  refine GL.nil ?_
  refine GE.thenN ?_
  refine GC.cond rfl (fun hq3 => by cases hq3) (fun _ => ?_)
  refine GC.skip ?_
  refine GE.thenN ?_
  refine GC.seq ?_
  refine GC.seq ?_
  refine GC.region ?_
  refine GL.val (v := (.int .u32 a)) (Ex.move rfl) (by decide) ?_
  refine GL.step (Stp.callR (σ := Unit) (p := fun rz => True) (v := fun rz => (.int .u32 (Bt.key a))) (N := fun rz => []) (vs := [(.int .u32 a)]) rfl rfl T.own25 (by decide) (fun wc hw => key_p a wc (by first | assumption | omega | exact Bt.lst_bd (by assumption) (by assumption) | exact Bt.gst_bd (by assumption) (by assumption) | exact Bt.key_bd (by assumption) | exact Bt.unkey_bd (by assumption) | exact Bt.nxt_bd (by assumption) | exact Bt.lst_bd (Bt.gst_bd (by assumption) (by assumption)) (by assumption) | exact Bt.btw_bd (by assumption) (Bt.lst_bd (by assumption) (by assumption)) (Bt.gst_bd (by assumption) (by assumption))))) (fun xq4 hq5 => ?_)
  refine GL.step (Stp.callR (σ := Unit) (p := fun rz => True) (v := fun rz => (.int .u32 (Bt.unkey (Bt.key a)))) (N := fun rz => []) (vs := [(.int .u32 (Bt.key a))]) rfl rfl T.own27 (by decide) (fun wc hw => unkey_p (Bt.key a) wc (by first | assumption | omega | exact Bt.lst_bd (by assumption) (by assumption) | exact Bt.gst_bd (by assumption) (by assumption) | exact Bt.key_bd (by assumption) | exact Bt.unkey_bd (by assumption) | exact Bt.nxt_bd (by assumption) | exact Bt.lst_bd (Bt.gst_bd (by assumption) (by assumption)) (by assumption) | exact Bt.btw_bd (by assumption) (Bt.lst_bd (by assumption) (by assumption)) (Bt.gst_bd (by assumption) (by assumption))))) (fun xq6 hq7 => ?_)
  refine GL.val (v := (.int .u32 a)) (Ex.move rfl) (by decide) ?_
  refine GL.val (v := (.bool false)) (Ex.cast (Ex.neq rfl rfl) (congrArg Value.bool (decide_eq_false (by exact fun h => h (Bt.unkey_key ha))))) (by decide) ?_
  refine GL.val (v := (.bool false)) (Ex.move rfl) (by decide) ?_
  refine GL.stepG (tj := 18) rfl rfl (Ex.wp (v := (.int .u32 a)) (Ex.move rfl) (by decide)) (fun _ _ => ?_)
  refine GL.stepG (tj := 18) rfl rfl (Stp.callR (σ := Unit) (p := fun rz => True) (v := fun rz => (.int .u32 (Bt.unkey a))) (N := fun rz => []) (vs := [(.int .u32 a)]) rfl rfl T.own27 (by decide) (fun wc hw => unkey_p a wc (by first | assumption | omega | exact Bt.lst_bd (by assumption) (by assumption) | exact Bt.gst_bd (by assumption) (by assumption) | exact Bt.key_bd (by assumption) | exact Bt.unkey_bd (by assumption) | exact Bt.nxt_bd (by assumption) | exact Bt.lst_bd (Bt.gst_bd (by assumption) (by assumption)) (by assumption) | exact Bt.btw_bd (by assumption) (Bt.lst_bd (by assumption) (by assumption)) (Bt.gst_bd (by assumption) (by assumption))))) (fun xq8 hq9 => ?_)
  refine GL.stepG (tj := 18) rfl rfl (Stp.callR (σ := Unit) (p := fun rz => True) (v := fun rz => (.int .u32 (Bt.key (Bt.unkey a)))) (N := fun rz => []) (vs := [(.int .u32 (Bt.unkey a))]) rfl rfl T.own25 (by decide) (fun wc hw => key_p (Bt.unkey a) wc (by first | assumption | omega | exact Bt.lst_bd (by assumption) (by assumption) | exact Bt.gst_bd (by assumption) (by assumption) | exact Bt.key_bd (by assumption) | exact Bt.unkey_bd (by assumption) | exact Bt.nxt_bd (by assumption) | exact Bt.lst_bd (Bt.gst_bd (by assumption) (by assumption)) (by assumption) | exact Bt.btw_bd (by assumption) (Bt.lst_bd (by assumption) (by assumption)) (Bt.gst_bd (by assumption) (by assumption))))) (fun xq10 hq11 => ?_)
  refine GL.stepG (tj := 18) rfl rfl (Ex.wp (v := (.int .u32 a)) (Ex.move rfl) (by decide)) (fun _ _ => ?_)
  refine GL.stepG (tj := 18) rfl rfl (Ex.wp (v := (.bool false)) (Ex.cast (Ex.neq rfl rfl) (congrArg Value.bool (decide_eq_false (by exact fun h => h (Bt.key_unkey ha))))) (by decide)) (fun _ _ => ?_)
  refine GL.val (v := (.bool false)) (Ex.pickF rfl rfl) (by decide) ?_
  refine GL.nil ?_
  refine GE.thenN ?_
  refine GC.cond rfl (fun hq12 => by cases hq12) (fun _ => ?_)
  refine GC.skip ?_
  refine GE.thenN ?_
  refine GC.seq ?_
  refine GC.region ?_
  refine GL.val (v := (.int .u32 a)) (Ex.move rfl) (by decide) ?_
  refine GL.step (Stp.callR (σ := Unit) (p := fun rz => True) (v := fun rz => (.tuple #[(.int .u32 ((Bt.nxt a).1)), (.bool ((Bt.nxt a).2))])) (N := fun rz => []) (vs := [(.int .u32 a)]) rfl rfl T.own21 (by decide) (fun wc hw => next_p a wc (by first | assumption | omega | exact Bt.lst_bd (by assumption) (by assumption) | exact Bt.gst_bd (by assumption) (by assumption) | exact Bt.key_bd (by assumption) | exact Bt.unkey_bd (by assumption) | exact Bt.nxt_bd (by assumption) | exact Bt.lst_bd (Bt.gst_bd (by assumption) (by assumption)) (by assumption) | exact Bt.btw_bd (by assumption) (Bt.lst_bd (by assumption) (by assumption)) (Bt.gst_bd (by assumption) (by assumption))))) (fun xq13 hq14 => ?_)
  refine GL.val (v := (.tuple #[(.int .u32 ((Bt.nxt a).1)), (.bool ((Bt.nxt a).2))])) (Ex.move rfl) (by decide) ?_
  refine GL.val (v := (.int .u32 ((Bt.nxt a).1))) (Ex.extract rfl rfl) (by decide) ?_
  refine GL.val (v := (.bool ((Bt.nxt a).2))) (Ex.extract rfl rfl) (by decide) ?_
  refine GL.val (v := (.int .u32 ((Bt.nxt a).1))) (Ex.assign rfl) (by decide) ?_
  refine GL.val (v := (.bool ((Bt.nxt a).2))) (Ex.assign rfl) (by decide) ?_
  refine GL.nil ?_
  refine GE.thenN ?_
  refine GC.seq ?_
  refine GC.region ?_
  refine GL.val (v := (.int .u32 ((Bt.nxt a).1))) (Ex.move rfl) (by decide) ?_
  refine GL.step (Stp.callR (σ := Unit) (p := fun rz => True) (v := fun rz => (.tuple #[(.int .u32 ((Bt.prv ((Bt.nxt a).1)).1)), (.bool ((Bt.prv ((Bt.nxt a).1)).2))])) (N := fun rz => []) (vs := [(.int .u32 ((Bt.nxt a).1))]) rfl rfl T.own23 (by decide) (fun wc hw => prev_p ((Bt.nxt a).1) wc (by first | assumption | omega | exact Bt.lst_bd (by assumption) (by assumption) | exact Bt.gst_bd (by assumption) (by assumption) | exact Bt.key_bd (by assumption) | exact Bt.unkey_bd (by assumption) | exact Bt.nxt_bd (by assumption) | exact Bt.lst_bd (Bt.gst_bd (by assumption) (by assumption)) (by assumption) | exact Bt.btw_bd (by assumption) (Bt.lst_bd (by assumption) (by assumption)) (Bt.gst_bd (by assumption) (by assumption))))) (fun xq15 hq16 => ?_)
  refine GL.val (v := (.tuple #[(.int .u32 ((Bt.prv ((Bt.nxt a).1)).1)), (.bool ((Bt.prv ((Bt.nxt a).1)).2))])) (Ex.move rfl) (by decide) ?_
  refine GL.val (v := (.int .u32 ((Bt.prv ((Bt.nxt a).1)).1))) (Ex.extract rfl rfl) (by decide) ?_
  refine GL.val (v := (.bool ((Bt.prv ((Bt.nxt a).1)).2))) (Ex.extract rfl rfl) (by decide) ?_
  refine GL.val (v := (.int .u32 ((Bt.prv ((Bt.nxt a).1)).1))) (Ex.assign rfl) (by decide) ?_
  refine GL.val (v := (.bool ((Bt.prv ((Bt.nxt a).1)).2))) (Ex.assign rfl) (by decide) ?_
  refine GL.nil ?_
  refine GE.thenN ?_
  refine GC.seq ?_
  refine GC.seq ?_
  refine GC.region ?_
  by_cases hq17 : ((Bt.nxt a).2) = true
  · refine GL.val (v := (.bool true)) (Ex.cast (Ex.move rfl) (congrArg Value.bool (hq17))) (by decide) ?_
    refine GL.val (v := (.bool true)) (Ex.move rfl) (by decide) ?_
    refine GL.stepG (tj := 36) rfl rfl (Ex.wp (v := (.bool true)) (Ex.cast (Ex.move rfl) (congrArg Value.bool ((by exact (Bt.nxt_one ha (by assumption)).1)))) (by decide)) (fun _ _ => ?_)
    refine GL.stepG (tj := 36) rfl rfl (Ex.wp (v := (.bool false)) (Ex.cast (Ex.not rfl) rfl) (by decide)) (fun _ _ => ?_)
    refine GL.stepG (tj := 36) rfl rfl (Ex.wp (v := (.bool false)) (Ex.move rfl) (by decide)) (fun _ _ => ?_)
    refine GL.stepG (tj := 39) rfl rfl (Ex.wp (v := (.int .u32 ((Bt.prv ((Bt.nxt a).1)).1))) (Ex.move rfl) (by decide)) (fun _ _ => ?_)
    refine GL.stepG (tj := 39) rfl rfl (Ex.wp (v := (.int .u32 a)) (Ex.move rfl) (by decide)) (fun _ _ => ?_)
    refine GL.stepG (tj := 39) rfl rfl (Ex.wp (v := (.bool false)) (Ex.cast (Ex.neq rfl rfl) (congrArg Value.bool (decide_eq_false (by exact fun h => h (Bt.nxt_one ha (by assumption)).2.1)))) (by decide)) (fun _ _ => ?_)
    refine GL.stepG (tj := 36) rfl rfl (Ex.wp (v := (.bool false)) (Ex.pickF rfl rfl) (by decide)) (fun _ _ => ?_)
    refine GL.stepG (tj := 36) rfl rfl (Ex.wp (v := (.bool false)) (Ex.move rfl) (by decide)) (fun _ _ => ?_)
    refine GL.stepG (tj := 44) rfl rfl (Ex.wp (v := (.int .u32 a)) (Ex.move rfl) (by decide)) (fun _ _ => ?_)
    refine GL.stepG (tj := 44) rfl rfl (Ex.wp (v := (.int .u32 ((Bt.nxt a).1))) (Ex.move rfl) (by decide)) (fun _ _ => ?_)
    refine GL.stepG (tj := 44) rfl rfl (Stp.callR (σ := Unit) (p := fun rz => True) (v := fun rz => (.int .i64 (Bt.key ((Bt.nxt a).1) - Bt.key a))) (N := fun rz => []) (vs := [(.int .u32 a), (.int .u32 ((Bt.nxt a).1))]) rfl rfl T.own29 (by decide) (fun wc hw => apart_p a ((Bt.nxt a).1) wc (by first | assumption | omega | exact Bt.lst_bd (by assumption) (by assumption) | exact Bt.gst_bd (by assumption) (by assumption) | exact Bt.key_bd (by assumption) | exact Bt.unkey_bd (by assumption) | exact Bt.nxt_bd (by assumption) | exact Bt.lst_bd (Bt.gst_bd (by assumption) (by assumption)) (by assumption) | exact Bt.btw_bd (by assumption) (Bt.lst_bd (by assumption) (by assumption)) (Bt.gst_bd (by assumption) (by assumption))) (by first | assumption | omega | exact Bt.lst_bd (by assumption) (by assumption) | exact Bt.gst_bd (by assumption) (by assumption) | exact Bt.key_bd (by assumption) | exact Bt.unkey_bd (by assumption) | exact Bt.nxt_bd (by assumption) | exact Bt.lst_bd (Bt.gst_bd (by assumption) (by assumption)) (by assumption) | exact Bt.btw_bd (by assumption) (Bt.lst_bd (by assumption) (by assumption)) (Bt.gst_bd (by assumption) (by assumption))))) (fun xq18 hq19 => ?_)
    refine GL.stepG (tj := 44) rfl rfl (Ex.wp (v := (.bool false)) (Ex.cast (Ex.neq rfl rfl) (congrArg Value.bool (decide_eq_false (by exact fun h => h (Bt.nxt_one ha (by assumption)).2.2.1)))) (by decide)) (fun _ _ => ?_)
    refine GL.stepG (tj := 36) rfl rfl (Ex.wp (v := (.bool false)) (Ex.pickF rfl rfl) (by decide)) (fun _ _ => ?_)
    refine GL.val (v := (.bool false)) (Ex.pickT rfl rfl) (by decide) ?_
    refine GL.nil ?_
    refine GE.thenN ?_
    refine GC.cond rfl (fun hq20 => by cases hq20) (fun _ => ?_)
    refine GC.skip ?_
    refine GE.thenN ?_
    refine GC.seq ?_
    refine GC.region ?_
    refine GL.val (v := (.int .u32 a)) (Ex.move rfl) (by decide) ?_
    refine GL.val (v := (.float .f32 a.toNat)) (Ex.ext (vs := [(.int .u32 a)]) rfl rfl T.ext33 (fun _ => rfl)) (by decide) ?_
    refine GL.val (v := (.int .u32 b)) (Ex.move rfl) (by decide) ?_
    refine GL.val (v := (.float .f32 b.toNat)) (Ex.ext (vs := [(.int .u32 b)]) rfl rfl T.ext33 (fun _ => rfl)) (by decide) ?_
    refine GL.val (v := (.float .f32 a.toNat)) (Ex.assign rfl) (by decide) ?_
    refine GL.val (v := (.float .f32 b.toNat)) (Ex.assign rfl) (by decide) ?_
    refine GL.nil ?_
    refine GE.thenN ?_
    refine GC.seq ?_
    refine GC.seq ?_
    refine GC.region ?_
    refine GL.val (v := (.float .f32 a.toNat)) (Ex.move rfl) (by decide) ?_
    refine GL.val (v := (.float .f32 a.toNat)) (Ex.move rfl) (by decide) ?_
    by_cases hq21 : (Bt.cls a = 1)
    · refine GL.val (v := (.bool true)) (Ex.cast (Ex.fneq rfl rfl (r := decide (Bt.cls a = 1)) (Bt.ne_self ha)) (congrArg Value.bool (decide_eq_true hq21))) (by decide) ?_
      refine GL.val (v := (.bool true)) (Ex.move rfl) (by decide) ?_
      refine GL.skipG (tj := 58) rfl rfl rfl (by decide) ?_
      refine GL.skipG (tj := 58) rfl rfl rfl (by decide) ?_
      refine GL.skipG (tj := 58) rfl rfl rfl (by decide) ?_
      refine GL.val (v := (.bool true)) (Ex.pickT rfl rfl) (by decide) ?_
      refine GL.nil ?_
      refine GE.thenN ?_
      refine GC.cond rfl (fun _ => ?_) (fun hq22 => by cases hq22)
      refine GC.seq ?_
      refine GC.region ?_
      refine GL.val (v := (.int .u32 a)) (Ex.move rfl) (by decide) ?_
      refine GL.step (Stp.callR (σ := Unit) (p := fun rz => True) (v := fun rz => (.bool (decide (Bt.cls a = 1)))) (N := fun rz => []) (vs := [(.int .u32 a)]) rfl rfl T.own17 (by decide) (fun wc hw => nan_p a wc (by first | assumption | omega | exact Bt.lst_bd (by assumption) (by assumption) | exact Bt.gst_bd (by assumption) (by assumption) | exact Bt.key_bd (by assumption) | exact Bt.unkey_bd (by assumption) | exact Bt.nxt_bd (by assumption) | exact Bt.lst_bd (Bt.gst_bd (by assumption) (by assumption)) (by assumption) | exact Bt.btw_bd (by assumption) (Bt.lst_bd (by assumption) (by assumption)) (Bt.gst_bd (by assumption) (by assumption))))) (fun xq23 hq24 => ?_)
      refine GL.val (v := (.float .f32 a.toNat)) (Ex.move rfl) (by decide) ?_
      refine GL.val (v := (.float .f32 a.toNat)) (Ex.move rfl) (by decide) ?_
      refine GL.val (v := (.bool (decide (Bt.cls a = 1)))) (Ex.fneq rfl rfl (r := decide (Bt.cls a = 1)) (Bt.ne_self ha)) (by decide) ?_
      refine GL.val (v := (.bool true)) (Ex.cast (Ex.eqlB rfl rfl Try.underlying4) (by simp)) (by decide) ?_
      refine GL.val (v := (.bool true)) (Ex.move rfl) (by decide) ?_
      refine GL.stepG (tj := 69) rfl rfl (Ex.wp (v := (.int .u32 b)) (Ex.move rfl) (by decide)) (fun _ _ => ?_)
      refine GL.stepG (tj := 69) rfl rfl (Stp.callR (σ := Unit) (p := fun rz => True) (v := fun rz => (.bool (decide (Bt.cls b = 1)))) (N := fun rz => []) (vs := [(.int .u32 b)]) rfl rfl T.own17 (by decide) (fun wc hw => nan_p b wc (by first | assumption | omega | exact Bt.lst_bd (by assumption) (by assumption) | exact Bt.gst_bd (by assumption) (by assumption) | exact Bt.key_bd (by assumption) | exact Bt.unkey_bd (by assumption) | exact Bt.nxt_bd (by assumption) | exact Bt.lst_bd (Bt.gst_bd (by assumption) (by assumption)) (by assumption) | exact Bt.btw_bd (by assumption) (Bt.lst_bd (by assumption) (by assumption)) (Bt.gst_bd (by assumption) (by assumption))))) (fun xq25 hq26 => ?_)
      refine GL.stepG (tj := 69) rfl rfl (Ex.wp (v := (.float .f32 b.toNat)) (Ex.move rfl) (by decide)) (fun _ _ => ?_)
      refine GL.stepG (tj := 69) rfl rfl (Ex.wp (v := (.float .f32 b.toNat)) (Ex.move rfl) (by decide)) (fun _ _ => ?_)
      refine GL.stepG (tj := 69) rfl rfl (Ex.wp (v := (.bool (decide (Bt.cls b = 1)))) (Ex.fneq rfl rfl (r := decide (Bt.cls b = 1)) (Bt.ne_self hb)) (by decide)) (fun _ _ => ?_)
      refine GL.stepG (tj := 69) rfl rfl (Ex.wp (v := (.bool true)) (Ex.cast (Ex.eqlB rfl rfl Try.underlying4) (by simp)) (by decide)) (fun _ _ => ?_)
      refine GL.val (v := (.bool true)) (Ex.pickT rfl rfl) (by decide) ?_
      refine GL.val (v := (.bool true)) (Ex.assign rfl) (by decide) ?_
      refine GL.nil ?_
      refine GE.thenN ?_
      refine GC.ret ?_
      refine GE.thenR ?_
      refine GC.ret1 rfl (Rv.tmp rfl) (fun wN HN => ?_)
      exact HN.ret () trivial rfl (List.nil_sublist _) rfl
    · refine GL.val (v := (.bool false)) (Ex.cast (Ex.fneq rfl rfl (r := decide (Bt.cls a = 1)) (Bt.ne_self ha)) (congrArg Value.bool (decide_eq_false hq21))) (by decide) ?_
      refine GL.val (v := (.bool false)) (Ex.move rfl) (by decide) ?_
      refine GL.stepG (tj := 58) rfl rfl (Ex.wp (v := (.float .f32 b.toNat)) (Ex.move rfl) (by decide)) (fun _ _ => ?_)
      refine GL.stepG (tj := 58) rfl rfl (Ex.wp (v := (.float .f32 b.toNat)) (Ex.move rfl) (by decide)) (fun _ _ => ?_)
      refine GL.stepG (tj := 58) rfl rfl (Ex.wp (v := (.bool (decide (Bt.cls b = 1)))) (Ex.fneq rfl rfl (r := decide (Bt.cls b = 1)) (Bt.ne_self hb)) (by decide)) (fun _ _ => ?_)
      refine GL.val (v := (.bool (decide (Bt.cls b = 1)))) (Ex.pickF rfl rfl) (by decide) ?_
      refine GL.nil ?_
      refine GE.thenN ?_
      refine GC.cond rfl (fun hq27 => ?_) (fun hq27 => ?_)
      · replace hq27 := of_decide_eq_true hq27
        refine GC.seq ?_
        refine GC.region ?_
        refine GL.val (v := (.int .u32 a)) (Ex.move rfl) (by decide) ?_
        refine GL.step (Stp.callR (σ := Unit) (p := fun rz => True) (v := fun rz => (.bool (decide (Bt.cls a = 1)))) (N := fun rz => []) (vs := [(.int .u32 a)]) rfl rfl T.own17 (by decide) (fun wc hw => nan_p a wc (by first | assumption | omega | exact Bt.lst_bd (by assumption) (by assumption) | exact Bt.gst_bd (by assumption) (by assumption) | exact Bt.key_bd (by assumption) | exact Bt.unkey_bd (by assumption) | exact Bt.nxt_bd (by assumption) | exact Bt.lst_bd (Bt.gst_bd (by assumption) (by assumption)) (by assumption) | exact Bt.btw_bd (by assumption) (Bt.lst_bd (by assumption) (by assumption)) (Bt.gst_bd (by assumption) (by assumption))))) (fun xq28 hq29 => ?_)
        refine GL.val (v := (.float .f32 a.toNat)) (Ex.move rfl) (by decide) ?_
        refine GL.val (v := (.float .f32 a.toNat)) (Ex.move rfl) (by decide) ?_
        refine GL.val (v := (.bool (decide (Bt.cls a = 1)))) (Ex.fneq rfl rfl (r := decide (Bt.cls a = 1)) (Bt.ne_self ha)) (by decide) ?_
        refine GL.val (v := (.bool true)) (Ex.cast (Ex.eqlB rfl rfl Try.underlying4) (by simp)) (by decide) ?_
        refine GL.val (v := (.bool true)) (Ex.move rfl) (by decide) ?_
        refine GL.stepG (tj := 69) rfl rfl (Ex.wp (v := (.int .u32 b)) (Ex.move rfl) (by decide)) (fun _ _ => ?_)
        refine GL.stepG (tj := 69) rfl rfl (Stp.callR (σ := Unit) (p := fun rz => True) (v := fun rz => (.bool (decide (Bt.cls b = 1)))) (N := fun rz => []) (vs := [(.int .u32 b)]) rfl rfl T.own17 (by decide) (fun wc hw => nan_p b wc (by first | assumption | omega | exact Bt.lst_bd (by assumption) (by assumption) | exact Bt.gst_bd (by assumption) (by assumption) | exact Bt.key_bd (by assumption) | exact Bt.unkey_bd (by assumption) | exact Bt.nxt_bd (by assumption) | exact Bt.lst_bd (Bt.gst_bd (by assumption) (by assumption)) (by assumption) | exact Bt.btw_bd (by assumption) (Bt.lst_bd (by assumption) (by assumption)) (Bt.gst_bd (by assumption) (by assumption))))) (fun xq30 hq31 => ?_)
        refine GL.stepG (tj := 69) rfl rfl (Ex.wp (v := (.float .f32 b.toNat)) (Ex.move rfl) (by decide)) (fun _ _ => ?_)
        refine GL.stepG (tj := 69) rfl rfl (Ex.wp (v := (.float .f32 b.toNat)) (Ex.move rfl) (by decide)) (fun _ _ => ?_)
        refine GL.stepG (tj := 69) rfl rfl (Ex.wp (v := (.bool (decide (Bt.cls b = 1)))) (Ex.fneq rfl rfl (r := decide (Bt.cls b = 1)) (Bt.ne_self hb)) (by decide)) (fun _ _ => ?_)
        refine GL.stepG (tj := 69) rfl rfl (Ex.wp (v := (.bool true)) (Ex.cast (Ex.eqlB rfl rfl Try.underlying4) (by simp)) (by decide)) (fun _ _ => ?_)
        refine GL.val (v := (.bool true)) (Ex.pickT rfl rfl) (by decide) ?_
        refine GL.val (v := (.bool true)) (Ex.assign rfl) (by decide) ?_
        refine GL.nil ?_
        refine GE.thenN ?_
        refine GC.ret ?_
        refine GE.thenR ?_
        refine GC.ret1 rfl (Rv.tmp rfl) (fun wN HN => ?_)
        exact HN.ret () trivial rfl (List.nil_sublist _) rfl
      · replace hq27 := of_decide_eq_false hq27
        refine GC.skip ?_
        refine GE.thenN ?_
        refine GC.seq ?_
        refine GC.seq ?_
        refine GC.region ?_
        refine GL.val (v := (.float .f32 a.toNat)) (Ex.move rfl) (by decide) ?_
        refine GL.val (v := (.float .f32 b.toNat)) (Ex.move rfl) (by decide) ?_
        by_cases hq32 : (Bt.sval a < Bt.sval b)
        · refine GL.val (v := (.bool true)) (Ex.cast (Ex.flss rfl rfl (r := decide (Bt.sval a < Bt.sval b)) (Bt.lt_val ha hb (by assumption) (by assumption))) (congrArg Value.bool (decide_eq_true hq32))) (by decide) ?_
          refine GL.val (v := (.bool true)) (Ex.move rfl) (by decide) ?_
          refine GL.stepG (tj := 80) rfl rfl (Ex.wp (v := (.int .u32 a)) (Ex.move rfl) (by decide)) (fun _ _ => ?_)
          refine GL.stepG (tj := 80) rfl rfl (Ex.wp (v := (.int .u32 b)) (Ex.move rfl) (by decide)) (fun _ _ => ?_)
          refine GL.stepG (tj := 80) rfl rfl (Stp.callR (σ := Unit) (p := fun rz => True) (v := fun rz => (.bool (decide (Bt.key a < Bt.key b)))) (N := fun rz => []) (vs := [(.int .u32 a), (.int .u32 b)]) rfl rfl T.own31 (by decide) (fun wc hw => before_p a b wc (by first | assumption | omega | exact Bt.lst_bd (by assumption) (by assumption) | exact Bt.gst_bd (by assumption) (by assumption) | exact Bt.key_bd (by assumption) | exact Bt.unkey_bd (by assumption) | exact Bt.nxt_bd (by assumption) | exact Bt.lst_bd (Bt.gst_bd (by assumption) (by assumption)) (by assumption) | exact Bt.btw_bd (by assumption) (Bt.lst_bd (by assumption) (by assumption)) (Bt.gst_bd (by assumption) (by assumption))) (by first | assumption | omega | exact Bt.lst_bd (by assumption) (by assumption) | exact Bt.gst_bd (by assumption) (by assumption) | exact Bt.key_bd (by assumption) | exact Bt.unkey_bd (by assumption) | exact Bt.nxt_bd (by assumption) | exact Bt.lst_bd (Bt.gst_bd (by assumption) (by assumption)) (by assumption) | exact Bt.btw_bd (by assumption) (Bt.lst_bd (by assumption) (by assumption)) (Bt.gst_bd (by assumption) (by assumption))))) (fun xq33 hq34 => ?_)
          refine GL.stepG (tj := 80) rfl rfl (Ex.wp (v := (.bool false)) (Ex.cast (Ex.not rfl) (congrArg Value.bool (congrArg (fun z => !z) (decide_eq_true (by exact Bt.sval_lt ha hb (by assumption)))))) (by decide)) (fun _ _ => ?_)
          refine GL.val (v := (.bool false)) (Ex.pickT rfl rfl) (by decide) ?_
          refine GL.val (v := (.bool false)) (Ex.move rfl) (by decide) ?_
          refine GL.stepG (tj := 86) rfl rfl (Ex.wp (v := (.float .f32 b.toNat)) (Ex.move rfl) (by decide)) (fun _ _ => ?_)
          refine GL.stepG (tj := 86) rfl rfl (Ex.wp (v := (.float .f32 a.toNat)) (Ex.move rfl) (by decide)) (fun _ _ => ?_)
          by_cases hq35 : (Bt.sval b < Bt.sval a)
          · refine GL.stepG (tj := 86) rfl rfl (Ex.wp (v := (.bool true)) (Ex.cast (Ex.flss rfl rfl (r := decide (Bt.sval b < Bt.sval a)) (Bt.lt_val hb ha (by assumption) (by assumption))) (congrArg Value.bool (decide_eq_true hq35))) (by decide)) (fun _ _ => ?_)
            refine GL.stepG (tj := 86) rfl rfl (Ex.wp (v := (.bool true)) (Ex.move rfl) (by decide)) (fun _ _ => ?_)
            refine GL.stepG (tj := 90) rfl rfl (Ex.wp (v := (.int .u32 b)) (Ex.move rfl) (by decide)) (fun _ _ => ?_)
            refine GL.stepG (tj := 90) rfl rfl (Ex.wp (v := (.int .u32 a)) (Ex.move rfl) (by decide)) (fun _ _ => ?_)
            refine GL.stepG (tj := 90) rfl rfl (Stp.callR (σ := Unit) (p := fun rz => True) (v := fun rz => (.bool (decide (Bt.key b < Bt.key a)))) (N := fun rz => []) (vs := [(.int .u32 b), (.int .u32 a)]) rfl rfl T.own31 (by decide) (fun wc hw => before_p b a wc (by first | assumption | omega | exact Bt.lst_bd (by assumption) (by assumption) | exact Bt.gst_bd (by assumption) (by assumption) | exact Bt.key_bd (by assumption) | exact Bt.unkey_bd (by assumption) | exact Bt.nxt_bd (by assumption) | exact Bt.lst_bd (Bt.gst_bd (by assumption) (by assumption)) (by assumption) | exact Bt.btw_bd (by assumption) (Bt.lst_bd (by assumption) (by assumption)) (Bt.gst_bd (by assumption) (by assumption))) (by first | assumption | omega | exact Bt.lst_bd (by assumption) (by assumption) | exact Bt.gst_bd (by assumption) (by assumption) | exact Bt.key_bd (by assumption) | exact Bt.unkey_bd (by assumption) | exact Bt.nxt_bd (by assumption) | exact Bt.lst_bd (Bt.gst_bd (by assumption) (by assumption)) (by assumption) | exact Bt.btw_bd (by assumption) (Bt.lst_bd (by assumption) (by assumption)) (Bt.gst_bd (by assumption) (by assumption))))) (fun xq36 hq37 => ?_)
            refine GL.stepG (tj := 90) rfl rfl (Ex.wp (v := (.bool false)) (Ex.cast (Ex.not rfl) (congrArg Value.bool (congrArg (fun z => !z) (decide_eq_true (by exact Bt.sval_lt hb ha (by assumption)))))) (by decide)) (fun _ _ => ?_)
            refine GL.stepG (tj := 86) rfl rfl (Ex.wp (v := (.bool false)) (Ex.pickT rfl rfl) (by decide)) (fun _ _ => ?_)
            refine GL.val (v := (.bool false)) (Ex.pickF rfl rfl) (by decide) ?_
            refine GL.nil ?_
            refine GE.thenN ?_
            refine GC.cond rfl (fun hq38 => by cases hq38) (fun _ => ?_)
            refine GC.skip ?_
            refine GE.thenN ?_
            refine GC.seq ?_
            refine GC.region ?_
            refine GL.val (v := (.float .f32 a.toNat)) (Ex.move rfl) (by decide) ?_
            refine GL.val (v := (.float .f32 b.toNat)) (Ex.move rfl) (by decide) ?_
            by_cases hq39 : (Bt.sval a ≠ Bt.sval b)
            · refine GL.val (v := (.bool true)) (Ex.cast (Ex.fneq rfl rfl (r := decide (Bt.sval a ≠ Bt.sval b)) (Bt.ne_val ha hb (by assumption) (by assumption))) (congrArg Value.bool (decide_eq_true hq39))) (by decide) ?_
              refine GL.val (v := (.bool true)) (Ex.move rfl) (by decide) ?_
              refine GL.skipG (tj := 100) rfl rfl rfl (by decide) ?_
              refine GL.skipG (tj := 100) rfl rfl rfl (by decide) ?_
              refine GL.skipG (tj := 100) rfl rfl rfl (by decide) ?_
              refine GL.val (v := (.bool true)) (Ex.pickT rfl rfl) (by decide) ?_
              refine GL.val (v := (.bool true)) (Ex.move rfl) (by decide) ?_
              refine GL.skipG (tj := 105) rfl rfl rfl (by decide) ?_
              refine GL.skipG (tj := 105) rfl rfl rfl (by decide) ?_
              refine GL.skipG (tj := 105) rfl rfl rfl (by decide) ?_
              refine GL.skipG (tj := 105) rfl rfl rfl (by decide) ?_
              refine GL.skipU (tj := 109) rfl rfl (by decide) ?_
              refine GL.skipU (tj := 109) rfl rfl (by decide) ?_
              refine GL.skipU (tj := 109) rfl rfl (by decide) ?_
              refine GL.skipG (tj := 105) rfl rfl rfl (by decide) ?_
              refine GL.val (v := (.bool true)) (Ex.pickT rfl rfl) (by decide) ?_
              refine GL.val (v := (.bool true)) (Ex.assign rfl) (by decide) ?_
              refine GL.nil ?_
              refine GE.thenN ?_
              refine GC.ret ?_
              refine GC.ret1 rfl (Rv.tmp rfl) (fun wN HN => ?_)
              exact HN.ret () trivial rfl (List.nil_sublist _) rfl
            · refine GL.val (v := (.bool false)) (Ex.cast (Ex.fneq rfl rfl (r := decide (Bt.sval a ≠ Bt.sval b)) (Bt.ne_val ha hb (by assumption) (by assumption))) (congrArg Value.bool (decide_eq_false hq39))) (by decide) ?_
              refine GL.val (v := (.bool false)) (Ex.move rfl) (by decide) ?_
              refine GL.stepG (tj := 100) rfl rfl (Ex.wp (v := (.int .u32 a)) (Ex.move rfl) (by decide)) (fun _ _ => ?_)
              refine GL.stepG (tj := 100) rfl rfl (Ex.wp (v := (.int .u32 b)) (Ex.move rfl) (by decide)) (fun _ _ => ?_)
              by_cases hq40 : a = b
              · refine GL.stepG (tj := 100) rfl rfl (Ex.wp (v := (.bool true)) (Ex.cast (Ex.eql rfl rfl) (congrArg Value.bool (decide_eq_true hq40))) (by decide)) (fun _ _ => ?_)
                refine GL.val (v := (.bool true)) (Ex.pickF rfl rfl) (by decide) ?_
                refine GL.val (v := (.bool true)) (Ex.move rfl) (by decide) ?_
                refine GL.skipG (tj := 105) rfl rfl rfl (by decide) ?_
                refine GL.skipG (tj := 105) rfl rfl rfl (by decide) ?_
                refine GL.skipG (tj := 105) rfl rfl rfl (by decide) ?_
                refine GL.skipG (tj := 105) rfl rfl rfl (by decide) ?_
                refine GL.skipU (tj := 109) rfl rfl (by decide) ?_
                refine GL.skipU (tj := 109) rfl rfl (by decide) ?_
                refine GL.skipU (tj := 109) rfl rfl (by decide) ?_
                refine GL.skipG (tj := 105) rfl rfl rfl (by decide) ?_
                refine GL.val (v := (.bool true)) (Ex.pickT rfl rfl) (by decide) ?_
                refine GL.val (v := (.bool true)) (Ex.assign rfl) (by decide) ?_
                refine GL.nil ?_
                refine GE.thenN ?_
                refine GC.ret ?_
                refine GC.ret1 rfl (Rv.tmp rfl) (fun wN HN => ?_)
                exact HN.ret () trivial rfl (List.nil_sublist _) rfl
              · refine GL.stepG (tj := 100) rfl rfl (Ex.wp (v := (.bool false)) (Ex.cast (Ex.eql rfl rfl) (congrArg Value.bool (decide_eq_false hq40))) (by decide)) (fun _ _ => ?_)
                refine GL.val (v := (.bool false)) (Ex.pickF rfl rfl) (by decide) ?_
                refine GL.val (v := (.bool false)) (Ex.move rfl) (by decide) ?_
                refine GL.stepG (tj := 105) rfl rfl (Ex.wp (v := (.int .u32 a)) (Ex.move rfl) (by decide)) (fun _ _ => ?_)
                refine GL.stepG (tj := 105) rfl rfl (Stp.callR (σ := Unit) (p := fun rz => True) (v := fun rz => (.int .i64 (Bt.cls a))) (N := fun rz => []) (vs := [(.int .u32 a)]) rfl rfl T.own15 (by decide) (fun wc hw => cls_p a wc (by first | assumption | omega | exact Bt.lst_bd (by assumption) (by assumption) | exact Bt.gst_bd (by assumption) (by assumption) | exact Bt.key_bd (by assumption) | exact Bt.unkey_bd (by assumption) | exact Bt.nxt_bd (by assumption) | exact Bt.lst_bd (Bt.gst_bd (by assumption) (by assumption)) (by assumption) | exact Bt.btw_bd (by assumption) (Bt.lst_bd (by assumption) (by assumption)) (Bt.gst_bd (by assumption) (by assumption))))) (fun xq41 hq42 => ?_)
                refine GL.stepG (tj := 105) rfl rfl (Ex.wp (v := (.bool true)) (Ex.cast (Ex.eql rfl rfl) (congrArg Value.bool (decide_eq_true (by exact (Bt.sval_eq ha hb (by simp_all) (by assumption)).1)))) (by decide)) (fun _ _ => ?_)
                refine GL.stepG (tj := 105) rfl rfl (Ex.wp (v := (.bool true)) (Ex.move rfl) (by decide)) (fun _ _ => ?_)
                refine GL.stepG (tj := 109) rfl rfl (Ex.wp (v := (.int .u32 b)) (Ex.move rfl) (by decide)) (fun _ _ => ?_)
                refine GL.stepG (tj := 109) rfl rfl (Stp.callR (σ := Unit) (p := fun rz => True) (v := fun rz => (.int .i64 (Bt.cls b))) (N := fun rz => []) (vs := [(.int .u32 b)]) rfl rfl T.own15 (by decide) (fun wc hw => cls_p b wc (by first | assumption | omega | exact Bt.lst_bd (by assumption) (by assumption) | exact Bt.gst_bd (by assumption) (by assumption) | exact Bt.key_bd (by assumption) | exact Bt.unkey_bd (by assumption) | exact Bt.nxt_bd (by assumption) | exact Bt.lst_bd (Bt.gst_bd (by assumption) (by assumption)) (by assumption) | exact Bt.btw_bd (by assumption) (Bt.lst_bd (by assumption) (by assumption)) (Bt.gst_bd (by assumption) (by assumption))))) (fun xq43 hq44 => ?_)
                refine GL.stepG (tj := 109) rfl rfl (Ex.wp (v := (.bool true)) (Ex.cast (Ex.eql rfl rfl) (congrArg Value.bool (decide_eq_true (by exact (Bt.sval_eq ha hb (by simp_all) (by assumption)).2)))) (by decide)) (fun _ _ => ?_)
                refine GL.stepG (tj := 105) rfl rfl (Ex.wp (v := (.bool true)) (Ex.pickT rfl rfl) (by decide)) (fun _ _ => ?_)
                refine GL.val (v := (.bool true)) (Ex.pickF rfl rfl) (by decide) ?_
                refine GL.val (v := (.bool true)) (Ex.assign rfl) (by decide) ?_
                refine GL.nil ?_
                refine GE.thenN ?_
                refine GC.ret ?_
                refine GC.ret1 rfl (Rv.tmp rfl) (fun wN HN => ?_)
                exact HN.ret () trivial rfl (List.nil_sublist _) rfl
          · refine GL.stepG (tj := 86) rfl rfl (Ex.wp (v := (.bool false)) (Ex.cast (Ex.flss rfl rfl (r := decide (Bt.sval b < Bt.sval a)) (Bt.lt_val hb ha (by assumption) (by assumption))) (congrArg Value.bool (decide_eq_false hq35))) (by decide)) (fun _ _ => ?_)
            refine GL.stepG (tj := 86) rfl rfl (Ex.wp (v := (.bool false)) (Ex.move rfl) (by decide)) (fun _ _ => ?_)
            refine GL.skipG (tj := 90) rfl rfl rfl (by decide) ?_
            refine GL.skipG (tj := 90) rfl rfl rfl (by decide) ?_
            refine GL.skipG (tj := 90) rfl rfl rfl (by decide) ?_
            refine GL.skipG (tj := 90) rfl rfl rfl (by decide) ?_
            refine GL.stepG (tj := 86) rfl rfl (Ex.wp (v := (.bool false)) (Ex.pickF rfl rfl) (by decide)) (fun _ _ => ?_)
            refine GL.val (v := (.bool false)) (Ex.pickF rfl rfl) (by decide) ?_
            refine GL.nil ?_
            refine GE.thenN ?_
            refine GC.cond rfl (fun hq45 => by cases hq45) (fun _ => ?_)
            refine GC.skip ?_
            refine GE.thenN ?_
            refine GC.seq ?_
            refine GC.region ?_
            refine GL.val (v := (.float .f32 a.toNat)) (Ex.move rfl) (by decide) ?_
            refine GL.val (v := (.float .f32 b.toNat)) (Ex.move rfl) (by decide) ?_
            by_cases hq46 : (Bt.sval a ≠ Bt.sval b)
            · refine GL.val (v := (.bool true)) (Ex.cast (Ex.fneq rfl rfl (r := decide (Bt.sval a ≠ Bt.sval b)) (Bt.ne_val ha hb (by assumption) (by assumption))) (congrArg Value.bool (decide_eq_true hq46))) (by decide) ?_
              refine GL.val (v := (.bool true)) (Ex.move rfl) (by decide) ?_
              refine GL.skipG (tj := 100) rfl rfl rfl (by decide) ?_
              refine GL.skipG (tj := 100) rfl rfl rfl (by decide) ?_
              refine GL.skipG (tj := 100) rfl rfl rfl (by decide) ?_
              refine GL.val (v := (.bool true)) (Ex.pickT rfl rfl) (by decide) ?_
              refine GL.val (v := (.bool true)) (Ex.move rfl) (by decide) ?_
              refine GL.skipG (tj := 105) rfl rfl rfl (by decide) ?_
              refine GL.skipG (tj := 105) rfl rfl rfl (by decide) ?_
              refine GL.skipG (tj := 105) rfl rfl rfl (by decide) ?_
              refine GL.skipG (tj := 105) rfl rfl rfl (by decide) ?_
              refine GL.skipU (tj := 109) rfl rfl (by decide) ?_
              refine GL.skipU (tj := 109) rfl rfl (by decide) ?_
              refine GL.skipU (tj := 109) rfl rfl (by decide) ?_
              refine GL.skipG (tj := 105) rfl rfl rfl (by decide) ?_
              refine GL.val (v := (.bool true)) (Ex.pickT rfl rfl) (by decide) ?_
              refine GL.val (v := (.bool true)) (Ex.assign rfl) (by decide) ?_
              refine GL.nil ?_
              refine GE.thenN ?_
              refine GC.ret ?_
              refine GC.ret1 rfl (Rv.tmp rfl) (fun wN HN => ?_)
              exact HN.ret () trivial rfl (List.nil_sublist _) rfl
            · refine GL.val (v := (.bool false)) (Ex.cast (Ex.fneq rfl rfl (r := decide (Bt.sval a ≠ Bt.sval b)) (Bt.ne_val ha hb (by assumption) (by assumption))) (congrArg Value.bool (decide_eq_false hq46))) (by decide) ?_
              refine GL.val (v := (.bool false)) (Ex.move rfl) (by decide) ?_
              refine GL.stepG (tj := 100) rfl rfl (Ex.wp (v := (.int .u32 a)) (Ex.move rfl) (by decide)) (fun _ _ => ?_)
              refine GL.stepG (tj := 100) rfl rfl (Ex.wp (v := (.int .u32 b)) (Ex.move rfl) (by decide)) (fun _ _ => ?_)
              by_cases hq47 : a = b
              · refine GL.stepG (tj := 100) rfl rfl (Ex.wp (v := (.bool true)) (Ex.cast (Ex.eql rfl rfl) (congrArg Value.bool (decide_eq_true hq47))) (by decide)) (fun _ _ => ?_)
                refine GL.val (v := (.bool true)) (Ex.pickF rfl rfl) (by decide) ?_
                refine GL.val (v := (.bool true)) (Ex.move rfl) (by decide) ?_
                refine GL.skipG (tj := 105) rfl rfl rfl (by decide) ?_
                refine GL.skipG (tj := 105) rfl rfl rfl (by decide) ?_
                refine GL.skipG (tj := 105) rfl rfl rfl (by decide) ?_
                refine GL.skipG (tj := 105) rfl rfl rfl (by decide) ?_
                refine GL.skipU (tj := 109) rfl rfl (by decide) ?_
                refine GL.skipU (tj := 109) rfl rfl (by decide) ?_
                refine GL.skipU (tj := 109) rfl rfl (by decide) ?_
                refine GL.skipG (tj := 105) rfl rfl rfl (by decide) ?_
                refine GL.val (v := (.bool true)) (Ex.pickT rfl rfl) (by decide) ?_
                refine GL.val (v := (.bool true)) (Ex.assign rfl) (by decide) ?_
                refine GL.nil ?_
                refine GE.thenN ?_
                refine GC.ret ?_
                refine GC.ret1 rfl (Rv.tmp rfl) (fun wN HN => ?_)
                exact HN.ret () trivial rfl (List.nil_sublist _) rfl
              · refine GL.stepG (tj := 100) rfl rfl (Ex.wp (v := (.bool false)) (Ex.cast (Ex.eql rfl rfl) (congrArg Value.bool (decide_eq_false hq47))) (by decide)) (fun _ _ => ?_)
                refine GL.val (v := (.bool false)) (Ex.pickF rfl rfl) (by decide) ?_
                refine GL.val (v := (.bool false)) (Ex.move rfl) (by decide) ?_
                refine GL.stepG (tj := 105) rfl rfl (Ex.wp (v := (.int .u32 a)) (Ex.move rfl) (by decide)) (fun _ _ => ?_)
                refine GL.stepG (tj := 105) rfl rfl (Stp.callR (σ := Unit) (p := fun rz => True) (v := fun rz => (.int .i64 (Bt.cls a))) (N := fun rz => []) (vs := [(.int .u32 a)]) rfl rfl T.own15 (by decide) (fun wc hw => cls_p a wc (by first | assumption | omega | exact Bt.lst_bd (by assumption) (by assumption) | exact Bt.gst_bd (by assumption) (by assumption) | exact Bt.key_bd (by assumption) | exact Bt.unkey_bd (by assumption) | exact Bt.nxt_bd (by assumption) | exact Bt.lst_bd (Bt.gst_bd (by assumption) (by assumption)) (by assumption) | exact Bt.btw_bd (by assumption) (Bt.lst_bd (by assumption) (by assumption)) (Bt.gst_bd (by assumption) (by assumption))))) (fun xq48 hq49 => ?_)
                refine GL.stepG (tj := 105) rfl rfl (Ex.wp (v := (.bool true)) (Ex.cast (Ex.eql rfl rfl) (congrArg Value.bool (decide_eq_true (by exact (Bt.sval_eq ha hb (by simp_all) (by assumption)).1)))) (by decide)) (fun _ _ => ?_)
                refine GL.stepG (tj := 105) rfl rfl (Ex.wp (v := (.bool true)) (Ex.move rfl) (by decide)) (fun _ _ => ?_)
                refine GL.stepG (tj := 109) rfl rfl (Ex.wp (v := (.int .u32 b)) (Ex.move rfl) (by decide)) (fun _ _ => ?_)
                refine GL.stepG (tj := 109) rfl rfl (Stp.callR (σ := Unit) (p := fun rz => True) (v := fun rz => (.int .i64 (Bt.cls b))) (N := fun rz => []) (vs := [(.int .u32 b)]) rfl rfl T.own15 (by decide) (fun wc hw => cls_p b wc (by first | assumption | omega | exact Bt.lst_bd (by assumption) (by assumption) | exact Bt.gst_bd (by assumption) (by assumption) | exact Bt.key_bd (by assumption) | exact Bt.unkey_bd (by assumption) | exact Bt.nxt_bd (by assumption) | exact Bt.lst_bd (Bt.gst_bd (by assumption) (by assumption)) (by assumption) | exact Bt.btw_bd (by assumption) (Bt.lst_bd (by assumption) (by assumption)) (Bt.gst_bd (by assumption) (by assumption))))) (fun xq50 hq51 => ?_)
                refine GL.stepG (tj := 109) rfl rfl (Ex.wp (v := (.bool true)) (Ex.cast (Ex.eql rfl rfl) (congrArg Value.bool (decide_eq_true (by exact (Bt.sval_eq ha hb (by simp_all) (by assumption)).2)))) (by decide)) (fun _ _ => ?_)
                refine GL.stepG (tj := 105) rfl rfl (Ex.wp (v := (.bool true)) (Ex.pickT rfl rfl) (by decide)) (fun _ _ => ?_)
                refine GL.val (v := (.bool true)) (Ex.pickF rfl rfl) (by decide) ?_
                refine GL.val (v := (.bool true)) (Ex.assign rfl) (by decide) ?_
                refine GL.nil ?_
                refine GE.thenN ?_
                refine GC.ret ?_
                refine GC.ret1 rfl (Rv.tmp rfl) (fun wN HN => ?_)
                exact HN.ret () trivial rfl (List.nil_sublist _) rfl
        · refine GL.val (v := (.bool false)) (Ex.cast (Ex.flss rfl rfl (r := decide (Bt.sval a < Bt.sval b)) (Bt.lt_val ha hb (by assumption) (by assumption))) (congrArg Value.bool (decide_eq_false hq32))) (by decide) ?_
          refine GL.val (v := (.bool false)) (Ex.move rfl) (by decide) ?_
          refine GL.skipG (tj := 80) rfl rfl rfl (by decide) ?_
          refine GL.skipG (tj := 80) rfl rfl rfl (by decide) ?_
          refine GL.skipG (tj := 80) rfl rfl rfl (by decide) ?_
          refine GL.skipG (tj := 80) rfl rfl rfl (by decide) ?_
          refine GL.val (v := (.bool false)) (Ex.pickF rfl rfl) (by decide) ?_
          refine GL.val (v := (.bool false)) (Ex.move rfl) (by decide) ?_
          refine GL.stepG (tj := 86) rfl rfl (Ex.wp (v := (.float .f32 b.toNat)) (Ex.move rfl) (by decide)) (fun _ _ => ?_)
          refine GL.stepG (tj := 86) rfl rfl (Ex.wp (v := (.float .f32 a.toNat)) (Ex.move rfl) (by decide)) (fun _ _ => ?_)
          by_cases hq52 : (Bt.sval b < Bt.sval a)
          · refine GL.stepG (tj := 86) rfl rfl (Ex.wp (v := (.bool true)) (Ex.cast (Ex.flss rfl rfl (r := decide (Bt.sval b < Bt.sval a)) (Bt.lt_val hb ha (by assumption) (by assumption))) (congrArg Value.bool (decide_eq_true hq52))) (by decide)) (fun _ _ => ?_)
            refine GL.stepG (tj := 86) rfl rfl (Ex.wp (v := (.bool true)) (Ex.move rfl) (by decide)) (fun _ _ => ?_)
            refine GL.stepG (tj := 90) rfl rfl (Ex.wp (v := (.int .u32 b)) (Ex.move rfl) (by decide)) (fun _ _ => ?_)
            refine GL.stepG (tj := 90) rfl rfl (Ex.wp (v := (.int .u32 a)) (Ex.move rfl) (by decide)) (fun _ _ => ?_)
            refine GL.stepG (tj := 90) rfl rfl (Stp.callR (σ := Unit) (p := fun rz => True) (v := fun rz => (.bool (decide (Bt.key b < Bt.key a)))) (N := fun rz => []) (vs := [(.int .u32 b), (.int .u32 a)]) rfl rfl T.own31 (by decide) (fun wc hw => before_p b a wc (by first | assumption | omega | exact Bt.lst_bd (by assumption) (by assumption) | exact Bt.gst_bd (by assumption) (by assumption) | exact Bt.key_bd (by assumption) | exact Bt.unkey_bd (by assumption) | exact Bt.nxt_bd (by assumption) | exact Bt.lst_bd (Bt.gst_bd (by assumption) (by assumption)) (by assumption) | exact Bt.btw_bd (by assumption) (Bt.lst_bd (by assumption) (by assumption)) (Bt.gst_bd (by assumption) (by assumption))) (by first | assumption | omega | exact Bt.lst_bd (by assumption) (by assumption) | exact Bt.gst_bd (by assumption) (by assumption) | exact Bt.key_bd (by assumption) | exact Bt.unkey_bd (by assumption) | exact Bt.nxt_bd (by assumption) | exact Bt.lst_bd (Bt.gst_bd (by assumption) (by assumption)) (by assumption) | exact Bt.btw_bd (by assumption) (Bt.lst_bd (by assumption) (by assumption)) (Bt.gst_bd (by assumption) (by assumption))))) (fun xq53 hq54 => ?_)
            refine GL.stepG (tj := 90) rfl rfl (Ex.wp (v := (.bool false)) (Ex.cast (Ex.not rfl) (congrArg Value.bool (congrArg (fun z => !z) (decide_eq_true (by exact Bt.sval_lt hb ha (by assumption)))))) (by decide)) (fun _ _ => ?_)
            refine GL.stepG (tj := 86) rfl rfl (Ex.wp (v := (.bool false)) (Ex.pickT rfl rfl) (by decide)) (fun _ _ => ?_)
            refine GL.val (v := (.bool false)) (Ex.pickF rfl rfl) (by decide) ?_
            refine GL.nil ?_
            refine GE.thenN ?_
            refine GC.cond rfl (fun hq55 => by cases hq55) (fun _ => ?_)
            refine GC.skip ?_
            refine GE.thenN ?_
            refine GC.seq ?_
            refine GC.region ?_
            refine GL.val (v := (.float .f32 a.toNat)) (Ex.move rfl) (by decide) ?_
            refine GL.val (v := (.float .f32 b.toNat)) (Ex.move rfl) (by decide) ?_
            by_cases hq56 : (Bt.sval a ≠ Bt.sval b)
            · refine GL.val (v := (.bool true)) (Ex.cast (Ex.fneq rfl rfl (r := decide (Bt.sval a ≠ Bt.sval b)) (Bt.ne_val ha hb (by assumption) (by assumption))) (congrArg Value.bool (decide_eq_true hq56))) (by decide) ?_
              refine GL.val (v := (.bool true)) (Ex.move rfl) (by decide) ?_
              refine GL.skipG (tj := 100) rfl rfl rfl (by decide) ?_
              refine GL.skipG (tj := 100) rfl rfl rfl (by decide) ?_
              refine GL.skipG (tj := 100) rfl rfl rfl (by decide) ?_
              refine GL.val (v := (.bool true)) (Ex.pickT rfl rfl) (by decide) ?_
              refine GL.val (v := (.bool true)) (Ex.move rfl) (by decide) ?_
              refine GL.skipG (tj := 105) rfl rfl rfl (by decide) ?_
              refine GL.skipG (tj := 105) rfl rfl rfl (by decide) ?_
              refine GL.skipG (tj := 105) rfl rfl rfl (by decide) ?_
              refine GL.skipG (tj := 105) rfl rfl rfl (by decide) ?_
              refine GL.skipU (tj := 109) rfl rfl (by decide) ?_
              refine GL.skipU (tj := 109) rfl rfl (by decide) ?_
              refine GL.skipU (tj := 109) rfl rfl (by decide) ?_
              refine GL.skipG (tj := 105) rfl rfl rfl (by decide) ?_
              refine GL.val (v := (.bool true)) (Ex.pickT rfl rfl) (by decide) ?_
              refine GL.val (v := (.bool true)) (Ex.assign rfl) (by decide) ?_
              refine GL.nil ?_
              refine GE.thenN ?_
              refine GC.ret ?_
              refine GC.ret1 rfl (Rv.tmp rfl) (fun wN HN => ?_)
              exact HN.ret () trivial rfl (List.nil_sublist _) rfl
            · refine GL.val (v := (.bool false)) (Ex.cast (Ex.fneq rfl rfl (r := decide (Bt.sval a ≠ Bt.sval b)) (Bt.ne_val ha hb (by assumption) (by assumption))) (congrArg Value.bool (decide_eq_false hq56))) (by decide) ?_
              refine GL.val (v := (.bool false)) (Ex.move rfl) (by decide) ?_
              refine GL.stepG (tj := 100) rfl rfl (Ex.wp (v := (.int .u32 a)) (Ex.move rfl) (by decide)) (fun _ _ => ?_)
              refine GL.stepG (tj := 100) rfl rfl (Ex.wp (v := (.int .u32 b)) (Ex.move rfl) (by decide)) (fun _ _ => ?_)
              by_cases hq57 : a = b
              · refine GL.stepG (tj := 100) rfl rfl (Ex.wp (v := (.bool true)) (Ex.cast (Ex.eql rfl rfl) (congrArg Value.bool (decide_eq_true hq57))) (by decide)) (fun _ _ => ?_)
                refine GL.val (v := (.bool true)) (Ex.pickF rfl rfl) (by decide) ?_
                refine GL.val (v := (.bool true)) (Ex.move rfl) (by decide) ?_
                refine GL.skipG (tj := 105) rfl rfl rfl (by decide) ?_
                refine GL.skipG (tj := 105) rfl rfl rfl (by decide) ?_
                refine GL.skipG (tj := 105) rfl rfl rfl (by decide) ?_
                refine GL.skipG (tj := 105) rfl rfl rfl (by decide) ?_
                refine GL.skipU (tj := 109) rfl rfl (by decide) ?_
                refine GL.skipU (tj := 109) rfl rfl (by decide) ?_
                refine GL.skipU (tj := 109) rfl rfl (by decide) ?_
                refine GL.skipG (tj := 105) rfl rfl rfl (by decide) ?_
                refine GL.val (v := (.bool true)) (Ex.pickT rfl rfl) (by decide) ?_
                refine GL.val (v := (.bool true)) (Ex.assign rfl) (by decide) ?_
                refine GL.nil ?_
                refine GE.thenN ?_
                refine GC.ret ?_
                refine GC.ret1 rfl (Rv.tmp rfl) (fun wN HN => ?_)
                exact HN.ret () trivial rfl (List.nil_sublist _) rfl
              · refine GL.stepG (tj := 100) rfl rfl (Ex.wp (v := (.bool false)) (Ex.cast (Ex.eql rfl rfl) (congrArg Value.bool (decide_eq_false hq57))) (by decide)) (fun _ _ => ?_)
                refine GL.val (v := (.bool false)) (Ex.pickF rfl rfl) (by decide) ?_
                refine GL.val (v := (.bool false)) (Ex.move rfl) (by decide) ?_
                refine GL.stepG (tj := 105) rfl rfl (Ex.wp (v := (.int .u32 a)) (Ex.move rfl) (by decide)) (fun _ _ => ?_)
                refine GL.stepG (tj := 105) rfl rfl (Stp.callR (σ := Unit) (p := fun rz => True) (v := fun rz => (.int .i64 (Bt.cls a))) (N := fun rz => []) (vs := [(.int .u32 a)]) rfl rfl T.own15 (by decide) (fun wc hw => cls_p a wc (by first | assumption | omega | exact Bt.lst_bd (by assumption) (by assumption) | exact Bt.gst_bd (by assumption) (by assumption) | exact Bt.key_bd (by assumption) | exact Bt.unkey_bd (by assumption) | exact Bt.nxt_bd (by assumption) | exact Bt.lst_bd (Bt.gst_bd (by assumption) (by assumption)) (by assumption) | exact Bt.btw_bd (by assumption) (Bt.lst_bd (by assumption) (by assumption)) (Bt.gst_bd (by assumption) (by assumption))))) (fun xq58 hq59 => ?_)
                refine GL.stepG (tj := 105) rfl rfl (Ex.wp (v := (.bool true)) (Ex.cast (Ex.eql rfl rfl) (congrArg Value.bool (decide_eq_true (by exact (Bt.sval_eq ha hb (by simp_all) (by assumption)).1)))) (by decide)) (fun _ _ => ?_)
                refine GL.stepG (tj := 105) rfl rfl (Ex.wp (v := (.bool true)) (Ex.move rfl) (by decide)) (fun _ _ => ?_)
                refine GL.stepG (tj := 109) rfl rfl (Ex.wp (v := (.int .u32 b)) (Ex.move rfl) (by decide)) (fun _ _ => ?_)
                refine GL.stepG (tj := 109) rfl rfl (Stp.callR (σ := Unit) (p := fun rz => True) (v := fun rz => (.int .i64 (Bt.cls b))) (N := fun rz => []) (vs := [(.int .u32 b)]) rfl rfl T.own15 (by decide) (fun wc hw => cls_p b wc (by first | assumption | omega | exact Bt.lst_bd (by assumption) (by assumption) | exact Bt.gst_bd (by assumption) (by assumption) | exact Bt.key_bd (by assumption) | exact Bt.unkey_bd (by assumption) | exact Bt.nxt_bd (by assumption) | exact Bt.lst_bd (Bt.gst_bd (by assumption) (by assumption)) (by assumption) | exact Bt.btw_bd (by assumption) (Bt.lst_bd (by assumption) (by assumption)) (Bt.gst_bd (by assumption) (by assumption))))) (fun xq60 hq61 => ?_)
                refine GL.stepG (tj := 109) rfl rfl (Ex.wp (v := (.bool true)) (Ex.cast (Ex.eql rfl rfl) (congrArg Value.bool (decide_eq_true (by exact (Bt.sval_eq ha hb (by simp_all) (by assumption)).2)))) (by decide)) (fun _ _ => ?_)
                refine GL.stepG (tj := 105) rfl rfl (Ex.wp (v := (.bool true)) (Ex.pickT rfl rfl) (by decide)) (fun _ _ => ?_)
                refine GL.val (v := (.bool true)) (Ex.pickF rfl rfl) (by decide) ?_
                refine GL.val (v := (.bool true)) (Ex.assign rfl) (by decide) ?_
                refine GL.nil ?_
                refine GE.thenN ?_
                refine GC.ret ?_
                refine GC.ret1 rfl (Rv.tmp rfl) (fun wN HN => ?_)
                exact HN.ret () trivial rfl (List.nil_sublist _) rfl
          · refine GL.stepG (tj := 86) rfl rfl (Ex.wp (v := (.bool false)) (Ex.cast (Ex.flss rfl rfl (r := decide (Bt.sval b < Bt.sval a)) (Bt.lt_val hb ha (by assumption) (by assumption))) (congrArg Value.bool (decide_eq_false hq52))) (by decide)) (fun _ _ => ?_)
            refine GL.stepG (tj := 86) rfl rfl (Ex.wp (v := (.bool false)) (Ex.move rfl) (by decide)) (fun _ _ => ?_)
            refine GL.skipG (tj := 90) rfl rfl rfl (by decide) ?_
            refine GL.skipG (tj := 90) rfl rfl rfl (by decide) ?_
            refine GL.skipG (tj := 90) rfl rfl rfl (by decide) ?_
            refine GL.skipG (tj := 90) rfl rfl rfl (by decide) ?_
            refine GL.stepG (tj := 86) rfl rfl (Ex.wp (v := (.bool false)) (Ex.pickF rfl rfl) (by decide)) (fun _ _ => ?_)
            refine GL.val (v := (.bool false)) (Ex.pickF rfl rfl) (by decide) ?_
            refine GL.nil ?_
            refine GE.thenN ?_
            refine GC.cond rfl (fun hq62 => by cases hq62) (fun _ => ?_)
            refine GC.skip ?_
            refine GE.thenN ?_
            refine GC.seq ?_
            refine GC.region ?_
            refine GL.val (v := (.float .f32 a.toNat)) (Ex.move rfl) (by decide) ?_
            refine GL.val (v := (.float .f32 b.toNat)) (Ex.move rfl) (by decide) ?_
            by_cases hq63 : (Bt.sval a ≠ Bt.sval b)
            · refine GL.val (v := (.bool true)) (Ex.cast (Ex.fneq rfl rfl (r := decide (Bt.sval a ≠ Bt.sval b)) (Bt.ne_val ha hb (by assumption) (by assumption))) (congrArg Value.bool (decide_eq_true hq63))) (by decide) ?_
              refine GL.val (v := (.bool true)) (Ex.move rfl) (by decide) ?_
              refine GL.skipG (tj := 100) rfl rfl rfl (by decide) ?_
              refine GL.skipG (tj := 100) rfl rfl rfl (by decide) ?_
              refine GL.skipG (tj := 100) rfl rfl rfl (by decide) ?_
              refine GL.val (v := (.bool true)) (Ex.pickT rfl rfl) (by decide) ?_
              refine GL.val (v := (.bool true)) (Ex.move rfl) (by decide) ?_
              refine GL.skipG (tj := 105) rfl rfl rfl (by decide) ?_
              refine GL.skipG (tj := 105) rfl rfl rfl (by decide) ?_
              refine GL.skipG (tj := 105) rfl rfl rfl (by decide) ?_
              refine GL.skipG (tj := 105) rfl rfl rfl (by decide) ?_
              refine GL.skipU (tj := 109) rfl rfl (by decide) ?_
              refine GL.skipU (tj := 109) rfl rfl (by decide) ?_
              refine GL.skipU (tj := 109) rfl rfl (by decide) ?_
              refine GL.skipG (tj := 105) rfl rfl rfl (by decide) ?_
              refine GL.val (v := (.bool true)) (Ex.pickT rfl rfl) (by decide) ?_
              refine GL.val (v := (.bool true)) (Ex.assign rfl) (by decide) ?_
              refine GL.nil ?_
              refine GE.thenN ?_
              refine GC.ret ?_
              refine GC.ret1 rfl (Rv.tmp rfl) (fun wN HN => ?_)
              exact HN.ret () trivial rfl (List.nil_sublist _) rfl
            · refine GL.val (v := (.bool false)) (Ex.cast (Ex.fneq rfl rfl (r := decide (Bt.sval a ≠ Bt.sval b)) (Bt.ne_val ha hb (by assumption) (by assumption))) (congrArg Value.bool (decide_eq_false hq63))) (by decide) ?_
              refine GL.val (v := (.bool false)) (Ex.move rfl) (by decide) ?_
              refine GL.stepG (tj := 100) rfl rfl (Ex.wp (v := (.int .u32 a)) (Ex.move rfl) (by decide)) (fun _ _ => ?_)
              refine GL.stepG (tj := 100) rfl rfl (Ex.wp (v := (.int .u32 b)) (Ex.move rfl) (by decide)) (fun _ _ => ?_)
              by_cases hq64 : a = b
              · refine GL.stepG (tj := 100) rfl rfl (Ex.wp (v := (.bool true)) (Ex.cast (Ex.eql rfl rfl) (congrArg Value.bool (decide_eq_true hq64))) (by decide)) (fun _ _ => ?_)
                refine GL.val (v := (.bool true)) (Ex.pickF rfl rfl) (by decide) ?_
                refine GL.val (v := (.bool true)) (Ex.move rfl) (by decide) ?_
                refine GL.skipG (tj := 105) rfl rfl rfl (by decide) ?_
                refine GL.skipG (tj := 105) rfl rfl rfl (by decide) ?_
                refine GL.skipG (tj := 105) rfl rfl rfl (by decide) ?_
                refine GL.skipG (tj := 105) rfl rfl rfl (by decide) ?_
                refine GL.skipU (tj := 109) rfl rfl (by decide) ?_
                refine GL.skipU (tj := 109) rfl rfl (by decide) ?_
                refine GL.skipU (tj := 109) rfl rfl (by decide) ?_
                refine GL.skipG (tj := 105) rfl rfl rfl (by decide) ?_
                refine GL.val (v := (.bool true)) (Ex.pickT rfl rfl) (by decide) ?_
                refine GL.val (v := (.bool true)) (Ex.assign rfl) (by decide) ?_
                refine GL.nil ?_
                refine GE.thenN ?_
                refine GC.ret ?_
                refine GC.ret1 rfl (Rv.tmp rfl) (fun wN HN => ?_)
                exact HN.ret () trivial rfl (List.nil_sublist _) rfl
              · refine GL.stepG (tj := 100) rfl rfl (Ex.wp (v := (.bool false)) (Ex.cast (Ex.eql rfl rfl) (congrArg Value.bool (decide_eq_false hq64))) (by decide)) (fun _ _ => ?_)
                refine GL.val (v := (.bool false)) (Ex.pickF rfl rfl) (by decide) ?_
                refine GL.val (v := (.bool false)) (Ex.move rfl) (by decide) ?_
                refine GL.stepG (tj := 105) rfl rfl (Ex.wp (v := (.int .u32 a)) (Ex.move rfl) (by decide)) (fun _ _ => ?_)
                refine GL.stepG (tj := 105) rfl rfl (Stp.callR (σ := Unit) (p := fun rz => True) (v := fun rz => (.int .i64 (Bt.cls a))) (N := fun rz => []) (vs := [(.int .u32 a)]) rfl rfl T.own15 (by decide) (fun wc hw => cls_p a wc (by first | assumption | omega | exact Bt.lst_bd (by assumption) (by assumption) | exact Bt.gst_bd (by assumption) (by assumption) | exact Bt.key_bd (by assumption) | exact Bt.unkey_bd (by assumption) | exact Bt.nxt_bd (by assumption) | exact Bt.lst_bd (Bt.gst_bd (by assumption) (by assumption)) (by assumption) | exact Bt.btw_bd (by assumption) (Bt.lst_bd (by assumption) (by assumption)) (Bt.gst_bd (by assumption) (by assumption))))) (fun xq65 hq66 => ?_)
                refine GL.stepG (tj := 105) rfl rfl (Ex.wp (v := (.bool true)) (Ex.cast (Ex.eql rfl rfl) (congrArg Value.bool (decide_eq_true (by exact (Bt.sval_eq ha hb (by simp_all) (by assumption)).1)))) (by decide)) (fun _ _ => ?_)
                refine GL.stepG (tj := 105) rfl rfl (Ex.wp (v := (.bool true)) (Ex.move rfl) (by decide)) (fun _ _ => ?_)
                refine GL.stepG (tj := 109) rfl rfl (Ex.wp (v := (.int .u32 b)) (Ex.move rfl) (by decide)) (fun _ _ => ?_)
                refine GL.stepG (tj := 109) rfl rfl (Stp.callR (σ := Unit) (p := fun rz => True) (v := fun rz => (.int .i64 (Bt.cls b))) (N := fun rz => []) (vs := [(.int .u32 b)]) rfl rfl T.own15 (by decide) (fun wc hw => cls_p b wc (by first | assumption | omega | exact Bt.lst_bd (by assumption) (by assumption) | exact Bt.gst_bd (by assumption) (by assumption) | exact Bt.key_bd (by assumption) | exact Bt.unkey_bd (by assumption) | exact Bt.nxt_bd (by assumption) | exact Bt.lst_bd (Bt.gst_bd (by assumption) (by assumption)) (by assumption) | exact Bt.btw_bd (by assumption) (Bt.lst_bd (by assumption) (by assumption)) (Bt.gst_bd (by assumption) (by assumption))))) (fun xq67 hq68 => ?_)
                refine GL.stepG (tj := 109) rfl rfl (Ex.wp (v := (.bool true)) (Ex.cast (Ex.eql rfl rfl) (congrArg Value.bool (decide_eq_true (by exact (Bt.sval_eq ha hb (by simp_all) (by assumption)).2)))) (by decide)) (fun _ _ => ?_)
                refine GL.stepG (tj := 105) rfl rfl (Ex.wp (v := (.bool true)) (Ex.pickT rfl rfl) (by decide)) (fun _ _ => ?_)
                refine GL.val (v := (.bool true)) (Ex.pickF rfl rfl) (by decide) ?_
                refine GL.val (v := (.bool true)) (Ex.assign rfl) (by decide) ?_
                refine GL.nil ?_
                refine GE.thenN ?_
                refine GC.ret ?_
                refine GC.ret1 rfl (Rv.tmp rfl) (fun wN HN => ?_)
                exact HN.ret () trivial rfl (List.nil_sublist _) rfl
  · refine GL.val (v := (.bool false)) (Ex.cast (Ex.move rfl) (congrArg Value.bool ((Bool.eq_false_iff.2 hq17)))) (by decide) ?_
    refine GL.val (v := (.bool false)) (Ex.move rfl) (by decide) ?_
    refine GL.skipG (tj := 36) rfl rfl rfl (by decide) ?_
    refine GL.skipG (tj := 36) rfl rfl rfl (by decide) ?_
    refine GL.skipG (tj := 36) rfl rfl rfl (by decide) ?_
    refine GL.skipU (tj := 39) rfl rfl (by decide) ?_
    refine GL.skipU (tj := 39) rfl rfl (by decide) ?_
    refine GL.skipU (tj := 39) rfl rfl (by decide) ?_
    refine GL.skipG (tj := 36) rfl rfl rfl (by decide) ?_
    refine GL.skipG (tj := 36) rfl rfl rfl (by decide) ?_
    refine GL.skipU (tj := 44) rfl rfl (by decide) ?_
    refine GL.skipU (tj := 44) rfl rfl (by decide) ?_
    refine GL.skipU (tj := 44) rfl rfl (by decide) ?_
    refine GL.skipU (tj := 44) rfl rfl (by decide) ?_
    refine GL.skipG (tj := 36) rfl rfl rfl (by decide) ?_
    refine GL.val (v := (.bool false)) (Ex.pickF rfl rfl) (by decide) ?_
    refine GL.nil ?_
    refine GE.thenN ?_
    refine GC.cond rfl (fun hq69 => by cases hq69) (fun _ => ?_)
    refine GC.skip ?_
    refine GE.thenN ?_
    refine GC.seq ?_
    refine GC.region ?_
    refine GL.val (v := (.int .u32 a)) (Ex.move rfl) (by decide) ?_
    refine GL.val (v := (.float .f32 a.toNat)) (Ex.ext (vs := [(.int .u32 a)]) rfl rfl T.ext33 (fun _ => rfl)) (by decide) ?_
    refine GL.val (v := (.int .u32 b)) (Ex.move rfl) (by decide) ?_
    refine GL.val (v := (.float .f32 b.toNat)) (Ex.ext (vs := [(.int .u32 b)]) rfl rfl T.ext33 (fun _ => rfl)) (by decide) ?_
    refine GL.val (v := (.float .f32 a.toNat)) (Ex.assign rfl) (by decide) ?_
    refine GL.val (v := (.float .f32 b.toNat)) (Ex.assign rfl) (by decide) ?_
    refine GL.nil ?_
    refine GE.thenN ?_
    refine GC.seq ?_
    refine GC.seq ?_
    refine GC.region ?_
    refine GL.val (v := (.float .f32 a.toNat)) (Ex.move rfl) (by decide) ?_
    refine GL.val (v := (.float .f32 a.toNat)) (Ex.move rfl) (by decide) ?_
    by_cases hq70 : (Bt.cls a = 1)
    · refine GL.val (v := (.bool true)) (Ex.cast (Ex.fneq rfl rfl (r := decide (Bt.cls a = 1)) (Bt.ne_self ha)) (congrArg Value.bool (decide_eq_true hq70))) (by decide) ?_
      refine GL.val (v := (.bool true)) (Ex.move rfl) (by decide) ?_
      refine GL.skipG (tj := 58) rfl rfl rfl (by decide) ?_
      refine GL.skipG (tj := 58) rfl rfl rfl (by decide) ?_
      refine GL.skipG (tj := 58) rfl rfl rfl (by decide) ?_
      refine GL.val (v := (.bool true)) (Ex.pickT rfl rfl) (by decide) ?_
      refine GL.nil ?_
      refine GE.thenN ?_
      refine GC.cond rfl (fun _ => ?_) (fun hq71 => by cases hq71)
      refine GC.seq ?_
      refine GC.region ?_
      refine GL.val (v := (.int .u32 a)) (Ex.move rfl) (by decide) ?_
      refine GL.step (Stp.callR (σ := Unit) (p := fun rz => True) (v := fun rz => (.bool (decide (Bt.cls a = 1)))) (N := fun rz => []) (vs := [(.int .u32 a)]) rfl rfl T.own17 (by decide) (fun wc hw => nan_p a wc (by first | assumption | omega | exact Bt.lst_bd (by assumption) (by assumption) | exact Bt.gst_bd (by assumption) (by assumption) | exact Bt.key_bd (by assumption) | exact Bt.unkey_bd (by assumption) | exact Bt.nxt_bd (by assumption) | exact Bt.lst_bd (Bt.gst_bd (by assumption) (by assumption)) (by assumption) | exact Bt.btw_bd (by assumption) (Bt.lst_bd (by assumption) (by assumption)) (Bt.gst_bd (by assumption) (by assumption))))) (fun xq72 hq73 => ?_)
      refine GL.val (v := (.float .f32 a.toNat)) (Ex.move rfl) (by decide) ?_
      refine GL.val (v := (.float .f32 a.toNat)) (Ex.move rfl) (by decide) ?_
      refine GL.val (v := (.bool (decide (Bt.cls a = 1)))) (Ex.fneq rfl rfl (r := decide (Bt.cls a = 1)) (Bt.ne_self ha)) (by decide) ?_
      refine GL.val (v := (.bool true)) (Ex.cast (Ex.eqlB rfl rfl Try.underlying4) (by simp)) (by decide) ?_
      refine GL.val (v := (.bool true)) (Ex.move rfl) (by decide) ?_
      refine GL.stepG (tj := 69) rfl rfl (Ex.wp (v := (.int .u32 b)) (Ex.move rfl) (by decide)) (fun _ _ => ?_)
      refine GL.stepG (tj := 69) rfl rfl (Stp.callR (σ := Unit) (p := fun rz => True) (v := fun rz => (.bool (decide (Bt.cls b = 1)))) (N := fun rz => []) (vs := [(.int .u32 b)]) rfl rfl T.own17 (by decide) (fun wc hw => nan_p b wc (by first | assumption | omega | exact Bt.lst_bd (by assumption) (by assumption) | exact Bt.gst_bd (by assumption) (by assumption) | exact Bt.key_bd (by assumption) | exact Bt.unkey_bd (by assumption) | exact Bt.nxt_bd (by assumption) | exact Bt.lst_bd (Bt.gst_bd (by assumption) (by assumption)) (by assumption) | exact Bt.btw_bd (by assumption) (Bt.lst_bd (by assumption) (by assumption)) (Bt.gst_bd (by assumption) (by assumption))))) (fun xq74 hq75 => ?_)
      refine GL.stepG (tj := 69) rfl rfl (Ex.wp (v := (.float .f32 b.toNat)) (Ex.move rfl) (by decide)) (fun _ _ => ?_)
      refine GL.stepG (tj := 69) rfl rfl (Ex.wp (v := (.float .f32 b.toNat)) (Ex.move rfl) (by decide)) (fun _ _ => ?_)
      refine GL.stepG (tj := 69) rfl rfl (Ex.wp (v := (.bool (decide (Bt.cls b = 1)))) (Ex.fneq rfl rfl (r := decide (Bt.cls b = 1)) (Bt.ne_self hb)) (by decide)) (fun _ _ => ?_)
      refine GL.stepG (tj := 69) rfl rfl (Ex.wp (v := (.bool true)) (Ex.cast (Ex.eqlB rfl rfl Try.underlying4) (by simp)) (by decide)) (fun _ _ => ?_)
      refine GL.val (v := (.bool true)) (Ex.pickT rfl rfl) (by decide) ?_
      refine GL.val (v := (.bool true)) (Ex.assign rfl) (by decide) ?_
      refine GL.nil ?_
      refine GE.thenN ?_
      refine GC.ret ?_
      refine GE.thenR ?_
      refine GC.ret1 rfl (Rv.tmp rfl) (fun wN HN => ?_)
      exact HN.ret () trivial rfl (List.nil_sublist _) rfl
    · refine GL.val (v := (.bool false)) (Ex.cast (Ex.fneq rfl rfl (r := decide (Bt.cls a = 1)) (Bt.ne_self ha)) (congrArg Value.bool (decide_eq_false hq70))) (by decide) ?_
      refine GL.val (v := (.bool false)) (Ex.move rfl) (by decide) ?_
      refine GL.stepG (tj := 58) rfl rfl (Ex.wp (v := (.float .f32 b.toNat)) (Ex.move rfl) (by decide)) (fun _ _ => ?_)
      refine GL.stepG (tj := 58) rfl rfl (Ex.wp (v := (.float .f32 b.toNat)) (Ex.move rfl) (by decide)) (fun _ _ => ?_)
      refine GL.stepG (tj := 58) rfl rfl (Ex.wp (v := (.bool (decide (Bt.cls b = 1)))) (Ex.fneq rfl rfl (r := decide (Bt.cls b = 1)) (Bt.ne_self hb)) (by decide)) (fun _ _ => ?_)
      refine GL.val (v := (.bool (decide (Bt.cls b = 1)))) (Ex.pickF rfl rfl) (by decide) ?_
      refine GL.nil ?_
      refine GE.thenN ?_
      refine GC.cond rfl (fun hq76 => ?_) (fun hq76 => ?_)
      · replace hq76 := of_decide_eq_true hq76
        refine GC.seq ?_
        refine GC.region ?_
        refine GL.val (v := (.int .u32 a)) (Ex.move rfl) (by decide) ?_
        refine GL.step (Stp.callR (σ := Unit) (p := fun rz => True) (v := fun rz => (.bool (decide (Bt.cls a = 1)))) (N := fun rz => []) (vs := [(.int .u32 a)]) rfl rfl T.own17 (by decide) (fun wc hw => nan_p a wc (by first | assumption | omega | exact Bt.lst_bd (by assumption) (by assumption) | exact Bt.gst_bd (by assumption) (by assumption) | exact Bt.key_bd (by assumption) | exact Bt.unkey_bd (by assumption) | exact Bt.nxt_bd (by assumption) | exact Bt.lst_bd (Bt.gst_bd (by assumption) (by assumption)) (by assumption) | exact Bt.btw_bd (by assumption) (Bt.lst_bd (by assumption) (by assumption)) (Bt.gst_bd (by assumption) (by assumption))))) (fun xq77 hq78 => ?_)
        refine GL.val (v := (.float .f32 a.toNat)) (Ex.move rfl) (by decide) ?_
        refine GL.val (v := (.float .f32 a.toNat)) (Ex.move rfl) (by decide) ?_
        refine GL.val (v := (.bool (decide (Bt.cls a = 1)))) (Ex.fneq rfl rfl (r := decide (Bt.cls a = 1)) (Bt.ne_self ha)) (by decide) ?_
        refine GL.val (v := (.bool true)) (Ex.cast (Ex.eqlB rfl rfl Try.underlying4) (by simp)) (by decide) ?_
        refine GL.val (v := (.bool true)) (Ex.move rfl) (by decide) ?_
        refine GL.stepG (tj := 69) rfl rfl (Ex.wp (v := (.int .u32 b)) (Ex.move rfl) (by decide)) (fun _ _ => ?_)
        refine GL.stepG (tj := 69) rfl rfl (Stp.callR (σ := Unit) (p := fun rz => True) (v := fun rz => (.bool (decide (Bt.cls b = 1)))) (N := fun rz => []) (vs := [(.int .u32 b)]) rfl rfl T.own17 (by decide) (fun wc hw => nan_p b wc (by first | assumption | omega | exact Bt.lst_bd (by assumption) (by assumption) | exact Bt.gst_bd (by assumption) (by assumption) | exact Bt.key_bd (by assumption) | exact Bt.unkey_bd (by assumption) | exact Bt.nxt_bd (by assumption) | exact Bt.lst_bd (Bt.gst_bd (by assumption) (by assumption)) (by assumption) | exact Bt.btw_bd (by assumption) (Bt.lst_bd (by assumption) (by assumption)) (Bt.gst_bd (by assumption) (by assumption))))) (fun xq79 hq80 => ?_)
        refine GL.stepG (tj := 69) rfl rfl (Ex.wp (v := (.float .f32 b.toNat)) (Ex.move rfl) (by decide)) (fun _ _ => ?_)
        refine GL.stepG (tj := 69) rfl rfl (Ex.wp (v := (.float .f32 b.toNat)) (Ex.move rfl) (by decide)) (fun _ _ => ?_)
        refine GL.stepG (tj := 69) rfl rfl (Ex.wp (v := (.bool (decide (Bt.cls b = 1)))) (Ex.fneq rfl rfl (r := decide (Bt.cls b = 1)) (Bt.ne_self hb)) (by decide)) (fun _ _ => ?_)
        refine GL.stepG (tj := 69) rfl rfl (Ex.wp (v := (.bool true)) (Ex.cast (Ex.eqlB rfl rfl Try.underlying4) (by simp)) (by decide)) (fun _ _ => ?_)
        refine GL.val (v := (.bool true)) (Ex.pickT rfl rfl) (by decide) ?_
        refine GL.val (v := (.bool true)) (Ex.assign rfl) (by decide) ?_
        refine GL.nil ?_
        refine GE.thenN ?_
        refine GC.ret ?_
        refine GE.thenR ?_
        refine GC.ret1 rfl (Rv.tmp rfl) (fun wN HN => ?_)
        exact HN.ret () trivial rfl (List.nil_sublist _) rfl
      · replace hq76 := of_decide_eq_false hq76
        refine GC.skip ?_
        refine GE.thenN ?_
        refine GC.seq ?_
        refine GC.seq ?_
        refine GC.region ?_
        refine GL.val (v := (.float .f32 a.toNat)) (Ex.move rfl) (by decide) ?_
        refine GL.val (v := (.float .f32 b.toNat)) (Ex.move rfl) (by decide) ?_
        by_cases hq81 : (Bt.sval a < Bt.sval b)
        · refine GL.val (v := (.bool true)) (Ex.cast (Ex.flss rfl rfl (r := decide (Bt.sval a < Bt.sval b)) (Bt.lt_val ha hb (by assumption) (by assumption))) (congrArg Value.bool (decide_eq_true hq81))) (by decide) ?_
          refine GL.val (v := (.bool true)) (Ex.move rfl) (by decide) ?_
          refine GL.stepG (tj := 80) rfl rfl (Ex.wp (v := (.int .u32 a)) (Ex.move rfl) (by decide)) (fun _ _ => ?_)
          refine GL.stepG (tj := 80) rfl rfl (Ex.wp (v := (.int .u32 b)) (Ex.move rfl) (by decide)) (fun _ _ => ?_)
          refine GL.stepG (tj := 80) rfl rfl (Stp.callR (σ := Unit) (p := fun rz => True) (v := fun rz => (.bool (decide (Bt.key a < Bt.key b)))) (N := fun rz => []) (vs := [(.int .u32 a), (.int .u32 b)]) rfl rfl T.own31 (by decide) (fun wc hw => before_p a b wc (by first | assumption | omega | exact Bt.lst_bd (by assumption) (by assumption) | exact Bt.gst_bd (by assumption) (by assumption) | exact Bt.key_bd (by assumption) | exact Bt.unkey_bd (by assumption) | exact Bt.nxt_bd (by assumption) | exact Bt.lst_bd (Bt.gst_bd (by assumption) (by assumption)) (by assumption) | exact Bt.btw_bd (by assumption) (Bt.lst_bd (by assumption) (by assumption)) (Bt.gst_bd (by assumption) (by assumption))) (by first | assumption | omega | exact Bt.lst_bd (by assumption) (by assumption) | exact Bt.gst_bd (by assumption) (by assumption) | exact Bt.key_bd (by assumption) | exact Bt.unkey_bd (by assumption) | exact Bt.nxt_bd (by assumption) | exact Bt.lst_bd (Bt.gst_bd (by assumption) (by assumption)) (by assumption) | exact Bt.btw_bd (by assumption) (Bt.lst_bd (by assumption) (by assumption)) (Bt.gst_bd (by assumption) (by assumption))))) (fun xq82 hq83 => ?_)
          refine GL.stepG (tj := 80) rfl rfl (Ex.wp (v := (.bool false)) (Ex.cast (Ex.not rfl) (congrArg Value.bool (congrArg (fun z => !z) (decide_eq_true (by exact Bt.sval_lt ha hb (by assumption)))))) (by decide)) (fun _ _ => ?_)
          refine GL.val (v := (.bool false)) (Ex.pickT rfl rfl) (by decide) ?_
          refine GL.val (v := (.bool false)) (Ex.move rfl) (by decide) ?_
          refine GL.stepG (tj := 86) rfl rfl (Ex.wp (v := (.float .f32 b.toNat)) (Ex.move rfl) (by decide)) (fun _ _ => ?_)
          refine GL.stepG (tj := 86) rfl rfl (Ex.wp (v := (.float .f32 a.toNat)) (Ex.move rfl) (by decide)) (fun _ _ => ?_)
          by_cases hq84 : (Bt.sval b < Bt.sval a)
          · refine GL.stepG (tj := 86) rfl rfl (Ex.wp (v := (.bool true)) (Ex.cast (Ex.flss rfl rfl (r := decide (Bt.sval b < Bt.sval a)) (Bt.lt_val hb ha (by assumption) (by assumption))) (congrArg Value.bool (decide_eq_true hq84))) (by decide)) (fun _ _ => ?_)
            refine GL.stepG (tj := 86) rfl rfl (Ex.wp (v := (.bool true)) (Ex.move rfl) (by decide)) (fun _ _ => ?_)
            refine GL.stepG (tj := 90) rfl rfl (Ex.wp (v := (.int .u32 b)) (Ex.move rfl) (by decide)) (fun _ _ => ?_)
            refine GL.stepG (tj := 90) rfl rfl (Ex.wp (v := (.int .u32 a)) (Ex.move rfl) (by decide)) (fun _ _ => ?_)
            refine GL.stepG (tj := 90) rfl rfl (Stp.callR (σ := Unit) (p := fun rz => True) (v := fun rz => (.bool (decide (Bt.key b < Bt.key a)))) (N := fun rz => []) (vs := [(.int .u32 b), (.int .u32 a)]) rfl rfl T.own31 (by decide) (fun wc hw => before_p b a wc (by first | assumption | omega | exact Bt.lst_bd (by assumption) (by assumption) | exact Bt.gst_bd (by assumption) (by assumption) | exact Bt.key_bd (by assumption) | exact Bt.unkey_bd (by assumption) | exact Bt.nxt_bd (by assumption) | exact Bt.lst_bd (Bt.gst_bd (by assumption) (by assumption)) (by assumption) | exact Bt.btw_bd (by assumption) (Bt.lst_bd (by assumption) (by assumption)) (Bt.gst_bd (by assumption) (by assumption))) (by first | assumption | omega | exact Bt.lst_bd (by assumption) (by assumption) | exact Bt.gst_bd (by assumption) (by assumption) | exact Bt.key_bd (by assumption) | exact Bt.unkey_bd (by assumption) | exact Bt.nxt_bd (by assumption) | exact Bt.lst_bd (Bt.gst_bd (by assumption) (by assumption)) (by assumption) | exact Bt.btw_bd (by assumption) (Bt.lst_bd (by assumption) (by assumption)) (Bt.gst_bd (by assumption) (by assumption))))) (fun xq85 hq86 => ?_)
            refine GL.stepG (tj := 90) rfl rfl (Ex.wp (v := (.bool false)) (Ex.cast (Ex.not rfl) (congrArg Value.bool (congrArg (fun z => !z) (decide_eq_true (by exact Bt.sval_lt hb ha (by assumption)))))) (by decide)) (fun _ _ => ?_)
            refine GL.stepG (tj := 86) rfl rfl (Ex.wp (v := (.bool false)) (Ex.pickT rfl rfl) (by decide)) (fun _ _ => ?_)
            refine GL.val (v := (.bool false)) (Ex.pickF rfl rfl) (by decide) ?_
            refine GL.nil ?_
            refine GE.thenN ?_
            refine GC.cond rfl (fun hq87 => by cases hq87) (fun _ => ?_)
            refine GC.skip ?_
            refine GE.thenN ?_
            refine GC.seq ?_
            refine GC.region ?_
            refine GL.val (v := (.float .f32 a.toNat)) (Ex.move rfl) (by decide) ?_
            refine GL.val (v := (.float .f32 b.toNat)) (Ex.move rfl) (by decide) ?_
            by_cases hq88 : (Bt.sval a ≠ Bt.sval b)
            · refine GL.val (v := (.bool true)) (Ex.cast (Ex.fneq rfl rfl (r := decide (Bt.sval a ≠ Bt.sval b)) (Bt.ne_val ha hb (by assumption) (by assumption))) (congrArg Value.bool (decide_eq_true hq88))) (by decide) ?_
              refine GL.val (v := (.bool true)) (Ex.move rfl) (by decide) ?_
              refine GL.skipG (tj := 100) rfl rfl rfl (by decide) ?_
              refine GL.skipG (tj := 100) rfl rfl rfl (by decide) ?_
              refine GL.skipG (tj := 100) rfl rfl rfl (by decide) ?_
              refine GL.val (v := (.bool true)) (Ex.pickT rfl rfl) (by decide) ?_
              refine GL.val (v := (.bool true)) (Ex.move rfl) (by decide) ?_
              refine GL.skipG (tj := 105) rfl rfl rfl (by decide) ?_
              refine GL.skipG (tj := 105) rfl rfl rfl (by decide) ?_
              refine GL.skipG (tj := 105) rfl rfl rfl (by decide) ?_
              refine GL.skipG (tj := 105) rfl rfl rfl (by decide) ?_
              refine GL.skipU (tj := 109) rfl rfl (by decide) ?_
              refine GL.skipU (tj := 109) rfl rfl (by decide) ?_
              refine GL.skipU (tj := 109) rfl rfl (by decide) ?_
              refine GL.skipG (tj := 105) rfl rfl rfl (by decide) ?_
              refine GL.val (v := (.bool true)) (Ex.pickT rfl rfl) (by decide) ?_
              refine GL.val (v := (.bool true)) (Ex.assign rfl) (by decide) ?_
              refine GL.nil ?_
              refine GE.thenN ?_
              refine GC.ret ?_
              refine GC.ret1 rfl (Rv.tmp rfl) (fun wN HN => ?_)
              exact HN.ret () trivial rfl (List.nil_sublist _) rfl
            · refine GL.val (v := (.bool false)) (Ex.cast (Ex.fneq rfl rfl (r := decide (Bt.sval a ≠ Bt.sval b)) (Bt.ne_val ha hb (by assumption) (by assumption))) (congrArg Value.bool (decide_eq_false hq88))) (by decide) ?_
              refine GL.val (v := (.bool false)) (Ex.move rfl) (by decide) ?_
              refine GL.stepG (tj := 100) rfl rfl (Ex.wp (v := (.int .u32 a)) (Ex.move rfl) (by decide)) (fun _ _ => ?_)
              refine GL.stepG (tj := 100) rfl rfl (Ex.wp (v := (.int .u32 b)) (Ex.move rfl) (by decide)) (fun _ _ => ?_)
              by_cases hq89 : a = b
              · refine GL.stepG (tj := 100) rfl rfl (Ex.wp (v := (.bool true)) (Ex.cast (Ex.eql rfl rfl) (congrArg Value.bool (decide_eq_true hq89))) (by decide)) (fun _ _ => ?_)
                refine GL.val (v := (.bool true)) (Ex.pickF rfl rfl) (by decide) ?_
                refine GL.val (v := (.bool true)) (Ex.move rfl) (by decide) ?_
                refine GL.skipG (tj := 105) rfl rfl rfl (by decide) ?_
                refine GL.skipG (tj := 105) rfl rfl rfl (by decide) ?_
                refine GL.skipG (tj := 105) rfl rfl rfl (by decide) ?_
                refine GL.skipG (tj := 105) rfl rfl rfl (by decide) ?_
                refine GL.skipU (tj := 109) rfl rfl (by decide) ?_
                refine GL.skipU (tj := 109) rfl rfl (by decide) ?_
                refine GL.skipU (tj := 109) rfl rfl (by decide) ?_
                refine GL.skipG (tj := 105) rfl rfl rfl (by decide) ?_
                refine GL.val (v := (.bool true)) (Ex.pickT rfl rfl) (by decide) ?_
                refine GL.val (v := (.bool true)) (Ex.assign rfl) (by decide) ?_
                refine GL.nil ?_
                refine GE.thenN ?_
                refine GC.ret ?_
                refine GC.ret1 rfl (Rv.tmp rfl) (fun wN HN => ?_)
                exact HN.ret () trivial rfl (List.nil_sublist _) rfl
              · refine GL.stepG (tj := 100) rfl rfl (Ex.wp (v := (.bool false)) (Ex.cast (Ex.eql rfl rfl) (congrArg Value.bool (decide_eq_false hq89))) (by decide)) (fun _ _ => ?_)
                refine GL.val (v := (.bool false)) (Ex.pickF rfl rfl) (by decide) ?_
                refine GL.val (v := (.bool false)) (Ex.move rfl) (by decide) ?_
                refine GL.stepG (tj := 105) rfl rfl (Ex.wp (v := (.int .u32 a)) (Ex.move rfl) (by decide)) (fun _ _ => ?_)
                refine GL.stepG (tj := 105) rfl rfl (Stp.callR (σ := Unit) (p := fun rz => True) (v := fun rz => (.int .i64 (Bt.cls a))) (N := fun rz => []) (vs := [(.int .u32 a)]) rfl rfl T.own15 (by decide) (fun wc hw => cls_p a wc (by first | assumption | omega | exact Bt.lst_bd (by assumption) (by assumption) | exact Bt.gst_bd (by assumption) (by assumption) | exact Bt.key_bd (by assumption) | exact Bt.unkey_bd (by assumption) | exact Bt.nxt_bd (by assumption) | exact Bt.lst_bd (Bt.gst_bd (by assumption) (by assumption)) (by assumption) | exact Bt.btw_bd (by assumption) (Bt.lst_bd (by assumption) (by assumption)) (Bt.gst_bd (by assumption) (by assumption))))) (fun xq90 hq91 => ?_)
                refine GL.stepG (tj := 105) rfl rfl (Ex.wp (v := (.bool true)) (Ex.cast (Ex.eql rfl rfl) (congrArg Value.bool (decide_eq_true (by exact (Bt.sval_eq ha hb (by simp_all) (by assumption)).1)))) (by decide)) (fun _ _ => ?_)
                refine GL.stepG (tj := 105) rfl rfl (Ex.wp (v := (.bool true)) (Ex.move rfl) (by decide)) (fun _ _ => ?_)
                refine GL.stepG (tj := 109) rfl rfl (Ex.wp (v := (.int .u32 b)) (Ex.move rfl) (by decide)) (fun _ _ => ?_)
                refine GL.stepG (tj := 109) rfl rfl (Stp.callR (σ := Unit) (p := fun rz => True) (v := fun rz => (.int .i64 (Bt.cls b))) (N := fun rz => []) (vs := [(.int .u32 b)]) rfl rfl T.own15 (by decide) (fun wc hw => cls_p b wc (by first | assumption | omega | exact Bt.lst_bd (by assumption) (by assumption) | exact Bt.gst_bd (by assumption) (by assumption) | exact Bt.key_bd (by assumption) | exact Bt.unkey_bd (by assumption) | exact Bt.nxt_bd (by assumption) | exact Bt.lst_bd (Bt.gst_bd (by assumption) (by assumption)) (by assumption) | exact Bt.btw_bd (by assumption) (Bt.lst_bd (by assumption) (by assumption)) (Bt.gst_bd (by assumption) (by assumption))))) (fun xq92 hq93 => ?_)
                refine GL.stepG (tj := 109) rfl rfl (Ex.wp (v := (.bool true)) (Ex.cast (Ex.eql rfl rfl) (congrArg Value.bool (decide_eq_true (by exact (Bt.sval_eq ha hb (by simp_all) (by assumption)).2)))) (by decide)) (fun _ _ => ?_)
                refine GL.stepG (tj := 105) rfl rfl (Ex.wp (v := (.bool true)) (Ex.pickT rfl rfl) (by decide)) (fun _ _ => ?_)
                refine GL.val (v := (.bool true)) (Ex.pickF rfl rfl) (by decide) ?_
                refine GL.val (v := (.bool true)) (Ex.assign rfl) (by decide) ?_
                refine GL.nil ?_
                refine GE.thenN ?_
                refine GC.ret ?_
                refine GC.ret1 rfl (Rv.tmp rfl) (fun wN HN => ?_)
                exact HN.ret () trivial rfl (List.nil_sublist _) rfl
          · refine GL.stepG (tj := 86) rfl rfl (Ex.wp (v := (.bool false)) (Ex.cast (Ex.flss rfl rfl (r := decide (Bt.sval b < Bt.sval a)) (Bt.lt_val hb ha (by assumption) (by assumption))) (congrArg Value.bool (decide_eq_false hq84))) (by decide)) (fun _ _ => ?_)
            refine GL.stepG (tj := 86) rfl rfl (Ex.wp (v := (.bool false)) (Ex.move rfl) (by decide)) (fun _ _ => ?_)
            refine GL.skipG (tj := 90) rfl rfl rfl (by decide) ?_
            refine GL.skipG (tj := 90) rfl rfl rfl (by decide) ?_
            refine GL.skipG (tj := 90) rfl rfl rfl (by decide) ?_
            refine GL.skipG (tj := 90) rfl rfl rfl (by decide) ?_
            refine GL.stepG (tj := 86) rfl rfl (Ex.wp (v := (.bool false)) (Ex.pickF rfl rfl) (by decide)) (fun _ _ => ?_)
            refine GL.val (v := (.bool false)) (Ex.pickF rfl rfl) (by decide) ?_
            refine GL.nil ?_
            refine GE.thenN ?_
            refine GC.cond rfl (fun hq94 => by cases hq94) (fun _ => ?_)
            refine GC.skip ?_
            refine GE.thenN ?_
            refine GC.seq ?_
            refine GC.region ?_
            refine GL.val (v := (.float .f32 a.toNat)) (Ex.move rfl) (by decide) ?_
            refine GL.val (v := (.float .f32 b.toNat)) (Ex.move rfl) (by decide) ?_
            by_cases hq95 : (Bt.sval a ≠ Bt.sval b)
            · refine GL.val (v := (.bool true)) (Ex.cast (Ex.fneq rfl rfl (r := decide (Bt.sval a ≠ Bt.sval b)) (Bt.ne_val ha hb (by assumption) (by assumption))) (congrArg Value.bool (decide_eq_true hq95))) (by decide) ?_
              refine GL.val (v := (.bool true)) (Ex.move rfl) (by decide) ?_
              refine GL.skipG (tj := 100) rfl rfl rfl (by decide) ?_
              refine GL.skipG (tj := 100) rfl rfl rfl (by decide) ?_
              refine GL.skipG (tj := 100) rfl rfl rfl (by decide) ?_
              refine GL.val (v := (.bool true)) (Ex.pickT rfl rfl) (by decide) ?_
              refine GL.val (v := (.bool true)) (Ex.move rfl) (by decide) ?_
              refine GL.skipG (tj := 105) rfl rfl rfl (by decide) ?_
              refine GL.skipG (tj := 105) rfl rfl rfl (by decide) ?_
              refine GL.skipG (tj := 105) rfl rfl rfl (by decide) ?_
              refine GL.skipG (tj := 105) rfl rfl rfl (by decide) ?_
              refine GL.skipU (tj := 109) rfl rfl (by decide) ?_
              refine GL.skipU (tj := 109) rfl rfl (by decide) ?_
              refine GL.skipU (tj := 109) rfl rfl (by decide) ?_
              refine GL.skipG (tj := 105) rfl rfl rfl (by decide) ?_
              refine GL.val (v := (.bool true)) (Ex.pickT rfl rfl) (by decide) ?_
              refine GL.val (v := (.bool true)) (Ex.assign rfl) (by decide) ?_
              refine GL.nil ?_
              refine GE.thenN ?_
              refine GC.ret ?_
              refine GC.ret1 rfl (Rv.tmp rfl) (fun wN HN => ?_)
              exact HN.ret () trivial rfl (List.nil_sublist _) rfl
            · refine GL.val (v := (.bool false)) (Ex.cast (Ex.fneq rfl rfl (r := decide (Bt.sval a ≠ Bt.sval b)) (Bt.ne_val ha hb (by assumption) (by assumption))) (congrArg Value.bool (decide_eq_false hq95))) (by decide) ?_
              refine GL.val (v := (.bool false)) (Ex.move rfl) (by decide) ?_
              refine GL.stepG (tj := 100) rfl rfl (Ex.wp (v := (.int .u32 a)) (Ex.move rfl) (by decide)) (fun _ _ => ?_)
              refine GL.stepG (tj := 100) rfl rfl (Ex.wp (v := (.int .u32 b)) (Ex.move rfl) (by decide)) (fun _ _ => ?_)
              by_cases hq96 : a = b
              · refine GL.stepG (tj := 100) rfl rfl (Ex.wp (v := (.bool true)) (Ex.cast (Ex.eql rfl rfl) (congrArg Value.bool (decide_eq_true hq96))) (by decide)) (fun _ _ => ?_)
                refine GL.val (v := (.bool true)) (Ex.pickF rfl rfl) (by decide) ?_
                refine GL.val (v := (.bool true)) (Ex.move rfl) (by decide) ?_
                refine GL.skipG (tj := 105) rfl rfl rfl (by decide) ?_
                refine GL.skipG (tj := 105) rfl rfl rfl (by decide) ?_
                refine GL.skipG (tj := 105) rfl rfl rfl (by decide) ?_
                refine GL.skipG (tj := 105) rfl rfl rfl (by decide) ?_
                refine GL.skipU (tj := 109) rfl rfl (by decide) ?_
                refine GL.skipU (tj := 109) rfl rfl (by decide) ?_
                refine GL.skipU (tj := 109) rfl rfl (by decide) ?_
                refine GL.skipG (tj := 105) rfl rfl rfl (by decide) ?_
                refine GL.val (v := (.bool true)) (Ex.pickT rfl rfl) (by decide) ?_
                refine GL.val (v := (.bool true)) (Ex.assign rfl) (by decide) ?_
                refine GL.nil ?_
                refine GE.thenN ?_
                refine GC.ret ?_
                refine GC.ret1 rfl (Rv.tmp rfl) (fun wN HN => ?_)
                exact HN.ret () trivial rfl (List.nil_sublist _) rfl
              · refine GL.stepG (tj := 100) rfl rfl (Ex.wp (v := (.bool false)) (Ex.cast (Ex.eql rfl rfl) (congrArg Value.bool (decide_eq_false hq96))) (by decide)) (fun _ _ => ?_)
                refine GL.val (v := (.bool false)) (Ex.pickF rfl rfl) (by decide) ?_
                refine GL.val (v := (.bool false)) (Ex.move rfl) (by decide) ?_
                refine GL.stepG (tj := 105) rfl rfl (Ex.wp (v := (.int .u32 a)) (Ex.move rfl) (by decide)) (fun _ _ => ?_)
                refine GL.stepG (tj := 105) rfl rfl (Stp.callR (σ := Unit) (p := fun rz => True) (v := fun rz => (.int .i64 (Bt.cls a))) (N := fun rz => []) (vs := [(.int .u32 a)]) rfl rfl T.own15 (by decide) (fun wc hw => cls_p a wc (by first | assumption | omega | exact Bt.lst_bd (by assumption) (by assumption) | exact Bt.gst_bd (by assumption) (by assumption) | exact Bt.key_bd (by assumption) | exact Bt.unkey_bd (by assumption) | exact Bt.nxt_bd (by assumption) | exact Bt.lst_bd (Bt.gst_bd (by assumption) (by assumption)) (by assumption) | exact Bt.btw_bd (by assumption) (Bt.lst_bd (by assumption) (by assumption)) (Bt.gst_bd (by assumption) (by assumption))))) (fun xq97 hq98 => ?_)
                refine GL.stepG (tj := 105) rfl rfl (Ex.wp (v := (.bool true)) (Ex.cast (Ex.eql rfl rfl) (congrArg Value.bool (decide_eq_true (by exact (Bt.sval_eq ha hb (by simp_all) (by assumption)).1)))) (by decide)) (fun _ _ => ?_)
                refine GL.stepG (tj := 105) rfl rfl (Ex.wp (v := (.bool true)) (Ex.move rfl) (by decide)) (fun _ _ => ?_)
                refine GL.stepG (tj := 109) rfl rfl (Ex.wp (v := (.int .u32 b)) (Ex.move rfl) (by decide)) (fun _ _ => ?_)
                refine GL.stepG (tj := 109) rfl rfl (Stp.callR (σ := Unit) (p := fun rz => True) (v := fun rz => (.int .i64 (Bt.cls b))) (N := fun rz => []) (vs := [(.int .u32 b)]) rfl rfl T.own15 (by decide) (fun wc hw => cls_p b wc (by first | assumption | omega | exact Bt.lst_bd (by assumption) (by assumption) | exact Bt.gst_bd (by assumption) (by assumption) | exact Bt.key_bd (by assumption) | exact Bt.unkey_bd (by assumption) | exact Bt.nxt_bd (by assumption) | exact Bt.lst_bd (Bt.gst_bd (by assumption) (by assumption)) (by assumption) | exact Bt.btw_bd (by assumption) (Bt.lst_bd (by assumption) (by assumption)) (Bt.gst_bd (by assumption) (by assumption))))) (fun xq99 hq100 => ?_)
                refine GL.stepG (tj := 109) rfl rfl (Ex.wp (v := (.bool true)) (Ex.cast (Ex.eql rfl rfl) (congrArg Value.bool (decide_eq_true (by exact (Bt.sval_eq ha hb (by simp_all) (by assumption)).2)))) (by decide)) (fun _ _ => ?_)
                refine GL.stepG (tj := 105) rfl rfl (Ex.wp (v := (.bool true)) (Ex.pickT rfl rfl) (by decide)) (fun _ _ => ?_)
                refine GL.val (v := (.bool true)) (Ex.pickF rfl rfl) (by decide) ?_
                refine GL.val (v := (.bool true)) (Ex.assign rfl) (by decide) ?_
                refine GL.nil ?_
                refine GE.thenN ?_
                refine GC.ret ?_
                refine GC.ret1 rfl (Rv.tmp rfl) (fun wN HN => ?_)
                exact HN.ret () trivial rfl (List.nil_sublist _) rfl
        · refine GL.val (v := (.bool false)) (Ex.cast (Ex.flss rfl rfl (r := decide (Bt.sval a < Bt.sval b)) (Bt.lt_val ha hb (by assumption) (by assumption))) (congrArg Value.bool (decide_eq_false hq81))) (by decide) ?_
          refine GL.val (v := (.bool false)) (Ex.move rfl) (by decide) ?_
          refine GL.skipG (tj := 80) rfl rfl rfl (by decide) ?_
          refine GL.skipG (tj := 80) rfl rfl rfl (by decide) ?_
          refine GL.skipG (tj := 80) rfl rfl rfl (by decide) ?_
          refine GL.skipG (tj := 80) rfl rfl rfl (by decide) ?_
          refine GL.val (v := (.bool false)) (Ex.pickF rfl rfl) (by decide) ?_
          refine GL.val (v := (.bool false)) (Ex.move rfl) (by decide) ?_
          refine GL.stepG (tj := 86) rfl rfl (Ex.wp (v := (.float .f32 b.toNat)) (Ex.move rfl) (by decide)) (fun _ _ => ?_)
          refine GL.stepG (tj := 86) rfl rfl (Ex.wp (v := (.float .f32 a.toNat)) (Ex.move rfl) (by decide)) (fun _ _ => ?_)
          by_cases hq101 : (Bt.sval b < Bt.sval a)
          · refine GL.stepG (tj := 86) rfl rfl (Ex.wp (v := (.bool true)) (Ex.cast (Ex.flss rfl rfl (r := decide (Bt.sval b < Bt.sval a)) (Bt.lt_val hb ha (by assumption) (by assumption))) (congrArg Value.bool (decide_eq_true hq101))) (by decide)) (fun _ _ => ?_)
            refine GL.stepG (tj := 86) rfl rfl (Ex.wp (v := (.bool true)) (Ex.move rfl) (by decide)) (fun _ _ => ?_)
            refine GL.stepG (tj := 90) rfl rfl (Ex.wp (v := (.int .u32 b)) (Ex.move rfl) (by decide)) (fun _ _ => ?_)
            refine GL.stepG (tj := 90) rfl rfl (Ex.wp (v := (.int .u32 a)) (Ex.move rfl) (by decide)) (fun _ _ => ?_)
            refine GL.stepG (tj := 90) rfl rfl (Stp.callR (σ := Unit) (p := fun rz => True) (v := fun rz => (.bool (decide (Bt.key b < Bt.key a)))) (N := fun rz => []) (vs := [(.int .u32 b), (.int .u32 a)]) rfl rfl T.own31 (by decide) (fun wc hw => before_p b a wc (by first | assumption | omega | exact Bt.lst_bd (by assumption) (by assumption) | exact Bt.gst_bd (by assumption) (by assumption) | exact Bt.key_bd (by assumption) | exact Bt.unkey_bd (by assumption) | exact Bt.nxt_bd (by assumption) | exact Bt.lst_bd (Bt.gst_bd (by assumption) (by assumption)) (by assumption) | exact Bt.btw_bd (by assumption) (Bt.lst_bd (by assumption) (by assumption)) (Bt.gst_bd (by assumption) (by assumption))) (by first | assumption | omega | exact Bt.lst_bd (by assumption) (by assumption) | exact Bt.gst_bd (by assumption) (by assumption) | exact Bt.key_bd (by assumption) | exact Bt.unkey_bd (by assumption) | exact Bt.nxt_bd (by assumption) | exact Bt.lst_bd (Bt.gst_bd (by assumption) (by assumption)) (by assumption) | exact Bt.btw_bd (by assumption) (Bt.lst_bd (by assumption) (by assumption)) (Bt.gst_bd (by assumption) (by assumption))))) (fun xq102 hq103 => ?_)
            refine GL.stepG (tj := 90) rfl rfl (Ex.wp (v := (.bool false)) (Ex.cast (Ex.not rfl) (congrArg Value.bool (congrArg (fun z => !z) (decide_eq_true (by exact Bt.sval_lt hb ha (by assumption)))))) (by decide)) (fun _ _ => ?_)
            refine GL.stepG (tj := 86) rfl rfl (Ex.wp (v := (.bool false)) (Ex.pickT rfl rfl) (by decide)) (fun _ _ => ?_)
            refine GL.val (v := (.bool false)) (Ex.pickF rfl rfl) (by decide) ?_
            refine GL.nil ?_
            refine GE.thenN ?_
            refine GC.cond rfl (fun hq104 => by cases hq104) (fun _ => ?_)
            refine GC.skip ?_
            refine GE.thenN ?_
            refine GC.seq ?_
            refine GC.region ?_
            refine GL.val (v := (.float .f32 a.toNat)) (Ex.move rfl) (by decide) ?_
            refine GL.val (v := (.float .f32 b.toNat)) (Ex.move rfl) (by decide) ?_
            by_cases hq105 : (Bt.sval a ≠ Bt.sval b)
            · refine GL.val (v := (.bool true)) (Ex.cast (Ex.fneq rfl rfl (r := decide (Bt.sval a ≠ Bt.sval b)) (Bt.ne_val ha hb (by assumption) (by assumption))) (congrArg Value.bool (decide_eq_true hq105))) (by decide) ?_
              refine GL.val (v := (.bool true)) (Ex.move rfl) (by decide) ?_
              refine GL.skipG (tj := 100) rfl rfl rfl (by decide) ?_
              refine GL.skipG (tj := 100) rfl rfl rfl (by decide) ?_
              refine GL.skipG (tj := 100) rfl rfl rfl (by decide) ?_
              refine GL.val (v := (.bool true)) (Ex.pickT rfl rfl) (by decide) ?_
              refine GL.val (v := (.bool true)) (Ex.move rfl) (by decide) ?_
              refine GL.skipG (tj := 105) rfl rfl rfl (by decide) ?_
              refine GL.skipG (tj := 105) rfl rfl rfl (by decide) ?_
              refine GL.skipG (tj := 105) rfl rfl rfl (by decide) ?_
              refine GL.skipG (tj := 105) rfl rfl rfl (by decide) ?_
              refine GL.skipU (tj := 109) rfl rfl (by decide) ?_
              refine GL.skipU (tj := 109) rfl rfl (by decide) ?_
              refine GL.skipU (tj := 109) rfl rfl (by decide) ?_
              refine GL.skipG (tj := 105) rfl rfl rfl (by decide) ?_
              refine GL.val (v := (.bool true)) (Ex.pickT rfl rfl) (by decide) ?_
              refine GL.val (v := (.bool true)) (Ex.assign rfl) (by decide) ?_
              refine GL.nil ?_
              refine GE.thenN ?_
              refine GC.ret ?_
              refine GC.ret1 rfl (Rv.tmp rfl) (fun wN HN => ?_)
              exact HN.ret () trivial rfl (List.nil_sublist _) rfl
            · refine GL.val (v := (.bool false)) (Ex.cast (Ex.fneq rfl rfl (r := decide (Bt.sval a ≠ Bt.sval b)) (Bt.ne_val ha hb (by assumption) (by assumption))) (congrArg Value.bool (decide_eq_false hq105))) (by decide) ?_
              refine GL.val (v := (.bool false)) (Ex.move rfl) (by decide) ?_
              refine GL.stepG (tj := 100) rfl rfl (Ex.wp (v := (.int .u32 a)) (Ex.move rfl) (by decide)) (fun _ _ => ?_)
              refine GL.stepG (tj := 100) rfl rfl (Ex.wp (v := (.int .u32 b)) (Ex.move rfl) (by decide)) (fun _ _ => ?_)
              by_cases hq106 : a = b
              · refine GL.stepG (tj := 100) rfl rfl (Ex.wp (v := (.bool true)) (Ex.cast (Ex.eql rfl rfl) (congrArg Value.bool (decide_eq_true hq106))) (by decide)) (fun _ _ => ?_)
                refine GL.val (v := (.bool true)) (Ex.pickF rfl rfl) (by decide) ?_
                refine GL.val (v := (.bool true)) (Ex.move rfl) (by decide) ?_
                refine GL.skipG (tj := 105) rfl rfl rfl (by decide) ?_
                refine GL.skipG (tj := 105) rfl rfl rfl (by decide) ?_
                refine GL.skipG (tj := 105) rfl rfl rfl (by decide) ?_
                refine GL.skipG (tj := 105) rfl rfl rfl (by decide) ?_
                refine GL.skipU (tj := 109) rfl rfl (by decide) ?_
                refine GL.skipU (tj := 109) rfl rfl (by decide) ?_
                refine GL.skipU (tj := 109) rfl rfl (by decide) ?_
                refine GL.skipG (tj := 105) rfl rfl rfl (by decide) ?_
                refine GL.val (v := (.bool true)) (Ex.pickT rfl rfl) (by decide) ?_
                refine GL.val (v := (.bool true)) (Ex.assign rfl) (by decide) ?_
                refine GL.nil ?_
                refine GE.thenN ?_
                refine GC.ret ?_
                refine GC.ret1 rfl (Rv.tmp rfl) (fun wN HN => ?_)
                exact HN.ret () trivial rfl (List.nil_sublist _) rfl
              · refine GL.stepG (tj := 100) rfl rfl (Ex.wp (v := (.bool false)) (Ex.cast (Ex.eql rfl rfl) (congrArg Value.bool (decide_eq_false hq106))) (by decide)) (fun _ _ => ?_)
                refine GL.val (v := (.bool false)) (Ex.pickF rfl rfl) (by decide) ?_
                refine GL.val (v := (.bool false)) (Ex.move rfl) (by decide) ?_
                refine GL.stepG (tj := 105) rfl rfl (Ex.wp (v := (.int .u32 a)) (Ex.move rfl) (by decide)) (fun _ _ => ?_)
                refine GL.stepG (tj := 105) rfl rfl (Stp.callR (σ := Unit) (p := fun rz => True) (v := fun rz => (.int .i64 (Bt.cls a))) (N := fun rz => []) (vs := [(.int .u32 a)]) rfl rfl T.own15 (by decide) (fun wc hw => cls_p a wc (by first | assumption | omega | exact Bt.lst_bd (by assumption) (by assumption) | exact Bt.gst_bd (by assumption) (by assumption) | exact Bt.key_bd (by assumption) | exact Bt.unkey_bd (by assumption) | exact Bt.nxt_bd (by assumption) | exact Bt.lst_bd (Bt.gst_bd (by assumption) (by assumption)) (by assumption) | exact Bt.btw_bd (by assumption) (Bt.lst_bd (by assumption) (by assumption)) (Bt.gst_bd (by assumption) (by assumption))))) (fun xq107 hq108 => ?_)
                refine GL.stepG (tj := 105) rfl rfl (Ex.wp (v := (.bool true)) (Ex.cast (Ex.eql rfl rfl) (congrArg Value.bool (decide_eq_true (by exact (Bt.sval_eq ha hb (by simp_all) (by assumption)).1)))) (by decide)) (fun _ _ => ?_)
                refine GL.stepG (tj := 105) rfl rfl (Ex.wp (v := (.bool true)) (Ex.move rfl) (by decide)) (fun _ _ => ?_)
                refine GL.stepG (tj := 109) rfl rfl (Ex.wp (v := (.int .u32 b)) (Ex.move rfl) (by decide)) (fun _ _ => ?_)
                refine GL.stepG (tj := 109) rfl rfl (Stp.callR (σ := Unit) (p := fun rz => True) (v := fun rz => (.int .i64 (Bt.cls b))) (N := fun rz => []) (vs := [(.int .u32 b)]) rfl rfl T.own15 (by decide) (fun wc hw => cls_p b wc (by first | assumption | omega | exact Bt.lst_bd (by assumption) (by assumption) | exact Bt.gst_bd (by assumption) (by assumption) | exact Bt.key_bd (by assumption) | exact Bt.unkey_bd (by assumption) | exact Bt.nxt_bd (by assumption) | exact Bt.lst_bd (Bt.gst_bd (by assumption) (by assumption)) (by assumption) | exact Bt.btw_bd (by assumption) (Bt.lst_bd (by assumption) (by assumption)) (Bt.gst_bd (by assumption) (by assumption))))) (fun xq109 hq110 => ?_)
                refine GL.stepG (tj := 109) rfl rfl (Ex.wp (v := (.bool true)) (Ex.cast (Ex.eql rfl rfl) (congrArg Value.bool (decide_eq_true (by exact (Bt.sval_eq ha hb (by simp_all) (by assumption)).2)))) (by decide)) (fun _ _ => ?_)
                refine GL.stepG (tj := 105) rfl rfl (Ex.wp (v := (.bool true)) (Ex.pickT rfl rfl) (by decide)) (fun _ _ => ?_)
                refine GL.val (v := (.bool true)) (Ex.pickF rfl rfl) (by decide) ?_
                refine GL.val (v := (.bool true)) (Ex.assign rfl) (by decide) ?_
                refine GL.nil ?_
                refine GE.thenN ?_
                refine GC.ret ?_
                refine GC.ret1 rfl (Rv.tmp rfl) (fun wN HN => ?_)
                exact HN.ret () trivial rfl (List.nil_sublist _) rfl
          · refine GL.stepG (tj := 86) rfl rfl (Ex.wp (v := (.bool false)) (Ex.cast (Ex.flss rfl rfl (r := decide (Bt.sval b < Bt.sval a)) (Bt.lt_val hb ha (by assumption) (by assumption))) (congrArg Value.bool (decide_eq_false hq101))) (by decide)) (fun _ _ => ?_)
            refine GL.stepG (tj := 86) rfl rfl (Ex.wp (v := (.bool false)) (Ex.move rfl) (by decide)) (fun _ _ => ?_)
            refine GL.skipG (tj := 90) rfl rfl rfl (by decide) ?_
            refine GL.skipG (tj := 90) rfl rfl rfl (by decide) ?_
            refine GL.skipG (tj := 90) rfl rfl rfl (by decide) ?_
            refine GL.skipG (tj := 90) rfl rfl rfl (by decide) ?_
            refine GL.stepG (tj := 86) rfl rfl (Ex.wp (v := (.bool false)) (Ex.pickF rfl rfl) (by decide)) (fun _ _ => ?_)
            refine GL.val (v := (.bool false)) (Ex.pickF rfl rfl) (by decide) ?_
            refine GL.nil ?_
            refine GE.thenN ?_
            refine GC.cond rfl (fun hq111 => by cases hq111) (fun _ => ?_)
            refine GC.skip ?_
            refine GE.thenN ?_
            refine GC.seq ?_
            refine GC.region ?_
            refine GL.val (v := (.float .f32 a.toNat)) (Ex.move rfl) (by decide) ?_
            refine GL.val (v := (.float .f32 b.toNat)) (Ex.move rfl) (by decide) ?_
            by_cases hq112 : (Bt.sval a ≠ Bt.sval b)
            · refine GL.val (v := (.bool true)) (Ex.cast (Ex.fneq rfl rfl (r := decide (Bt.sval a ≠ Bt.sval b)) (Bt.ne_val ha hb (by assumption) (by assumption))) (congrArg Value.bool (decide_eq_true hq112))) (by decide) ?_
              refine GL.val (v := (.bool true)) (Ex.move rfl) (by decide) ?_
              refine GL.skipG (tj := 100) rfl rfl rfl (by decide) ?_
              refine GL.skipG (tj := 100) rfl rfl rfl (by decide) ?_
              refine GL.skipG (tj := 100) rfl rfl rfl (by decide) ?_
              refine GL.val (v := (.bool true)) (Ex.pickT rfl rfl) (by decide) ?_
              refine GL.val (v := (.bool true)) (Ex.move rfl) (by decide) ?_
              refine GL.skipG (tj := 105) rfl rfl rfl (by decide) ?_
              refine GL.skipG (tj := 105) rfl rfl rfl (by decide) ?_
              refine GL.skipG (tj := 105) rfl rfl rfl (by decide) ?_
              refine GL.skipG (tj := 105) rfl rfl rfl (by decide) ?_
              refine GL.skipU (tj := 109) rfl rfl (by decide) ?_
              refine GL.skipU (tj := 109) rfl rfl (by decide) ?_
              refine GL.skipU (tj := 109) rfl rfl (by decide) ?_
              refine GL.skipG (tj := 105) rfl rfl rfl (by decide) ?_
              refine GL.val (v := (.bool true)) (Ex.pickT rfl rfl) (by decide) ?_
              refine GL.val (v := (.bool true)) (Ex.assign rfl) (by decide) ?_
              refine GL.nil ?_
              refine GE.thenN ?_
              refine GC.ret ?_
              refine GC.ret1 rfl (Rv.tmp rfl) (fun wN HN => ?_)
              exact HN.ret () trivial rfl (List.nil_sublist _) rfl
            · refine GL.val (v := (.bool false)) (Ex.cast (Ex.fneq rfl rfl (r := decide (Bt.sval a ≠ Bt.sval b)) (Bt.ne_val ha hb (by assumption) (by assumption))) (congrArg Value.bool (decide_eq_false hq112))) (by decide) ?_
              refine GL.val (v := (.bool false)) (Ex.move rfl) (by decide) ?_
              refine GL.stepG (tj := 100) rfl rfl (Ex.wp (v := (.int .u32 a)) (Ex.move rfl) (by decide)) (fun _ _ => ?_)
              refine GL.stepG (tj := 100) rfl rfl (Ex.wp (v := (.int .u32 b)) (Ex.move rfl) (by decide)) (fun _ _ => ?_)
              by_cases hq113 : a = b
              · refine GL.stepG (tj := 100) rfl rfl (Ex.wp (v := (.bool true)) (Ex.cast (Ex.eql rfl rfl) (congrArg Value.bool (decide_eq_true hq113))) (by decide)) (fun _ _ => ?_)
                refine GL.val (v := (.bool true)) (Ex.pickF rfl rfl) (by decide) ?_
                refine GL.val (v := (.bool true)) (Ex.move rfl) (by decide) ?_
                refine GL.skipG (tj := 105) rfl rfl rfl (by decide) ?_
                refine GL.skipG (tj := 105) rfl rfl rfl (by decide) ?_
                refine GL.skipG (tj := 105) rfl rfl rfl (by decide) ?_
                refine GL.skipG (tj := 105) rfl rfl rfl (by decide) ?_
                refine GL.skipU (tj := 109) rfl rfl (by decide) ?_
                refine GL.skipU (tj := 109) rfl rfl (by decide) ?_
                refine GL.skipU (tj := 109) rfl rfl (by decide) ?_
                refine GL.skipG (tj := 105) rfl rfl rfl (by decide) ?_
                refine GL.val (v := (.bool true)) (Ex.pickT rfl rfl) (by decide) ?_
                refine GL.val (v := (.bool true)) (Ex.assign rfl) (by decide) ?_
                refine GL.nil ?_
                refine GE.thenN ?_
                refine GC.ret ?_
                refine GC.ret1 rfl (Rv.tmp rfl) (fun wN HN => ?_)
                exact HN.ret () trivial rfl (List.nil_sublist _) rfl
              · refine GL.stepG (tj := 100) rfl rfl (Ex.wp (v := (.bool false)) (Ex.cast (Ex.eql rfl rfl) (congrArg Value.bool (decide_eq_false hq113))) (by decide)) (fun _ _ => ?_)
                refine GL.val (v := (.bool false)) (Ex.pickF rfl rfl) (by decide) ?_
                refine GL.val (v := (.bool false)) (Ex.move rfl) (by decide) ?_
                refine GL.stepG (tj := 105) rfl rfl (Ex.wp (v := (.int .u32 a)) (Ex.move rfl) (by decide)) (fun _ _ => ?_)
                refine GL.stepG (tj := 105) rfl rfl (Stp.callR (σ := Unit) (p := fun rz => True) (v := fun rz => (.int .i64 (Bt.cls a))) (N := fun rz => []) (vs := [(.int .u32 a)]) rfl rfl T.own15 (by decide) (fun wc hw => cls_p a wc (by first | assumption | omega | exact Bt.lst_bd (by assumption) (by assumption) | exact Bt.gst_bd (by assumption) (by assumption) | exact Bt.key_bd (by assumption) | exact Bt.unkey_bd (by assumption) | exact Bt.nxt_bd (by assumption) | exact Bt.lst_bd (Bt.gst_bd (by assumption) (by assumption)) (by assumption) | exact Bt.btw_bd (by assumption) (Bt.lst_bd (by assumption) (by assumption)) (Bt.gst_bd (by assumption) (by assumption))))) (fun xq114 hq115 => ?_)
                refine GL.stepG (tj := 105) rfl rfl (Ex.wp (v := (.bool true)) (Ex.cast (Ex.eql rfl rfl) (congrArg Value.bool (decide_eq_true (by exact (Bt.sval_eq ha hb (by simp_all) (by assumption)).1)))) (by decide)) (fun _ _ => ?_)
                refine GL.stepG (tj := 105) rfl rfl (Ex.wp (v := (.bool true)) (Ex.move rfl) (by decide)) (fun _ _ => ?_)
                refine GL.stepG (tj := 109) rfl rfl (Ex.wp (v := (.int .u32 b)) (Ex.move rfl) (by decide)) (fun _ _ => ?_)
                refine GL.stepG (tj := 109) rfl rfl (Stp.callR (σ := Unit) (p := fun rz => True) (v := fun rz => (.int .i64 (Bt.cls b))) (N := fun rz => []) (vs := [(.int .u32 b)]) rfl rfl T.own15 (by decide) (fun wc hw => cls_p b wc (by first | assumption | omega | exact Bt.lst_bd (by assumption) (by assumption) | exact Bt.gst_bd (by assumption) (by assumption) | exact Bt.key_bd (by assumption) | exact Bt.unkey_bd (by assumption) | exact Bt.nxt_bd (by assumption) | exact Bt.lst_bd (Bt.gst_bd (by assumption) (by assumption)) (by assumption) | exact Bt.btw_bd (by assumption) (Bt.lst_bd (by assumption) (by assumption)) (Bt.gst_bd (by assumption) (by assumption))))) (fun xq116 hq117 => ?_)
                refine GL.stepG (tj := 109) rfl rfl (Ex.wp (v := (.bool true)) (Ex.cast (Ex.eql rfl rfl) (congrArg Value.bool (decide_eq_true (by exact (Bt.sval_eq ha hb (by simp_all) (by assumption)).2)))) (by decide)) (fun _ _ => ?_)
                refine GL.stepG (tj := 105) rfl rfl (Ex.wp (v := (.bool true)) (Ex.pickT rfl rfl) (by decide)) (fun _ _ => ?_)
                refine GL.val (v := (.bool true)) (Ex.pickF rfl rfl) (by decide) ?_
                refine GL.val (v := (.bool true)) (Ex.assign rfl) (by decide) ?_
                refine GL.nil ?_
                refine GE.thenN ?_
                refine GC.ret ?_
                refine GC.ret1 rfl (Rv.tmp rfl) (fun wN HN => ?_)
                exact HN.ret () trivial rfl (List.nil_sublist _) rfl

end Go.Proofs.Ytnpmfinjommjkaa.B
