/- BitsValues: what its code does, walked. -/
import Derived.Test.YtnpmfinjommjkaaKValues1
namespace Go.Proofs.Ytnpmfinjommjkaa.B
open Go Go.RowKit Sx
set_option linter.unusedVariables false
set_option maxRecDepth 100000 in
set_option maxHeartbeats 1000000 in
theorem bv_inf (s n e : Int) (w : World) (hs : 0 ≤ s ∧ s < 4294967296) (hn : -9223372036854775808 ≤ n ∧ n ≤ 9223372036854775807) (he : -9223372036854775808 ≤ e ∧ e ≤ 9223372036854775807) (hf : s / 8388608 % 256 = 255) (h0 : s % 8388608 = 0) :
    Calls Try.prog 9 #[(.int .u32 s), (.int .i64 n), (.int .i64 e)] w (Ret w (fun _ : Unit => True) (fun _ => .bool true) (fun _ => [])) := by
  have hpb := Ld.prts_bd hs
  refine enter (M := None) (L := []) (n := 116) (l := [(0, (.int .u32 s)), (1, (.int .i64 n)), (2, (.int .i64 e))]) Try.func9 rfl rfl (Args.cons rfl (Args.cons rfl (Args.cons rfl (Args.nil _)))) (Hp.start _ _) ?_
  refine GC.seq ?_
  refine GC.region ?_
  refine GL.val (Ex.assign rfl) (by decide) ?_
  refine GL.nil ?_
  refine GE.thenN ?_
  refine GC.seq ?_
  refine GC.seq ?_
  refine GC.region ?_
  refine GL.step (Stp.callR (vs := []) rfl rfl T.own10 (by decide) (fun wc hw => known wc)) (fun xq1 hq2 => ?_)
  refine GL.val (v := (.bool false)) (Ex.cast (Ex.not rfl) rfl) (by decide) ?_
  refine GL.nil ?_
  refine GE.thenN ?_
  refine GC.cond rfl (fun hq3 => by cases hq3) (fun _ => ?_)
  refine GC.skip ?_
  refine GE.thenN ?_
  refine GC.seq ?_
  refine GC.region ?_
  refine GL.val (Ex.move rfl) (by decide) ?_
  refine GL.step (Stp.callR (σ := Unit) (p := fun rz => True) (v := fun rz => (.tuple #[(.int .i64 ((Bt.prts s).1)), (.int .i64 ((Bt.prts s).2.1)), (.bool false)])) (N := fun rz => []) (vs := [(.int .u32 s)]) rfl rfl T.own11 (by decide) (fun wc hw => (by have h := parts_p s wc hs; rw [show (Bt.prts s).2.2 = false from Ld.prts_no hf] at h; exact h))) (fun xq4 hq5 => ?_)
  refine GL.val (Ex.move rfl) (by decide) ?_
  refine GL.val (Ex.extract rfl rfl) (by decide) ?_
  refine GL.val (Ex.extract rfl rfl) (by decide) ?_
  refine GL.val (Ex.extract rfl rfl) (by decide) ?_
  refine GL.val (Ex.assign rfl) (by decide) ?_
  refine GL.val (Ex.assign rfl) (by decide) ?_
  refine GL.val (Ex.assign rfl) (by decide) ?_
  refine GL.nil ?_
  refine GE.thenN ?_
  refine GC.seq ?_
  refine GC.region ?_
  refine GL.val (Ex.move rfl) (by decide) ?_
  refine GL.val (v := (.float .f32 s.toNat)) (Ex.ext (vs := [(.int .u32 s)]) rfl rfl T.ext33 (fun _ => rfl)) (by decide) ?_
  refine GL.val (Ex.assign rfl) (by decide) ?_
  refine GL.nil ?_
  refine GE.thenN ?_
  refine GC.seq ?_
  refine GC.region ?_
  refine GL.val (Ex.move rfl) (by decide) ?_
  refine GL.val (Ex.move rfl) (by decide) ?_
  refine GL.val (v := (.bool true)) (Ex.feql (r := true) rfl rfl (Eq.trans (congrArg (fun o : Option Ordering => (o == some .eq)) (Fv.ord_eq (Fv.Is.rd _ _) (Fv.Is.rd _ _))) (Ld.inf_self hs hf h0).1)) (by decide) ?_
  refine GL.val (Ex.move rfl) (by decide) ?_
  refine GL.stepG (tj := 29) rfl rfl (Ex.wp (v := (.float .f32 s.toNat)) (Ex.move rfl) (by decide)) (fun _ _ => ?_)
  refine GL.stepG (tj := 29) rfl rfl (Ex.wp (v := (.float .f32 s.toNat)) (Ex.move rfl) (by decide)) (fun _ _ => ?_)
  refine GL.stepG (tj := 29) rfl rfl (Stp.fop (fx := (Fv.rd .f32 s.toNat)) (fy := (Fv.rd .f32 s.toNat)) rfl rfl rfl (Fv.Is.rd _ _) (Fv.Is.rd _ _) (by decide)) (fun xq6 hq7 => ?_)
  refine GL.stepG (tj := 29) rfl rfl (Ex.wp (v := (.bool false)) (Ex.feql (r := false) rfl rfl (Eq.trans (congrArg (fun o : Option Ordering => (o == some .eq)) (Fv.ord_eq hq7 (show Fv.Is .f32 0 (some 0) from ⟨rfl, by decide +kernel⟩))) (Ld.inf_self hs hf h0).2)) (by decide)) (fun _ _ => ?_)
  refine GL.val (v := (.bool false)) (Ex.pickT rfl rfl) (by decide) ?_
  refine GL.val (Ex.assign rfl) (by decide) ?_
  refine GL.nil ?_
  refine GE.thenN ?_
  refine GC.seq ?_
  refine GC.seq ?_
  refine GC.region ?_
  refine GL.val (Ex.move rfl) (by decide) ?_
  refine GL.val (Ex.move rfl) (by decide) ?_
  refine GL.val (v := (.bool false)) (Ex.cast (Ex.neqB rfl rfl Try.underlying4) rfl) (by decide) ?_
  refine GL.val (Ex.move rfl) (by decide) ?_
  refine GL.stepG (tj := 38) rfl rfl (Ex.wp (v := (.bool false)) (Ex.move rfl) (by decide)) (fun _ _ => ?_)
  refine GL.stepG (tj := 38) rfl rfl (Ex.wp (v := (.bool false)) (Ex.move rfl) (by decide)) (fun _ _ => ?_)
  refine GL.skipG (tj := 40) rfl rfl rfl (by decide) ?_
  refine GL.skipG (tj := 40) rfl rfl rfl (by decide) ?_
  refine GL.skipG (tj := 40) rfl rfl rfl (by decide) ?_
  refine GL.skipG (tj := 40) rfl rfl rfl (by decide) ?_
  refine GL.skipG (tj := 40) rfl rfl rfl (by decide) ?_
  refine GL.skipG (tj := 40) rfl rfl rfl (by decide) ?_
  refine GL.skipG (tj := 40) rfl rfl rfl (by decide) ?_
  refine GL.stepG (tj := 38) rfl rfl (Ex.wp (v := (.bool false)) (Ex.pickF rfl rfl) (by decide)) (fun _ _ => ?_)
  refine GL.val (v := (.bool false)) (Ex.pickF rfl rfl) (by decide) ?_
  refine GL.nil ?_
  refine GE.thenN ?_
  refine GC.cond rfl (fun hq8 => by cases hq8) (fun _ => ?_)
  refine GC.skip ?_
  refine GE.thenN ?_
  refine GC.seq ?_
  refine GC.seq ?_
  refine GC.region ?_
  refine GL.val (Ex.move rfl) (by decide) ?_
  refine GL.nil ?_
  refine GE.thenN ?_
  refine GC.cond rfl (fun hq9 => by cases hq9) (fun _ => ?_)
  refine GC.skip ?_
  refine GE.thenN ?_
  refine GC.seq ?_
  refine GC.region ?_
  refine GL.val (Ex.move rfl) (by decide) ?_
  refine GL.val (Ex.move rfl) (by decide) ?_
  refine GL.step (Stp.callR (vs := [(.int .i64 n), (.int .i64 e)]) rfl rfl T.own13 (by decide) (fun wc hw => fp_p n e wc (by omega) (by omega))) (fun xq10 hq11 => ?_)
  have hbd_xq10 := Bt.FP.bd hq11
  refine GL.val (Ex.move rfl) (by decide) ?_
  refine GL.val (Ex.extract rfl rfl) (by decide) ?_
  refine GL.val (Ex.extract rfl rfl) (by decide) ?_
  refine GL.val (Ex.assign rfl) (by decide) ?_
  refine GL.val (Ex.assign rfl) (by decide) ?_
  refine GL.nil ?_
  refine GE.thenN ?_
  refine GC.seq ?_
  refine GC.seq ?_
  refine GC.region ?_
  refine GL.val (Ex.move rfl) (by decide) ?_
  refine GL.val (v := (.bool (!xq10.2))) (Ex.not rfl) (by decide) ?_
  refine GL.nil ?_
  refine GE.thenN ?_
  refine GC.cond rfl (fun hq12 => ?_) (fun hq12 => ?_)
  · have hk : xq10.2 = false := by simpa using hq12
    refine GC.seq ?_
    refine GC.region ?_
    refine GL.val (Ex.move rfl) (by decide) ?_
    refine GL.val (v := (.bool true)) (Ex.cast (Ex.eql rfl rfl) (congrArg Value.bool (decide_eq_true (by exact Ld.fp_bad (by rw [hk] at hq11; exact hq11))))) (by decide) ?_
    refine GL.val (Ex.assign rfl) (by decide) ?_
    refine GL.nil ?_
    refine GE.thenN ?_
    refine GC.ret ?_
    refine GE.thenR ?_
    refine GC.ret1 rfl (Rv.tmp rfl) (fun wN HN => ?_)
    exact HN.ret () trivial rfl (List.nil_sublist _) rfl
  · have hk : xq10.2 = true := by simpa using hq12
    refine GC.skip ?_
    refine GE.thenN ?_
    refine GC.seq ?_
    refine GC.seq ?_
    refine GC.region ?_
    refine GL.val (Ex.move rfl) (by decide) ?_
    refine GL.val (v := (.bool (decide (n = 0)))) (Ex.eql rfl rfl) (by decide) ?_
    refine GL.nil ?_
    refine GE.thenN ?_
    refine GC.cond rfl (fun hq13 => ?_) (fun hq13 => ?_)
    · replace hq13 := of_decide_eq_true hq13
      have hn0 := hq13
      refine GC.seq ?_
      refine GC.region ?_
      refine GL.val (Ex.move rfl) (by decide) ?_
      refine GL.val (v := (.bool true)) (Ex.cast (Ex.eql rfl rfl) (congrArg Value.bool (decide_eq_true (by exact (Ld.fp_zero (by rw [hn0] at hq11; exact hq11)).1)))) (by decide) ?_
      refine GL.val (Ex.assign rfl) (by decide) ?_
      refine GL.nil ?_
      refine GE.thenN ?_
      refine GC.ret ?_
      refine GE.thenR ?_
      refine GC.ret1 rfl (Rv.tmp rfl) (fun wN HN => ?_)
      exact HN.ret () trivial rfl (List.nil_sublist _) rfl
    · replace hq13 := of_decide_eq_false hq13
      have hn0 := hq13
      refine GC.skip ?_
      refine GE.thenN ?_
      refine GC.seq ?_
      refine GC.seq ?_
      refine GC.region ?_
      refine GL.val (Ex.move rfl) (by decide) ?_
      by_cases hq14 : e < (-300)
      · refine GL.val (v := (.bool true)) (Ex.cast (Ex.lss rfl rfl) (congrArg Value.bool (decide_eq_true hq14))) (by decide) ?_
        refine GL.val (Ex.move rfl) (by decide) ?_
        refine GL.skipG (tj := 88) rfl rfl rfl (by decide) ?_
        refine GL.skipG (tj := 88) rfl rfl rfl (by decide) ?_
        refine GL.val (v := (.bool true)) (Ex.pickT rfl rfl) (by decide) ?_
        refine GL.nil ?_
        refine GE.thenN ?_
        refine GC.cond rfl (fun _ => ?_) (fun hq15 => by cases hq15)
        refine GC.seq ?_
        refine GC.region ?_
        refine GL.val (Ex.move rfl) (by decide) ?_
        refine GL.step (Stp.callR (vs := [(.int .u32 xq10.1)]) rfl rfl T.own15 (by decide) (fun wc hw => cls_p xq10.1 wc (by first | assumption | omega | exact Bt.lst_bd (by assumption) (by assumption) | exact Bt.gst_bd (by assumption) (by assumption) | exact Bt.key_bd (by assumption) | exact Bt.unkey_bd (by assumption) | exact Bt.nxt_bd (by assumption) | exact Bt.lst_bd (Bt.gst_bd (by assumption) (by assumption)) (by assumption) | exact Bt.btw_bd (by assumption) (Bt.lst_bd (by assumption) (by assumption)) (Bt.gst_bd (by assumption) (by assumption))))) (fun xq16 hq17 => ?_)
        by_cases hq18 : (Bt.cls xq10.1) = 3
        · refine GL.val (v := (.bool true)) (Ex.cast (Ex.eql rfl rfl) (congrArg Value.bool (decide_eq_true hq18))) (by decide) ?_
          refine GL.val (Ex.move rfl) (by decide) ?_
          refine GL.skipG (tj := 95) rfl rfl rfl (by decide) ?_
          refine GL.skipG (tj := 95) rfl rfl rfl (by decide) ?_
          refine GL.skipG (tj := 95) rfl rfl rfl (by decide) ?_
          refine GL.val (v := (.bool true)) (Ex.pickT rfl rfl) (by decide) ?_
          refine GL.val (Ex.assign rfl) (by decide) ?_
          refine GL.nil ?_
          refine GE.thenN ?_
          refine GC.ret ?_
          refine GE.thenR ?_
          refine GC.ret1 rfl (Rv.tmp rfl) (fun wN HN => ?_)
          exact HN.ret () trivial rfl (List.nil_sublist _) rfl
        · refine GL.val (v := (.bool false)) (Ex.cast (Ex.eql rfl rfl) (congrArg Value.bool (decide_eq_false hq18))) (by decide) ?_
          refine GL.val (Ex.move rfl) (by decide) ?_
          refine GL.stepG (tj := 95) rfl rfl (Ex.wp (v := (.int .u32 xq10.1)) (Ex.move rfl) (by decide)) (fun _ _ => ?_)
          refine GL.stepG (tj := 95) rfl rfl (Stp.callR (vs := [(.int .u32 xq10.1)]) rfl rfl T.own15 (by decide) (fun wc hw => cls_p xq10.1 wc (by first | assumption | omega | exact Bt.lst_bd (by assumption) (by assumption) | exact Bt.gst_bd (by assumption) (by assumption) | exact Bt.key_bd (by assumption) | exact Bt.unkey_bd (by assumption) | exact Bt.nxt_bd (by assumption) | exact Bt.lst_bd (Bt.gst_bd (by assumption) (by assumption)) (by assumption) | exact Bt.btw_bd (by assumption) (Bt.lst_bd (by assumption) (by assumption)) (Bt.gst_bd (by assumption) (by assumption))))) (fun xq19 hq20 => ?_)
          refine GL.stepG (tj := 95) rfl rfl (Ex.wp (v := (.bool true)) (Ex.cast (Ex.eql rfl rfl) (congrArg Value.bool (decide_eq_true (by rcases Ld.fp_cls (by rw [hk] at hq11; exact hq11) hn0 with q | q <;> omega)))) (by decide)) (fun _ _ => ?_)
          refine GL.val (v := (.bool true)) (Ex.pickF rfl rfl) (by decide) ?_
          refine GL.val (Ex.assign rfl) (by decide) ?_
          refine GL.nil ?_
          refine GE.thenN ?_
          refine GC.ret ?_
          refine GE.thenR ?_
          refine GC.ret1 rfl (Rv.tmp rfl) (fun wN HN => ?_)
          exact HN.ret () trivial rfl (List.nil_sublist _) rfl
      · refine GL.val (v := (.bool false)) (Ex.cast (Ex.lss rfl rfl) (congrArg Value.bool (decide_eq_false hq14))) (by decide) ?_
        refine GL.val (Ex.move rfl) (by decide) ?_
        refine GL.stepG (tj := 88) rfl rfl (Ex.wp (v := (.int .i64 e)) (Ex.move rfl) (by decide)) (fun _ _ => ?_)
        refine GL.stepG (tj := 88) rfl rfl (Ex.wp (v := (.bool (decide (300 < e)))) (Ex.gtr rfl rfl) (by decide)) (fun _ _ => ?_)
        refine GL.val (v := (.bool (decide (300 < e)))) (Ex.pickF rfl rfl) (by decide) ?_
        refine GL.nil ?_
        refine GE.thenN ?_
        refine GC.cond rfl (fun hq21 => ?_) (fun hq21 => ?_)
        · replace hq21 := of_decide_eq_true hq21
          refine GC.seq ?_
          refine GC.region ?_
          refine GL.val (Ex.move rfl) (by decide) ?_
          refine GL.step (Stp.callR (vs := [(.int .u32 xq10.1)]) rfl rfl T.own15 (by decide) (fun wc hw => cls_p xq10.1 wc (by first | assumption | omega | exact Bt.lst_bd (by assumption) (by assumption) | exact Bt.gst_bd (by assumption) (by assumption) | exact Bt.key_bd (by assumption) | exact Bt.unkey_bd (by assumption) | exact Bt.nxt_bd (by assumption) | exact Bt.lst_bd (Bt.gst_bd (by assumption) (by assumption)) (by assumption) | exact Bt.btw_bd (by assumption) (Bt.lst_bd (by assumption) (by assumption)) (Bt.gst_bd (by assumption) (by assumption))))) (fun xq22 hq23 => ?_)
          by_cases hq24 : (Bt.cls xq10.1) = 3
          · refine GL.val (v := (.bool true)) (Ex.cast (Ex.eql rfl rfl) (congrArg Value.bool (decide_eq_true hq24))) (by decide) ?_
            refine GL.val (Ex.move rfl) (by decide) ?_
            refine GL.skipG (tj := 95) rfl rfl rfl (by decide) ?_
            refine GL.skipG (tj := 95) rfl rfl rfl (by decide) ?_
            refine GL.skipG (tj := 95) rfl rfl rfl (by decide) ?_
            refine GL.val (v := (.bool true)) (Ex.pickT rfl rfl) (by decide) ?_
            refine GL.val (Ex.assign rfl) (by decide) ?_
            refine GL.nil ?_
            refine GE.thenN ?_
            refine GC.ret ?_
            refine GE.thenR ?_
            refine GC.ret1 rfl (Rv.tmp rfl) (fun wN HN => ?_)
            exact HN.ret () trivial rfl (List.nil_sublist _) rfl
          · refine GL.val (v := (.bool false)) (Ex.cast (Ex.eql rfl rfl) (congrArg Value.bool (decide_eq_false hq24))) (by decide) ?_
            refine GL.val (Ex.move rfl) (by decide) ?_
            refine GL.stepG (tj := 95) rfl rfl (Ex.wp (v := (.int .u32 xq10.1)) (Ex.move rfl) (by decide)) (fun _ _ => ?_)
            refine GL.stepG (tj := 95) rfl rfl (Stp.callR (vs := [(.int .u32 xq10.1)]) rfl rfl T.own15 (by decide) (fun wc hw => cls_p xq10.1 wc (by first | assumption | omega | exact Bt.lst_bd (by assumption) (by assumption) | exact Bt.gst_bd (by assumption) (by assumption) | exact Bt.key_bd (by assumption) | exact Bt.unkey_bd (by assumption) | exact Bt.nxt_bd (by assumption) | exact Bt.lst_bd (Bt.gst_bd (by assumption) (by assumption)) (by assumption) | exact Bt.btw_bd (by assumption) (Bt.lst_bd (by assumption) (by assumption)) (Bt.gst_bd (by assumption) (by assumption))))) (fun xq25 hq26 => ?_)
            refine GL.stepG (tj := 95) rfl rfl (Ex.wp (v := (.bool true)) (Ex.cast (Ex.eql rfl rfl) (congrArg Value.bool (decide_eq_true (by rcases Ld.fp_cls (by rw [hk] at hq11; exact hq11) hn0 with q | q <;> omega)))) (by decide)) (fun _ _ => ?_)
            refine GL.val (v := (.bool true)) (Ex.pickF rfl rfl) (by decide) ?_
            refine GL.val (Ex.assign rfl) (by decide) ?_
            refine GL.nil ?_
            refine GE.thenN ?_
            refine GC.ret ?_
            refine GE.thenR ?_
            refine GC.ret1 rfl (Rv.tmp rfl) (fun wN HN => ?_)
            exact HN.ret () trivial rfl (List.nil_sublist _) rfl
        · replace hq21 := of_decide_eq_false hq21
          refine GC.skip ?_
          refine GE.thenN ?_
          refine GC.seq ?_
          refine GC.region ?_
          refine GL.val (Ex.move rfl) (by decide) ?_
          by_cases hq27 : 9007199254740992 < n
          · refine GL.val (v := (.bool true)) (Ex.cast (Ex.gtr rfl rfl) (congrArg Value.bool (decide_eq_true hq27))) (by decide) ?_
            refine GL.val (Ex.move rfl) (by decide) ?_
            refine GL.skipG (tj := 102) rfl rfl rfl (by decide) ?_
            refine GL.skipG (tj := 102) rfl rfl rfl (by decide) ?_
            refine GL.val (v := (.bool true)) (Ex.pickT rfl rfl) (by decide) ?_
            refine GL.val (Ex.move rfl) (by decide) ?_
            refine GL.skipG (tj := 106) rfl rfl rfl (by decide) ?_
            refine GL.skipG (tj := 106) rfl rfl rfl (by decide) ?_
            refine GL.skipG (tj := 106) rfl rfl rfl (by decide) ?_
            refine GL.skipG (tj := 106) rfl rfl rfl (by decide) ?_
            refine GL.skipG (tj := 106) rfl rfl rfl (by decide) ?_
            refine GL.skipG (tj := 106) rfl rfl rfl (by decide) ?_
            refine GL.skipG (tj := 106) rfl rfl rfl (by decide) ?_
            refine GL.skipG (tj := 106) rfl rfl rfl (by decide) ?_
            refine GL.val (v := (.bool true)) (Ex.pickT rfl rfl) (by decide) ?_
            refine GL.val (Ex.assign rfl) (by decide) ?_
            refine GL.nil ?_
            refine GE.thenN ?_
            refine GC.ret ?_
            refine GC.ret1 rfl (Rv.tmp rfl) (fun wN HN => ?_)
            exact HN.ret () trivial rfl (List.nil_sublist _) rfl
          · refine GL.val (v := (.bool false)) (Ex.cast (Ex.gtr rfl rfl) (congrArg Value.bool (decide_eq_false hq27))) (by decide) ?_
            refine GL.val (Ex.move rfl) (by decide) ?_
            refine GL.stepG (tj := 102) rfl rfl (Ex.wp (v := (.int .i64 n)) (Ex.move rfl) (by decide)) (fun _ _ => ?_)
            by_cases hq28 : n < (-9007199254740992)
            · refine GL.stepG (tj := 102) rfl rfl (Ex.wp (v := (.bool true)) (Ex.cast (Ex.lss rfl rfl) (congrArg Value.bool (decide_eq_true hq28))) (by decide)) (fun _ _ => ?_)
              refine GL.val (v := (.bool true)) (Ex.pickF rfl rfl) (by decide) ?_
              refine GL.val (Ex.move rfl) (by decide) ?_
              refine GL.skipG (tj := 106) rfl rfl rfl (by decide) ?_
              refine GL.skipG (tj := 106) rfl rfl rfl (by decide) ?_
              refine GL.skipG (tj := 106) rfl rfl rfl (by decide) ?_
              refine GL.skipG (tj := 106) rfl rfl rfl (by decide) ?_
              refine GL.skipG (tj := 106) rfl rfl rfl (by decide) ?_
              refine GL.skipG (tj := 106) rfl rfl rfl (by decide) ?_
              refine GL.skipG (tj := 106) rfl rfl rfl (by decide) ?_
              refine GL.skipG (tj := 106) rfl rfl rfl (by decide) ?_
              refine GL.val (v := (.bool true)) (Ex.pickT rfl rfl) (by decide) ?_
              refine GL.val (Ex.assign rfl) (by decide) ?_
              refine GL.nil ?_
              refine GE.thenN ?_
              refine GC.ret ?_
              refine GC.ret1 rfl (Rv.tmp rfl) (fun wN HN => ?_)
              exact HN.ret () trivial rfl (List.nil_sublist _) rfl
            · refine GL.stepG (tj := 102) rfl rfl (Ex.wp (v := (.bool false)) (Ex.cast (Ex.lss rfl rfl) (congrArg Value.bool (decide_eq_false hq28))) (by decide)) (fun _ _ => ?_)
              refine GL.val (v := (.bool false)) (Ex.pickF rfl rfl) (by decide) ?_
              refine GL.val (Ex.move rfl) (by decide) ?_
              refine GL.stepG (tj := 106) rfl rfl (Ex.wp (v := (.int .u32 xq10.1)) (Ex.move rfl) (by decide)) (fun _ _ => ?_)
              refine GL.stepG (tj := 106) rfl rfl (Ex.wp (v := (.float .f32 xq10.1.toNat)) (Ex.ext (vs := [(.int .u32 xq10.1)]) rfl rfl T.ext33 (fun _ => rfl)) (by decide)) (fun _ _ => ?_)
              refine GL.stepG (tj := 106) rfl rfl (Stp.fcv (fx := (Fv.rd .f32 xq10.1.toNat)) (by decide) rfl Try.underlying35 Try.underlying40 (Fv.Is.rd _ _) Fv.holds_up (by decide)) (fun xq29 hq30 => ?_)
              refine GL.stepG (tj := 106) rfl rfl (Ex.wp (v := (.int .i64 n)) (Ex.move rfl) (by decide)) (fun _ _ => ?_)
              refine GL.stepG (tj := 106) rfl rfl (Ex.wp (v := (.float .f64 ((floatOfInt .f64 n)))) (Ex.cif rfl Try.underlying3 Try.underlying40) (by decide)) (fun _ _ => ?_)
              refine GL.stepG (tj := 106) rfl rfl (Ex.wp (v := (.int .i64 e)) (Ex.move rfl) (by decide)) (fun _ _ => ?_)
              refine GL.stepG (tj := 106) rfl rfl (Stp.callR (vs := [(.float .f64 ((floatOfInt .f64 n))), (.int .i64 e)]) rfl rfl T.own42 (by decide) (fun wc hw => ldexp_int n e wc (by omega) (by omega))) (fun xq31 hq32 => ?_)
              refine GL.stepG (tj := 106) rfl rfl (Ex.wp (v := (.bool true)) (Ex.feql (r := true) rfl rfl (Eq.trans (congrArg (fun o : Option Ordering => (o == some .eq)) (Fv.ord_eq hq30.1 (Ld.at_is hq32))) (Ld.same_ne (Ld.fp_at hq11 hk hn0 (by omega)) hq32).2)) (by decide)) (fun _ _ => ?_)
              refine GL.val (v := (.bool true)) (Ex.pickF rfl rfl) (by decide) ?_
              refine GL.val (Ex.assign rfl) (by decide) ?_
              refine GL.nil ?_
              refine GE.thenN ?_
              refine GC.ret ?_
              refine GC.ret1 rfl (Rv.tmp rfl) (fun wN HN => ?_)
              exact HN.ret () trivial rfl (List.nil_sublist _) rfl

set_option maxRecDepth 100000 in
set_option maxHeartbeats 1000000 in
theorem bv_nan (s n e : Int) (w : World) (hs : 0 ≤ s ∧ s < 4294967296) (hn : -9223372036854775808 ≤ n ∧ n ≤ 9223372036854775807) (he : -9223372036854775808 ≤ e ∧ e ≤ 9223372036854775807) (hf : s / 8388608 % 256 = 255) (h0 : s % 8388608 ≠ 0) :
    Calls Try.prog 9 #[(.int .u32 s), (.int .i64 n), (.int .i64 e)] w (Ret w (fun _ : Unit => True) (fun _ => .bool true) (fun _ => [])) := by
  have hpb := Ld.prts_bd hs
  refine enter (M := None) (L := []) (n := 116) (l := [(0, (.int .u32 s)), (1, (.int .i64 n)), (2, (.int .i64 e))]) Try.func9 rfl rfl (Args.cons rfl (Args.cons rfl (Args.cons rfl (Args.nil _)))) (Hp.start _ _) ?_
  refine GC.seq ?_
  refine GC.region ?_
  refine GL.val (Ex.assign rfl) (by decide) ?_
  refine GL.nil ?_
  refine GE.thenN ?_
  refine GC.seq ?_
  refine GC.seq ?_
  refine GC.region ?_
  refine GL.step (Stp.callR (vs := []) rfl rfl T.own10 (by decide) (fun wc hw => known wc)) (fun xq1 hq2 => ?_)
  refine GL.val (v := (.bool false)) (Ex.cast (Ex.not rfl) rfl) (by decide) ?_
  refine GL.nil ?_
  refine GE.thenN ?_
  refine GC.cond rfl (fun hq3 => by cases hq3) (fun _ => ?_)
  refine GC.skip ?_
  refine GE.thenN ?_
  refine GC.seq ?_
  refine GC.region ?_
  refine GL.val (Ex.move rfl) (by decide) ?_
  refine GL.step (Stp.callR (σ := Unit) (p := fun rz => True) (v := fun rz => (.tuple #[(.int .i64 ((Bt.prts s).1)), (.int .i64 ((Bt.prts s).2.1)), (.bool false)])) (N := fun rz => []) (vs := [(.int .u32 s)]) rfl rfl T.own11 (by decide) (fun wc hw => (by have h := parts_p s wc hs; rw [show (Bt.prts s).2.2 = false from Ld.prts_no hf] at h; exact h))) (fun xq4 hq5 => ?_)
  refine GL.val (Ex.move rfl) (by decide) ?_
  refine GL.val (Ex.extract rfl rfl) (by decide) ?_
  refine GL.val (Ex.extract rfl rfl) (by decide) ?_
  refine GL.val (Ex.extract rfl rfl) (by decide) ?_
  refine GL.val (Ex.assign rfl) (by decide) ?_
  refine GL.val (Ex.assign rfl) (by decide) ?_
  refine GL.val (Ex.assign rfl) (by decide) ?_
  refine GL.nil ?_
  refine GE.thenN ?_
  refine GC.seq ?_
  refine GC.region ?_
  refine GL.val (Ex.move rfl) (by decide) ?_
  refine GL.val (v := (.float .f32 s.toNat)) (Ex.ext (vs := [(.int .u32 s)]) rfl rfl T.ext33 (fun _ => rfl)) (by decide) ?_
  refine GL.val (Ex.assign rfl) (by decide) ?_
  refine GL.nil ?_
  refine GE.thenN ?_
  refine GC.seq ?_
  refine GC.region ?_
  refine GL.val (Ex.move rfl) (by decide) ?_
  refine GL.val (Ex.move rfl) (by decide) ?_
  refine GL.val (v := (.bool false)) (Ex.feql (r := false) rfl rfl (Eq.trans (congrArg (fun o : Option Ordering => (o == some .eq)) (Fv.ord_eq (Fv.Is.rd _ _) (Fv.Is.rd _ _))) (Ld.nan_self hs hf h0))) (by decide) ?_
  refine GL.val (Ex.move rfl) (by decide) ?_
  refine GL.skipG (tj := 29) rfl rfl rfl (by decide) ?_
  refine GL.skipG (tj := 29) rfl rfl rfl (by decide) ?_
  refine GL.skipG (tj := 29) rfl rfl rfl (by decide) ?_
  refine GL.skipG (tj := 29) rfl rfl rfl (by decide) ?_
  refine GL.val (v := (.bool false)) (Ex.pickF rfl rfl) (by decide) ?_
  refine GL.val (Ex.assign rfl) (by decide) ?_
  refine GL.nil ?_
  refine GE.thenN ?_
  refine GC.seq ?_
  refine GC.seq ?_
  refine GC.region ?_
  refine GL.val (Ex.move rfl) (by decide) ?_
  refine GL.val (Ex.move rfl) (by decide) ?_
  refine GL.val (v := (.bool false)) (Ex.cast (Ex.neqB rfl rfl Try.underlying4) rfl) (by decide) ?_
  refine GL.val (Ex.move rfl) (by decide) ?_
  refine GL.stepG (tj := 38) rfl rfl (Ex.wp (v := (.bool false)) (Ex.move rfl) (by decide)) (fun _ _ => ?_)
  refine GL.stepG (tj := 38) rfl rfl (Ex.wp (v := (.bool false)) (Ex.move rfl) (by decide)) (fun _ _ => ?_)
  refine GL.skipG (tj := 40) rfl rfl rfl (by decide) ?_
  refine GL.skipG (tj := 40) rfl rfl rfl (by decide) ?_
  refine GL.skipG (tj := 40) rfl rfl rfl (by decide) ?_
  refine GL.skipG (tj := 40) rfl rfl rfl (by decide) ?_
  refine GL.skipG (tj := 40) rfl rfl rfl (by decide) ?_
  refine GL.skipG (tj := 40) rfl rfl rfl (by decide) ?_
  refine GL.skipG (tj := 40) rfl rfl rfl (by decide) ?_
  refine GL.stepG (tj := 38) rfl rfl (Ex.wp (v := (.bool false)) (Ex.pickF rfl rfl) (by decide)) (fun _ _ => ?_)
  refine GL.val (v := (.bool false)) (Ex.pickF rfl rfl) (by decide) ?_
  refine GL.nil ?_
  refine GE.thenN ?_
  refine GC.cond rfl (fun hq6 => by cases hq6) (fun _ => ?_)
  refine GC.skip ?_
  refine GE.thenN ?_
  refine GC.seq ?_
  refine GC.seq ?_
  refine GC.region ?_
  refine GL.val (Ex.move rfl) (by decide) ?_
  refine GL.nil ?_
  refine GE.thenN ?_
  refine GC.cond rfl (fun hq7 => by cases hq7) (fun _ => ?_)
  refine GC.skip ?_
  refine GE.thenN ?_
  refine GC.seq ?_
  refine GC.region ?_
  refine GL.val (Ex.move rfl) (by decide) ?_
  refine GL.val (Ex.move rfl) (by decide) ?_
  refine GL.step (Stp.callR (vs := [(.int .i64 n), (.int .i64 e)]) rfl rfl T.own13 (by decide) (fun wc hw => fp_p n e wc (by omega) (by omega))) (fun xq8 hq9 => ?_)
  have hbd_xq8 := Bt.FP.bd hq9
  refine GL.val (Ex.move rfl) (by decide) ?_
  refine GL.val (Ex.extract rfl rfl) (by decide) ?_
  refine GL.val (Ex.extract rfl rfl) (by decide) ?_
  refine GL.val (Ex.assign rfl) (by decide) ?_
  refine GL.val (Ex.assign rfl) (by decide) ?_
  refine GL.nil ?_
  refine GE.thenN ?_
  refine GC.seq ?_
  refine GC.seq ?_
  refine GC.region ?_
  refine GL.val (Ex.move rfl) (by decide) ?_
  refine GL.val (v := (.bool (!xq8.2))) (Ex.not rfl) (by decide) ?_
  refine GL.nil ?_
  refine GE.thenN ?_
  refine GC.cond rfl (fun hq10 => ?_) (fun hq10 => ?_)
  · have hk : xq8.2 = false := by simpa using hq10
    refine GC.seq ?_
    refine GC.region ?_
    refine GL.val (Ex.move rfl) (by decide) ?_
    refine GL.val (v := (.bool true)) (Ex.cast (Ex.eql rfl rfl) (congrArg Value.bool (decide_eq_true (by exact Ld.fp_bad (by rw [hk] at hq9; exact hq9))))) (by decide) ?_
    refine GL.val (Ex.assign rfl) (by decide) ?_
    refine GL.nil ?_
    refine GE.thenN ?_
    refine GC.ret ?_
    refine GE.thenR ?_
    refine GC.ret1 rfl (Rv.tmp rfl) (fun wN HN => ?_)
    exact HN.ret () trivial rfl (List.nil_sublist _) rfl
  · have hk : xq8.2 = true := by simpa using hq10
    refine GC.skip ?_
    refine GE.thenN ?_
    refine GC.seq ?_
    refine GC.seq ?_
    refine GC.region ?_
    refine GL.val (Ex.move rfl) (by decide) ?_
    refine GL.val (v := (.bool (decide (n = 0)))) (Ex.eql rfl rfl) (by decide) ?_
    refine GL.nil ?_
    refine GE.thenN ?_
    refine GC.cond rfl (fun hq11 => ?_) (fun hq11 => ?_)
    · replace hq11 := of_decide_eq_true hq11
      have hn0 := hq11
      refine GC.seq ?_
      refine GC.region ?_
      refine GL.val (Ex.move rfl) (by decide) ?_
      refine GL.val (v := (.bool true)) (Ex.cast (Ex.eql rfl rfl) (congrArg Value.bool (decide_eq_true (by exact (Ld.fp_zero (by rw [hn0] at hq9; exact hq9)).1)))) (by decide) ?_
      refine GL.val (Ex.assign rfl) (by decide) ?_
      refine GL.nil ?_
      refine GE.thenN ?_
      refine GC.ret ?_
      refine GE.thenR ?_
      refine GC.ret1 rfl (Rv.tmp rfl) (fun wN HN => ?_)
      exact HN.ret () trivial rfl (List.nil_sublist _) rfl
    · replace hq11 := of_decide_eq_false hq11
      have hn0 := hq11
      refine GC.skip ?_
      refine GE.thenN ?_
      refine GC.seq ?_
      refine GC.seq ?_
      refine GC.region ?_
      refine GL.val (Ex.move rfl) (by decide) ?_
      by_cases hq12 : e < (-300)
      · refine GL.val (v := (.bool true)) (Ex.cast (Ex.lss rfl rfl) (congrArg Value.bool (decide_eq_true hq12))) (by decide) ?_
        refine GL.val (Ex.move rfl) (by decide) ?_
        refine GL.skipG (tj := 88) rfl rfl rfl (by decide) ?_
        refine GL.skipG (tj := 88) rfl rfl rfl (by decide) ?_
        refine GL.val (v := (.bool true)) (Ex.pickT rfl rfl) (by decide) ?_
        refine GL.nil ?_
        refine GE.thenN ?_
        refine GC.cond rfl (fun _ => ?_) (fun hq13 => by cases hq13)
        refine GC.seq ?_
        refine GC.region ?_
        refine GL.val (Ex.move rfl) (by decide) ?_
        refine GL.step (Stp.callR (vs := [(.int .u32 xq8.1)]) rfl rfl T.own15 (by decide) (fun wc hw => cls_p xq8.1 wc (by first | assumption | omega | exact Bt.lst_bd (by assumption) (by assumption) | exact Bt.gst_bd (by assumption) (by assumption) | exact Bt.key_bd (by assumption) | exact Bt.unkey_bd (by assumption) | exact Bt.nxt_bd (by assumption) | exact Bt.lst_bd (Bt.gst_bd (by assumption) (by assumption)) (by assumption) | exact Bt.btw_bd (by assumption) (Bt.lst_bd (by assumption) (by assumption)) (Bt.gst_bd (by assumption) (by assumption))))) (fun xq14 hq15 => ?_)
        by_cases hq16 : (Bt.cls xq8.1) = 3
        · refine GL.val (v := (.bool true)) (Ex.cast (Ex.eql rfl rfl) (congrArg Value.bool (decide_eq_true hq16))) (by decide) ?_
          refine GL.val (Ex.move rfl) (by decide) ?_
          refine GL.skipG (tj := 95) rfl rfl rfl (by decide) ?_
          refine GL.skipG (tj := 95) rfl rfl rfl (by decide) ?_
          refine GL.skipG (tj := 95) rfl rfl rfl (by decide) ?_
          refine GL.val (v := (.bool true)) (Ex.pickT rfl rfl) (by decide) ?_
          refine GL.val (Ex.assign rfl) (by decide) ?_
          refine GL.nil ?_
          refine GE.thenN ?_
          refine GC.ret ?_
          refine GE.thenR ?_
          refine GC.ret1 rfl (Rv.tmp rfl) (fun wN HN => ?_)
          exact HN.ret () trivial rfl (List.nil_sublist _) rfl
        · refine GL.val (v := (.bool false)) (Ex.cast (Ex.eql rfl rfl) (congrArg Value.bool (decide_eq_false hq16))) (by decide) ?_
          refine GL.val (Ex.move rfl) (by decide) ?_
          refine GL.stepG (tj := 95) rfl rfl (Ex.wp (v := (.int .u32 xq8.1)) (Ex.move rfl) (by decide)) (fun _ _ => ?_)
          refine GL.stepG (tj := 95) rfl rfl (Stp.callR (vs := [(.int .u32 xq8.1)]) rfl rfl T.own15 (by decide) (fun wc hw => cls_p xq8.1 wc (by first | assumption | omega | exact Bt.lst_bd (by assumption) (by assumption) | exact Bt.gst_bd (by assumption) (by assumption) | exact Bt.key_bd (by assumption) | exact Bt.unkey_bd (by assumption) | exact Bt.nxt_bd (by assumption) | exact Bt.lst_bd (Bt.gst_bd (by assumption) (by assumption)) (by assumption) | exact Bt.btw_bd (by assumption) (Bt.lst_bd (by assumption) (by assumption)) (Bt.gst_bd (by assumption) (by assumption))))) (fun xq17 hq18 => ?_)
          refine GL.stepG (tj := 95) rfl rfl (Ex.wp (v := (.bool true)) (Ex.cast (Ex.eql rfl rfl) (congrArg Value.bool (decide_eq_true (by rcases Ld.fp_cls (by rw [hk] at hq9; exact hq9) hn0 with q | q <;> omega)))) (by decide)) (fun _ _ => ?_)
          refine GL.val (v := (.bool true)) (Ex.pickF rfl rfl) (by decide) ?_
          refine GL.val (Ex.assign rfl) (by decide) ?_
          refine GL.nil ?_
          refine GE.thenN ?_
          refine GC.ret ?_
          refine GE.thenR ?_
          refine GC.ret1 rfl (Rv.tmp rfl) (fun wN HN => ?_)
          exact HN.ret () trivial rfl (List.nil_sublist _) rfl
      · refine GL.val (v := (.bool false)) (Ex.cast (Ex.lss rfl rfl) (congrArg Value.bool (decide_eq_false hq12))) (by decide) ?_
        refine GL.val (Ex.move rfl) (by decide) ?_
        refine GL.stepG (tj := 88) rfl rfl (Ex.wp (v := (.int .i64 e)) (Ex.move rfl) (by decide)) (fun _ _ => ?_)
        refine GL.stepG (tj := 88) rfl rfl (Ex.wp (v := (.bool (decide (300 < e)))) (Ex.gtr rfl rfl) (by decide)) (fun _ _ => ?_)
        refine GL.val (v := (.bool (decide (300 < e)))) (Ex.pickF rfl rfl) (by decide) ?_
        refine GL.nil ?_
        refine GE.thenN ?_
        refine GC.cond rfl (fun hq19 => ?_) (fun hq19 => ?_)
        · replace hq19 := of_decide_eq_true hq19
          refine GC.seq ?_
          refine GC.region ?_
          refine GL.val (Ex.move rfl) (by decide) ?_
          refine GL.step (Stp.callR (vs := [(.int .u32 xq8.1)]) rfl rfl T.own15 (by decide) (fun wc hw => cls_p xq8.1 wc (by first | assumption | omega | exact Bt.lst_bd (by assumption) (by assumption) | exact Bt.gst_bd (by assumption) (by assumption) | exact Bt.key_bd (by assumption) | exact Bt.unkey_bd (by assumption) | exact Bt.nxt_bd (by assumption) | exact Bt.lst_bd (Bt.gst_bd (by assumption) (by assumption)) (by assumption) | exact Bt.btw_bd (by assumption) (Bt.lst_bd (by assumption) (by assumption)) (Bt.gst_bd (by assumption) (by assumption))))) (fun xq20 hq21 => ?_)
          by_cases hq22 : (Bt.cls xq8.1) = 3
          · refine GL.val (v := (.bool true)) (Ex.cast (Ex.eql rfl rfl) (congrArg Value.bool (decide_eq_true hq22))) (by decide) ?_
            refine GL.val (Ex.move rfl) (by decide) ?_
            refine GL.skipG (tj := 95) rfl rfl rfl (by decide) ?_
            refine GL.skipG (tj := 95) rfl rfl rfl (by decide) ?_
            refine GL.skipG (tj := 95) rfl rfl rfl (by decide) ?_
            refine GL.val (v := (.bool true)) (Ex.pickT rfl rfl) (by decide) ?_
            refine GL.val (Ex.assign rfl) (by decide) ?_
            refine GL.nil ?_
            refine GE.thenN ?_
            refine GC.ret ?_
            refine GE.thenR ?_
            refine GC.ret1 rfl (Rv.tmp rfl) (fun wN HN => ?_)
            exact HN.ret () trivial rfl (List.nil_sublist _) rfl
          · refine GL.val (v := (.bool false)) (Ex.cast (Ex.eql rfl rfl) (congrArg Value.bool (decide_eq_false hq22))) (by decide) ?_
            refine GL.val (Ex.move rfl) (by decide) ?_
            refine GL.stepG (tj := 95) rfl rfl (Ex.wp (v := (.int .u32 xq8.1)) (Ex.move rfl) (by decide)) (fun _ _ => ?_)
            refine GL.stepG (tj := 95) rfl rfl (Stp.callR (vs := [(.int .u32 xq8.1)]) rfl rfl T.own15 (by decide) (fun wc hw => cls_p xq8.1 wc (by first | assumption | omega | exact Bt.lst_bd (by assumption) (by assumption) | exact Bt.gst_bd (by assumption) (by assumption) | exact Bt.key_bd (by assumption) | exact Bt.unkey_bd (by assumption) | exact Bt.nxt_bd (by assumption) | exact Bt.lst_bd (Bt.gst_bd (by assumption) (by assumption)) (by assumption) | exact Bt.btw_bd (by assumption) (Bt.lst_bd (by assumption) (by assumption)) (Bt.gst_bd (by assumption) (by assumption))))) (fun xq23 hq24 => ?_)
            refine GL.stepG (tj := 95) rfl rfl (Ex.wp (v := (.bool true)) (Ex.cast (Ex.eql rfl rfl) (congrArg Value.bool (decide_eq_true (by rcases Ld.fp_cls (by rw [hk] at hq9; exact hq9) hn0 with q | q <;> omega)))) (by decide)) (fun _ _ => ?_)
            refine GL.val (v := (.bool true)) (Ex.pickF rfl rfl) (by decide) ?_
            refine GL.val (Ex.assign rfl) (by decide) ?_
            refine GL.nil ?_
            refine GE.thenN ?_
            refine GC.ret ?_
            refine GE.thenR ?_
            refine GC.ret1 rfl (Rv.tmp rfl) (fun wN HN => ?_)
            exact HN.ret () trivial rfl (List.nil_sublist _) rfl
        · replace hq19 := of_decide_eq_false hq19
          refine GC.skip ?_
          refine GE.thenN ?_
          refine GC.seq ?_
          refine GC.region ?_
          refine GL.val (Ex.move rfl) (by decide) ?_
          by_cases hq25 : 9007199254740992 < n
          · refine GL.val (v := (.bool true)) (Ex.cast (Ex.gtr rfl rfl) (congrArg Value.bool (decide_eq_true hq25))) (by decide) ?_
            refine GL.val (Ex.move rfl) (by decide) ?_
            refine GL.skipG (tj := 102) rfl rfl rfl (by decide) ?_
            refine GL.skipG (tj := 102) rfl rfl rfl (by decide) ?_
            refine GL.val (v := (.bool true)) (Ex.pickT rfl rfl) (by decide) ?_
            refine GL.val (Ex.move rfl) (by decide) ?_
            refine GL.skipG (tj := 106) rfl rfl rfl (by decide) ?_
            refine GL.skipG (tj := 106) rfl rfl rfl (by decide) ?_
            refine GL.skipG (tj := 106) rfl rfl rfl (by decide) ?_
            refine GL.skipG (tj := 106) rfl rfl rfl (by decide) ?_
            refine GL.skipG (tj := 106) rfl rfl rfl (by decide) ?_
            refine GL.skipG (tj := 106) rfl rfl rfl (by decide) ?_
            refine GL.skipG (tj := 106) rfl rfl rfl (by decide) ?_
            refine GL.skipG (tj := 106) rfl rfl rfl (by decide) ?_
            refine GL.val (v := (.bool true)) (Ex.pickT rfl rfl) (by decide) ?_
            refine GL.val (Ex.assign rfl) (by decide) ?_
            refine GL.nil ?_
            refine GE.thenN ?_
            refine GC.ret ?_
            refine GC.ret1 rfl (Rv.tmp rfl) (fun wN HN => ?_)
            exact HN.ret () trivial rfl (List.nil_sublist _) rfl
          · refine GL.val (v := (.bool false)) (Ex.cast (Ex.gtr rfl rfl) (congrArg Value.bool (decide_eq_false hq25))) (by decide) ?_
            refine GL.val (Ex.move rfl) (by decide) ?_
            refine GL.stepG (tj := 102) rfl rfl (Ex.wp (v := (.int .i64 n)) (Ex.move rfl) (by decide)) (fun _ _ => ?_)
            by_cases hq26 : n < (-9007199254740992)
            · refine GL.stepG (tj := 102) rfl rfl (Ex.wp (v := (.bool true)) (Ex.cast (Ex.lss rfl rfl) (congrArg Value.bool (decide_eq_true hq26))) (by decide)) (fun _ _ => ?_)
              refine GL.val (v := (.bool true)) (Ex.pickF rfl rfl) (by decide) ?_
              refine GL.val (Ex.move rfl) (by decide) ?_
              refine GL.skipG (tj := 106) rfl rfl rfl (by decide) ?_
              refine GL.skipG (tj := 106) rfl rfl rfl (by decide) ?_
              refine GL.skipG (tj := 106) rfl rfl rfl (by decide) ?_
              refine GL.skipG (tj := 106) rfl rfl rfl (by decide) ?_
              refine GL.skipG (tj := 106) rfl rfl rfl (by decide) ?_
              refine GL.skipG (tj := 106) rfl rfl rfl (by decide) ?_
              refine GL.skipG (tj := 106) rfl rfl rfl (by decide) ?_
              refine GL.skipG (tj := 106) rfl rfl rfl (by decide) ?_
              refine GL.val (v := (.bool true)) (Ex.pickT rfl rfl) (by decide) ?_
              refine GL.val (Ex.assign rfl) (by decide) ?_
              refine GL.nil ?_
              refine GE.thenN ?_
              refine GC.ret ?_
              refine GC.ret1 rfl (Rv.tmp rfl) (fun wN HN => ?_)
              exact HN.ret () trivial rfl (List.nil_sublist _) rfl
            · refine GL.stepG (tj := 102) rfl rfl (Ex.wp (v := (.bool false)) (Ex.cast (Ex.lss rfl rfl) (congrArg Value.bool (decide_eq_false hq26))) (by decide)) (fun _ _ => ?_)
              refine GL.val (v := (.bool false)) (Ex.pickF rfl rfl) (by decide) ?_
              refine GL.val (Ex.move rfl) (by decide) ?_
              refine GL.stepG (tj := 106) rfl rfl (Ex.wp (v := (.int .u32 xq8.1)) (Ex.move rfl) (by decide)) (fun _ _ => ?_)
              refine GL.stepG (tj := 106) rfl rfl (Ex.wp (v := (.float .f32 xq8.1.toNat)) (Ex.ext (vs := [(.int .u32 xq8.1)]) rfl rfl T.ext33 (fun _ => rfl)) (by decide)) (fun _ _ => ?_)
              refine GL.stepG (tj := 106) rfl rfl (Stp.fcv (fx := (Fv.rd .f32 xq8.1.toNat)) (by decide) rfl Try.underlying35 Try.underlying40 (Fv.Is.rd _ _) Fv.holds_up (by decide)) (fun xq27 hq28 => ?_)
              refine GL.stepG (tj := 106) rfl rfl (Ex.wp (v := (.int .i64 n)) (Ex.move rfl) (by decide)) (fun _ _ => ?_)
              refine GL.stepG (tj := 106) rfl rfl (Ex.wp (v := (.float .f64 ((floatOfInt .f64 n)))) (Ex.cif rfl Try.underlying3 Try.underlying40) (by decide)) (fun _ _ => ?_)
              refine GL.stepG (tj := 106) rfl rfl (Ex.wp (v := (.int .i64 e)) (Ex.move rfl) (by decide)) (fun _ _ => ?_)
              refine GL.stepG (tj := 106) rfl rfl (Stp.callR (vs := [(.float .f64 ((floatOfInt .f64 n))), (.int .i64 e)]) rfl rfl T.own42 (by decide) (fun wc hw => ldexp_int n e wc (by omega) (by omega))) (fun xq29 hq30 => ?_)
              refine GL.stepG (tj := 106) rfl rfl (Ex.wp (v := (.bool true)) (Ex.feql (r := true) rfl rfl (Eq.trans (congrArg (fun o : Option Ordering => (o == some .eq)) (Fv.ord_eq hq28.1 (Ld.at_is hq30))) (Ld.same_ne (Ld.fp_at hq9 hk hn0 (by omega)) hq30).2)) (by decide)) (fun _ _ => ?_)
              refine GL.val (v := (.bool true)) (Ex.pickF rfl rfl) (by decide) ?_
              refine GL.val (Ex.assign rfl) (by decide) ?_
              refine GL.nil ?_
              refine GE.thenN ?_
              refine GC.ret ?_
              refine GC.ret1 rfl (Rv.tmp rfl) (fun wN HN => ?_)
              exact HN.ret () trivial rfl (List.nil_sublist _) rfl

theorem lawValues (s n e : Int) (w : World) (hs : 0 ≤ s ∧ s < 4294967296) (hn : -9223372036854775808 ≤ n ∧ n ≤ 9223372036854775807) (he : -9223372036854775808 ≤ e ∧ e ≤ 9223372036854775807) :
    Calls Try.prog 9 #[.int .u32 s, .int .i64 n, .int .i64 e] w (Ret w (fun _ : Unit => True) (fun _ => .bool true) (fun _ => [])) := by
  by_cases hf : s / 8388608 % 256 = 255
  · by_cases h0 : s % 8388608 = 0
    · exact bv_inf s n e w hs hn he hf h0
    · exact bv_nan s n e w hs hn he hf h0
  · exact bv_fin s n e w hs hn he hf

end Go.Proofs.Ytnpmfinjommjkaa.B
