/- SpaceLogBack: what its code does, walked. -/
import Derived.Test.YtbhjadkgeadpiaaKLogBack4
namespace Go.Proofs.Ytbhjadkgeadpiaa.C
open Go Go.RowKit Sx
set_option linter.unusedVariables false
set_option maxRecDepth 100000 in
set_option maxHeartbeats 1000000 in
theorem lawLogBack (x y k : Int) (w : World) (hx : 0 ≤ x ∧ x < 4294967296) (hy : 0 ≤ y ∧ y < 4294967296) :
  Calls Try.prog 9 #[(.int .u32 x), (.int .u32 y), (.int .i64 k)] w (Ret w (fun _ : Unit => True) (fun _ => .bool true) (fun _ => [])) := by
 have hLx := Sl.LG_u32 hx
 have hEx := Sl.EX_bd hLx
 have hEy := Sl.EX_bd hy
 have hLy := Sl.LG_u32 hEy
 have c1 : Fv.rk 3271426048 = -1123942400 := by decide
 have c2 : Fv.rk 1124073472 = 1124073472 := by decide
 obtain ⟨q, hq⟩ : ∃ q, q = Int.tmod k 254 := ⟨_, rfl⟩
 have hqb : -254 < q ∧ q < 254 := by rw [hq]; exact ⟨Int.lt_tmod_of_pos k (by decide), Int.tmod_lt_of_pos k (by decide)⟩
 refine enter (M := None) (L := []) (n := 115) (l := [(0, (.int .u32 x)), (1, (.int .u32 y)), (2, (.int .i64 k))]) Try.func9 rfl rfl (Args.cons rfl (Args.cons rfl (Args.cons rfl (Args.nil _)))) (Hp.start _ _) ?_
 refine GC.seq ?_
 refine GC.region ?_
 refine GL.val (Ex.assign rfl) (by decide) ?_
 refine GL.nil ?_
 refine GE.thenN ?_
 refine GC.seq ?_
 refine GC.seq ?_
 refine GC.region ?_
 refine GL.step (Stp.callR (vs := []) rfl rfl T.own13 (by decide) (fun wc hw => known wc)) (fun xq1 hq2 => ?_)
 refine GL.val (v := (.bool false)) (Ex.cast (Ex.not rfl) rfl) (by decide) ?_
 refine GL.nil ?_
 refine GE.thenN ?_
 refine GC.cond rfl (fun hq3 => by cases hq3) (fun _ => ?_)
 refine GC.skip ?_
 refine GE.thenN ?_
 refine GC.seq ?_
 refine GC.seq ?_
 refine GC.region ?_
 refine GL.val (Ex.move rfl) (by decide) ?_
 refine GL.val (v := (.int .u32 (x / 2147483648))) (Ex.shr rfl (m := 31) rfl (by decide) (Z := x / 2147483648) rfl) (by decide) ?_
 by_cases hq4 : (x / 2147483648) = 0
 ·refine GL.val (v := (.bool true)) (Ex.cast (Ex.eql rfl rfl) (congrArg Value.bool (decide_eq_true hq4))) (by decide) ?_
  refine GL.val (Ex.move rfl) (by decide) ?_
  refine GL.stepG (tj := 15) rfl rfl (Ex.wp (v := (.int .u32 x)) (Ex.move rfl) (by decide)) (fun _ _ => ?_)
  by_cases hq5 : 0 < x
  ·refine GL.stepG (tj := 15) rfl rfl (Ex.wp (v := (.bool true)) (Ex.cast (Ex.gtr rfl rfl) (congrArg Value.bool (decide_eq_true hq5))) (by decide)) (fun _ _ => ?_)
   refine GL.val (v := (.bool true)) (Ex.pickT rfl rfl) (by decide) ?_
   refine GL.val (Ex.move rfl) (by decide) ?_
   refine GL.stepG (tj := 19) rfl rfl (Ex.wp (v := (.int .u32 x)) (Ex.move rfl) (by decide)) (fun _ _ => ?_)
   refine GL.stepG (tj := 19) rfl rfl (Stp.callR (vs := [(.int .u32 x)]) rfl rfl T.own28 (by decide) (fun wc hw => finite_l x wc (by first | assumption | omega | exact Bt.lst_bd (by assumption) (by assumption) | exact Bt.gst_bd (by assumption) (by assumption) | exact Bt.key_bd (by assumption) | exact Bt.unkey_bd (by assumption) | exact Bt.nxt_bd (by assumption) | exact Bt.lst_bd (Bt.gst_bd (by assumption) (by assumption)) (by assumption) | exact Bt.btw_bd (by assumption) (Bt.lst_bd (by assumption) (by assumption)) (Bt.gst_bd (by assumption) (by assumption))))) (fun xq6 hq7 => ?_)
   refine GL.val (v := (.bool (decide (x % 2147483648 < 2139095040)))) (Ex.pickT rfl rfl) (by decide) ?_
   refine GL.nil ?_
   refine GE.thenN ?_
   refine GC.cond rfl (fun hq8 => ?_) (fun hq8 => ?_)
   ·replace hq8 := of_decide_eq_true hq8
    refine GC.seq ?_
    have hp1 := Lb.back1 (x := x) (by omega)
    refine GC.region ?_
    refine GL.val (Ex.move rfl) (by decide) ?_
    refine GL.step (Stp.callR (vs := [(.int .u32 x)]) rfl rfl T.own18 (by decide) (fun wc hw => log_p x wc (by omega))) (fun xq9 hq10 => ?_)
    refine GL.step (Stp.callR (vs := [(.int .u32 ((Sl.LG x)))]) rfl rfl T.own20 (by decide) (fun wc hw => exp_p ((Sl.LG x)) wc (by omega))) (fun xq11 hq12 => ?_)
    refine GL.val (Ex.assign rfl) (by decide) ?_
    refine GL.nil ?_
    refine GE.thenN ?_
    refine GC.seq ?_
    refine GC.region ?_
    refine GL.val (Ex.move rfl) (by decide) ?_
    refine GL.val (v := (.int .i64 ((Sl.EX ((Sl.LG x)))))) (Ex.conv rfl Try.underlying23 Try.underlying3 (Z := (Sl.EX ((Sl.LG x)))) (w64 (by omega))) (by decide) ?_
    refine GL.val (Ex.move rfl) (by decide) ?_
    refine GL.val (v := (.int .i64 x)) (Ex.conv rfl Try.underlying23 Try.underlying3 (Z := x) (w64 (by omega))) (by decide) ?_
    refine GL.val (v := (.int .i64 (((Sl.EX ((Sl.LG x)))) - x))) (Ex.sub' rfl rfl (Z := ((Sl.EX ((Sl.LG x)))) - x) (w64 (by omega))) (by decide) ?_
    refine GL.val (Ex.assign rfl) (by decide) ?_
    refine GL.nil ?_
    refine GE.thenN ?_
    refine GC.seq ?_
    refine GC.region ?_
    refine GL.val (Ex.move rfl) (by decide) ?_
    refine GL.val (v := (.int .u32 (((Sl.EX ((Sl.LG x)))) / 2147483648))) (Ex.shr rfl (m := 31) rfl (by decide) (Z := ((Sl.EX ((Sl.LG x)))) / 2147483648) rfl) (by decide) ?_
    refine GL.val (v := (.bool false)) (Ex.cast (Ex.eql rfl rfl) (congrArg Value.bool (decide_eq_false (by omega)))) (by decide) ?_
    refine GL.val (Ex.move rfl) (by decide) ?_
    refine GL.stepG (tj := 34) rfl rfl (Ex.wp (v := (.int .i64 (((Sl.EX ((Sl.LG x)))) - x))) (Ex.move rfl) (by decide)) (fun _ _ => ?_)
    refine GL.stepG (tj := 34) rfl rfl (Ex.wp (v := (.bool false)) (Ex.cast (Ex.gtr rfl rfl) (congrArg Value.bool (decide_eq_false (by omega)))) (by decide)) (fun _ _ => ?_)
    refine GL.val (v := (.bool false)) (Ex.pickF rfl rfl) (by decide) ?_
    refine GL.val (Ex.move rfl) (by decide) ?_
    refine GL.stepG (tj := 38) rfl rfl (Ex.wp (v := (.int .i64 (((Sl.EX ((Sl.LG x)))) - x))) (Ex.move rfl) (by decide)) (fun _ _ => ?_)
    refine GL.stepG (tj := 38) rfl rfl (Ex.wp (v := (.bool false)) (Ex.cast (Ex.lss rfl rfl) (congrArg Value.bool (decide_eq_false (by omega)))) (by decide)) (fun _ _ => ?_)
    refine GL.val (v := (.bool false)) (Ex.pickF rfl rfl) (by decide) ?_
    refine GL.val (Ex.move rfl) (by decide) ?_
    refine GL.stepG (tj := 42) rfl rfl (Ex.wp (v := (.int .u32 x)) (Ex.move rfl) (by decide)) (fun _ _ => ?_)
    by_cases hq13 : 1048576000 ≤ x
    ·refine GL.stepG (tj := 42) rfl rfl (Ex.wp (v := (.bool true)) (Ex.cast (Ex.geq rfl rfl) (congrArg Value.bool (decide_eq_true hq13))) (by decide)) (fun _ _ => ?_)
     refine GL.stepG (tj := 42) rfl rfl (Ex.wp (v := (.bool true)) (Ex.move rfl) (by decide)) (fun _ _ => ?_)
     refine GL.stepG (tj := 45) rfl rfl (Ex.wp (v := (.int .u32 x)) (Ex.move rfl) (by decide)) (fun _ _ => ?_)
     by_cases hq14 : x ≤ 1082130432
     ·refine GL.stepG (tj := 45) rfl rfl (Ex.wp (v := (.bool true)) (Ex.cast (Ex.leq rfl rfl) (congrArg Value.bool (decide_eq_true hq14))) (by decide)) (fun _ _ => ?_)
      refine GL.stepG (tj := 42) rfl rfl (Ex.wp (v := (.bool true)) (Ex.pickT rfl rfl) (by decide)) (fun _ _ => ?_)
      refine GL.stepG (tj := 42) rfl rfl (Ex.wp (v := (.bool true)) (Ex.move rfl) (by decide)) (fun _ _ => ?_)
      refine GL.stepG (tj := 49) rfl rfl (Ex.wp (v := (.int .i64 (((Sl.EX ((Sl.LG x)))) - x))) (Ex.move rfl) (by decide)) (fun _ _ => ?_)
      refine GL.stepG (tj := 49) rfl rfl (Ex.wp (v := (.bool false)) (Ex.cast (Ex.neq rfl rfl) (congrArg Value.bool (decide_eq_false (by (have := hp1.2.2 (by omega); omega))))) (by decide)) (fun _ _ => ?_)
      refine GL.stepG (tj := 42) rfl rfl (Ex.wp (v := (.bool false)) (Ex.pickT rfl rfl) (by decide)) (fun _ _ => ?_)
      refine GL.val (v := (.bool false)) (Ex.pickF rfl rfl) (by decide) ?_
      refine GL.nil ?_
      refine GE.thenN ?_
      refine GC.cond rfl (fun hq15 => by cases hq15) (fun _ => ?_)
      refine GC.skip ?_
      refine GE.thenN ?_
      refine GC.seq ?_
      refine GC.seq ?_
      refine GC.region ?_
      refine GL.val (Ex.move rfl) (by decide) ?_
      refine GL.step (Stp.callR (vs := [(.int .u32 y)]) rfl rfl T.own28 (by decide) (fun wc hw => finite_l y wc (by first | assumption | omega | exact Bt.lst_bd (by assumption) (by assumption) | exact Bt.gst_bd (by assumption) (by assumption) | exact Bt.key_bd (by assumption) | exact Bt.unkey_bd (by assumption) | exact Bt.nxt_bd (by assumption) | exact Bt.lst_bd (Bt.gst_bd (by assumption) (by assumption)) (by assumption) | exact Bt.btw_bd (by assumption) (Bt.lst_bd (by assumption) (by assumption)) (Bt.gst_bd (by assumption) (by assumption))))) (fun xq16 hq17 => ?_)
      by_cases hq18 : (y % 2147483648 < 2139095040)
      ·refine GL.val (v := (.bool true)) (Ex.cast (Ex.move rfl) (congrArg Value.bool (decide_eq_true hq18))) (by decide) ?_
       refine GL.stepG (tj := 56) rfl rfl (Ex.wp (v := (.int .u32 y)) (Ex.move rfl) (by decide)) (fun _ _ => ?_)
       refine GL.stepG (tj := 56) rfl rfl (Stp.callR (vs := [(.int .u32 y)]) rfl rfl T.own36 (by decide) (fun wc hw => key_l y wc (by first | assumption | omega | exact Bt.lst_bd (by assumption) (by assumption) | exact Bt.gst_bd (by assumption) (by assumption) | exact Bt.key_bd (by assumption) | exact Bt.unkey_bd (by assumption) | exact Bt.nxt_bd (by assumption) | exact Bt.lst_bd (Bt.gst_bd (by assumption) (by assumption)) (by assumption) | exact Bt.btw_bd (by assumption) (Bt.lst_bd (by assumption) (by assumption)) (Bt.gst_bd (by assumption) (by assumption))))) (fun xq19 hq20 => ?_)
       refine GL.stepG (tj := 56) rfl rfl (Stp.callR (vs := [(.int .u32 3271426048)]) rfl rfl T.own36 (by decide) (fun wc hw => key_l 3271426048 wc (by first | assumption | omega | exact Bt.lst_bd (by assumption) (by assumption) | exact Bt.gst_bd (by assumption) (by assumption) | exact Bt.key_bd (by assumption) | exact Bt.unkey_bd (by assumption) | exact Bt.nxt_bd (by assumption) | exact Bt.lst_bd (Bt.gst_bd (by assumption) (by assumption)) (by assumption) | exact Bt.btw_bd (by assumption) (Bt.lst_bd (by assumption) (by assumption)) (Bt.gst_bd (by assumption) (by assumption))))) (fun xq21 hq22 => ?_)
       by_cases hq23 : ((Fv.rk 3271426048)) < ((Fv.rk y))
       ·refine GL.stepG (tj := 56) rfl rfl (Ex.wp (v := (.bool true)) (Ex.cast (Ex.gtr rfl rfl) (congrArg Value.bool (decide_eq_true hq23))) (by decide)) (fun _ _ => ?_)
        refine GL.val (v := (.bool true)) (Ex.pickT rfl rfl) (by decide) ?_
        refine GL.val (Ex.move rfl) (by decide) ?_
        refine GL.stepG (tj := 62) rfl rfl (Ex.wp (v := (.int .u32 y)) (Ex.move rfl) (by decide)) (fun _ _ => ?_)
        refine GL.stepG (tj := 62) rfl rfl (Stp.callR (vs := [(.int .u32 y)]) rfl rfl T.own36 (by decide) (fun wc hw => key_l y wc (by first | assumption | omega | exact Bt.lst_bd (by assumption) (by assumption) | exact Bt.gst_bd (by assumption) (by assumption) | exact Bt.key_bd (by assumption) | exact Bt.unkey_bd (by assumption) | exact Bt.nxt_bd (by assumption) | exact Bt.lst_bd (Bt.gst_bd (by assumption) (by assumption)) (by assumption) | exact Bt.btw_bd (by assumption) (Bt.lst_bd (by assumption) (by assumption)) (Bt.gst_bd (by assumption) (by assumption))))) (fun xq24 hq25 => ?_)
        refine GL.stepG (tj := 62) rfl rfl (Stp.callR (vs := [(.int .u32 1124073472)]) rfl rfl T.own36 (by decide) (fun wc hw => key_l 1124073472 wc (by first | assumption | omega | exact Bt.lst_bd (by assumption) (by assumption) | exact Bt.gst_bd (by assumption) (by assumption) | exact Bt.key_bd (by assumption) | exact Bt.unkey_bd (by assumption) | exact Bt.nxt_bd (by assumption) | exact Bt.lst_bd (Bt.gst_bd (by assumption) (by assumption)) (by assumption) | exact Bt.btw_bd (by assumption) (Bt.lst_bd (by assumption) (by assumption)) (Bt.gst_bd (by assumption) (by assumption))))) (fun xq26 hq27 => ?_)
        refine GL.stepG (tj := 62) rfl rfl (Ex.wp (v := (.bool (decide (((Fv.rk y)) < ((Fv.rk 1124073472)))))) (Ex.lss rfl rfl) (by decide)) (fun _ _ => ?_)
        refine GL.val (v := (.bool (decide (((Fv.rk y)) < ((Fv.rk 1124073472)))))) (Ex.pickT rfl rfl) (by decide) ?_
        refine GL.nil ?_
        refine GE.thenN ?_
        refine GC.cond rfl (fun hq28 => ?_) (fun hq28 => ?_)
        ·replace hq28 := of_decide_eq_true hq28
         refine GC.seq ?_
         refine GC.region ?_
         refine GL.val (Ex.move rfl) (by decide) ?_
         refine GL.step (Stp.callR (vs := [(.int .u32 y)]) rfl rfl T.own20 (by decide) (fun wc hw => exp_p y wc (by omega))) (fun xq29 hq30 => ?_)
         refine GL.step (Stp.callR (vs := [(.int .u32 ((Sl.EX y)))]) rfl rfl T.own18 (by decide) (fun wc hw => log_p ((Sl.EX y)) wc (by omega))) (fun xq31 hq32 => ?_)
         refine GL.val (Ex.assign rfl) (by decide) ?_
         refine GL.nil ?_
         refine GE.thenN ?_
         refine GC.seq ?_
         have hp2 := Lb.back2' hy (by omega) (by omega)
         have hxb := Lb.expo_bd hy (by omega)
         by_cases hyb : (Sl.LG (Sl.EX y)) = y
         ·obtain ⟨g', m1, m2, he3, he4, hm12, hg'⟩ := Lb.mins (Bt.expo y) (-24)
          rw [hyb]
          refine GC.region ?_
          refine GL.val (Ex.move rfl) (by decide) ?_
          refine GL.step (Stp.callR (vs := [(.int .u32 y)]) rfl rfl T.own28 (by decide) (fun wc hw => finite_l y wc (by first | assumption | omega | exact Bt.lst_bd (by assumption) (by assumption) | exact Bt.gst_bd (by assumption) (by assumption) | exact Bt.key_bd (by assumption) | exact Bt.unkey_bd (by assumption) | exact Bt.nxt_bd (by assumption) | exact Bt.lst_bd (Bt.gst_bd (by assumption) (by assumption)) (by assumption) | exact Bt.btw_bd (by assumption) (Bt.lst_bd (by assumption) (by assumption)) (Bt.gst_bd (by assumption) (by assumption))))) (fun xq33 hq34 => ?_)
          refine GL.val (v := (.bool false)) (Ex.cast (Ex.not rfl) (congrArg Value.bool (congrArg (fun z => !z) (decide_eq_true (by assumption))))) (by decide) ?_
          refine GL.val (Ex.move rfl) (by decide) ?_
          refine GL.stepG (tj := 74) rfl rfl (Ex.wp (v := (.int .u32 y)) (Ex.move rfl) (by decide)) (fun _ _ => ?_)
          refine GL.stepG (tj := 74) rfl rfl (Ex.wp (v := (.int .u32 y)) (Ex.move rfl) (by decide)) (fun _ _ => ?_)
          refine GL.stepG (tj := 74) rfl rfl (Stp.callR (vs := [(.int .u32 y), (.int .u32 y)]) rfl rfl T.own34 (by decide) (fun wc hw => off_eq y y (Bt.expo y) 0 0 wc hy (by omega) hy (by omega) (by omega) (by omega) (.inl rfl) (by decide) (by decide) (by omega) (Lb.ne_not _) rfl)) (fun xq35 hq36 => ?_)
          refine GL.stepG (tj := 74) rfl rfl (Stp.callR (vs := [(.int .i64 (-24))]) rfl rfl T.own31 (by decide) (fun wc hw => power_l (-24) wc)) (fun xq37 hq38 => ?_)
          refine GL.stepG (tj := 74) rfl rfl (Stp.callR (vs := [(.agg #[(.int .i64 2), (.bool false), (.slice none 0 0), (.int .i64 ((Bt.expo y))), (.bool false)]), (.agg #[(.int .i64 2), (.bool false), (.slice (some ⟨xq37, 0, none⟩) ((Nd.nd 1)) 2), (.int .i64 (-24)), (.bool false)])]) rfl rfl T.own30 (by decide) (fun wc hw => within_n none 0 1 xq37 2 g' (Bt.expo y) (-24) m1 m2 false false wc (Nd.Nb.one (Lg.rd1 (hw.rdOf (i := 0) rfl 0)) (by decide)) (by rw [Nd.nd_one (by decide)]; decide) he3 he4 hm12 (by omega) (by omega) (by omega))) (fun xq39 hq40 => ?_)
          refine GL.stepG (tj := 74) rfl rfl (Ex.wp (v := (.bool false)) (Ex.cast (Ex.not rfl) rfl) (by decide)) (fun _ _ => ?_)
          refine GL.val (v := (.bool false)) (Ex.pickF rfl rfl) (by decide) ?_
          refine GL.val (Ex.move rfl) (by decide) ?_
          refine GL.stepG (tj := 82) rfl rfl (Ex.wp (v := (.int .u32 y)) (Ex.move rfl) (by decide)) (fun _ _ => ?_)
          refine GL.stepG (tj := 82) rfl rfl (Ex.wp (v := (.int .u32 (y % 2147483648))) (Ex.bits rfl rfl (by simp) (Z := y % 2147483648) (andm 31 (by omega) (by omega) (by decide) rfl rfl)) (by decide)) (fun _ _ => ?_)
          by_cases hq41 : 1065353216 ≤ (y % 2147483648)
          ·refine GL.stepG (tj := 82) rfl rfl (Ex.wp (v := (.bool true)) (Ex.cast (Ex.geq rfl rfl) (congrArg Value.bool (decide_eq_true hq41))) (by decide)) (fun _ _ => ?_)
           refine GL.stepG (tj := 82) rfl rfl (Ex.wp (v := (.bool true)) (Ex.move rfl) (by decide)) (fun _ _ => ?_)
           refine GL.stepG (tj := 86) rfl rfl (Ex.wp (v := (.int .u32 y)) (Ex.move rfl) (by decide)) (fun _ _ => ?_)
           refine GL.stepG (tj := 86) rfl rfl (Ex.wp (v := (.int .u32 y)) (Ex.move rfl) (by decide)) (fun _ _ => ?_)
           refine GL.stepG (tj := 86) rfl rfl (Ex.wp (v := (.bool false)) (Ex.cast (Ex.neq rfl rfl) (congrArg Value.bool (decide_eq_false (by simp)))) (by decide)) (fun _ _ => ?_)
           refine GL.stepG (tj := 82) rfl rfl (Ex.wp (v := (.bool false)) (Ex.pickT rfl rfl) (by decide)) (fun _ _ => ?_)
           refine GL.val (v := (.bool false)) (Ex.pickF rfl rfl) (by decide) ?_
           refine GL.nil ?_
           refine GE.thenN ?_
           refine GC.cond rfl (fun hq42 => by cases hq42) (fun _ => ?_)
           refine GC.skip ?_
           refine GE.thenN ?_
           refine GC.seq ?_
           refine GC.region ?_
           refine GL.val (Ex.move rfl) (by decide) ?_
           refine GL.val (v := (.int .i64 q)) (Ex.rem rfl rfl (Z := q) (by decide) (by first | exact hq.symm | (rw [← hq]; exact w64 (by omega)))) (by decide) ?_
           refine GL.val (v := (.int .i64 (q + 254))) (Ex.add rfl rfl (Z := q + 254) (w64 (by omega))) (by decide) ?_
           refine GL.val (v := (.int .i64 ((q + 254) % 254))) (Ex.rem rfl rfl (Z := (q + 254) % 254) (by omega) (rem64 (by omega) (by omega))) (by decide) ?_
           refine GL.val (v := (.int .i64 (((q + 254) % 254) - 126))) (Ex.sub' rfl rfl (Z := ((q + 254) % 254) - 126) (w64 (by omega))) (by decide) ?_
           refine GL.val (Ex.assign rfl) (by decide) ?_
           refine GL.nil ?_
           refine GE.thenN ?_
           refine GC.seq ?_
           obtain ⟨j, hj⟩ : ∃ j, j = ((q + 254) % 254) - 126 := ⟨_, rfl⟩
           rw [← hj]
           have hp3 := Lb.back3 (k := j) (by omega) (by omega)
           have hFI := Lb.FI_u32 (k := j) (by omega) (by omega)
           refine GC.region ?_
           refine GL.val (Ex.move rfl) (by decide) ?_
           refine GL.val (v := (.int .i64 (j + 127))) (Ex.add rfl rfl (Z := j + 127) (w64 (by omega))) (by decide) ?_
           refine GL.val (v := (.int .u32 (j + 127))) (Ex.conv rfl Try.underlying3 Try.underlying23 (Z := j + 127) (wu32b (by omega))) (by decide) ?_
           refine GL.val (v := (.int .u32 ((j + 127) * 8388608))) (Ex.shl rfl (m := 23) rfl (by decide) (Z := (j + 127) * 8388608) (wu32b (by omega))) (by decide) ?_
           refine GL.step (Stp.callR (vs := [(.int .u32 ((j + 127) * 8388608))]) rfl rfl T.own18 (by decide) (fun wc hw => log_p ((j + 127) * 8388608) wc (by omega))) (fun xq43 hq44 => ?_)
           refine GL.val (Ex.move rfl) (by decide) ?_
           refine GL.step (Stp.callR (vs := [(.int .i64 j)]) rfl rfl T.own37 (by decide) (fun wc hw => fromint_all j wc (by omega))) (fun xq45 hq46 => ?_)
           refine GL.val (v := (.bool true)) (Ex.cast (Ex.eql rfl rfl) (congrArg Value.bool (decide_eq_true (by exact hp3.1)))) (by decide) ?_
           refine GL.val (Ex.move rfl) (by decide) ?_
           refine GL.stepG (tj := 105) rfl rfl (Ex.wp (v := (.int .i64 j)) (Ex.move rfl) (by decide)) (fun _ _ => ?_)
           refine GL.stepG (tj := 105) rfl rfl (Stp.callR (vs := [(.int .i64 j)]) rfl rfl T.own37 (by decide) (fun wc hw => fromint_all j wc (by omega))) (fun xq47 hq48 => ?_)
           refine GL.stepG (tj := 105) rfl rfl (Stp.callR (vs := [(.int .u32 ((Lb.FI j)))]) rfl rfl T.own20 (by decide) (fun wc hw => exp_p ((Lb.FI j)) wc (by omega))) (fun xq49 hq50 => ?_)
           refine GL.stepG (tj := 105) rfl rfl (Ex.wp (v := (.int .i64 j)) (Ex.move rfl) (by decide)) (fun _ _ => ?_)
           refine GL.stepG (tj := 105) rfl rfl (Ex.wp (v := (.int .i64 (j + 127))) (Ex.add rfl rfl (Z := j + 127) (w64 (by omega))) (by decide)) (fun _ _ => ?_)
           refine GL.stepG (tj := 105) rfl rfl (Ex.wp (v := (.int .u32 (j + 127))) (Ex.conv rfl Try.underlying3 Try.underlying23 (Z := j + 127) (wu32b (by omega))) (by decide)) (fun _ _ => ?_)
           refine GL.stepG (tj := 105) rfl rfl (Ex.wp (v := (.int .u32 ((j + 127) * 8388608))) (Ex.shl rfl (m := 23) rfl (by decide) (Z := (j + 127) * 8388608) (wu32b (by omega))) (by decide)) (fun _ _ => ?_)
           refine GL.stepG (tj := 105) rfl rfl (Ex.wp (v := (.bool true)) (Ex.cast (Ex.eql rfl rfl) (congrArg Value.bool (decide_eq_true (by exact hp3.2)))) (by decide)) (fun _ _ => ?_)
           refine GL.val (v := (.bool true)) (Ex.pickT rfl rfl) (by decide) ?_
           refine GL.val (Ex.assign rfl) (by decide) ?_
           refine GL.nil ?_
           refine GE.thenN ?_
           refine GC.ret ?_
           refine GC.ret1 rfl (Rv.tmp rfl) (fun wN HN => ?_)
           exact HN.ret () trivial (by first | rfl | simp) (List.nil_sublist _) rfl
          ·refine GL.stepG (tj := 82) rfl rfl (Ex.wp (v := (.bool false)) (Ex.cast (Ex.geq rfl rfl) (congrArg Value.bool (decide_eq_false hq41))) (by decide)) (fun _ _ => ?_)
           refine GL.stepG (tj := 82) rfl rfl (Ex.wp (v := (.bool false)) (Ex.move rfl) (by decide)) (fun _ _ => ?_)
           refine GL.skipG (tj := 86) rfl rfl rfl (by decide) ?_
           refine GL.skipG (tj := 86) rfl rfl rfl (by decide) ?_
           refine GL.skipG (tj := 86) rfl rfl rfl (by decide) ?_
           refine GL.stepG (tj := 82) rfl rfl (Ex.wp (v := (.bool false)) (Ex.pickF rfl rfl) (by decide)) (fun _ _ => ?_)
           refine GL.val (v := (.bool false)) (Ex.pickF rfl rfl) (by decide) ?_
           refine GL.nil ?_
           refine GE.thenN ?_
           refine GC.cond rfl (fun hq51 => by cases hq51) (fun _ => ?_)
           refine GC.skip ?_
           refine GE.thenN ?_
           refine GC.seq ?_
           refine GC.region ?_
           refine GL.val (Ex.move rfl) (by decide) ?_
           refine GL.val (v := (.int .i64 q)) (Ex.rem rfl rfl (Z := q) (by decide) (by first | exact hq.symm | (rw [← hq]; exact w64 (by omega)))) (by decide) ?_
           refine GL.val (v := (.int .i64 (q + 254))) (Ex.add rfl rfl (Z := q + 254) (w64 (by omega))) (by decide) ?_
           refine GL.val (v := (.int .i64 ((q + 254) % 254))) (Ex.rem rfl rfl (Z := (q + 254) % 254) (by omega) (rem64 (by omega) (by omega))) (by decide) ?_
           refine GL.val (v := (.int .i64 (((q + 254) % 254) - 126))) (Ex.sub' rfl rfl (Z := ((q + 254) % 254) - 126) (w64 (by omega))) (by decide) ?_
           refine GL.val (Ex.assign rfl) (by decide) ?_
           refine GL.nil ?_
           refine GE.thenN ?_
           refine GC.seq ?_
           obtain ⟨j, hj⟩ : ∃ j, j = ((q + 254) % 254) - 126 := ⟨_, rfl⟩
           rw [← hj]
           have hp3 := Lb.back3 (k := j) (by omega) (by omega)
           have hFI := Lb.FI_u32 (k := j) (by omega) (by omega)
           refine GC.region ?_
           refine GL.val (Ex.move rfl) (by decide) ?_
           refine GL.val (v := (.int .i64 (j + 127))) (Ex.add rfl rfl (Z := j + 127) (w64 (by omega))) (by decide) ?_
           refine GL.val (v := (.int .u32 (j + 127))) (Ex.conv rfl Try.underlying3 Try.underlying23 (Z := j + 127) (wu32b (by omega))) (by decide) ?_
           refine GL.val (v := (.int .u32 ((j + 127) * 8388608))) (Ex.shl rfl (m := 23) rfl (by decide) (Z := (j + 127) * 8388608) (wu32b (by omega))) (by decide) ?_
           refine GL.step (Stp.callR (vs := [(.int .u32 ((j + 127) * 8388608))]) rfl rfl T.own18 (by decide) (fun wc hw => log_p ((j + 127) * 8388608) wc (by omega))) (fun xq52 hq53 => ?_)
           refine GL.val (Ex.move rfl) (by decide) ?_
           refine GL.step (Stp.callR (vs := [(.int .i64 j)]) rfl rfl T.own37 (by decide) (fun wc hw => fromint_all j wc (by omega))) (fun xq54 hq55 => ?_)
           refine GL.val (v := (.bool true)) (Ex.cast (Ex.eql rfl rfl) (congrArg Value.bool (decide_eq_true (by exact hp3.1)))) (by decide) ?_
           refine GL.val (Ex.move rfl) (by decide) ?_
           refine GL.stepG (tj := 105) rfl rfl (Ex.wp (v := (.int .i64 j)) (Ex.move rfl) (by decide)) (fun _ _ => ?_)
           refine GL.stepG (tj := 105) rfl rfl (Stp.callR (vs := [(.int .i64 j)]) rfl rfl T.own37 (by decide) (fun wc hw => fromint_all j wc (by omega))) (fun xq56 hq57 => ?_)
           refine GL.stepG (tj := 105) rfl rfl (Stp.callR (vs := [(.int .u32 ((Lb.FI j)))]) rfl rfl T.own20 (by decide) (fun wc hw => exp_p ((Lb.FI j)) wc (by omega))) (fun xq58 hq59 => ?_)
           refine GL.stepG (tj := 105) rfl rfl (Ex.wp (v := (.int .i64 j)) (Ex.move rfl) (by decide)) (fun _ _ => ?_)
           refine GL.stepG (tj := 105) rfl rfl (Ex.wp (v := (.int .i64 (j + 127))) (Ex.add rfl rfl (Z := j + 127) (w64 (by omega))) (by decide)) (fun _ _ => ?_)
           refine GL.stepG (tj := 105) rfl rfl (Ex.wp (v := (.int .u32 (j + 127))) (Ex.conv rfl Try.underlying3 Try.underlying23 (Z := j + 127) (wu32b (by omega))) (by decide)) (fun _ _ => ?_)
           refine GL.stepG (tj := 105) rfl rfl (Ex.wp (v := (.int .u32 ((j + 127) * 8388608))) (Ex.shl rfl (m := 23) rfl (by decide) (Z := (j + 127) * 8388608) (wu32b (by omega))) (by decide)) (fun _ _ => ?_)
           refine GL.stepG (tj := 105) rfl rfl (Ex.wp (v := (.bool true)) (Ex.cast (Ex.eql rfl rfl) (congrArg Value.bool (decide_eq_true (by exact hp3.2)))) (by decide)) (fun _ _ => ?_)
           refine GL.val (v := (.bool true)) (Ex.pickT rfl rfl) (by decide) ?_
           refine GL.val (Ex.assign rfl) (by decide) ?_
           refine GL.nil ?_
           refine GE.thenN ?_
           refine GC.ret ?_
           refine GC.ret1 rfl (Rv.tmp rfl) (fun wN HN => ?_)
           exact HN.ret () trivial (by first | rfl | simp) (List.nil_sublist _) rfl
         ·have hxc := Lb.expo_bd hLy hp2.1
          obtain ⟨e, n1, n2, he1, he2, hn12, he⟩ := Lb.mins (Bt.expo y) (Bt.expo (Sl.LG (Sl.EX y)))
          obtain ⟨g', m1, m2, he3, he4, hm12, hg'⟩ := Lb.mins e (-24)
          have hW := Lb.near_ok hy (by omega) hLy hp2.1 he1 he2 he3 he4 (by omega) hp2.2.2
          refine GC.region ?_
          refine GL.val (Ex.move rfl) (by decide) ?_
          refine GL.step (Stp.callR (vs := [(.int .u32 ((Sl.LG ((Sl.EX y)))))]) rfl rfl T.own28 (by decide) (fun wc hw => finite_l ((Sl.LG ((Sl.EX y)))) wc (by first | assumption | omega | exact Bt.lst_bd (by assumption) (by assumption) | exact Bt.gst_bd (by assumption) (by assumption) | exact Bt.key_bd (by assumption) | exact Bt.unkey_bd (by assumption) | exact Bt.nxt_bd (by assumption) | exact Bt.lst_bd (Bt.gst_bd (by assumption) (by assumption)) (by assumption) | exact Bt.btw_bd (by assumption) (Bt.lst_bd (by assumption) (by assumption)) (Bt.gst_bd (by assumption) (by assumption))))) (fun xq60 hq61 => ?_)
          refine GL.val (v := (.bool false)) (Ex.cast (Ex.not rfl) (congrArg Value.bool (congrArg (fun z => !z) (decide_eq_true (by exact hp2.1))))) (by decide) ?_
          refine GL.val (Ex.move rfl) (by decide) ?_
          refine GL.stepG (tj := 74) rfl rfl (Ex.wp (v := (.int .u32 y)) (Ex.move rfl) (by decide)) (fun _ _ => ?_)
          refine GL.stepG (tj := 74) rfl rfl (Ex.wp (v := (.int .u32 ((Sl.LG ((Sl.EX y)))))) (Ex.move rfl) (by decide)) (fun _ _ => ?_)
          refine GL.stepG (tj := 74) rfl rfl (Stp.callR (vs := [(.int .u32 y), (.int .u32 ((Sl.LG ((Sl.EX y)))))]) rfl rfl T.own34 (by decide) (fun wc hw => off_ne y ((Sl.LG ((Sl.EX y)))) e n1 n2 wc hy (by omega) hLy hp2.1 he1 he2 hn12 (by omega) (by omega) (by omega) (fun q => hyb q.symm))) (fun xq62 hq63 => ?_)
          have hpx := hq63
          refine GL.stepG (tj := 74) rfl rfl (Stp.callR (vs := [(.int .i64 (-24))]) rfl rfl T.own31 (by decide) (fun wc hw => power_l (-24) wc)) (fun xq64 hq65 => ?_)
          refine GL.stepG (tj := 74) rfl rfl (Stp.callR (vs := [(.agg #[(.int .i64 2), (.bool false), (.slice (some ⟨xq62.1, 0, none⟩) ((Nd.nd (Lb.dfr (decide (y / 2147483648 % 2 = 1)) (decide (((Sl.LG ((Sl.EX y)))) / 2147483648 % 2 = 1)) ((Bt.mant y).toNat * 2 ^ n1) ((Bt.mant ((Sl.LG ((Sl.EX y))))).toNat * 2 ^ n2)))) xq62.2), (.int .i64 e), (.bool false)]), (.agg #[(.int .i64 2), (.bool false), (.slice (some ⟨xq64, 0, none⟩) ((Nd.nd 1)) 2), (.int .i64 (-24)), (.bool false)])]) rfl rfl T.own30 (by decide) (fun wc hw => within_b (Lb.dfr (decide (y / 2147483648 % 2 = 1)) (decide (((Sl.LG ((Sl.EX y)))) / 2147483648 % 2 = 1)) ((Bt.mant y).toNat * 2 ^ n1) ((Bt.mant ((Sl.LG ((Sl.EX y))))).toNat * 2 ^ n2)) xq62.1 xq62.2 1 xq64 2 g' e (-24) m1 m2 false false wc (Nd.Nb.of (hw.rdOf (i := 1) rfl 0) (Lb.nd_lt_of hpx)) (Nat.le_trans (Lb.dfr_nd hy hLy (by omega) (by omega) _ _) (by decide)) (Nd.Nb.one (Lg.rd1 (hw.rdOf (i := 0) rfl 0)) (by decide)) (by rw [Nd.nd_one (by decide)]; decide) he3 he4 hm12 (by omega) (by omega) (by omega))) (fun xq66 hq67 => ?_)
          refine GL.stepG (tj := 74) rfl rfl (Ex.wp (v := (.bool false)) (Ex.cast (Ex.not rfl) (congrArg Value.bool (congrArg (fun z => !z) (decide_eq_true (by exact hW))))) (by decide)) (fun _ _ => ?_)
          refine GL.val (v := (.bool false)) (Ex.pickF rfl rfl) (by decide) ?_
          refine GL.val (Ex.move rfl) (by decide) ?_
          refine GL.stepG (tj := 82) rfl rfl (Ex.wp (v := (.int .u32 y)) (Ex.move rfl) (by decide)) (fun _ _ => ?_)
          refine GL.stepG (tj := 82) rfl rfl (Ex.wp (v := (.int .u32 (y % 2147483648))) (Ex.bits rfl rfl (by simp) (Z := y % 2147483648) (andm 31 (by omega) (by omega) (by decide) rfl rfl)) (by decide)) (fun _ _ => ?_)
          by_cases hq68 : 1065353216 ≤ (y % 2147483648)
          ·refine GL.stepG (tj := 82) rfl rfl (Ex.wp (v := (.bool true)) (Ex.cast (Ex.geq rfl rfl) (congrArg Value.bool (decide_eq_true hq68))) (by decide)) (fun _ _ => ?_)
           refine GL.stepG (tj := 82) rfl rfl (Ex.wp (v := (.bool true)) (Ex.move rfl) (by decide)) (fun _ _ => ?_)
           refine GL.stepG (tj := 86) rfl rfl (Ex.wp (v := (.int .u32 ((Sl.LG ((Sl.EX y)))))) (Ex.move rfl) (by decide)) (fun _ _ => ?_)
           refine GL.stepG (tj := 86) rfl rfl (Ex.wp (v := (.int .u32 y)) (Ex.move rfl) (by decide)) (fun _ _ => ?_)
           refine GL.stepG (tj := 86) rfl rfl (Ex.wp (v := (.bool false)) (Ex.cast (Ex.neq rfl rfl) (congrArg Value.bool (decide_eq_false (by exact absurd (hp2.2.1 (by omega)) hyb)))) (by decide)) (fun _ _ => ?_)
           refine GL.stepG (tj := 82) rfl rfl (Ex.wp (v := (.bool false)) (Ex.pickT rfl rfl) (by decide)) (fun _ _ => ?_)
           refine GL.val (v := (.bool false)) (Ex.pickF rfl rfl) (by decide) ?_
           refine GL.nil ?_
           refine GE.thenN ?_
           refine GC.cond rfl (fun hq69 => by cases hq69) (fun _ => ?_)
           refine GC.skip ?_
           refine GE.thenN ?_
           refine GC.seq ?_
           refine GC.region ?_
           refine GL.val (Ex.move rfl) (by decide) ?_
           refine GL.val (v := (.int .i64 q)) (Ex.rem rfl rfl (Z := q) (by decide) (by first | exact hq.symm | (rw [← hq]; exact w64 (by omega)))) (by decide) ?_
           refine GL.val (v := (.int .i64 (q + 254))) (Ex.add rfl rfl (Z := q + 254) (w64 (by omega))) (by decide) ?_
           refine GL.val (v := (.int .i64 ((q + 254) % 254))) (Ex.rem rfl rfl (Z := (q + 254) % 254) (by omega) (rem64 (by omega) (by omega))) (by decide) ?_
           refine GL.val (v := (.int .i64 (((q + 254) % 254) - 126))) (Ex.sub' rfl rfl (Z := ((q + 254) % 254) - 126) (w64 (by omega))) (by decide) ?_
           refine GL.val (Ex.assign rfl) (by decide) ?_
           refine GL.nil ?_
           refine GE.thenN ?_
           refine GC.seq ?_
           obtain ⟨j, hj⟩ : ∃ j, j = ((q + 254) % 254) - 126 := ⟨_, rfl⟩
           rw [← hj]
           have hp3 := Lb.back3 (k := j) (by omega) (by omega)
           have hFI := Lb.FI_u32 (k := j) (by omega) (by omega)
           refine GC.region ?_
           refine GL.val (Ex.move rfl) (by decide) ?_
           refine GL.val (v := (.int .i64 (j + 127))) (Ex.add rfl rfl (Z := j + 127) (w64 (by omega))) (by decide) ?_
           refine GL.val (v := (.int .u32 (j + 127))) (Ex.conv rfl Try.underlying3 Try.underlying23 (Z := j + 127) (wu32b (by omega))) (by decide) ?_
           refine GL.val (v := (.int .u32 ((j + 127) * 8388608))) (Ex.shl rfl (m := 23) rfl (by decide) (Z := (j + 127) * 8388608) (wu32b (by omega))) (by decide) ?_
           refine GL.step (Stp.callR (vs := [(.int .u32 ((j + 127) * 8388608))]) rfl rfl T.own18 (by decide) (fun wc hw => log_p ((j + 127) * 8388608) wc (by omega))) (fun xq70 hq71 => ?_)
           refine GL.val (Ex.move rfl) (by decide) ?_
           refine GL.step (Stp.callR (vs := [(.int .i64 j)]) rfl rfl T.own37 (by decide) (fun wc hw => fromint_all j wc (by omega))) (fun xq72 hq73 => ?_)
           refine GL.val (v := (.bool true)) (Ex.cast (Ex.eql rfl rfl) (congrArg Value.bool (decide_eq_true (by exact hp3.1)))) (by decide) ?_
           refine GL.val (Ex.move rfl) (by decide) ?_
           refine GL.stepG (tj := 105) rfl rfl (Ex.wp (v := (.int .i64 j)) (Ex.move rfl) (by decide)) (fun _ _ => ?_)
           refine GL.stepG (tj := 105) rfl rfl (Stp.callR (vs := [(.int .i64 j)]) rfl rfl T.own37 (by decide) (fun wc hw => fromint_all j wc (by omega))) (fun xq74 hq75 => ?_)
           refine GL.stepG (tj := 105) rfl rfl (Stp.callR (vs := [(.int .u32 ((Lb.FI j)))]) rfl rfl T.own20 (by decide) (fun wc hw => exp_p ((Lb.FI j)) wc (by omega))) (fun xq76 hq77 => ?_)
           refine GL.stepG (tj := 105) rfl rfl (Ex.wp (v := (.int .i64 j)) (Ex.move rfl) (by decide)) (fun _ _ => ?_)
           refine GL.stepG (tj := 105) rfl rfl (Ex.wp (v := (.int .i64 (j + 127))) (Ex.add rfl rfl (Z := j + 127) (w64 (by omega))) (by decide)) (fun _ _ => ?_)
           refine GL.stepG (tj := 105) rfl rfl (Ex.wp (v := (.int .u32 (j + 127))) (Ex.conv rfl Try.underlying3 Try.underlying23 (Z := j + 127) (wu32b (by omega))) (by decide)) (fun _ _ => ?_)
           refine GL.stepG (tj := 105) rfl rfl (Ex.wp (v := (.int .u32 ((j + 127) * 8388608))) (Ex.shl rfl (m := 23) rfl (by decide) (Z := (j + 127) * 8388608) (wu32b (by omega))) (by decide)) (fun _ _ => ?_)
           refine GL.stepG (tj := 105) rfl rfl (Ex.wp (v := (.bool true)) (Ex.cast (Ex.eql rfl rfl) (congrArg Value.bool (decide_eq_true (by exact hp3.2)))) (by decide)) (fun _ _ => ?_)
           refine GL.val (v := (.bool true)) (Ex.pickT rfl rfl) (by decide) ?_
           refine GL.val (Ex.assign rfl) (by decide) ?_
           refine GL.nil ?_
           refine GE.thenN ?_
           refine GC.ret ?_
           refine GC.ret1 rfl (Rv.tmp rfl) (fun wN HN => ?_)
           exact HN.ret () trivial (by first | rfl | simp) (List.nil_sublist _) rfl
          ·refine GL.stepG (tj := 82) rfl rfl (Ex.wp (v := (.bool false)) (Ex.cast (Ex.geq rfl rfl) (congrArg Value.bool (decide_eq_false hq68))) (by decide)) (fun _ _ => ?_)
           refine GL.stepG (tj := 82) rfl rfl (Ex.wp (v := (.bool false)) (Ex.move rfl) (by decide)) (fun _ _ => ?_)
           refine GL.skipG (tj := 86) rfl rfl rfl (by decide) ?_
           refine GL.skipG (tj := 86) rfl rfl rfl (by decide) ?_
           refine GL.skipG (tj := 86) rfl rfl rfl (by decide) ?_
           refine GL.stepG (tj := 82) rfl rfl (Ex.wp (v := (.bool false)) (Ex.pickF rfl rfl) (by decide)) (fun _ _ => ?_)
           refine GL.val (v := (.bool false)) (Ex.pickF rfl rfl) (by decide) ?_
           refine GL.nil ?_
           refine GE.thenN ?_
           refine GC.cond rfl (fun hq78 => by cases hq78) (fun _ => ?_)
           refine GC.skip ?_
           refine GE.thenN ?_
           refine GC.seq ?_
           refine GC.region ?_
           refine GL.val (Ex.move rfl) (by decide) ?_
           refine GL.val (v := (.int .i64 q)) (Ex.rem rfl rfl (Z := q) (by decide) (by first | exact hq.symm | (rw [← hq]; exact w64 (by omega)))) (by decide) ?_
           refine GL.val (v := (.int .i64 (q + 254))) (Ex.add rfl rfl (Z := q + 254) (w64 (by omega))) (by decide) ?_
           refine GL.val (v := (.int .i64 ((q + 254) % 254))) (Ex.rem rfl rfl (Z := (q + 254) % 254) (by omega) (rem64 (by omega) (by omega))) (by decide) ?_
           refine GL.val (v := (.int .i64 (((q + 254) % 254) - 126))) (Ex.sub' rfl rfl (Z := ((q + 254) % 254) - 126) (w64 (by omega))) (by decide) ?_
           refine GL.val (Ex.assign rfl) (by decide) ?_
           refine GL.nil ?_
           refine GE.thenN ?_
           refine GC.seq ?_
           obtain ⟨j, hj⟩ : ∃ j, j = ((q + 254) % 254) - 126 := ⟨_, rfl⟩
           rw [← hj]
           have hp3 := Lb.back3 (k := j) (by omega) (by omega)
           have hFI := Lb.FI_u32 (k := j) (by omega) (by omega)
           refine GC.region ?_
           refine GL.val (Ex.move rfl) (by decide) ?_
           refine GL.val (v := (.int .i64 (j + 127))) (Ex.add rfl rfl (Z := j + 127) (w64 (by omega))) (by decide) ?_
           refine GL.val (v := (.int .u32 (j + 127))) (Ex.conv rfl Try.underlying3 Try.underlying23 (Z := j + 127) (wu32b (by omega))) (by decide) ?_
           refine GL.val (v := (.int .u32 ((j + 127) * 8388608))) (Ex.shl rfl (m := 23) rfl (by decide) (Z := (j + 127) * 8388608) (wu32b (by omega))) (by decide) ?_
           refine GL.step (Stp.callR (vs := [(.int .u32 ((j + 127) * 8388608))]) rfl rfl T.own18 (by decide) (fun wc hw => log_p ((j + 127) * 8388608) wc (by omega))) (fun xq79 hq80 => ?_)
           refine GL.val (Ex.move rfl) (by decide) ?_
           refine GL.step (Stp.callR (vs := [(.int .i64 j)]) rfl rfl T.own37 (by decide) (fun wc hw => fromint_all j wc (by omega))) (fun xq81 hq82 => ?_)
           refine GL.val (v := (.bool true)) (Ex.cast (Ex.eql rfl rfl) (congrArg Value.bool (decide_eq_true (by exact hp3.1)))) (by decide) ?_
           refine GL.val (Ex.move rfl) (by decide) ?_
           refine GL.stepG (tj := 105) rfl rfl (Ex.wp (v := (.int .i64 j)) (Ex.move rfl) (by decide)) (fun _ _ => ?_)
           refine GL.stepG (tj := 105) rfl rfl (Stp.callR (vs := [(.int .i64 j)]) rfl rfl T.own37 (by decide) (fun wc hw => fromint_all j wc (by omega))) (fun xq83 hq84 => ?_)
           refine GL.stepG (tj := 105) rfl rfl (Stp.callR (vs := [(.int .u32 ((Lb.FI j)))]) rfl rfl T.own20 (by decide) (fun wc hw => exp_p ((Lb.FI j)) wc (by omega))) (fun xq85 hq86 => ?_)
           refine GL.stepG (tj := 105) rfl rfl (Ex.wp (v := (.int .i64 j)) (Ex.move rfl) (by decide)) (fun _ _ => ?_)
           refine GL.stepG (tj := 105) rfl rfl (Ex.wp (v := (.int .i64 (j + 127))) (Ex.add rfl rfl (Z := j + 127) (w64 (by omega))) (by decide)) (fun _ _ => ?_)
           refine GL.stepG (tj := 105) rfl rfl (Ex.wp (v := (.int .u32 (j + 127))) (Ex.conv rfl Try.underlying3 Try.underlying23 (Z := j + 127) (wu32b (by omega))) (by decide)) (fun _ _ => ?_)
           refine GL.stepG (tj := 105) rfl rfl (Ex.wp (v := (.int .u32 ((j + 127) * 8388608))) (Ex.shl rfl (m := 23) rfl (by decide) (Z := (j + 127) * 8388608) (wu32b (by omega))) (by decide)) (fun _ _ => ?_)
           refine GL.stepG (tj := 105) rfl rfl (Ex.wp (v := (.bool true)) (Ex.cast (Ex.eql rfl rfl) (congrArg Value.bool (decide_eq_true (by exact hp3.2)))) (by decide)) (fun _ _ => ?_)
           refine GL.val (v := (.bool true)) (Ex.pickT rfl rfl) (by decide) ?_
           refine GL.val (Ex.assign rfl) (by decide) ?_
           refine GL.nil ?_
           refine GE.thenN ?_
           refine GC.ret ?_
           refine GC.ret1 rfl (Rv.tmp rfl) (fun wN HN => ?_)
           exact HN.ret () trivial (by first | rfl | simp) (List.nil_sublist _) rfl
        ·replace hq28 := of_decide_eq_false hq28
         refine GC.skip ?_
         refine GE.thenN ?_
         refine GC.seq ?_
         refine GC.region ?_
         refine GL.val (Ex.move rfl) (by decide) ?_
         refine GL.val (v := (.int .i64 q)) (Ex.rem rfl rfl (Z := q) (by decide) (by first | exact hq.symm | (rw [← hq]; exact w64 (by omega)))) (by decide) ?_
         refine GL.val (v := (.int .i64 (q + 254))) (Ex.add rfl rfl (Z := q + 254) (w64 (by omega))) (by decide) ?_
         refine GL.val (v := (.int .i64 ((q + 254) % 254))) (Ex.rem rfl rfl (Z := (q + 254) % 254) (by omega) (rem64 (by omega) (by omega))) (by decide) ?_
         refine GL.val (v := (.int .i64 (((q + 254) % 254) - 126))) (Ex.sub' rfl rfl (Z := ((q + 254) % 254) - 126) (w64 (by omega))) (by decide) ?_
         refine GL.val (Ex.assign rfl) (by decide) ?_
         refine GL.nil ?_
         refine GE.thenN ?_
         refine GC.seq ?_
         obtain ⟨j, hj⟩ : ∃ j, j = ((q + 254) % 254) - 126 := ⟨_, rfl⟩
         rw [← hj]
         have hp3 := Lb.back3 (k := j) (by omega) (by omega)
         have hFI := Lb.FI_u32 (k := j) (by omega) (by omega)
         refine GC.region ?_
         refine GL.val (Ex.move rfl) (by decide) ?_
         refine GL.val (v := (.int .i64 (j + 127))) (Ex.add rfl rfl (Z := j + 127) (w64 (by omega))) (by decide) ?_
         refine GL.val (v := (.int .u32 (j + 127))) (Ex.conv rfl Try.underlying3 Try.underlying23 (Z := j + 127) (wu32b (by omega))) (by decide) ?_
         refine GL.val (v := (.int .u32 ((j + 127) * 8388608))) (Ex.shl rfl (m := 23) rfl (by decide) (Z := (j + 127) * 8388608) (wu32b (by omega))) (by decide) ?_
         refine GL.step (Stp.callR (vs := [(.int .u32 ((j + 127) * 8388608))]) rfl rfl T.own18 (by decide) (fun wc hw => log_p ((j + 127) * 8388608) wc (by omega))) (fun xq87 hq88 => ?_)
         refine GL.val (Ex.move rfl) (by decide) ?_
         refine GL.step (Stp.callR (vs := [(.int .i64 j)]) rfl rfl T.own37 (by decide) (fun wc hw => fromint_all j wc (by omega))) (fun xq89 hq90 => ?_)
         refine GL.val (v := (.bool true)) (Ex.cast (Ex.eql rfl rfl) (congrArg Value.bool (decide_eq_true (by exact hp3.1)))) (by decide) ?_
         refine GL.val (Ex.move rfl) (by decide) ?_
         refine GL.stepG (tj := 105) rfl rfl (Ex.wp (v := (.int .i64 j)) (Ex.move rfl) (by decide)) (fun _ _ => ?_)
         refine GL.stepG (tj := 105) rfl rfl (Stp.callR (vs := [(.int .i64 j)]) rfl rfl T.own37 (by decide) (fun wc hw => fromint_all j wc (by omega))) (fun xq91 hq92 => ?_)
         refine GL.stepG (tj := 105) rfl rfl (Stp.callR (vs := [(.int .u32 ((Lb.FI j)))]) rfl rfl T.own20 (by decide) (fun wc hw => exp_p ((Lb.FI j)) wc (by omega))) (fun xq93 hq94 => ?_)
         refine GL.stepG (tj := 105) rfl rfl (Ex.wp (v := (.int .i64 j)) (Ex.move rfl) (by decide)) (fun _ _ => ?_)
         refine GL.stepG (tj := 105) rfl rfl (Ex.wp (v := (.int .i64 (j + 127))) (Ex.add rfl rfl (Z := j + 127) (w64 (by omega))) (by decide)) (fun _ _ => ?_)
         refine GL.stepG (tj := 105) rfl rfl (Ex.wp (v := (.int .u32 (j + 127))) (Ex.conv rfl Try.underlying3 Try.underlying23 (Z := j + 127) (wu32b (by omega))) (by decide)) (fun _ _ => ?_)
         refine GL.stepG (tj := 105) rfl rfl (Ex.wp (v := (.int .u32 ((j + 127) * 8388608))) (Ex.shl rfl (m := 23) rfl (by decide) (Z := (j + 127) * 8388608) (wu32b (by omega))) (by decide)) (fun _ _ => ?_)
         refine GL.stepG (tj := 105) rfl rfl (Ex.wp (v := (.bool true)) (Ex.cast (Ex.eql rfl rfl) (congrArg Value.bool (decide_eq_true (by exact hp3.2)))) (by decide)) (fun _ _ => ?_)
         refine GL.val (v := (.bool true)) (Ex.pickT rfl rfl) (by decide) ?_
         refine GL.val (Ex.assign rfl) (by decide) ?_
         refine GL.nil ?_
         refine GE.thenN ?_
         refine GC.ret ?_
         refine GC.ret1 rfl (Rv.tmp rfl) (fun wN HN => ?_)
         exact HN.ret () trivial (by first | rfl | simp) (List.nil_sublist _) rfl
       ·refine GL.stepG (tj := 56) rfl rfl (Ex.wp (v := (.bool false)) (Ex.cast (Ex.gtr rfl rfl) (congrArg Value.bool (decide_eq_false hq23))) (by decide)) (fun _ _ => ?_)
        refine GL.val (v := (.bool false)) (Ex.pickT rfl rfl) (by decide) ?_
        refine GL.val (Ex.move rfl) (by decide) ?_
        refine GL.skipG (tj := 62) rfl rfl rfl (by decide) ?_
        refine GL.skipG (tj := 62) rfl rfl rfl (by decide) ?_
        refine GL.skipG (tj := 62) rfl rfl rfl (by decide) ?_
        refine GL.skipG (tj := 62) rfl rfl rfl (by decide) ?_
        refine GL.val (v := (.bool false)) (Ex.pickF rfl rfl) (by decide) ?_
        refine GL.nil ?_
        refine GE.thenN ?_
        refine GC.cond rfl (fun hq95 => by cases hq95) (fun _ => ?_)
        refine GC.skip ?_
        refine GE.thenN ?_
        refine GC.seq ?_
        refine GC.region ?_
        refine GL.val (Ex.move rfl) (by decide) ?_
        refine GL.val (v := (.int .i64 q)) (Ex.rem rfl rfl (Z := q) (by decide) (by first | exact hq.symm | (rw [← hq]; exact w64 (by omega)))) (by decide) ?_
        refine GL.val (v := (.int .i64 (q + 254))) (Ex.add rfl rfl (Z := q + 254) (w64 (by omega))) (by decide) ?_
        refine GL.val (v := (.int .i64 ((q + 254) % 254))) (Ex.rem rfl rfl (Z := (q + 254) % 254) (by omega) (rem64 (by omega) (by omega))) (by decide) ?_
        refine GL.val (v := (.int .i64 (((q + 254) % 254) - 126))) (Ex.sub' rfl rfl (Z := ((q + 254) % 254) - 126) (w64 (by omega))) (by decide) ?_
        refine GL.val (Ex.assign rfl) (by decide) ?_
        refine GL.nil ?_
        refine GE.thenN ?_
        refine GC.seq ?_
        obtain ⟨j, hj⟩ : ∃ j, j = ((q + 254) % 254) - 126 := ⟨_, rfl⟩
        rw [← hj]
        have hp3 := Lb.back3 (k := j) (by omega) (by omega)
        have hFI := Lb.FI_u32 (k := j) (by omega) (by omega)
        refine GC.region ?_
        refine GL.val (Ex.move rfl) (by decide) ?_
        refine GL.val (v := (.int .i64 (j + 127))) (Ex.add rfl rfl (Z := j + 127) (w64 (by omega))) (by decide) ?_
        refine GL.val (v := (.int .u32 (j + 127))) (Ex.conv rfl Try.underlying3 Try.underlying23 (Z := j + 127) (wu32b (by omega))) (by decide) ?_
        refine GL.val (v := (.int .u32 ((j + 127) * 8388608))) (Ex.shl rfl (m := 23) rfl (by decide) (Z := (j + 127) * 8388608) (wu32b (by omega))) (by decide) ?_
        refine GL.step (Stp.callR (vs := [(.int .u32 ((j + 127) * 8388608))]) rfl rfl T.own18 (by decide) (fun wc hw => log_p ((j + 127) * 8388608) wc (by omega))) (fun xq96 hq97 => ?_)
        refine GL.val (Ex.move rfl) (by decide) ?_
        refine GL.step (Stp.callR (vs := [(.int .i64 j)]) rfl rfl T.own37 (by decide) (fun wc hw => fromint_all j wc (by omega))) (fun xq98 hq99 => ?_)
        refine GL.val (v := (.bool true)) (Ex.cast (Ex.eql rfl rfl) (congrArg Value.bool (decide_eq_true (by exact hp3.1)))) (by decide) ?_
        refine GL.val (Ex.move rfl) (by decide) ?_
        refine GL.stepG (tj := 105) rfl rfl (Ex.wp (v := (.int .i64 j)) (Ex.move rfl) (by decide)) (fun _ _ => ?_)
        refine GL.stepG (tj := 105) rfl rfl (Stp.callR (vs := [(.int .i64 j)]) rfl rfl T.own37 (by decide) (fun wc hw => fromint_all j wc (by omega))) (fun xq100 hq101 => ?_)
        refine GL.stepG (tj := 105) rfl rfl (Stp.callR (vs := [(.int .u32 ((Lb.FI j)))]) rfl rfl T.own20 (by decide) (fun wc hw => exp_p ((Lb.FI j)) wc (by omega))) (fun xq102 hq103 => ?_)
        refine GL.stepG (tj := 105) rfl rfl (Ex.wp (v := (.int .i64 j)) (Ex.move rfl) (by decide)) (fun _ _ => ?_)
        refine GL.stepG (tj := 105) rfl rfl (Ex.wp (v := (.int .i64 (j + 127))) (Ex.add rfl rfl (Z := j + 127) (w64 (by omega))) (by decide)) (fun _ _ => ?_)
        refine GL.stepG (tj := 105) rfl rfl (Ex.wp (v := (.int .u32 (j + 127))) (Ex.conv rfl Try.underlying3 Try.underlying23 (Z := j + 127) (wu32b (by omega))) (by decide)) (fun _ _ => ?_)
        refine GL.stepG (tj := 105) rfl rfl (Ex.wp (v := (.int .u32 ((j + 127) * 8388608))) (Ex.shl rfl (m := 23) rfl (by decide) (Z := (j + 127) * 8388608) (wu32b (by omega))) (by decide)) (fun _ _ => ?_)
        refine GL.stepG (tj := 105) rfl rfl (Ex.wp (v := (.bool true)) (Ex.cast (Ex.eql rfl rfl) (congrArg Value.bool (decide_eq_true (by exact hp3.2)))) (by decide)) (fun _ _ => ?_)
        refine GL.val (v := (.bool true)) (Ex.pickT rfl rfl) (by decide) ?_
        refine GL.val (Ex.assign rfl) (by decide) ?_
        refine GL.nil ?_
        refine GE.thenN ?_
        refine GC.ret ?_
        refine GC.ret1 rfl (Rv.tmp rfl) (fun wN HN => ?_)
        exact HN.ret () trivial (by first | rfl | simp) (List.nil_sublist _) rfl
      ·refine GL.val (v := (.bool false)) (Ex.cast (Ex.move rfl) (congrArg Value.bool (decide_eq_false hq18))) (by decide) ?_
       refine GL.skipG (tj := 56) rfl rfl rfl (by decide) ?_
       refine GL.skipG (tj := 56) rfl rfl rfl (by decide) ?_
       refine GL.skipG (tj := 56) rfl rfl rfl (by decide) ?_
       refine GL.skipG (tj := 56) rfl rfl rfl (by decide) ?_
       refine GL.val (v := (.bool false)) (Ex.pickF rfl rfl) (by decide) ?_
       refine GL.val (Ex.move rfl) (by decide) ?_
       refine GL.skipG (tj := 62) rfl rfl rfl (by decide) ?_
       refine GL.skipG (tj := 62) rfl rfl rfl (by decide) ?_
       refine GL.skipG (tj := 62) rfl rfl rfl (by decide) ?_
       refine GL.skipG (tj := 62) rfl rfl rfl (by decide) ?_
       refine GL.val (v := (.bool false)) (Ex.pickF rfl rfl) (by decide) ?_
       refine GL.nil ?_
       refine GE.thenN ?_
       refine GC.cond rfl (fun hq104 => by cases hq104) (fun _ => ?_)
       refine GC.skip ?_
       refine GE.thenN ?_
       refine GC.seq ?_
       refine GC.region ?_
       refine GL.val (Ex.move rfl) (by decide) ?_
       refine GL.val (v := (.int .i64 q)) (Ex.rem rfl rfl (Z := q) (by decide) (by first | exact hq.symm | (rw [← hq]; exact w64 (by omega)))) (by decide) ?_
       refine GL.val (v := (.int .i64 (q + 254))) (Ex.add rfl rfl (Z := q + 254) (w64 (by omega))) (by decide) ?_
       refine GL.val (v := (.int .i64 ((q + 254) % 254))) (Ex.rem rfl rfl (Z := (q + 254) % 254) (by omega) (rem64 (by omega) (by omega))) (by decide) ?_
       refine GL.val (v := (.int .i64 (((q + 254) % 254) - 126))) (Ex.sub' rfl rfl (Z := ((q + 254) % 254) - 126) (w64 (by omega))) (by decide) ?_
       refine GL.val (Ex.assign rfl) (by decide) ?_
       refine GL.nil ?_
       refine GE.thenN ?_
       refine GC.seq ?_
       obtain ⟨j, hj⟩ : ∃ j, j = ((q + 254) % 254) - 126 := ⟨_, rfl⟩
       rw [← hj]
       have hp3 := Lb.back3 (k := j) (by omega) (by omega)
       have hFI := Lb.FI_u32 (k := j) (by omega) (by omega)
       refine GC.region ?_
       refine GL.val (Ex.move rfl) (by decide) ?_
       refine GL.val (v := (.int .i64 (j + 127))) (Ex.add rfl rfl (Z := j + 127) (w64 (by omega))) (by decide) ?_
       refine GL.val (v := (.int .u32 (j + 127))) (Ex.conv rfl Try.underlying3 Try.underlying23 (Z := j + 127) (wu32b (by omega))) (by decide) ?_
       refine GL.val (v := (.int .u32 ((j + 127) * 8388608))) (Ex.shl rfl (m := 23) rfl (by decide) (Z := (j + 127) * 8388608) (wu32b (by omega))) (by decide) ?_
       refine GL.step (Stp.callR (vs := [(.int .u32 ((j + 127) * 8388608))]) rfl rfl T.own18 (by decide) (fun wc hw => log_p ((j + 127) * 8388608) wc (by omega))) (fun xq105 hq106 => ?_)
       refine GL.val (Ex.move rfl) (by decide) ?_
       refine GL.step (Stp.callR (vs := [(.int .i64 j)]) rfl rfl T.own37 (by decide) (fun wc hw => fromint_all j wc (by omega))) (fun xq107 hq108 => ?_)
       refine GL.val (v := (.bool true)) (Ex.cast (Ex.eql rfl rfl) (congrArg Value.bool (decide_eq_true (by exact hp3.1)))) (by decide) ?_
       refine GL.val (Ex.move rfl) (by decide) ?_
       refine GL.stepG (tj := 105) rfl rfl (Ex.wp (v := (.int .i64 j)) (Ex.move rfl) (by decide)) (fun _ _ => ?_)
       refine GL.stepG (tj := 105) rfl rfl (Stp.callR (vs := [(.int .i64 j)]) rfl rfl T.own37 (by decide) (fun wc hw => fromint_all j wc (by omega))) (fun xq109 hq110 => ?_)
       refine GL.stepG (tj := 105) rfl rfl (Stp.callR (vs := [(.int .u32 ((Lb.FI j)))]) rfl rfl T.own20 (by decide) (fun wc hw => exp_p ((Lb.FI j)) wc (by omega))) (fun xq111 hq112 => ?_)
       refine GL.stepG (tj := 105) rfl rfl (Ex.wp (v := (.int .i64 j)) (Ex.move rfl) (by decide)) (fun _ _ => ?_)
       refine GL.stepG (tj := 105) rfl rfl (Ex.wp (v := (.int .i64 (j + 127))) (Ex.add rfl rfl (Z := j + 127) (w64 (by omega))) (by decide)) (fun _ _ => ?_)
       refine GL.stepG (tj := 105) rfl rfl (Ex.wp (v := (.int .u32 (j + 127))) (Ex.conv rfl Try.underlying3 Try.underlying23 (Z := j + 127) (wu32b (by omega))) (by decide)) (fun _ _ => ?_)
       refine GL.stepG (tj := 105) rfl rfl (Ex.wp (v := (.int .u32 ((j + 127) * 8388608))) (Ex.shl rfl (m := 23) rfl (by decide) (Z := (j + 127) * 8388608) (wu32b (by omega))) (by decide)) (fun _ _ => ?_)
       refine GL.stepG (tj := 105) rfl rfl (Ex.wp (v := (.bool true)) (Ex.cast (Ex.eql rfl rfl) (congrArg Value.bool (decide_eq_true (by exact hp3.2)))) (by decide)) (fun _ _ => ?_)
       refine GL.val (v := (.bool true)) (Ex.pickT rfl rfl) (by decide) ?_
       refine GL.val (Ex.assign rfl) (by decide) ?_
       refine GL.nil ?_
       refine GE.thenN ?_
       refine GC.ret ?_
       refine GC.ret1 rfl (Rv.tmp rfl) (fun wN HN => ?_)
       exact HN.ret () trivial (by first | rfl | simp) (List.nil_sublist _) rfl
     ·refine GL.stepG (tj := 45) rfl rfl (Ex.wp (v := (.bool false)) (Ex.cast (Ex.leq rfl rfl) (congrArg Value.bool (decide_eq_false hq14))) (by decide)) (fun _ _ => ?_)
      refine GL.stepG (tj := 42) rfl rfl (Ex.wp (v := (.bool false)) (Ex.pickT rfl rfl) (by decide)) (fun _ _ => ?_)
      refine GL.stepG (tj := 42) rfl rfl (Ex.wp (v := (.bool false)) (Ex.move rfl) (by decide)) (fun _ _ => ?_)
      refine GL.skipG (tj := 49) rfl rfl rfl (by decide) ?_
      refine GL.skipG (tj := 49) rfl rfl rfl (by decide) ?_
      refine GL.stepG (tj := 42) rfl rfl (Ex.wp (v := (.bool false)) (Ex.pickF rfl rfl) (by decide)) (fun _ _ => ?_)
      refine GL.val (v := (.bool false)) (Ex.pickF rfl rfl) (by decide) ?_
      refine GL.nil ?_
      refine GE.thenN ?_
      refine GC.cond rfl (fun hq113 => by cases hq113) (fun _ => ?_)
      refine GC.skip ?_
      refine GE.thenN ?_
      refine GC.seq ?_
      refine GC.seq ?_
      refine GC.region ?_
      refine GL.val (Ex.move rfl) (by decide) ?_
      refine GL.step (Stp.callR (vs := [(.int .u32 y)]) rfl rfl T.own28 (by decide) (fun wc hw => finite_l y wc (by first | assumption | omega | exact Bt.lst_bd (by assumption) (by assumption) | exact Bt.gst_bd (by assumption) (by assumption) | exact Bt.key_bd (by assumption) | exact Bt.unkey_bd (by assumption) | exact Bt.nxt_bd (by assumption) | exact Bt.lst_bd (Bt.gst_bd (by assumption) (by assumption)) (by assumption) | exact Bt.btw_bd (by assumption) (Bt.lst_bd (by assumption) (by assumption)) (Bt.gst_bd (by assumption) (by assumption))))) (fun xq114 hq115 => ?_)
      by_cases hq116 : (y % 2147483648 < 2139095040)
      ·refine GL.val (v := (.bool true)) (Ex.cast (Ex.move rfl) (congrArg Value.bool (decide_eq_true hq116))) (by decide) ?_
       refine GL.stepG (tj := 56) rfl rfl (Ex.wp (v := (.int .u32 y)) (Ex.move rfl) (by decide)) (fun _ _ => ?_)
       refine GL.stepG (tj := 56) rfl rfl (Stp.callR (vs := [(.int .u32 y)]) rfl rfl T.own36 (by decide) (fun wc hw => key_l y wc (by first | assumption | omega | exact Bt.lst_bd (by assumption) (by assumption) | exact Bt.gst_bd (by assumption) (by assumption) | exact Bt.key_bd (by assumption) | exact Bt.unkey_bd (by assumption) | exact Bt.nxt_bd (by assumption) | exact Bt.lst_bd (Bt.gst_bd (by assumption) (by assumption)) (by assumption) | exact Bt.btw_bd (by assumption) (Bt.lst_bd (by assumption) (by assumption)) (Bt.gst_bd (by assumption) (by assumption))))) (fun xq117 hq118 => ?_)
       refine GL.stepG (tj := 56) rfl rfl (Stp.callR (vs := [(.int .u32 3271426048)]) rfl rfl T.own36 (by decide) (fun wc hw => key_l 3271426048 wc (by first | assumption | omega | exact Bt.lst_bd (by assumption) (by assumption) | exact Bt.gst_bd (by assumption) (by assumption) | exact Bt.key_bd (by assumption) | exact Bt.unkey_bd (by assumption) | exact Bt.nxt_bd (by assumption) | exact Bt.lst_bd (Bt.gst_bd (by assumption) (by assumption)) (by assumption) | exact Bt.btw_bd (by assumption) (Bt.lst_bd (by assumption) (by assumption)) (Bt.gst_bd (by assumption) (by assumption))))) (fun xq119 hq120 => ?_)
       by_cases hq121 : ((Fv.rk 3271426048)) < ((Fv.rk y))
       ·refine GL.stepG (tj := 56) rfl rfl (Ex.wp (v := (.bool true)) (Ex.cast (Ex.gtr rfl rfl) (congrArg Value.bool (decide_eq_true hq121))) (by decide)) (fun _ _ => ?_)
        refine GL.val (v := (.bool true)) (Ex.pickT rfl rfl) (by decide) ?_
        refine GL.val (Ex.move rfl) (by decide) ?_
        refine GL.stepG (tj := 62) rfl rfl (Ex.wp (v := (.int .u32 y)) (Ex.move rfl) (by decide)) (fun _ _ => ?_)
        refine GL.stepG (tj := 62) rfl rfl (Stp.callR (vs := [(.int .u32 y)]) rfl rfl T.own36 (by decide) (fun wc hw => key_l y wc (by first | assumption | omega | exact Bt.lst_bd (by assumption) (by assumption) | exact Bt.gst_bd (by assumption) (by assumption) | exact Bt.key_bd (by assumption) | exact Bt.unkey_bd (by assumption) | exact Bt.nxt_bd (by assumption) | exact Bt.lst_bd (Bt.gst_bd (by assumption) (by assumption)) (by assumption) | exact Bt.btw_bd (by assumption) (Bt.lst_bd (by assumption) (by assumption)) (Bt.gst_bd (by assumption) (by assumption))))) (fun xq122 hq123 => ?_)
        refine GL.stepG (tj := 62) rfl rfl (Stp.callR (vs := [(.int .u32 1124073472)]) rfl rfl T.own36 (by decide) (fun wc hw => key_l 1124073472 wc (by first | assumption | omega | exact Bt.lst_bd (by assumption) (by assumption) | exact Bt.gst_bd (by assumption) (by assumption) | exact Bt.key_bd (by assumption) | exact Bt.unkey_bd (by assumption) | exact Bt.nxt_bd (by assumption) | exact Bt.lst_bd (Bt.gst_bd (by assumption) (by assumption)) (by assumption) | exact Bt.btw_bd (by assumption) (Bt.lst_bd (by assumption) (by assumption)) (Bt.gst_bd (by assumption) (by assumption))))) (fun xq124 hq125 => ?_)
        refine GL.stepG (tj := 62) rfl rfl (Ex.wp (v := (.bool (decide (((Fv.rk y)) < ((Fv.rk 1124073472)))))) (Ex.lss rfl rfl) (by decide)) (fun _ _ => ?_)
        refine GL.val (v := (.bool (decide (((Fv.rk y)) < ((Fv.rk 1124073472)))))) (Ex.pickT rfl rfl) (by decide) ?_
        refine GL.nil ?_
        refine GE.thenN ?_
        refine GC.cond rfl (fun hq126 => ?_) (fun hq126 => ?_)
        ·replace hq126 := of_decide_eq_true hq126
         refine GC.seq ?_
         refine GC.region ?_
         refine GL.val (Ex.move rfl) (by decide) ?_
         refine GL.step (Stp.callR (vs := [(.int .u32 y)]) rfl rfl T.own20 (by decide) (fun wc hw => exp_p y wc (by omega))) (fun xq127 hq128 => ?_)
         refine GL.step (Stp.callR (vs := [(.int .u32 ((Sl.EX y)))]) rfl rfl T.own18 (by decide) (fun wc hw => log_p ((Sl.EX y)) wc (by omega))) (fun xq129 hq130 => ?_)
         refine GL.val (Ex.assign rfl) (by decide) ?_
         refine GL.nil ?_
         refine GE.thenN ?_
         refine GC.seq ?_
         have hp2 := Lb.back2' hy (by omega) (by omega)
         have hxb := Lb.expo_bd hy (by omega)
         by_cases hyb : (Sl.LG (Sl.EX y)) = y
         ·obtain ⟨g', m1, m2, he3, he4, hm12, hg'⟩ := Lb.mins (Bt.expo y) (-24)
          rw [hyb]
          refine GC.region ?_
          refine GL.val (Ex.move rfl) (by decide) ?_
          refine GL.step (Stp.callR (vs := [(.int .u32 y)]) rfl rfl T.own28 (by decide) (fun wc hw => finite_l y wc (by first | assumption | omega | exact Bt.lst_bd (by assumption) (by assumption) | exact Bt.gst_bd (by assumption) (by assumption) | exact Bt.key_bd (by assumption) | exact Bt.unkey_bd (by assumption) | exact Bt.nxt_bd (by assumption) | exact Bt.lst_bd (Bt.gst_bd (by assumption) (by assumption)) (by assumption) | exact Bt.btw_bd (by assumption) (Bt.lst_bd (by assumption) (by assumption)) (Bt.gst_bd (by assumption) (by assumption))))) (fun xq131 hq132 => ?_)
          refine GL.val (v := (.bool false)) (Ex.cast (Ex.not rfl) (congrArg Value.bool (congrArg (fun z => !z) (decide_eq_true (by assumption))))) (by decide) ?_
          refine GL.val (Ex.move rfl) (by decide) ?_
          refine GL.stepG (tj := 74) rfl rfl (Ex.wp (v := (.int .u32 y)) (Ex.move rfl) (by decide)) (fun _ _ => ?_)
          refine GL.stepG (tj := 74) rfl rfl (Ex.wp (v := (.int .u32 y)) (Ex.move rfl) (by decide)) (fun _ _ => ?_)
          refine GL.stepG (tj := 74) rfl rfl (Stp.callR (vs := [(.int .u32 y), (.int .u32 y)]) rfl rfl T.own34 (by decide) (fun wc hw => off_eq y y (Bt.expo y) 0 0 wc hy (by omega) hy (by omega) (by omega) (by omega) (.inl rfl) (by decide) (by decide) (by omega) (Lb.ne_not _) rfl)) (fun xq133 hq134 => ?_)
          refine GL.stepG (tj := 74) rfl rfl (Stp.callR (vs := [(.int .i64 (-24))]) rfl rfl T.own31 (by decide) (fun wc hw => power_l (-24) wc)) (fun xq135 hq136 => ?_)
          refine GL.stepG (tj := 74) rfl rfl (Stp.callR (vs := [(.agg #[(.int .i64 2), (.bool false), (.slice none 0 0), (.int .i64 ((Bt.expo y))), (.bool false)]), (.agg #[(.int .i64 2), (.bool false), (.slice (some ⟨xq135, 0, none⟩) ((Nd.nd 1)) 2), (.int .i64 (-24)), (.bool false)])]) rfl rfl T.own30 (by decide) (fun wc hw => within_n none 0 1 xq135 2 g' (Bt.expo y) (-24) m1 m2 false false wc (Nd.Nb.one (Lg.rd1 (hw.rdOf (i := 0) rfl 0)) (by decide)) (by rw [Nd.nd_one (by decide)]; decide) he3 he4 hm12 (by omega) (by omega) (by omega))) (fun xq137 hq138 => ?_)
          refine GL.stepG (tj := 74) rfl rfl (Ex.wp (v := (.bool false)) (Ex.cast (Ex.not rfl) rfl) (by decide)) (fun _ _ => ?_)
          refine GL.val (v := (.bool false)) (Ex.pickF rfl rfl) (by decide) ?_
          refine GL.val (Ex.move rfl) (by decide) ?_
          refine GL.stepG (tj := 82) rfl rfl (Ex.wp (v := (.int .u32 y)) (Ex.move rfl) (by decide)) (fun _ _ => ?_)
          refine GL.stepG (tj := 82) rfl rfl (Ex.wp (v := (.int .u32 (y % 2147483648))) (Ex.bits rfl rfl (by simp) (Z := y % 2147483648) (andm 31 (by omega) (by omega) (by decide) rfl rfl)) (by decide)) (fun _ _ => ?_)
          by_cases hq139 : 1065353216 ≤ (y % 2147483648)
          ·refine GL.stepG (tj := 82) rfl rfl (Ex.wp (v := (.bool true)) (Ex.cast (Ex.geq rfl rfl) (congrArg Value.bool (decide_eq_true hq139))) (by decide)) (fun _ _ => ?_)
           refine GL.stepG (tj := 82) rfl rfl (Ex.wp (v := (.bool true)) (Ex.move rfl) (by decide)) (fun _ _ => ?_)
           refine GL.stepG (tj := 86) rfl rfl (Ex.wp (v := (.int .u32 y)) (Ex.move rfl) (by decide)) (fun _ _ => ?_)
           refine GL.stepG (tj := 86) rfl rfl (Ex.wp (v := (.int .u32 y)) (Ex.move rfl) (by decide)) (fun _ _ => ?_)
           refine GL.stepG (tj := 86) rfl rfl (Ex.wp (v := (.bool false)) (Ex.cast (Ex.neq rfl rfl) (congrArg Value.bool (decide_eq_false (by simp)))) (by decide)) (fun _ _ => ?_)
           refine GL.stepG (tj := 82) rfl rfl (Ex.wp (v := (.bool false)) (Ex.pickT rfl rfl) (by decide)) (fun _ _ => ?_)
           refine GL.val (v := (.bool false)) (Ex.pickF rfl rfl) (by decide) ?_
           refine GL.nil ?_
           refine GE.thenN ?_
           refine GC.cond rfl (fun hq140 => by cases hq140) (fun _ => ?_)
           refine GC.skip ?_
           refine GE.thenN ?_
           refine GC.seq ?_
           refine GC.region ?_
           refine GL.val (Ex.move rfl) (by decide) ?_
           refine GL.val (v := (.int .i64 q)) (Ex.rem rfl rfl (Z := q) (by decide) (by first | exact hq.symm | (rw [← hq]; exact w64 (by omega)))) (by decide) ?_
           refine GL.val (v := (.int .i64 (q + 254))) (Ex.add rfl rfl (Z := q + 254) (w64 (by omega))) (by decide) ?_
           refine GL.val (v := (.int .i64 ((q + 254) % 254))) (Ex.rem rfl rfl (Z := (q + 254) % 254) (by omega) (rem64 (by omega) (by omega))) (by decide) ?_
           refine GL.val (v := (.int .i64 (((q + 254) % 254) - 126))) (Ex.sub' rfl rfl (Z := ((q + 254) % 254) - 126) (w64 (by omega))) (by decide) ?_
           refine GL.val (Ex.assign rfl) (by decide) ?_
           refine GL.nil ?_
           refine GE.thenN ?_
           refine GC.seq ?_
           obtain ⟨j, hj⟩ : ∃ j, j = ((q + 254) % 254) - 126 := ⟨_, rfl⟩
           rw [← hj]
           have hp3 := Lb.back3 (k := j) (by omega) (by omega)
           have hFI := Lb.FI_u32 (k := j) (by omega) (by omega)
           refine GC.region ?_
           refine GL.val (Ex.move rfl) (by decide) ?_
           refine GL.val (v := (.int .i64 (j + 127))) (Ex.add rfl rfl (Z := j + 127) (w64 (by omega))) (by decide) ?_
           refine GL.val (v := (.int .u32 (j + 127))) (Ex.conv rfl Try.underlying3 Try.underlying23 (Z := j + 127) (wu32b (by omega))) (by decide) ?_
           refine GL.val (v := (.int .u32 ((j + 127) * 8388608))) (Ex.shl rfl (m := 23) rfl (by decide) (Z := (j + 127) * 8388608) (wu32b (by omega))) (by decide) ?_
           refine GL.step (Stp.callR (vs := [(.int .u32 ((j + 127) * 8388608))]) rfl rfl T.own18 (by decide) (fun wc hw => log_p ((j + 127) * 8388608) wc (by omega))) (fun xq141 hq142 => ?_)
           refine GL.val (Ex.move rfl) (by decide) ?_
           refine GL.step (Stp.callR (vs := [(.int .i64 j)]) rfl rfl T.own37 (by decide) (fun wc hw => fromint_all j wc (by omega))) (fun xq143 hq144 => ?_)
           refine GL.val (v := (.bool true)) (Ex.cast (Ex.eql rfl rfl) (congrArg Value.bool (decide_eq_true (by exact hp3.1)))) (by decide) ?_
           refine GL.val (Ex.move rfl) (by decide) ?_
           refine GL.stepG (tj := 105) rfl rfl (Ex.wp (v := (.int .i64 j)) (Ex.move rfl) (by decide)) (fun _ _ => ?_)
           refine GL.stepG (tj := 105) rfl rfl (Stp.callR (vs := [(.int .i64 j)]) rfl rfl T.own37 (by decide) (fun wc hw => fromint_all j wc (by omega))) (fun xq145 hq146 => ?_)
           refine GL.stepG (tj := 105) rfl rfl (Stp.callR (vs := [(.int .u32 ((Lb.FI j)))]) rfl rfl T.own20 (by decide) (fun wc hw => exp_p ((Lb.FI j)) wc (by omega))) (fun xq147 hq148 => ?_)
           refine GL.stepG (tj := 105) rfl rfl (Ex.wp (v := (.int .i64 j)) (Ex.move rfl) (by decide)) (fun _ _ => ?_)
           refine GL.stepG (tj := 105) rfl rfl (Ex.wp (v := (.int .i64 (j + 127))) (Ex.add rfl rfl (Z := j + 127) (w64 (by omega))) (by decide)) (fun _ _ => ?_)
           refine GL.stepG (tj := 105) rfl rfl (Ex.wp (v := (.int .u32 (j + 127))) (Ex.conv rfl Try.underlying3 Try.underlying23 (Z := j + 127) (wu32b (by omega))) (by decide)) (fun _ _ => ?_)
           refine GL.stepG (tj := 105) rfl rfl (Ex.wp (v := (.int .u32 ((j + 127) * 8388608))) (Ex.shl rfl (m := 23) rfl (by decide) (Z := (j + 127) * 8388608) (wu32b (by omega))) (by decide)) (fun _ _ => ?_)
           refine GL.stepG (tj := 105) rfl rfl (Ex.wp (v := (.bool true)) (Ex.cast (Ex.eql rfl rfl) (congrArg Value.bool (decide_eq_true (by exact hp3.2)))) (by decide)) (fun _ _ => ?_)
           refine GL.val (v := (.bool true)) (Ex.pickT rfl rfl) (by decide) ?_
           refine GL.val (Ex.assign rfl) (by decide) ?_
           refine GL.nil ?_
           refine GE.thenN ?_
           refine GC.ret ?_
           refine GC.ret1 rfl (Rv.tmp rfl) (fun wN HN => ?_)
           exact HN.ret () trivial (by first | rfl | simp) (List.nil_sublist _) rfl
          ·refine GL.stepG (tj := 82) rfl rfl (Ex.wp (v := (.bool false)) (Ex.cast (Ex.geq rfl rfl) (congrArg Value.bool (decide_eq_false hq139))) (by decide)) (fun _ _ => ?_)
           refine GL.stepG (tj := 82) rfl rfl (Ex.wp (v := (.bool false)) (Ex.move rfl) (by decide)) (fun _ _ => ?_)
           refine GL.skipG (tj := 86) rfl rfl rfl (by decide) ?_
           refine GL.skipG (tj := 86) rfl rfl rfl (by decide) ?_
           refine GL.skipG (tj := 86) rfl rfl rfl (by decide) ?_
           refine GL.stepG (tj := 82) rfl rfl (Ex.wp (v := (.bool false)) (Ex.pickF rfl rfl) (by decide)) (fun _ _ => ?_)
           refine GL.val (v := (.bool false)) (Ex.pickF rfl rfl) (by decide) ?_
           refine GL.nil ?_
           refine GE.thenN ?_
           refine GC.cond rfl (fun hq149 => by cases hq149) (fun _ => ?_)
           refine GC.skip ?_
           refine GE.thenN ?_
           refine GC.seq ?_
           refine GC.region ?_
           refine GL.val (Ex.move rfl) (by decide) ?_
           refine GL.val (v := (.int .i64 q)) (Ex.rem rfl rfl (Z := q) (by decide) (by first | exact hq.symm | (rw [← hq]; exact w64 (by omega)))) (by decide) ?_
           refine GL.val (v := (.int .i64 (q + 254))) (Ex.add rfl rfl (Z := q + 254) (w64 (by omega))) (by decide) ?_
           refine GL.val (v := (.int .i64 ((q + 254) % 254))) (Ex.rem rfl rfl (Z := (q + 254) % 254) (by omega) (rem64 (by omega) (by omega))) (by decide) ?_
           refine GL.val (v := (.int .i64 (((q + 254) % 254) - 126))) (Ex.sub' rfl rfl (Z := ((q + 254) % 254) - 126) (w64 (by omega))) (by decide) ?_
           refine GL.val (Ex.assign rfl) (by decide) ?_
           refine GL.nil ?_
           refine GE.thenN ?_
           refine GC.seq ?_
           obtain ⟨j, hj⟩ : ∃ j, j = ((q + 254) % 254) - 126 := ⟨_, rfl⟩
           rw [← hj]
           have hp3 := Lb.back3 (k := j) (by omega) (by omega)
           have hFI := Lb.FI_u32 (k := j) (by omega) (by omega)
           refine GC.region ?_
           refine GL.val (Ex.move rfl) (by decide) ?_
           refine GL.val (v := (.int .i64 (j + 127))) (Ex.add rfl rfl (Z := j + 127) (w64 (by omega))) (by decide) ?_
           refine GL.val (v := (.int .u32 (j + 127))) (Ex.conv rfl Try.underlying3 Try.underlying23 (Z := j + 127) (wu32b (by omega))) (by decide) ?_
           refine GL.val (v := (.int .u32 ((j + 127) * 8388608))) (Ex.shl rfl (m := 23) rfl (by decide) (Z := (j + 127) * 8388608) (wu32b (by omega))) (by decide) ?_
           refine GL.step (Stp.callR (vs := [(.int .u32 ((j + 127) * 8388608))]) rfl rfl T.own18 (by decide) (fun wc hw => log_p ((j + 127) * 8388608) wc (by omega))) (fun xq150 hq151 => ?_)
           refine GL.val (Ex.move rfl) (by decide) ?_
           refine GL.step (Stp.callR (vs := [(.int .i64 j)]) rfl rfl T.own37 (by decide) (fun wc hw => fromint_all j wc (by omega))) (fun xq152 hq153 => ?_)
           refine GL.val (v := (.bool true)) (Ex.cast (Ex.eql rfl rfl) (congrArg Value.bool (decide_eq_true (by exact hp3.1)))) (by decide) ?_
           refine GL.val (Ex.move rfl) (by decide) ?_
           refine GL.stepG (tj := 105) rfl rfl (Ex.wp (v := (.int .i64 j)) (Ex.move rfl) (by decide)) (fun _ _ => ?_)
           refine GL.stepG (tj := 105) rfl rfl (Stp.callR (vs := [(.int .i64 j)]) rfl rfl T.own37 (by decide) (fun wc hw => fromint_all j wc (by omega))) (fun xq154 hq155 => ?_)
           refine GL.stepG (tj := 105) rfl rfl (Stp.callR (vs := [(.int .u32 ((Lb.FI j)))]) rfl rfl T.own20 (by decide) (fun wc hw => exp_p ((Lb.FI j)) wc (by omega))) (fun xq156 hq157 => ?_)
           refine GL.stepG (tj := 105) rfl rfl (Ex.wp (v := (.int .i64 j)) (Ex.move rfl) (by decide)) (fun _ _ => ?_)
           refine GL.stepG (tj := 105) rfl rfl (Ex.wp (v := (.int .i64 (j + 127))) (Ex.add rfl rfl (Z := j + 127) (w64 (by omega))) (by decide)) (fun _ _ => ?_)
           refine GL.stepG (tj := 105) rfl rfl (Ex.wp (v := (.int .u32 (j + 127))) (Ex.conv rfl Try.underlying3 Try.underlying23 (Z := j + 127) (wu32b (by omega))) (by decide)) (fun _ _ => ?_)
           refine GL.stepG (tj := 105) rfl rfl (Ex.wp (v := (.int .u32 ((j + 127) * 8388608))) (Ex.shl rfl (m := 23) rfl (by decide) (Z := (j + 127) * 8388608) (wu32b (by omega))) (by decide)) (fun _ _ => ?_)
           refine GL.stepG (tj := 105) rfl rfl (Ex.wp (v := (.bool true)) (Ex.cast (Ex.eql rfl rfl) (congrArg Value.bool (decide_eq_true (by exact hp3.2)))) (by decide)) (fun _ _ => ?_)
           refine GL.val (v := (.bool true)) (Ex.pickT rfl rfl) (by decide) ?_
           refine GL.val (Ex.assign rfl) (by decide) ?_
           refine GL.nil ?_
           refine GE.thenN ?_
           refine GC.ret ?_
           refine GC.ret1 rfl (Rv.tmp rfl) (fun wN HN => ?_)
           exact HN.ret () trivial (by first | rfl | simp) (List.nil_sublist _) rfl
         ·have hxc := Lb.expo_bd hLy hp2.1
          obtain ⟨e, n1, n2, he1, he2, hn12, he⟩ := Lb.mins (Bt.expo y) (Bt.expo (Sl.LG (Sl.EX y)))
          obtain ⟨g', m1, m2, he3, he4, hm12, hg'⟩ := Lb.mins e (-24)
          have hW := Lb.near_ok hy (by omega) hLy hp2.1 he1 he2 he3 he4 (by omega) hp2.2.2
          refine GC.region ?_
          refine GL.val (Ex.move rfl) (by decide) ?_
          refine GL.step (Stp.callR (vs := [(.int .u32 ((Sl.LG ((Sl.EX y)))))]) rfl rfl T.own28 (by decide) (fun wc hw => finite_l ((Sl.LG ((Sl.EX y)))) wc (by first | assumption | omega | exact Bt.lst_bd (by assumption) (by assumption) | exact Bt.gst_bd (by assumption) (by assumption) | exact Bt.key_bd (by assumption) | exact Bt.unkey_bd (by assumption) | exact Bt.nxt_bd (by assumption) | exact Bt.lst_bd (Bt.gst_bd (by assumption) (by assumption)) (by assumption) | exact Bt.btw_bd (by assumption) (Bt.lst_bd (by assumption) (by assumption)) (Bt.gst_bd (by assumption) (by assumption))))) (fun xq158 hq159 => ?_)
          refine GL.val (v := (.bool false)) (Ex.cast (Ex.not rfl) (congrArg Value.bool (congrArg (fun z => !z) (decide_eq_true (by exact hp2.1))))) (by decide) ?_
          refine GL.val (Ex.move rfl) (by decide) ?_
          refine GL.stepG (tj := 74) rfl rfl (Ex.wp (v := (.int .u32 y)) (Ex.move rfl) (by decide)) (fun _ _ => ?_)
          refine GL.stepG (tj := 74) rfl rfl (Ex.wp (v := (.int .u32 ((Sl.LG ((Sl.EX y)))))) (Ex.move rfl) (by decide)) (fun _ _ => ?_)
          refine GL.stepG (tj := 74) rfl rfl (Stp.callR (vs := [(.int .u32 y), (.int .u32 ((Sl.LG ((Sl.EX y)))))]) rfl rfl T.own34 (by decide) (fun wc hw => off_ne y ((Sl.LG ((Sl.EX y)))) e n1 n2 wc hy (by omega) hLy hp2.1 he1 he2 hn12 (by omega) (by omega) (by omega) (fun q => hyb q.symm))) (fun xq160 hq161 => ?_)
          have hpx := hq161
          refine GL.stepG (tj := 74) rfl rfl (Stp.callR (vs := [(.int .i64 (-24))]) rfl rfl T.own31 (by decide) (fun wc hw => power_l (-24) wc)) (fun xq162 hq163 => ?_)
          refine GL.stepG (tj := 74) rfl rfl (Stp.callR (vs := [(.agg #[(.int .i64 2), (.bool false), (.slice (some ⟨xq160.1, 0, none⟩) ((Nd.nd (Lb.dfr (decide (y / 2147483648 % 2 = 1)) (decide (((Sl.LG ((Sl.EX y)))) / 2147483648 % 2 = 1)) ((Bt.mant y).toNat * 2 ^ n1) ((Bt.mant ((Sl.LG ((Sl.EX y))))).toNat * 2 ^ n2)))) xq160.2), (.int .i64 e), (.bool false)]), (.agg #[(.int .i64 2), (.bool false), (.slice (some ⟨xq162, 0, none⟩) ((Nd.nd 1)) 2), (.int .i64 (-24)), (.bool false)])]) rfl rfl T.own30 (by decide) (fun wc hw => within_b (Lb.dfr (decide (y / 2147483648 % 2 = 1)) (decide (((Sl.LG ((Sl.EX y)))) / 2147483648 % 2 = 1)) ((Bt.mant y).toNat * 2 ^ n1) ((Bt.mant ((Sl.LG ((Sl.EX y))))).toNat * 2 ^ n2)) xq160.1 xq160.2 1 xq162 2 g' e (-24) m1 m2 false false wc (Nd.Nb.of (hw.rdOf (i := 1) rfl 0) (Lb.nd_lt_of hpx)) (Nat.le_trans (Lb.dfr_nd hy hLy (by omega) (by omega) _ _) (by decide)) (Nd.Nb.one (Lg.rd1 (hw.rdOf (i := 0) rfl 0)) (by decide)) (by rw [Nd.nd_one (by decide)]; decide) he3 he4 hm12 (by omega) (by omega) (by omega))) (fun xq164 hq165 => ?_)
          refine GL.stepG (tj := 74) rfl rfl (Ex.wp (v := (.bool false)) (Ex.cast (Ex.not rfl) (congrArg Value.bool (congrArg (fun z => !z) (decide_eq_true (by exact hW))))) (by decide)) (fun _ _ => ?_)
          refine GL.val (v := (.bool false)) (Ex.pickF rfl rfl) (by decide) ?_
          refine GL.val (Ex.move rfl) (by decide) ?_
          refine GL.stepG (tj := 82) rfl rfl (Ex.wp (v := (.int .u32 y)) (Ex.move rfl) (by decide)) (fun _ _ => ?_)
          refine GL.stepG (tj := 82) rfl rfl (Ex.wp (v := (.int .u32 (y % 2147483648))) (Ex.bits rfl rfl (by simp) (Z := y % 2147483648) (andm 31 (by omega) (by omega) (by decide) rfl rfl)) (by decide)) (fun _ _ => ?_)
          by_cases hq166 : 1065353216 ≤ (y % 2147483648)
          ·refine GL.stepG (tj := 82) rfl rfl (Ex.wp (v := (.bool true)) (Ex.cast (Ex.geq rfl rfl) (congrArg Value.bool (decide_eq_true hq166))) (by decide)) (fun _ _ => ?_)
           refine GL.stepG (tj := 82) rfl rfl (Ex.wp (v := (.bool true)) (Ex.move rfl) (by decide)) (fun _ _ => ?_)
           refine GL.stepG (tj := 86) rfl rfl (Ex.wp (v := (.int .u32 ((Sl.LG ((Sl.EX y)))))) (Ex.move rfl) (by decide)) (fun _ _ => ?_)
           refine GL.stepG (tj := 86) rfl rfl (Ex.wp (v := (.int .u32 y)) (Ex.move rfl) (by decide)) (fun _ _ => ?_)
           refine GL.stepG (tj := 86) rfl rfl (Ex.wp (v := (.bool false)) (Ex.cast (Ex.neq rfl rfl) (congrArg Value.bool (decide_eq_false (by exact absurd (hp2.2.1 (by omega)) hyb)))) (by decide)) (fun _ _ => ?_)
           refine GL.stepG (tj := 82) rfl rfl (Ex.wp (v := (.bool false)) (Ex.pickT rfl rfl) (by decide)) (fun _ _ => ?_)
           refine GL.val (v := (.bool false)) (Ex.pickF rfl rfl) (by decide) ?_
           refine GL.nil ?_
           refine GE.thenN ?_
           refine GC.cond rfl (fun hq167 => by cases hq167) (fun _ => ?_)
           refine GC.skip ?_
           refine GE.thenN ?_
           refine GC.seq ?_
           refine GC.region ?_
           refine GL.val (Ex.move rfl) (by decide) ?_
           refine GL.val (v := (.int .i64 q)) (Ex.rem rfl rfl (Z := q) (by decide) (by first | exact hq.symm | (rw [← hq]; exact w64 (by omega)))) (by decide) ?_
           refine GL.val (v := (.int .i64 (q + 254))) (Ex.add rfl rfl (Z := q + 254) (w64 (by omega))) (by decide) ?_
           refine GL.val (v := (.int .i64 ((q + 254) % 254))) (Ex.rem rfl rfl (Z := (q + 254) % 254) (by omega) (rem64 (by omega) (by omega))) (by decide) ?_
           refine GL.val (v := (.int .i64 (((q + 254) % 254) - 126))) (Ex.sub' rfl rfl (Z := ((q + 254) % 254) - 126) (w64 (by omega))) (by decide) ?_
           refine GL.val (Ex.assign rfl) (by decide) ?_
           refine GL.nil ?_
           refine GE.thenN ?_
           refine GC.seq ?_
           obtain ⟨j, hj⟩ : ∃ j, j = ((q + 254) % 254) - 126 := ⟨_, rfl⟩
           rw [← hj]
           have hp3 := Lb.back3 (k := j) (by omega) (by omega)
           have hFI := Lb.FI_u32 (k := j) (by omega) (by omega)
           refine GC.region ?_
           refine GL.val (Ex.move rfl) (by decide) ?_
           refine GL.val (v := (.int .i64 (j + 127))) (Ex.add rfl rfl (Z := j + 127) (w64 (by omega))) (by decide) ?_
           refine GL.val (v := (.int .u32 (j + 127))) (Ex.conv rfl Try.underlying3 Try.underlying23 (Z := j + 127) (wu32b (by omega))) (by decide) ?_
           refine GL.val (v := (.int .u32 ((j + 127) * 8388608))) (Ex.shl rfl (m := 23) rfl (by decide) (Z := (j + 127) * 8388608) (wu32b (by omega))) (by decide) ?_
           refine GL.step (Stp.callR (vs := [(.int .u32 ((j + 127) * 8388608))]) rfl rfl T.own18 (by decide) (fun wc hw => log_p ((j + 127) * 8388608) wc (by omega))) (fun xq168 hq169 => ?_)
           refine GL.val (Ex.move rfl) (by decide) ?_
           refine GL.step (Stp.callR (vs := [(.int .i64 j)]) rfl rfl T.own37 (by decide) (fun wc hw => fromint_all j wc (by omega))) (fun xq170 hq171 => ?_)
           refine GL.val (v := (.bool true)) (Ex.cast (Ex.eql rfl rfl) (congrArg Value.bool (decide_eq_true (by exact hp3.1)))) (by decide) ?_
           refine GL.val (Ex.move rfl) (by decide) ?_
           refine GL.stepG (tj := 105) rfl rfl (Ex.wp (v := (.int .i64 j)) (Ex.move rfl) (by decide)) (fun _ _ => ?_)
           refine GL.stepG (tj := 105) rfl rfl (Stp.callR (vs := [(.int .i64 j)]) rfl rfl T.own37 (by decide) (fun wc hw => fromint_all j wc (by omega))) (fun xq172 hq173 => ?_)
           refine GL.stepG (tj := 105) rfl rfl (Stp.callR (vs := [(.int .u32 ((Lb.FI j)))]) rfl rfl T.own20 (by decide) (fun wc hw => exp_p ((Lb.FI j)) wc (by omega))) (fun xq174 hq175 => ?_)
           refine GL.stepG (tj := 105) rfl rfl (Ex.wp (v := (.int .i64 j)) (Ex.move rfl) (by decide)) (fun _ _ => ?_)
           refine GL.stepG (tj := 105) rfl rfl (Ex.wp (v := (.int .i64 (j + 127))) (Ex.add rfl rfl (Z := j + 127) (w64 (by omega))) (by decide)) (fun _ _ => ?_)
           refine GL.stepG (tj := 105) rfl rfl (Ex.wp (v := (.int .u32 (j + 127))) (Ex.conv rfl Try.underlying3 Try.underlying23 (Z := j + 127) (wu32b (by omega))) (by decide)) (fun _ _ => ?_)
           refine GL.stepG (tj := 105) rfl rfl (Ex.wp (v := (.int .u32 ((j + 127) * 8388608))) (Ex.shl rfl (m := 23) rfl (by decide) (Z := (j + 127) * 8388608) (wu32b (by omega))) (by decide)) (fun _ _ => ?_)
           refine GL.stepG (tj := 105) rfl rfl (Ex.wp (v := (.bool true)) (Ex.cast (Ex.eql rfl rfl) (congrArg Value.bool (decide_eq_true (by exact hp3.2)))) (by decide)) (fun _ _ => ?_)
           refine GL.val (v := (.bool true)) (Ex.pickT rfl rfl) (by decide) ?_
           refine GL.val (Ex.assign rfl) (by decide) ?_
           refine GL.nil ?_
           refine GE.thenN ?_
           refine GC.ret ?_
           refine GC.ret1 rfl (Rv.tmp rfl) (fun wN HN => ?_)
           exact HN.ret () trivial (by first | rfl | simp) (List.nil_sublist _) rfl
          ·refine GL.stepG (tj := 82) rfl rfl (Ex.wp (v := (.bool false)) (Ex.cast (Ex.geq rfl rfl) (congrArg Value.bool (decide_eq_false hq166))) (by decide)) (fun _ _ => ?_)
           refine GL.stepG (tj := 82) rfl rfl (Ex.wp (v := (.bool false)) (Ex.move rfl) (by decide)) (fun _ _ => ?_)
           refine GL.skipG (tj := 86) rfl rfl rfl (by decide) ?_
           refine GL.skipG (tj := 86) rfl rfl rfl (by decide) ?_
           refine GL.skipG (tj := 86) rfl rfl rfl (by decide) ?_
           refine GL.stepG (tj := 82) rfl rfl (Ex.wp (v := (.bool false)) (Ex.pickF rfl rfl) (by decide)) (fun _ _ => ?_)
           refine GL.val (v := (.bool false)) (Ex.pickF rfl rfl) (by decide) ?_
           refine GL.nil ?_
           refine GE.thenN ?_
           refine GC.cond rfl (fun hq176 => by cases hq176) (fun _ => ?_)
           refine GC.skip ?_
           refine GE.thenN ?_
           refine GC.seq ?_
           refine GC.region ?_
           refine GL.val (Ex.move rfl) (by decide) ?_
           refine GL.val (v := (.int .i64 q)) (Ex.rem rfl rfl (Z := q) (by decide) (by first | exact hq.symm | (rw [← hq]; exact w64 (by omega)))) (by decide) ?_
           refine GL.val (v := (.int .i64 (q + 254))) (Ex.add rfl rfl (Z := q + 254) (w64 (by omega))) (by decide) ?_
           refine GL.val (v := (.int .i64 ((q + 254) % 254))) (Ex.rem rfl rfl (Z := (q + 254) % 254) (by omega) (rem64 (by omega) (by omega))) (by decide) ?_
           refine GL.val (v := (.int .i64 (((q + 254) % 254) - 126))) (Ex.sub' rfl rfl (Z := ((q + 254) % 254) - 126) (w64 (by omega))) (by decide) ?_
           refine GL.val (Ex.assign rfl) (by decide) ?_
           refine GL.nil ?_
           refine GE.thenN ?_
           refine GC.seq ?_
           obtain ⟨j, hj⟩ : ∃ j, j = ((q + 254) % 254) - 126 := ⟨_, rfl⟩
           rw [← hj]
           have hp3 := Lb.back3 (k := j) (by omega) (by omega)
           have hFI := Lb.FI_u32 (k := j) (by omega) (by omega)
           refine GC.region ?_
           refine GL.val (Ex.move rfl) (by decide) ?_
           refine GL.val (v := (.int .i64 (j + 127))) (Ex.add rfl rfl (Z := j + 127) (w64 (by omega))) (by decide) ?_
           refine GL.val (v := (.int .u32 (j + 127))) (Ex.conv rfl Try.underlying3 Try.underlying23 (Z := j + 127) (wu32b (by omega))) (by decide) ?_
           refine GL.val (v := (.int .u32 ((j + 127) * 8388608))) (Ex.shl rfl (m := 23) rfl (by decide) (Z := (j + 127) * 8388608) (wu32b (by omega))) (by decide) ?_
           refine GL.step (Stp.callR (vs := [(.int .u32 ((j + 127) * 8388608))]) rfl rfl T.own18 (by decide) (fun wc hw => log_p ((j + 127) * 8388608) wc (by omega))) (fun xq177 hq178 => ?_)
           refine GL.val (Ex.move rfl) (by decide) ?_
           refine GL.step (Stp.callR (vs := [(.int .i64 j)]) rfl rfl T.own37 (by decide) (fun wc hw => fromint_all j wc (by omega))) (fun xq179 hq180 => ?_)
           refine GL.val (v := (.bool true)) (Ex.cast (Ex.eql rfl rfl) (congrArg Value.bool (decide_eq_true (by exact hp3.1)))) (by decide) ?_
           refine GL.val (Ex.move rfl) (by decide) ?_
           refine GL.stepG (tj := 105) rfl rfl (Ex.wp (v := (.int .i64 j)) (Ex.move rfl) (by decide)) (fun _ _ => ?_)
           refine GL.stepG (tj := 105) rfl rfl (Stp.callR (vs := [(.int .i64 j)]) rfl rfl T.own37 (by decide) (fun wc hw => fromint_all j wc (by omega))) (fun xq181 hq182 => ?_)
           refine GL.stepG (tj := 105) rfl rfl (Stp.callR (vs := [(.int .u32 ((Lb.FI j)))]) rfl rfl T.own20 (by decide) (fun wc hw => exp_p ((Lb.FI j)) wc (by omega))) (fun xq183 hq184 => ?_)
           refine GL.stepG (tj := 105) rfl rfl (Ex.wp (v := (.int .i64 j)) (Ex.move rfl) (by decide)) (fun _ _ => ?_)
           refine GL.stepG (tj := 105) rfl rfl (Ex.wp (v := (.int .i64 (j + 127))) (Ex.add rfl rfl (Z := j + 127) (w64 (by omega))) (by decide)) (fun _ _ => ?_)
           refine GL.stepG (tj := 105) rfl rfl (Ex.wp (v := (.int .u32 (j + 127))) (Ex.conv rfl Try.underlying3 Try.underlying23 (Z := j + 127) (wu32b (by omega))) (by decide)) (fun _ _ => ?_)
           refine GL.stepG (tj := 105) rfl rfl (Ex.wp (v := (.int .u32 ((j + 127) * 8388608))) (Ex.shl rfl (m := 23) rfl (by decide) (Z := (j + 127) * 8388608) (wu32b (by omega))) (by decide)) (fun _ _ => ?_)
           refine GL.stepG (tj := 105) rfl rfl (Ex.wp (v := (.bool true)) (Ex.cast (Ex.eql rfl rfl) (congrArg Value.bool (decide_eq_true (by exact hp3.2)))) (by decide)) (fun _ _ => ?_)
           refine GL.val (v := (.bool true)) (Ex.pickT rfl rfl) (by decide) ?_
           refine GL.val (Ex.assign rfl) (by decide) ?_
           refine GL.nil ?_
           refine GE.thenN ?_
           refine GC.ret ?_
           refine GC.ret1 rfl (Rv.tmp rfl) (fun wN HN => ?_)
           exact HN.ret () trivial (by first | rfl | simp) (List.nil_sublist _) rfl
        ·replace hq126 := of_decide_eq_false hq126
         refine GC.skip ?_
         refine GE.thenN ?_
         refine GC.seq ?_
         refine GC.region ?_
         refine GL.val (Ex.move rfl) (by decide) ?_
         refine GL.val (v := (.int .i64 q)) (Ex.rem rfl rfl (Z := q) (by decide) (by first | exact hq.symm | (rw [← hq]; exact w64 (by omega)))) (by decide) ?_
         refine GL.val (v := (.int .i64 (q + 254))) (Ex.add rfl rfl (Z := q + 254) (w64 (by omega))) (by decide) ?_
         refine GL.val (v := (.int .i64 ((q + 254) % 254))) (Ex.rem rfl rfl (Z := (q + 254) % 254) (by omega) (rem64 (by omega) (by omega))) (by decide) ?_
         refine GL.val (v := (.int .i64 (((q + 254) % 254) - 126))) (Ex.sub' rfl rfl (Z := ((q + 254) % 254) - 126) (w64 (by omega))) (by decide) ?_
         refine GL.val (Ex.assign rfl) (by decide) ?_
         refine GL.nil ?_
         refine GE.thenN ?_
         refine GC.seq ?_
         obtain ⟨j, hj⟩ : ∃ j, j = ((q + 254) % 254) - 126 := ⟨_, rfl⟩
         rw [← hj]
         have hp3 := Lb.back3 (k := j) (by omega) (by omega)
         have hFI := Lb.FI_u32 (k := j) (by omega) (by omega)
         refine GC.region ?_
         refine GL.val (Ex.move rfl) (by decide) ?_
         refine GL.val (v := (.int .i64 (j + 127))) (Ex.add rfl rfl (Z := j + 127) (w64 (by omega))) (by decide) ?_
         refine GL.val (v := (.int .u32 (j + 127))) (Ex.conv rfl Try.underlying3 Try.underlying23 (Z := j + 127) (wu32b (by omega))) (by decide) ?_
         refine GL.val (v := (.int .u32 ((j + 127) * 8388608))) (Ex.shl rfl (m := 23) rfl (by decide) (Z := (j + 127) * 8388608) (wu32b (by omega))) (by decide) ?_
         refine GL.step (Stp.callR (vs := [(.int .u32 ((j + 127) * 8388608))]) rfl rfl T.own18 (by decide) (fun wc hw => log_p ((j + 127) * 8388608) wc (by omega))) (fun xq185 hq186 => ?_)
         refine GL.val (Ex.move rfl) (by decide) ?_
         refine GL.step (Stp.callR (vs := [(.int .i64 j)]) rfl rfl T.own37 (by decide) (fun wc hw => fromint_all j wc (by omega))) (fun xq187 hq188 => ?_)
         refine GL.val (v := (.bool true)) (Ex.cast (Ex.eql rfl rfl) (congrArg Value.bool (decide_eq_true (by exact hp3.1)))) (by decide) ?_
         refine GL.val (Ex.move rfl) (by decide) ?_
         refine GL.stepG (tj := 105) rfl rfl (Ex.wp (v := (.int .i64 j)) (Ex.move rfl) (by decide)) (fun _ _ => ?_)
         refine GL.stepG (tj := 105) rfl rfl (Stp.callR (vs := [(.int .i64 j)]) rfl rfl T.own37 (by decide) (fun wc hw => fromint_all j wc (by omega))) (fun xq189 hq190 => ?_)
         refine GL.stepG (tj := 105) rfl rfl (Stp.callR (vs := [(.int .u32 ((Lb.FI j)))]) rfl rfl T.own20 (by decide) (fun wc hw => exp_p ((Lb.FI j)) wc (by omega))) (fun xq191 hq192 => ?_)
         refine GL.stepG (tj := 105) rfl rfl (Ex.wp (v := (.int .i64 j)) (Ex.move rfl) (by decide)) (fun _ _ => ?_)
         refine GL.stepG (tj := 105) rfl rfl (Ex.wp (v := (.int .i64 (j + 127))) (Ex.add rfl rfl (Z := j + 127) (w64 (by omega))) (by decide)) (fun _ _ => ?_)
         refine GL.stepG (tj := 105) rfl rfl (Ex.wp (v := (.int .u32 (j + 127))) (Ex.conv rfl Try.underlying3 Try.underlying23 (Z := j + 127) (wu32b (by omega))) (by decide)) (fun _ _ => ?_)
         refine GL.stepG (tj := 105) rfl rfl (Ex.wp (v := (.int .u32 ((j + 127) * 8388608))) (Ex.shl rfl (m := 23) rfl (by decide) (Z := (j + 127) * 8388608) (wu32b (by omega))) (by decide)) (fun _ _ => ?_)
         refine GL.stepG (tj := 105) rfl rfl (Ex.wp (v := (.bool true)) (Ex.cast (Ex.eql rfl rfl) (congrArg Value.bool (decide_eq_true (by exact hp3.2)))) (by decide)) (fun _ _ => ?_)
         refine GL.val (v := (.bool true)) (Ex.pickT rfl rfl) (by decide) ?_
         refine GL.val (Ex.assign rfl) (by decide) ?_
         refine GL.nil ?_
         refine GE.thenN ?_
         refine GC.ret ?_
         refine GC.ret1 rfl (Rv.tmp rfl) (fun wN HN => ?_)
         exact HN.ret () trivial (by first | rfl | simp) (List.nil_sublist _) rfl
       ·refine GL.stepG (tj := 56) rfl rfl (Ex.wp (v := (.bool false)) (Ex.cast (Ex.gtr rfl rfl) (congrArg Value.bool (decide_eq_false hq121))) (by decide)) (fun _ _ => ?_)
        refine GL.val (v := (.bool false)) (Ex.pickT rfl rfl) (by decide) ?_
        refine GL.val (Ex.move rfl) (by decide) ?_
        refine GL.skipG (tj := 62) rfl rfl rfl (by decide) ?_
        refine GL.skipG (tj := 62) rfl rfl rfl (by decide) ?_
        refine GL.skipG (tj := 62) rfl rfl rfl (by decide) ?_
        refine GL.skipG (tj := 62) rfl rfl rfl (by decide) ?_
        refine GL.val (v := (.bool false)) (Ex.pickF rfl rfl) (by decide) ?_
        refine GL.nil ?_
        refine GE.thenN ?_
        refine GC.cond rfl (fun hq193 => by cases hq193) (fun _ => ?_)
        refine GC.skip ?_
        refine GE.thenN ?_
        refine GC.seq ?_
        refine GC.region ?_
        refine GL.val (Ex.move rfl) (by decide) ?_
        refine GL.val (v := (.int .i64 q)) (Ex.rem rfl rfl (Z := q) (by decide) (by first | exact hq.symm | (rw [← hq]; exact w64 (by omega)))) (by decide) ?_
        refine GL.val (v := (.int .i64 (q + 254))) (Ex.add rfl rfl (Z := q + 254) (w64 (by omega))) (by decide) ?_
        refine GL.val (v := (.int .i64 ((q + 254) % 254))) (Ex.rem rfl rfl (Z := (q + 254) % 254) (by omega) (rem64 (by omega) (by omega))) (by decide) ?_
        refine GL.val (v := (.int .i64 (((q + 254) % 254) - 126))) (Ex.sub' rfl rfl (Z := ((q + 254) % 254) - 126) (w64 (by omega))) (by decide) ?_
        refine GL.val (Ex.assign rfl) (by decide) ?_
        refine GL.nil ?_
        refine GE.thenN ?_
        refine GC.seq ?_
        obtain ⟨j, hj⟩ : ∃ j, j = ((q + 254) % 254) - 126 := ⟨_, rfl⟩
        rw [← hj]
        have hp3 := Lb.back3 (k := j) (by omega) (by omega)
        have hFI := Lb.FI_u32 (k := j) (by omega) (by omega)
        refine GC.region ?_
        refine GL.val (Ex.move rfl) (by decide) ?_
        refine GL.val (v := (.int .i64 (j + 127))) (Ex.add rfl rfl (Z := j + 127) (w64 (by omega))) (by decide) ?_
        refine GL.val (v := (.int .u32 (j + 127))) (Ex.conv rfl Try.underlying3 Try.underlying23 (Z := j + 127) (wu32b (by omega))) (by decide) ?_
        refine GL.val (v := (.int .u32 ((j + 127) * 8388608))) (Ex.shl rfl (m := 23) rfl (by decide) (Z := (j + 127) * 8388608) (wu32b (by omega))) (by decide) ?_
        refine GL.step (Stp.callR (vs := [(.int .u32 ((j + 127) * 8388608))]) rfl rfl T.own18 (by decide) (fun wc hw => log_p ((j + 127) * 8388608) wc (by omega))) (fun xq194 hq195 => ?_)
        refine GL.val (Ex.move rfl) (by decide) ?_
        refine GL.step (Stp.callR (vs := [(.int .i64 j)]) rfl rfl T.own37 (by decide) (fun wc hw => fromint_all j wc (by omega))) (fun xq196 hq197 => ?_)
        refine GL.val (v := (.bool true)) (Ex.cast (Ex.eql rfl rfl) (congrArg Value.bool (decide_eq_true (by exact hp3.1)))) (by decide) ?_
        refine GL.val (Ex.move rfl) (by decide) ?_
        refine GL.stepG (tj := 105) rfl rfl (Ex.wp (v := (.int .i64 j)) (Ex.move rfl) (by decide)) (fun _ _ => ?_)
        refine GL.stepG (tj := 105) rfl rfl (Stp.callR (vs := [(.int .i64 j)]) rfl rfl T.own37 (by decide) (fun wc hw => fromint_all j wc (by omega))) (fun xq198 hq199 => ?_)
        refine GL.stepG (tj := 105) rfl rfl (Stp.callR (vs := [(.int .u32 ((Lb.FI j)))]) rfl rfl T.own20 (by decide) (fun wc hw => exp_p ((Lb.FI j)) wc (by omega))) (fun xq200 hq201 => ?_)
        refine GL.stepG (tj := 105) rfl rfl (Ex.wp (v := (.int .i64 j)) (Ex.move rfl) (by decide)) (fun _ _ => ?_)
        refine GL.stepG (tj := 105) rfl rfl (Ex.wp (v := (.int .i64 (j + 127))) (Ex.add rfl rfl (Z := j + 127) (w64 (by omega))) (by decide)) (fun _ _ => ?_)
        refine GL.stepG (tj := 105) rfl rfl (Ex.wp (v := (.int .u32 (j + 127))) (Ex.conv rfl Try.underlying3 Try.underlying23 (Z := j + 127) (wu32b (by omega))) (by decide)) (fun _ _ => ?_)
        refine GL.stepG (tj := 105) rfl rfl (Ex.wp (v := (.int .u32 ((j + 127) * 8388608))) (Ex.shl rfl (m := 23) rfl (by decide) (Z := (j + 127) * 8388608) (wu32b (by omega))) (by decide)) (fun _ _ => ?_)
        refine GL.stepG (tj := 105) rfl rfl (Ex.wp (v := (.bool true)) (Ex.cast (Ex.eql rfl rfl) (congrArg Value.bool (decide_eq_true (by exact hp3.2)))) (by decide)) (fun _ _ => ?_)
        refine GL.val (v := (.bool true)) (Ex.pickT rfl rfl) (by decide) ?_
        refine GL.val (Ex.assign rfl) (by decide) ?_
        refine GL.nil ?_
        refine GE.thenN ?_
        refine GC.ret ?_
        refine GC.ret1 rfl (Rv.tmp rfl) (fun wN HN => ?_)
        exact HN.ret () trivial (by first | rfl | simp) (List.nil_sublist _) rfl
      ·refine GL.val (v := (.bool false)) (Ex.cast (Ex.move rfl) (congrArg Value.bool (decide_eq_false hq116))) (by decide) ?_
       refine GL.skipG (tj := 56) rfl rfl rfl (by decide) ?_
       refine GL.skipG (tj := 56) rfl rfl rfl (by decide) ?_
       refine GL.skipG (tj := 56) rfl rfl rfl (by decide) ?_
       refine GL.skipG (tj := 56) rfl rfl rfl (by decide) ?_
       refine GL.val (v := (.bool false)) (Ex.pickF rfl rfl) (by decide) ?_
       refine GL.val (Ex.move rfl) (by decide) ?_
       refine GL.skipG (tj := 62) rfl rfl rfl (by decide) ?_
       refine GL.skipG (tj := 62) rfl rfl rfl (by decide) ?_
       refine GL.skipG (tj := 62) rfl rfl rfl (by decide) ?_
       refine GL.skipG (tj := 62) rfl rfl rfl (by decide) ?_
       refine GL.val (v := (.bool false)) (Ex.pickF rfl rfl) (by decide) ?_
       refine GL.nil ?_
       refine GE.thenN ?_
       refine GC.cond rfl (fun hq202 => by cases hq202) (fun _ => ?_)
       refine GC.skip ?_
       refine GE.thenN ?_
       refine GC.seq ?_
       refine GC.region ?_
       refine GL.val (Ex.move rfl) (by decide) ?_
       refine GL.val (v := (.int .i64 q)) (Ex.rem rfl rfl (Z := q) (by decide) (by first | exact hq.symm | (rw [← hq]; exact w64 (by omega)))) (by decide) ?_
       refine GL.val (v := (.int .i64 (q + 254))) (Ex.add rfl rfl (Z := q + 254) (w64 (by omega))) (by decide) ?_
       refine GL.val (v := (.int .i64 ((q + 254) % 254))) (Ex.rem rfl rfl (Z := (q + 254) % 254) (by omega) (rem64 (by omega) (by omega))) (by decide) ?_
       refine GL.val (v := (.int .i64 (((q + 254) % 254) - 126))) (Ex.sub' rfl rfl (Z := ((q + 254) % 254) - 126) (w64 (by omega))) (by decide) ?_
       refine GL.val (Ex.assign rfl) (by decide) ?_
       refine GL.nil ?_
       refine GE.thenN ?_
       refine GC.seq ?_
       obtain ⟨j, hj⟩ : ∃ j, j = ((q + 254) % 254) - 126 := ⟨_, rfl⟩
       rw [← hj]
       have hp3 := Lb.back3 (k := j) (by omega) (by omega)
       have hFI := Lb.FI_u32 (k := j) (by omega) (by omega)
       refine GC.region ?_
       refine GL.val (Ex.move rfl) (by decide) ?_
       refine GL.val (v := (.int .i64 (j + 127))) (Ex.add rfl rfl (Z := j + 127) (w64 (by omega))) (by decide) ?_
       refine GL.val (v := (.int .u32 (j + 127))) (Ex.conv rfl Try.underlying3 Try.underlying23 (Z := j + 127) (wu32b (by omega))) (by decide) ?_
       refine GL.val (v := (.int .u32 ((j + 127) * 8388608))) (Ex.shl rfl (m := 23) rfl (by decide) (Z := (j + 127) * 8388608) (wu32b (by omega))) (by decide) ?_
       refine GL.step (Stp.callR (vs := [(.int .u32 ((j + 127) * 8388608))]) rfl rfl T.own18 (by decide) (fun wc hw => log_p ((j + 127) * 8388608) wc (by omega))) (fun xq203 hq204 => ?_)
       refine GL.val (Ex.move rfl) (by decide) ?_
       refine GL.step (Stp.callR (vs := [(.int .i64 j)]) rfl rfl T.own37 (by decide) (fun wc hw => fromint_all j wc (by omega))) (fun xq205 hq206 => ?_)
       refine GL.val (v := (.bool true)) (Ex.cast (Ex.eql rfl rfl) (congrArg Value.bool (decide_eq_true (by exact hp3.1)))) (by decide) ?_
       refine GL.val (Ex.move rfl) (by decide) ?_
       refine GL.stepG (tj := 105) rfl rfl (Ex.wp (v := (.int .i64 j)) (Ex.move rfl) (by decide)) (fun _ _ => ?_)
       refine GL.stepG (tj := 105) rfl rfl (Stp.callR (vs := [(.int .i64 j)]) rfl rfl T.own37 (by decide) (fun wc hw => fromint_all j wc (by omega))) (fun xq207 hq208 => ?_)
       refine GL.stepG (tj := 105) rfl rfl (Stp.callR (vs := [(.int .u32 ((Lb.FI j)))]) rfl rfl T.own20 (by decide) (fun wc hw => exp_p ((Lb.FI j)) wc (by omega))) (fun xq209 hq210 => ?_)
       refine GL.stepG (tj := 105) rfl rfl (Ex.wp (v := (.int .i64 j)) (Ex.move rfl) (by decide)) (fun _ _ => ?_)
       refine GL.stepG (tj := 105) rfl rfl (Ex.wp (v := (.int .i64 (j + 127))) (Ex.add rfl rfl (Z := j + 127) (w64 (by omega))) (by decide)) (fun _ _ => ?_)
       refine GL.stepG (tj := 105) rfl rfl (Ex.wp (v := (.int .u32 (j + 127))) (Ex.conv rfl Try.underlying3 Try.underlying23 (Z := j + 127) (wu32b (by omega))) (by decide)) (fun _ _ => ?_)
       refine GL.stepG (tj := 105) rfl rfl (Ex.wp (v := (.int .u32 ((j + 127) * 8388608))) (Ex.shl rfl (m := 23) rfl (by decide) (Z := (j + 127) * 8388608) (wu32b (by omega))) (by decide)) (fun _ _ => ?_)
       refine GL.stepG (tj := 105) rfl rfl (Ex.wp (v := (.bool true)) (Ex.cast (Ex.eql rfl rfl) (congrArg Value.bool (decide_eq_true (by exact hp3.2)))) (by decide)) (fun _ _ => ?_)
       refine GL.val (v := (.bool true)) (Ex.pickT rfl rfl) (by decide) ?_
       refine GL.val (Ex.assign rfl) (by decide) ?_
       refine GL.nil ?_
       refine GE.thenN ?_
       refine GC.ret ?_
       refine GC.ret1 rfl (Rv.tmp rfl) (fun wN HN => ?_)
       exact HN.ret () trivial (by first | rfl | simp) (List.nil_sublist _) rfl
    ·refine GL.stepG (tj := 42) rfl rfl (Ex.wp (v := (.bool false)) (Ex.cast (Ex.geq rfl rfl) (congrArg Value.bool (decide_eq_false hq13))) (by decide)) (fun _ _ => ?_)
     refine GL.stepG (tj := 42) rfl rfl (Ex.wp (v := (.bool false)) (Ex.move rfl) (by decide)) (fun _ _ => ?_)
     refine GL.skipG (tj := 45) rfl rfl rfl (by decide) ?_
     refine GL.skipG (tj := 45) rfl rfl rfl (by decide) ?_
     refine GL.stepG (tj := 42) rfl rfl (Ex.wp (v := (.bool false)) (Ex.pickF rfl rfl) (by decide)) (fun _ _ => ?_)
     refine GL.stepG (tj := 42) rfl rfl (Ex.wp (v := (.bool false)) (Ex.move rfl) (by decide)) (fun _ _ => ?_)
     refine GL.skipG (tj := 49) rfl rfl rfl (by decide) ?_
     refine GL.skipG (tj := 49) rfl rfl rfl (by decide) ?_
     refine GL.stepG (tj := 42) rfl rfl (Ex.wp (v := (.bool false)) (Ex.pickF rfl rfl) (by decide)) (fun _ _ => ?_)
     refine GL.val (v := (.bool false)) (Ex.pickF rfl rfl) (by decide) ?_
     refine GL.nil ?_
     refine GE.thenN ?_
     refine GC.cond rfl (fun hq211 => by cases hq211) (fun _ => ?_)
     refine GC.skip ?_
     refine GE.thenN ?_
     refine GC.seq ?_
     refine GC.seq ?_
     refine GC.region ?_
     refine GL.val (Ex.move rfl) (by decide) ?_
     refine GL.step (Stp.callR (vs := [(.int .u32 y)]) rfl rfl T.own28 (by decide) (fun wc hw => finite_l y wc (by first | assumption | omega | exact Bt.lst_bd (by assumption) (by assumption) | exact Bt.gst_bd (by assumption) (by assumption) | exact Bt.key_bd (by assumption) | exact Bt.unkey_bd (by assumption) | exact Bt.nxt_bd (by assumption) | exact Bt.lst_bd (Bt.gst_bd (by assumption) (by assumption)) (by assumption) | exact Bt.btw_bd (by assumption) (Bt.lst_bd (by assumption) (by assumption)) (Bt.gst_bd (by assumption) (by assumption))))) (fun xq212 hq213 => ?_)
     by_cases hq214 : (y % 2147483648 < 2139095040)
     ·refine GL.val (v := (.bool true)) (Ex.cast (Ex.move rfl) (congrArg Value.bool (decide_eq_true hq214))) (by decide) ?_
      refine GL.stepG (tj := 56) rfl rfl (Ex.wp (v := (.int .u32 y)) (Ex.move rfl) (by decide)) (fun _ _ => ?_)
      refine GL.stepG (tj := 56) rfl rfl (Stp.callR (vs := [(.int .u32 y)]) rfl rfl T.own36 (by decide) (fun wc hw => key_l y wc (by first | assumption | omega | exact Bt.lst_bd (by assumption) (by assumption) | exact Bt.gst_bd (by assumption) (by assumption) | exact Bt.key_bd (by assumption) | exact Bt.unkey_bd (by assumption) | exact Bt.nxt_bd (by assumption) | exact Bt.lst_bd (Bt.gst_bd (by assumption) (by assumption)) (by assumption) | exact Bt.btw_bd (by assumption) (Bt.lst_bd (by assumption) (by assumption)) (Bt.gst_bd (by assumption) (by assumption))))) (fun xq215 hq216 => ?_)
      refine GL.stepG (tj := 56) rfl rfl (Stp.callR (vs := [(.int .u32 3271426048)]) rfl rfl T.own36 (by decide) (fun wc hw => key_l 3271426048 wc (by first | assumption | omega | exact Bt.lst_bd (by assumption) (by assumption) | exact Bt.gst_bd (by assumption) (by assumption) | exact Bt.key_bd (by assumption) | exact Bt.unkey_bd (by assumption) | exact Bt.nxt_bd (by assumption) | exact Bt.lst_bd (Bt.gst_bd (by assumption) (by assumption)) (by assumption) | exact Bt.btw_bd (by assumption) (Bt.lst_bd (by assumption) (by assumption)) (Bt.gst_bd (by assumption) (by assumption))))) (fun xq217 hq218 => ?_)
      by_cases hq219 : ((Fv.rk 3271426048)) < ((Fv.rk y))
      ·refine GL.stepG (tj := 56) rfl rfl (Ex.wp (v := (.bool true)) (Ex.cast (Ex.gtr rfl rfl) (congrArg Value.bool (decide_eq_true hq219))) (by decide)) (fun _ _ => ?_)
       refine GL.val (v := (.bool true)) (Ex.pickT rfl rfl) (by decide) ?_
       refine GL.val (Ex.move rfl) (by decide) ?_
       refine GL.stepG (tj := 62) rfl rfl (Ex.wp (v := (.int .u32 y)) (Ex.move rfl) (by decide)) (fun _ _ => ?_)
       refine GL.stepG (tj := 62) rfl rfl (Stp.callR (vs := [(.int .u32 y)]) rfl rfl T.own36 (by decide) (fun wc hw => key_l y wc (by first | assumption | omega | exact Bt.lst_bd (by assumption) (by assumption) | exact Bt.gst_bd (by assumption) (by assumption) | exact Bt.key_bd (by assumption) | exact Bt.unkey_bd (by assumption) | exact Bt.nxt_bd (by assumption) | exact Bt.lst_bd (Bt.gst_bd (by assumption) (by assumption)) (by assumption) | exact Bt.btw_bd (by assumption) (Bt.lst_bd (by assumption) (by assumption)) (Bt.gst_bd (by assumption) (by assumption))))) (fun xq220 hq221 => ?_)
       refine GL.stepG (tj := 62) rfl rfl (Stp.callR (vs := [(.int .u32 1124073472)]) rfl rfl T.own36 (by decide) (fun wc hw => key_l 1124073472 wc (by first | assumption | omega | exact Bt.lst_bd (by assumption) (by assumption) | exact Bt.gst_bd (by assumption) (by assumption) | exact Bt.key_bd (by assumption) | exact Bt.unkey_bd (by assumption) | exact Bt.nxt_bd (by assumption) | exact Bt.lst_bd (Bt.gst_bd (by assumption) (by assumption)) (by assumption) | exact Bt.btw_bd (by assumption) (Bt.lst_bd (by assumption) (by assumption)) (Bt.gst_bd (by assumption) (by assumption))))) (fun xq222 hq223 => ?_)
       refine GL.stepG (tj := 62) rfl rfl (Ex.wp (v := (.bool (decide (((Fv.rk y)) < ((Fv.rk 1124073472)))))) (Ex.lss rfl rfl) (by decide)) (fun _ _ => ?_)
       refine GL.val (v := (.bool (decide (((Fv.rk y)) < ((Fv.rk 1124073472)))))) (Ex.pickT rfl rfl) (by decide) ?_
       refine GL.nil ?_
       refine GE.thenN ?_
       refine GC.cond rfl (fun hq224 => ?_) (fun hq224 => ?_)
       ·replace hq224 := of_decide_eq_true hq224
        refine GC.seq ?_
        refine GC.region ?_
        refine GL.val (Ex.move rfl) (by decide) ?_
        refine GL.step (Stp.callR (vs := [(.int .u32 y)]) rfl rfl T.own20 (by decide) (fun wc hw => exp_p y wc (by omega))) (fun xq225 hq226 => ?_)
        refine GL.step (Stp.callR (vs := [(.int .u32 ((Sl.EX y)))]) rfl rfl T.own18 (by decide) (fun wc hw => log_p ((Sl.EX y)) wc (by omega))) (fun xq227 hq228 => ?_)
        refine GL.val (Ex.assign rfl) (by decide) ?_
        refine GL.nil ?_
        refine GE.thenN ?_
        refine GC.seq ?_
        have hp2 := Lb.back2' hy (by omega) (by omega)
        have hxb := Lb.expo_bd hy (by omega)
        by_cases hyb : (Sl.LG (Sl.EX y)) = y
        ·obtain ⟨g', m1, m2, he3, he4, hm12, hg'⟩ := Lb.mins (Bt.expo y) (-24)
         rw [hyb]
         refine GC.region ?_
         refine GL.val (Ex.move rfl) (by decide) ?_
         refine GL.step (Stp.callR (vs := [(.int .u32 y)]) rfl rfl T.own28 (by decide) (fun wc hw => finite_l y wc (by first | assumption | omega | exact Bt.lst_bd (by assumption) (by assumption) | exact Bt.gst_bd (by assumption) (by assumption) | exact Bt.key_bd (by assumption) | exact Bt.unkey_bd (by assumption) | exact Bt.nxt_bd (by assumption) | exact Bt.lst_bd (Bt.gst_bd (by assumption) (by assumption)) (by assumption) | exact Bt.btw_bd (by assumption) (Bt.lst_bd (by assumption) (by assumption)) (Bt.gst_bd (by assumption) (by assumption))))) (fun xq229 hq230 => ?_)
         refine GL.val (v := (.bool false)) (Ex.cast (Ex.not rfl) (congrArg Value.bool (congrArg (fun z => !z) (decide_eq_true (by assumption))))) (by decide) ?_
         refine GL.val (Ex.move rfl) (by decide) ?_
         refine GL.stepG (tj := 74) rfl rfl (Ex.wp (v := (.int .u32 y)) (Ex.move rfl) (by decide)) (fun _ _ => ?_)
         refine GL.stepG (tj := 74) rfl rfl (Ex.wp (v := (.int .u32 y)) (Ex.move rfl) (by decide)) (fun _ _ => ?_)
         refine GL.stepG (tj := 74) rfl rfl (Stp.callR (vs := [(.int .u32 y), (.int .u32 y)]) rfl rfl T.own34 (by decide) (fun wc hw => off_eq y y (Bt.expo y) 0 0 wc hy (by omega) hy (by omega) (by omega) (by omega) (.inl rfl) (by decide) (by decide) (by omega) (Lb.ne_not _) rfl)) (fun xq231 hq232 => ?_)
         refine GL.stepG (tj := 74) rfl rfl (Stp.callR (vs := [(.int .i64 (-24))]) rfl rfl T.own31 (by decide) (fun wc hw => power_l (-24) wc)) (fun xq233 hq234 => ?_)
         refine GL.stepG (tj := 74) rfl rfl (Stp.callR (vs := [(.agg #[(.int .i64 2), (.bool false), (.slice none 0 0), (.int .i64 ((Bt.expo y))), (.bool false)]), (.agg #[(.int .i64 2), (.bool false), (.slice (some ⟨xq233, 0, none⟩) ((Nd.nd 1)) 2), (.int .i64 (-24)), (.bool false)])]) rfl rfl T.own30 (by decide) (fun wc hw => within_n none 0 1 xq233 2 g' (Bt.expo y) (-24) m1 m2 false false wc (Nd.Nb.one (Lg.rd1 (hw.rdOf (i := 0) rfl 0)) (by decide)) (by rw [Nd.nd_one (by decide)]; decide) he3 he4 hm12 (by omega) (by omega) (by omega))) (fun xq235 hq236 => ?_)
         refine GL.stepG (tj := 74) rfl rfl (Ex.wp (v := (.bool false)) (Ex.cast (Ex.not rfl) rfl) (by decide)) (fun _ _ => ?_)
         refine GL.val (v := (.bool false)) (Ex.pickF rfl rfl) (by decide) ?_
         refine GL.val (Ex.move rfl) (by decide) ?_
         refine GL.stepG (tj := 82) rfl rfl (Ex.wp (v := (.int .u32 y)) (Ex.move rfl) (by decide)) (fun _ _ => ?_)
         refine GL.stepG (tj := 82) rfl rfl (Ex.wp (v := (.int .u32 (y % 2147483648))) (Ex.bits rfl rfl (by simp) (Z := y % 2147483648) (andm 31 (by omega) (by omega) (by decide) rfl rfl)) (by decide)) (fun _ _ => ?_)
         by_cases hq237 : 1065353216 ≤ (y % 2147483648)
         ·refine GL.stepG (tj := 82) rfl rfl (Ex.wp (v := (.bool true)) (Ex.cast (Ex.geq rfl rfl) (congrArg Value.bool (decide_eq_true hq237))) (by decide)) (fun _ _ => ?_)
          refine GL.stepG (tj := 82) rfl rfl (Ex.wp (v := (.bool true)) (Ex.move rfl) (by decide)) (fun _ _ => ?_)
          refine GL.stepG (tj := 86) rfl rfl (Ex.wp (v := (.int .u32 y)) (Ex.move rfl) (by decide)) (fun _ _ => ?_)
          refine GL.stepG (tj := 86) rfl rfl (Ex.wp (v := (.int .u32 y)) (Ex.move rfl) (by decide)) (fun _ _ => ?_)
          refine GL.stepG (tj := 86) rfl rfl (Ex.wp (v := (.bool false)) (Ex.cast (Ex.neq rfl rfl) (congrArg Value.bool (decide_eq_false (by simp)))) (by decide)) (fun _ _ => ?_)
          refine GL.stepG (tj := 82) rfl rfl (Ex.wp (v := (.bool false)) (Ex.pickT rfl rfl) (by decide)) (fun _ _ => ?_)
          refine GL.val (v := (.bool false)) (Ex.pickF rfl rfl) (by decide) ?_
          refine GL.nil ?_
          refine GE.thenN ?_
          refine GC.cond rfl (fun hq238 => by cases hq238) (fun _ => ?_)
          refine GC.skip ?_
          refine GE.thenN ?_
          refine GC.seq ?_
          refine GC.region ?_
          refine GL.val (Ex.move rfl) (by decide) ?_
          refine GL.val (v := (.int .i64 q)) (Ex.rem rfl rfl (Z := q) (by decide) (by first | exact hq.symm | (rw [← hq]; exact w64 (by omega)))) (by decide) ?_
          refine GL.val (v := (.int .i64 (q + 254))) (Ex.add rfl rfl (Z := q + 254) (w64 (by omega))) (by decide) ?_
          refine GL.val (v := (.int .i64 ((q + 254) % 254))) (Ex.rem rfl rfl (Z := (q + 254) % 254) (by omega) (rem64 (by omega) (by omega))) (by decide) ?_
          refine GL.val (v := (.int .i64 (((q + 254) % 254) - 126))) (Ex.sub' rfl rfl (Z := ((q + 254) % 254) - 126) (w64 (by omega))) (by decide) ?_
          refine GL.val (Ex.assign rfl) (by decide) ?_
          refine GL.nil ?_
          refine GE.thenN ?_
          refine GC.seq ?_
          obtain ⟨j, hj⟩ : ∃ j, j = ((q + 254) % 254) - 126 := ⟨_, rfl⟩
          rw [← hj]
          have hp3 := Lb.back3 (k := j) (by omega) (by omega)
          have hFI := Lb.FI_u32 (k := j) (by omega) (by omega)
          refine GC.region ?_
          refine GL.val (Ex.move rfl) (by decide) ?_
          refine GL.val (v := (.int .i64 (j + 127))) (Ex.add rfl rfl (Z := j + 127) (w64 (by omega))) (by decide) ?_
          refine GL.val (v := (.int .u32 (j + 127))) (Ex.conv rfl Try.underlying3 Try.underlying23 (Z := j + 127) (wu32b (by omega))) (by decide) ?_
          refine GL.val (v := (.int .u32 ((j + 127) * 8388608))) (Ex.shl rfl (m := 23) rfl (by decide) (Z := (j + 127) * 8388608) (wu32b (by omega))) (by decide) ?_
          refine GL.step (Stp.callR (vs := [(.int .u32 ((j + 127) * 8388608))]) rfl rfl T.own18 (by decide) (fun wc hw => log_p ((j + 127) * 8388608) wc (by omega))) (fun xq239 hq240 => ?_)
          refine GL.val (Ex.move rfl) (by decide) ?_
          refine GL.step (Stp.callR (vs := [(.int .i64 j)]) rfl rfl T.own37 (by decide) (fun wc hw => fromint_all j wc (by omega))) (fun xq241 hq242 => ?_)
          refine GL.val (v := (.bool true)) (Ex.cast (Ex.eql rfl rfl) (congrArg Value.bool (decide_eq_true (by exact hp3.1)))) (by decide) ?_
          refine GL.val (Ex.move rfl) (by decide) ?_
          refine GL.stepG (tj := 105) rfl rfl (Ex.wp (v := (.int .i64 j)) (Ex.move rfl) (by decide)) (fun _ _ => ?_)
          refine GL.stepG (tj := 105) rfl rfl (Stp.callR (vs := [(.int .i64 j)]) rfl rfl T.own37 (by decide) (fun wc hw => fromint_all j wc (by omega))) (fun xq243 hq244 => ?_)
          refine GL.stepG (tj := 105) rfl rfl (Stp.callR (vs := [(.int .u32 ((Lb.FI j)))]) rfl rfl T.own20 (by decide) (fun wc hw => exp_p ((Lb.FI j)) wc (by omega))) (fun xq245 hq246 => ?_)
          refine GL.stepG (tj := 105) rfl rfl (Ex.wp (v := (.int .i64 j)) (Ex.move rfl) (by decide)) (fun _ _ => ?_)
          refine GL.stepG (tj := 105) rfl rfl (Ex.wp (v := (.int .i64 (j + 127))) (Ex.add rfl rfl (Z := j + 127) (w64 (by omega))) (by decide)) (fun _ _ => ?_)
          refine GL.stepG (tj := 105) rfl rfl (Ex.wp (v := (.int .u32 (j + 127))) (Ex.conv rfl Try.underlying3 Try.underlying23 (Z := j + 127) (wu32b (by omega))) (by decide)) (fun _ _ => ?_)
          refine GL.stepG (tj := 105) rfl rfl (Ex.wp (v := (.int .u32 ((j + 127) * 8388608))) (Ex.shl rfl (m := 23) rfl (by decide) (Z := (j + 127) * 8388608) (wu32b (by omega))) (by decide)) (fun _ _ => ?_)
          refine GL.stepG (tj := 105) rfl rfl (Ex.wp (v := (.bool true)) (Ex.cast (Ex.eql rfl rfl) (congrArg Value.bool (decide_eq_true (by exact hp3.2)))) (by decide)) (fun _ _ => ?_)
          refine GL.val (v := (.bool true)) (Ex.pickT rfl rfl) (by decide) ?_
          refine GL.val (Ex.assign rfl) (by decide) ?_
          refine GL.nil ?_
          refine GE.thenN ?_
          refine GC.ret ?_
          refine GC.ret1 rfl (Rv.tmp rfl) (fun wN HN => ?_)
          exact HN.ret () trivial (by first | rfl | simp) (List.nil_sublist _) rfl
         ·refine GL.stepG (tj := 82) rfl rfl (Ex.wp (v := (.bool false)) (Ex.cast (Ex.geq rfl rfl) (congrArg Value.bool (decide_eq_false hq237))) (by decide)) (fun _ _ => ?_)
          refine GL.stepG (tj := 82) rfl rfl (Ex.wp (v := (.bool false)) (Ex.move rfl) (by decide)) (fun _ _ => ?_)
          refine GL.skipG (tj := 86) rfl rfl rfl (by decide) ?_
          refine GL.skipG (tj := 86) rfl rfl rfl (by decide) ?_
          refine GL.skipG (tj := 86) rfl rfl rfl (by decide) ?_
          refine GL.stepG (tj := 82) rfl rfl (Ex.wp (v := (.bool false)) (Ex.pickF rfl rfl) (by decide)) (fun _ _ => ?_)
          refine GL.val (v := (.bool false)) (Ex.pickF rfl rfl) (by decide) ?_
          refine GL.nil ?_
          refine GE.thenN ?_
          refine GC.cond rfl (fun hq247 => by cases hq247) (fun _ => ?_)
          refine GC.skip ?_
          refine GE.thenN ?_
          refine GC.seq ?_
          refine GC.region ?_
          refine GL.val (Ex.move rfl) (by decide) ?_
          refine GL.val (v := (.int .i64 q)) (Ex.rem rfl rfl (Z := q) (by decide) (by first | exact hq.symm | (rw [← hq]; exact w64 (by omega)))) (by decide) ?_
          refine GL.val (v := (.int .i64 (q + 254))) (Ex.add rfl rfl (Z := q + 254) (w64 (by omega))) (by decide) ?_
          refine GL.val (v := (.int .i64 ((q + 254) % 254))) (Ex.rem rfl rfl (Z := (q + 254) % 254) (by omega) (rem64 (by omega) (by omega))) (by decide) ?_
          refine GL.val (v := (.int .i64 (((q + 254) % 254) - 126))) (Ex.sub' rfl rfl (Z := ((q + 254) % 254) - 126) (w64 (by omega))) (by decide) ?_
          refine GL.val (Ex.assign rfl) (by decide) ?_
          refine GL.nil ?_
          refine GE.thenN ?_
          refine GC.seq ?_
          obtain ⟨j, hj⟩ : ∃ j, j = ((q + 254) % 254) - 126 := ⟨_, rfl⟩
          rw [← hj]
          have hp3 := Lb.back3 (k := j) (by omega) (by omega)
          have hFI := Lb.FI_u32 (k := j) (by omega) (by omega)
          refine GC.region ?_
          refine GL.val (Ex.move rfl) (by decide) ?_
          refine GL.val (v := (.int .i64 (j + 127))) (Ex.add rfl rfl (Z := j + 127) (w64 (by omega))) (by decide) ?_
          refine GL.val (v := (.int .u32 (j + 127))) (Ex.conv rfl Try.underlying3 Try.underlying23 (Z := j + 127) (wu32b (by omega))) (by decide) ?_
          refine GL.val (v := (.int .u32 ((j + 127) * 8388608))) (Ex.shl rfl (m := 23) rfl (by decide) (Z := (j + 127) * 8388608) (wu32b (by omega))) (by decide) ?_
          refine GL.step (Stp.callR (vs := [(.int .u32 ((j + 127) * 8388608))]) rfl rfl T.own18 (by decide) (fun wc hw => log_p ((j + 127) * 8388608) wc (by omega))) (fun xq248 hq249 => ?_)
          refine GL.val (Ex.move rfl) (by decide) ?_
          refine GL.step (Stp.callR (vs := [(.int .i64 j)]) rfl rfl T.own37 (by decide) (fun wc hw => fromint_all j wc (by omega))) (fun xq250 hq251 => ?_)
          refine GL.val (v := (.bool true)) (Ex.cast (Ex.eql rfl rfl) (congrArg Value.bool (decide_eq_true (by exact hp3.1)))) (by decide) ?_
          refine GL.val (Ex.move rfl) (by decide) ?_
          refine GL.stepG (tj := 105) rfl rfl (Ex.wp (v := (.int .i64 j)) (Ex.move rfl) (by decide)) (fun _ _ => ?_)
          refine GL.stepG (tj := 105) rfl rfl (Stp.callR (vs := [(.int .i64 j)]) rfl rfl T.own37 (by decide) (fun wc hw => fromint_all j wc (by omega))) (fun xq252 hq253 => ?_)
          refine GL.stepG (tj := 105) rfl rfl (Stp.callR (vs := [(.int .u32 ((Lb.FI j)))]) rfl rfl T.own20 (by decide) (fun wc hw => exp_p ((Lb.FI j)) wc (by omega))) (fun xq254 hq255 => ?_)
          refine GL.stepG (tj := 105) rfl rfl (Ex.wp (v := (.int .i64 j)) (Ex.move rfl) (by decide)) (fun _ _ => ?_)
          refine GL.stepG (tj := 105) rfl rfl (Ex.wp (v := (.int .i64 (j + 127))) (Ex.add rfl rfl (Z := j + 127) (w64 (by omega))) (by decide)) (fun _ _ => ?_)
          refine GL.stepG (tj := 105) rfl rfl (Ex.wp (v := (.int .u32 (j + 127))) (Ex.conv rfl Try.underlying3 Try.underlying23 (Z := j + 127) (wu32b (by omega))) (by decide)) (fun _ _ => ?_)
          refine GL.stepG (tj := 105) rfl rfl (Ex.wp (v := (.int .u32 ((j + 127) * 8388608))) (Ex.shl rfl (m := 23) rfl (by decide) (Z := (j + 127) * 8388608) (wu32b (by omega))) (by decide)) (fun _ _ => ?_)
          refine GL.stepG (tj := 105) rfl rfl (Ex.wp (v := (.bool true)) (Ex.cast (Ex.eql rfl rfl) (congrArg Value.bool (decide_eq_true (by exact hp3.2)))) (by decide)) (fun _ _ => ?_)
          refine GL.val (v := (.bool true)) (Ex.pickT rfl rfl) (by decide) ?_
          refine GL.val (Ex.assign rfl) (by decide) ?_
          refine GL.nil ?_
          refine GE.thenN ?_
          refine GC.ret ?_
          refine GC.ret1 rfl (Rv.tmp rfl) (fun wN HN => ?_)
          exact HN.ret () trivial (by first | rfl | simp) (List.nil_sublist _) rfl
        ·have hxc := Lb.expo_bd hLy hp2.1
         obtain ⟨e, n1, n2, he1, he2, hn12, he⟩ := Lb.mins (Bt.expo y) (Bt.expo (Sl.LG (Sl.EX y)))
         obtain ⟨g', m1, m2, he3, he4, hm12, hg'⟩ := Lb.mins e (-24)
         have hW := Lb.near_ok hy (by omega) hLy hp2.1 he1 he2 he3 he4 (by omega) hp2.2.2
         refine GC.region ?_
         refine GL.val (Ex.move rfl) (by decide) ?_
         refine GL.step (Stp.callR (vs := [(.int .u32 ((Sl.LG ((Sl.EX y)))))]) rfl rfl T.own28 (by decide) (fun wc hw => finite_l ((Sl.LG ((Sl.EX y)))) wc (by first | assumption | omega | exact Bt.lst_bd (by assumption) (by assumption) | exact Bt.gst_bd (by assumption) (by assumption) | exact Bt.key_bd (by assumption) | exact Bt.unkey_bd (by assumption) | exact Bt.nxt_bd (by assumption) | exact Bt.lst_bd (Bt.gst_bd (by assumption) (by assumption)) (by assumption) | exact Bt.btw_bd (by assumption) (Bt.lst_bd (by assumption) (by assumption)) (Bt.gst_bd (by assumption) (by assumption))))) (fun xq256 hq257 => ?_)
         refine GL.val (v := (.bool false)) (Ex.cast (Ex.not rfl) (congrArg Value.bool (congrArg (fun z => !z) (decide_eq_true (by exact hp2.1))))) (by decide) ?_
         refine GL.val (Ex.move rfl) (by decide) ?_
         refine GL.stepG (tj := 74) rfl rfl (Ex.wp (v := (.int .u32 y)) (Ex.move rfl) (by decide)) (fun _ _ => ?_)
         refine GL.stepG (tj := 74) rfl rfl (Ex.wp (v := (.int .u32 ((Sl.LG ((Sl.EX y)))))) (Ex.move rfl) (by decide)) (fun _ _ => ?_)
         refine GL.stepG (tj := 74) rfl rfl (Stp.callR (vs := [(.int .u32 y), (.int .u32 ((Sl.LG ((Sl.EX y)))))]) rfl rfl T.own34 (by decide) (fun wc hw => off_ne y ((Sl.LG ((Sl.EX y)))) e n1 n2 wc hy (by omega) hLy hp2.1 he1 he2 hn12 (by omega) (by omega) (by omega) (fun q => hyb q.symm))) (fun xq258 hq259 => ?_)
         have hpx := hq259
         refine GL.stepG (tj := 74) rfl rfl (Stp.callR (vs := [(.int .i64 (-24))]) rfl rfl T.own31 (by decide) (fun wc hw => power_l (-24) wc)) (fun xq260 hq261 => ?_)
         refine GL.stepG (tj := 74) rfl rfl (Stp.callR (vs := [(.agg #[(.int .i64 2), (.bool false), (.slice (some ⟨xq258.1, 0, none⟩) ((Nd.nd (Lb.dfr (decide (y / 2147483648 % 2 = 1)) (decide (((Sl.LG ((Sl.EX y)))) / 2147483648 % 2 = 1)) ((Bt.mant y).toNat * 2 ^ n1) ((Bt.mant ((Sl.LG ((Sl.EX y))))).toNat * 2 ^ n2)))) xq258.2), (.int .i64 e), (.bool false)]), (.agg #[(.int .i64 2), (.bool false), (.slice (some ⟨xq260, 0, none⟩) ((Nd.nd 1)) 2), (.int .i64 (-24)), (.bool false)])]) rfl rfl T.own30 (by decide) (fun wc hw => within_b (Lb.dfr (decide (y / 2147483648 % 2 = 1)) (decide (((Sl.LG ((Sl.EX y)))) / 2147483648 % 2 = 1)) ((Bt.mant y).toNat * 2 ^ n1) ((Bt.mant ((Sl.LG ((Sl.EX y))))).toNat * 2 ^ n2)) xq258.1 xq258.2 1 xq260 2 g' e (-24) m1 m2 false false wc (Nd.Nb.of (hw.rdOf (i := 1) rfl 0) (Lb.nd_lt_of hpx)) (Nat.le_trans (Lb.dfr_nd hy hLy (by omega) (by omega) _ _) (by decide)) (Nd.Nb.one (Lg.rd1 (hw.rdOf (i := 0) rfl 0)) (by decide)) (by rw [Nd.nd_one (by decide)]; decide) he3 he4 hm12 (by omega) (by omega) (by omega))) (fun xq262 hq263 => ?_)
         refine GL.stepG (tj := 74) rfl rfl (Ex.wp (v := (.bool false)) (Ex.cast (Ex.not rfl) (congrArg Value.bool (congrArg (fun z => !z) (decide_eq_true (by exact hW))))) (by decide)) (fun _ _ => ?_)
         refine GL.val (v := (.bool false)) (Ex.pickF rfl rfl) (by decide) ?_
         refine GL.val (Ex.move rfl) (by decide) ?_
         refine GL.stepG (tj := 82) rfl rfl (Ex.wp (v := (.int .u32 y)) (Ex.move rfl) (by decide)) (fun _ _ => ?_)
         refine GL.stepG (tj := 82) rfl rfl (Ex.wp (v := (.int .u32 (y % 2147483648))) (Ex.bits rfl rfl (by simp) (Z := y % 2147483648) (andm 31 (by omega) (by omega) (by decide) rfl rfl)) (by decide)) (fun _ _ => ?_)
         by_cases hq264 : 1065353216 ≤ (y % 2147483648)
         ·refine GL.stepG (tj := 82) rfl rfl (Ex.wp (v := (.bool true)) (Ex.cast (Ex.geq rfl rfl) (congrArg Value.bool (decide_eq_true hq264))) (by decide)) (fun _ _ => ?_)
          refine GL.stepG (tj := 82) rfl rfl (Ex.wp (v := (.bool true)) (Ex.move rfl) (by decide)) (fun _ _ => ?_)
          refine GL.stepG (tj := 86) rfl rfl (Ex.wp (v := (.int .u32 ((Sl.LG ((Sl.EX y)))))) (Ex.move rfl) (by decide)) (fun _ _ => ?_)
          refine GL.stepG (tj := 86) rfl rfl (Ex.wp (v := (.int .u32 y)) (Ex.move rfl) (by decide)) (fun _ _ => ?_)
          refine GL.stepG (tj := 86) rfl rfl (Ex.wp (v := (.bool false)) (Ex.cast (Ex.neq rfl rfl) (congrArg Value.bool (decide_eq_false (by exact absurd (hp2.2.1 (by omega)) hyb)))) (by decide)) (fun _ _ => ?_)
          refine GL.stepG (tj := 82) rfl rfl (Ex.wp (v := (.bool false)) (Ex.pickT rfl rfl) (by decide)) (fun _ _ => ?_)
          refine GL.val (v := (.bool false)) (Ex.pickF rfl rfl) (by decide) ?_
          refine GL.nil ?_
          refine GE.thenN ?_
          refine GC.cond rfl (fun hq265 => by cases hq265) (fun _ => ?_)
          refine GC.skip ?_
          refine GE.thenN ?_
          refine GC.seq ?_
          refine GC.region ?_
          refine GL.val (Ex.move rfl) (by decide) ?_
          refine GL.val (v := (.int .i64 q)) (Ex.rem rfl rfl (Z := q) (by decide) (by first | exact hq.symm | (rw [← hq]; exact w64 (by omega)))) (by decide) ?_
          refine GL.val (v := (.int .i64 (q + 254))) (Ex.add rfl rfl (Z := q + 254) (w64 (by omega))) (by decide) ?_
          refine GL.val (v := (.int .i64 ((q + 254) % 254))) (Ex.rem rfl rfl (Z := (q + 254) % 254) (by omega) (rem64 (by omega) (by omega))) (by decide) ?_
          refine GL.val (v := (.int .i64 (((q + 254) % 254) - 126))) (Ex.sub' rfl rfl (Z := ((q + 254) % 254) - 126) (w64 (by omega))) (by decide) ?_
          refine GL.val (Ex.assign rfl) (by decide) ?_
          refine GL.nil ?_
          refine GE.thenN ?_
          refine GC.seq ?_
          obtain ⟨j, hj⟩ : ∃ j, j = ((q + 254) % 254) - 126 := ⟨_, rfl⟩
          rw [← hj]
          have hp3 := Lb.back3 (k := j) (by omega) (by omega)
          have hFI := Lb.FI_u32 (k := j) (by omega) (by omega)
          refine GC.region ?_
          refine GL.val (Ex.move rfl) (by decide) ?_
          refine GL.val (v := (.int .i64 (j + 127))) (Ex.add rfl rfl (Z := j + 127) (w64 (by omega))) (by decide) ?_
          refine GL.val (v := (.int .u32 (j + 127))) (Ex.conv rfl Try.underlying3 Try.underlying23 (Z := j + 127) (wu32b (by omega))) (by decide) ?_
          refine GL.val (v := (.int .u32 ((j + 127) * 8388608))) (Ex.shl rfl (m := 23) rfl (by decide) (Z := (j + 127) * 8388608) (wu32b (by omega))) (by decide) ?_
          refine GL.step (Stp.callR (vs := [(.int .u32 ((j + 127) * 8388608))]) rfl rfl T.own18 (by decide) (fun wc hw => log_p ((j + 127) * 8388608) wc (by omega))) (fun xq266 hq267 => ?_)
          refine GL.val (Ex.move rfl) (by decide) ?_
          refine GL.step (Stp.callR (vs := [(.int .i64 j)]) rfl rfl T.own37 (by decide) (fun wc hw => fromint_all j wc (by omega))) (fun xq268 hq269 => ?_)
          refine GL.val (v := (.bool true)) (Ex.cast (Ex.eql rfl rfl) (congrArg Value.bool (decide_eq_true (by exact hp3.1)))) (by decide) ?_
          refine GL.val (Ex.move rfl) (by decide) ?_
          refine GL.stepG (tj := 105) rfl rfl (Ex.wp (v := (.int .i64 j)) (Ex.move rfl) (by decide)) (fun _ _ => ?_)
          refine GL.stepG (tj := 105) rfl rfl (Stp.callR (vs := [(.int .i64 j)]) rfl rfl T.own37 (by decide) (fun wc hw => fromint_all j wc (by omega))) (fun xq270 hq271 => ?_)
          refine GL.stepG (tj := 105) rfl rfl (Stp.callR (vs := [(.int .u32 ((Lb.FI j)))]) rfl rfl T.own20 (by decide) (fun wc hw => exp_p ((Lb.FI j)) wc (by omega))) (fun xq272 hq273 => ?_)
          refine GL.stepG (tj := 105) rfl rfl (Ex.wp (v := (.int .i64 j)) (Ex.move rfl) (by decide)) (fun _ _ => ?_)
          refine GL.stepG (tj := 105) rfl rfl (Ex.wp (v := (.int .i64 (j + 127))) (Ex.add rfl rfl (Z := j + 127) (w64 (by omega))) (by decide)) (fun _ _ => ?_)
          refine GL.stepG (tj := 105) rfl rfl (Ex.wp (v := (.int .u32 (j + 127))) (Ex.conv rfl Try.underlying3 Try.underlying23 (Z := j + 127) (wu32b (by omega))) (by decide)) (fun _ _ => ?_)
          refine GL.stepG (tj := 105) rfl rfl (Ex.wp (v := (.int .u32 ((j + 127) * 8388608))) (Ex.shl rfl (m := 23) rfl (by decide) (Z := (j + 127) * 8388608) (wu32b (by omega))) (by decide)) (fun _ _ => ?_)
          refine GL.stepG (tj := 105) rfl rfl (Ex.wp (v := (.bool true)) (Ex.cast (Ex.eql rfl rfl) (congrArg Value.bool (decide_eq_true (by exact hp3.2)))) (by decide)) (fun _ _ => ?_)
          refine GL.val (v := (.bool true)) (Ex.pickT rfl rfl) (by decide) ?_
          refine GL.val (Ex.assign rfl) (by decide) ?_
          refine GL.nil ?_
          refine GE.thenN ?_
          refine GC.ret ?_
          refine GC.ret1 rfl (Rv.tmp rfl) (fun wN HN => ?_)
          exact HN.ret () trivial (by first | rfl | simp) (List.nil_sublist _) rfl
         ·refine GL.stepG (tj := 82) rfl rfl (Ex.wp (v := (.bool false)) (Ex.cast (Ex.geq rfl rfl) (congrArg Value.bool (decide_eq_false hq264))) (by decide)) (fun _ _ => ?_)
          refine GL.stepG (tj := 82) rfl rfl (Ex.wp (v := (.bool false)) (Ex.move rfl) (by decide)) (fun _ _ => ?_)
          refine GL.skipG (tj := 86) rfl rfl rfl (by decide) ?_
          refine GL.skipG (tj := 86) rfl rfl rfl (by decide) ?_
          refine GL.skipG (tj := 86) rfl rfl rfl (by decide) ?_
          refine GL.stepG (tj := 82) rfl rfl (Ex.wp (v := (.bool false)) (Ex.pickF rfl rfl) (by decide)) (fun _ _ => ?_)
          refine GL.val (v := (.bool false)) (Ex.pickF rfl rfl) (by decide) ?_
          refine GL.nil ?_
          refine GE.thenN ?_
          refine GC.cond rfl (fun hq274 => by cases hq274) (fun _ => ?_)
          refine GC.skip ?_
          refine GE.thenN ?_
          refine GC.seq ?_
          refine GC.region ?_
          refine GL.val (Ex.move rfl) (by decide) ?_
          refine GL.val (v := (.int .i64 q)) (Ex.rem rfl rfl (Z := q) (by decide) (by first | exact hq.symm | (rw [← hq]; exact w64 (by omega)))) (by decide) ?_
          refine GL.val (v := (.int .i64 (q + 254))) (Ex.add rfl rfl (Z := q + 254) (w64 (by omega))) (by decide) ?_
          refine GL.val (v := (.int .i64 ((q + 254) % 254))) (Ex.rem rfl rfl (Z := (q + 254) % 254) (by omega) (rem64 (by omega) (by omega))) (by decide) ?_
          refine GL.val (v := (.int .i64 (((q + 254) % 254) - 126))) (Ex.sub' rfl rfl (Z := ((q + 254) % 254) - 126) (w64 (by omega))) (by decide) ?_
          refine GL.val (Ex.assign rfl) (by decide) ?_
          refine GL.nil ?_
          refine GE.thenN ?_
          refine GC.seq ?_
          obtain ⟨j, hj⟩ : ∃ j, j = ((q + 254) % 254) - 126 := ⟨_, rfl⟩
          rw [← hj]
          have hp3 := Lb.back3 (k := j) (by omega) (by omega)
          have hFI := Lb.FI_u32 (k := j) (by omega) (by omega)
          refine GC.region ?_
          refine GL.val (Ex.move rfl) (by decide) ?_
          refine GL.val (v := (.int .i64 (j + 127))) (Ex.add rfl rfl (Z := j + 127) (w64 (by omega))) (by decide) ?_
          refine GL.val (v := (.int .u32 (j + 127))) (Ex.conv rfl Try.underlying3 Try.underlying23 (Z := j + 127) (wu32b (by omega))) (by decide) ?_
          refine GL.val (v := (.int .u32 ((j + 127) * 8388608))) (Ex.shl rfl (m := 23) rfl (by decide) (Z := (j + 127) * 8388608) (wu32b (by omega))) (by decide) ?_
          refine GL.step (Stp.callR (vs := [(.int .u32 ((j + 127) * 8388608))]) rfl rfl T.own18 (by decide) (fun wc hw => log_p ((j + 127) * 8388608) wc (by omega))) (fun xq275 hq276 => ?_)
          refine GL.val (Ex.move rfl) (by decide) ?_
          refine GL.step (Stp.callR (vs := [(.int .i64 j)]) rfl rfl T.own37 (by decide) (fun wc hw => fromint_all j wc (by omega))) (fun xq277 hq278 => ?_)
          refine GL.val (v := (.bool true)) (Ex.cast (Ex.eql rfl rfl) (congrArg Value.bool (decide_eq_true (by exact hp3.1)))) (by decide) ?_
          refine GL.val (Ex.move rfl) (by decide) ?_
          refine GL.stepG (tj := 105) rfl rfl (Ex.wp (v := (.int .i64 j)) (Ex.move rfl) (by decide)) (fun _ _ => ?_)
          refine GL.stepG (tj := 105) rfl rfl (Stp.callR (vs := [(.int .i64 j)]) rfl rfl T.own37 (by decide) (fun wc hw => fromint_all j wc (by omega))) (fun xq279 hq280 => ?_)
          refine GL.stepG (tj := 105) rfl rfl (Stp.callR (vs := [(.int .u32 ((Lb.FI j)))]) rfl rfl T.own20 (by decide) (fun wc hw => exp_p ((Lb.FI j)) wc (by omega))) (fun xq281 hq282 => ?_)
          refine GL.stepG (tj := 105) rfl rfl (Ex.wp (v := (.int .i64 j)) (Ex.move rfl) (by decide)) (fun _ _ => ?_)
          refine GL.stepG (tj := 105) rfl rfl (Ex.wp (v := (.int .i64 (j + 127))) (Ex.add rfl rfl (Z := j + 127) (w64 (by omega))) (by decide)) (fun _ _ => ?_)
          refine GL.stepG (tj := 105) rfl rfl (Ex.wp (v := (.int .u32 (j + 127))) (Ex.conv rfl Try.underlying3 Try.underlying23 (Z := j + 127) (wu32b (by omega))) (by decide)) (fun _ _ => ?_)
          refine GL.stepG (tj := 105) rfl rfl (Ex.wp (v := (.int .u32 ((j + 127) * 8388608))) (Ex.shl rfl (m := 23) rfl (by decide) (Z := (j + 127) * 8388608) (wu32b (by omega))) (by decide)) (fun _ _ => ?_)
          refine GL.stepG (tj := 105) rfl rfl (Ex.wp (v := (.bool true)) (Ex.cast (Ex.eql rfl rfl) (congrArg Value.bool (decide_eq_true (by exact hp3.2)))) (by decide)) (fun _ _ => ?_)
          refine GL.val (v := (.bool true)) (Ex.pickT rfl rfl) (by decide) ?_
          refine GL.val (Ex.assign rfl) (by decide) ?_
          refine GL.nil ?_
          refine GE.thenN ?_
          refine GC.ret ?_
          refine GC.ret1 rfl (Rv.tmp rfl) (fun wN HN => ?_)
          exact HN.ret () trivial (by first | rfl | simp) (List.nil_sublist _) rfl
       ·replace hq224 := of_decide_eq_false hq224
        refine GC.skip ?_
        refine GE.thenN ?_
        refine GC.seq ?_
        refine GC.region ?_
        refine GL.val (Ex.move rfl) (by decide) ?_
        refine GL.val (v := (.int .i64 q)) (Ex.rem rfl rfl (Z := q) (by decide) (by first | exact hq.symm | (rw [← hq]; exact w64 (by omega)))) (by decide) ?_
        refine GL.val (v := (.int .i64 (q + 254))) (Ex.add rfl rfl (Z := q + 254) (w64 (by omega))) (by decide) ?_
        refine GL.val (v := (.int .i64 ((q + 254) % 254))) (Ex.rem rfl rfl (Z := (q + 254) % 254) (by omega) (rem64 (by omega) (by omega))) (by decide) ?_
        refine GL.val (v := (.int .i64 (((q + 254) % 254) - 126))) (Ex.sub' rfl rfl (Z := ((q + 254) % 254) - 126) (w64 (by omega))) (by decide) ?_
        refine GL.val (Ex.assign rfl) (by decide) ?_
        refine GL.nil ?_
        refine GE.thenN ?_
        refine GC.seq ?_
        obtain ⟨j, hj⟩ : ∃ j, j = ((q + 254) % 254) - 126 := ⟨_, rfl⟩
        rw [← hj]
        have hp3 := Lb.back3 (k := j) (by omega) (by omega)
        have hFI := Lb.FI_u32 (k := j) (by omega) (by omega)
        refine GC.region ?_
        refine GL.val (Ex.move rfl) (by decide) ?_
        refine GL.val (v := (.int .i64 (j + 127))) (Ex.add rfl rfl (Z := j + 127) (w64 (by omega))) (by decide) ?_
        refine GL.val (v := (.int .u32 (j + 127))) (Ex.conv rfl Try.underlying3 Try.underlying23 (Z := j + 127) (wu32b (by omega))) (by decide) ?_
        refine GL.val (v := (.int .u32 ((j + 127) * 8388608))) (Ex.shl rfl (m := 23) rfl (by decide) (Z := (j + 127) * 8388608) (wu32b (by omega))) (by decide) ?_
        refine GL.step (Stp.callR (vs := [(.int .u32 ((j + 127) * 8388608))]) rfl rfl T.own18 (by decide) (fun wc hw => log_p ((j + 127) * 8388608) wc (by omega))) (fun xq283 hq284 => ?_)
        refine GL.val (Ex.move rfl) (by decide) ?_
        refine GL.step (Stp.callR (vs := [(.int .i64 j)]) rfl rfl T.own37 (by decide) (fun wc hw => fromint_all j wc (by omega))) (fun xq285 hq286 => ?_)
        refine GL.val (v := (.bool true)) (Ex.cast (Ex.eql rfl rfl) (congrArg Value.bool (decide_eq_true (by exact hp3.1)))) (by decide) ?_
        refine GL.val (Ex.move rfl) (by decide) ?_
        refine GL.stepG (tj := 105) rfl rfl (Ex.wp (v := (.int .i64 j)) (Ex.move rfl) (by decide)) (fun _ _ => ?_)
        refine GL.stepG (tj := 105) rfl rfl (Stp.callR (vs := [(.int .i64 j)]) rfl rfl T.own37 (by decide) (fun wc hw => fromint_all j wc (by omega))) (fun xq287 hq288 => ?_)
        refine GL.stepG (tj := 105) rfl rfl (Stp.callR (vs := [(.int .u32 ((Lb.FI j)))]) rfl rfl T.own20 (by decide) (fun wc hw => exp_p ((Lb.FI j)) wc (by omega))) (fun xq289 hq290 => ?_)
        refine GL.stepG (tj := 105) rfl rfl (Ex.wp (v := (.int .i64 j)) (Ex.move rfl) (by decide)) (fun _ _ => ?_)
        refine GL.stepG (tj := 105) rfl rfl (Ex.wp (v := (.int .i64 (j + 127))) (Ex.add rfl rfl (Z := j + 127) (w64 (by omega))) (by decide)) (fun _ _ => ?_)
        refine GL.stepG (tj := 105) rfl rfl (Ex.wp (v := (.int .u32 (j + 127))) (Ex.conv rfl Try.underlying3 Try.underlying23 (Z := j + 127) (wu32b (by omega))) (by decide)) (fun _ _ => ?_)
        refine GL.stepG (tj := 105) rfl rfl (Ex.wp (v := (.int .u32 ((j + 127) * 8388608))) (Ex.shl rfl (m := 23) rfl (by decide) (Z := (j + 127) * 8388608) (wu32b (by omega))) (by decide)) (fun _ _ => ?_)
        refine GL.stepG (tj := 105) rfl rfl (Ex.wp (v := (.bool true)) (Ex.cast (Ex.eql rfl rfl) (congrArg Value.bool (decide_eq_true (by exact hp3.2)))) (by decide)) (fun _ _ => ?_)
        refine GL.val (v := (.bool true)) (Ex.pickT rfl rfl) (by decide) ?_
        refine GL.val (Ex.assign rfl) (by decide) ?_
        refine GL.nil ?_
        refine GE.thenN ?_
        refine GC.ret ?_
        refine GC.ret1 rfl (Rv.tmp rfl) (fun wN HN => ?_)
        exact HN.ret () trivial (by first | rfl | simp) (List.nil_sublist _) rfl
      ·refine GL.stepG (tj := 56) rfl rfl (Ex.wp (v := (.bool false)) (Ex.cast (Ex.gtr rfl rfl) (congrArg Value.bool (decide_eq_false hq219))) (by decide)) (fun _ _ => ?_)
       refine GL.val (v := (.bool false)) (Ex.pickT rfl rfl) (by decide) ?_
       refine GL.val (Ex.move rfl) (by decide) ?_
       refine GL.skipG (tj := 62) rfl rfl rfl (by decide) ?_
       refine GL.skipG (tj := 62) rfl rfl rfl (by decide) ?_
       refine GL.skipG (tj := 62) rfl rfl rfl (by decide) ?_
       refine GL.skipG (tj := 62) rfl rfl rfl (by decide) ?_
       refine GL.val (v := (.bool false)) (Ex.pickF rfl rfl) (by decide) ?_
       refine GL.nil ?_
       refine GE.thenN ?_
       refine GC.cond rfl (fun hq291 => by cases hq291) (fun _ => ?_)
       refine GC.skip ?_
       refine GE.thenN ?_
       refine GC.seq ?_
       refine GC.region ?_
       refine GL.val (Ex.move rfl) (by decide) ?_
       refine GL.val (v := (.int .i64 q)) (Ex.rem rfl rfl (Z := q) (by decide) (by first | exact hq.symm | (rw [← hq]; exact w64 (by omega)))) (by decide) ?_
       refine GL.val (v := (.int .i64 (q + 254))) (Ex.add rfl rfl (Z := q + 254) (w64 (by omega))) (by decide) ?_
       refine GL.val (v := (.int .i64 ((q + 254) % 254))) (Ex.rem rfl rfl (Z := (q + 254) % 254) (by omega) (rem64 (by omega) (by omega))) (by decide) ?_
       refine GL.val (v := (.int .i64 (((q + 254) % 254) - 126))) (Ex.sub' rfl rfl (Z := ((q + 254) % 254) - 126) (w64 (by omega))) (by decide) ?_
       refine GL.val (Ex.assign rfl) (by decide) ?_
       refine GL.nil ?_
       refine GE.thenN ?_
       refine GC.seq ?_
       obtain ⟨j, hj⟩ : ∃ j, j = ((q + 254) % 254) - 126 := ⟨_, rfl⟩
       rw [← hj]
       have hp3 := Lb.back3 (k := j) (by omega) (by omega)
       have hFI := Lb.FI_u32 (k := j) (by omega) (by omega)
       refine GC.region ?_
       refine GL.val (Ex.move rfl) (by decide) ?_
       refine GL.val (v := (.int .i64 (j + 127))) (Ex.add rfl rfl (Z := j + 127) (w64 (by omega))) (by decide) ?_
       refine GL.val (v := (.int .u32 (j + 127))) (Ex.conv rfl Try.underlying3 Try.underlying23 (Z := j + 127) (wu32b (by omega))) (by decide) ?_
       refine GL.val (v := (.int .u32 ((j + 127) * 8388608))) (Ex.shl rfl (m := 23) rfl (by decide) (Z := (j + 127) * 8388608) (wu32b (by omega))) (by decide) ?_
       refine GL.step (Stp.callR (vs := [(.int .u32 ((j + 127) * 8388608))]) rfl rfl T.own18 (by decide) (fun wc hw => log_p ((j + 127) * 8388608) wc (by omega))) (fun xq292 hq293 => ?_)
       refine GL.val (Ex.move rfl) (by decide) ?_
       refine GL.step (Stp.callR (vs := [(.int .i64 j)]) rfl rfl T.own37 (by decide) (fun wc hw => fromint_all j wc (by omega))) (fun xq294 hq295 => ?_)
       refine GL.val (v := (.bool true)) (Ex.cast (Ex.eql rfl rfl) (congrArg Value.bool (decide_eq_true (by exact hp3.1)))) (by decide) ?_
       refine GL.val (Ex.move rfl) (by decide) ?_
       refine GL.stepG (tj := 105) rfl rfl (Ex.wp (v := (.int .i64 j)) (Ex.move rfl) (by decide)) (fun _ _ => ?_)
       refine GL.stepG (tj := 105) rfl rfl (Stp.callR (vs := [(.int .i64 j)]) rfl rfl T.own37 (by decide) (fun wc hw => fromint_all j wc (by omega))) (fun xq296 hq297 => ?_)
       refine GL.stepG (tj := 105) rfl rfl (Stp.callR (vs := [(.int .u32 ((Lb.FI j)))]) rfl rfl T.own20 (by decide) (fun wc hw => exp_p ((Lb.FI j)) wc (by omega))) (fun xq298 hq299 => ?_)
       refine GL.stepG (tj := 105) rfl rfl (Ex.wp (v := (.int .i64 j)) (Ex.move rfl) (by decide)) (fun _ _ => ?_)
       refine GL.stepG (tj := 105) rfl rfl (Ex.wp (v := (.int .i64 (j + 127))) (Ex.add rfl rfl (Z := j + 127) (w64 (by omega))) (by decide)) (fun _ _ => ?_)
       refine GL.stepG (tj := 105) rfl rfl (Ex.wp (v := (.int .u32 (j + 127))) (Ex.conv rfl Try.underlying3 Try.underlying23 (Z := j + 127) (wu32b (by omega))) (by decide)) (fun _ _ => ?_)
       refine GL.stepG (tj := 105) rfl rfl (Ex.wp (v := (.int .u32 ((j + 127) * 8388608))) (Ex.shl rfl (m := 23) rfl (by decide) (Z := (j + 127) * 8388608) (wu32b (by omega))) (by decide)) (fun _ _ => ?_)
       refine GL.stepG (tj := 105) rfl rfl (Ex.wp (v := (.bool true)) (Ex.cast (Ex.eql rfl rfl) (congrArg Value.bool (decide_eq_true (by exact hp3.2)))) (by decide)) (fun _ _ => ?_)
       refine GL.val (v := (.bool true)) (Ex.pickT rfl rfl) (by decide) ?_
       refine GL.val (Ex.assign rfl) (by decide) ?_
       refine GL.nil ?_
       refine GE.thenN ?_
       refine GC.ret ?_
       refine GC.ret1 rfl (Rv.tmp rfl) (fun wN HN => ?_)
       exact HN.ret () trivial (by first | rfl | simp) (List.nil_sublist _) rfl
     ·refine GL.val (v := (.bool false)) (Ex.cast (Ex.move rfl) (congrArg Value.bool (decide_eq_false hq214))) (by decide) ?_
      refine GL.skipG (tj := 56) rfl rfl rfl (by decide) ?_
      refine GL.skipG (tj := 56) rfl rfl rfl (by decide) ?_
      refine GL.skipG (tj := 56) rfl rfl rfl (by decide) ?_
      refine GL.skipG (tj := 56) rfl rfl rfl (by decide) ?_
      refine GL.val (v := (.bool false)) (Ex.pickF rfl rfl) (by decide) ?_
      refine GL.val (Ex.move rfl) (by decide) ?_
      refine GL.skipG (tj := 62) rfl rfl rfl (by decide) ?_
      refine GL.skipG (tj := 62) rfl rfl rfl (by decide) ?_
      refine GL.skipG (tj := 62) rfl rfl rfl (by decide) ?_
      refine GL.skipG (tj := 62) rfl rfl rfl (by decide) ?_
      refine GL.val (v := (.bool false)) (Ex.pickF rfl rfl) (by decide) ?_
      refine GL.nil ?_
      refine GE.thenN ?_
      refine GC.cond rfl (fun hq300 => by cases hq300) (fun _ => ?_)
      refine GC.skip ?_
      refine GE.thenN ?_
      refine GC.seq ?_
      refine GC.region ?_
      refine GL.val (Ex.move rfl) (by decide) ?_
      refine GL.val (v := (.int .i64 q)) (Ex.rem rfl rfl (Z := q) (by decide) (by first | exact hq.symm | (rw [← hq]; exact w64 (by omega)))) (by decide) ?_
      refine GL.val (v := (.int .i64 (q + 254))) (Ex.add rfl rfl (Z := q + 254) (w64 (by omega))) (by decide) ?_
      refine GL.val (v := (.int .i64 ((q + 254) % 254))) (Ex.rem rfl rfl (Z := (q + 254) % 254) (by omega) (rem64 (by omega) (by omega))) (by decide) ?_
      refine GL.val (v := (.int .i64 (((q + 254) % 254) - 126))) (Ex.sub' rfl rfl (Z := ((q + 254) % 254) - 126) (w64 (by omega))) (by decide) ?_
      refine GL.val (Ex.assign rfl) (by decide) ?_
      refine GL.nil ?_
      refine GE.thenN ?_
      refine GC.seq ?_
      obtain ⟨j, hj⟩ : ∃ j, j = ((q + 254) % 254) - 126 := ⟨_, rfl⟩
      rw [← hj]
      have hp3 := Lb.back3 (k := j) (by omega) (by omega)
      have hFI := Lb.FI_u32 (k := j) (by omega) (by omega)
      refine GC.region ?_
      refine GL.val (Ex.move rfl) (by decide) ?_
      refine GL.val (v := (.int .i64 (j + 127))) (Ex.add rfl rfl (Z := j + 127) (w64 (by omega))) (by decide) ?_
      refine GL.val (v := (.int .u32 (j + 127))) (Ex.conv rfl Try.underlying3 Try.underlying23 (Z := j + 127) (wu32b (by omega))) (by decide) ?_
      refine GL.val (v := (.int .u32 ((j + 127) * 8388608))) (Ex.shl rfl (m := 23) rfl (by decide) (Z := (j + 127) * 8388608) (wu32b (by omega))) (by decide) ?_
      refine GL.step (Stp.callR (vs := [(.int .u32 ((j + 127) * 8388608))]) rfl rfl T.own18 (by decide) (fun wc hw => log_p ((j + 127) * 8388608) wc (by omega))) (fun xq301 hq302 => ?_)
      refine GL.val (Ex.move rfl) (by decide) ?_
      refine GL.step (Stp.callR (vs := [(.int .i64 j)]) rfl rfl T.own37 (by decide) (fun wc hw => fromint_all j wc (by omega))) (fun xq303 hq304 => ?_)
      refine GL.val (v := (.bool true)) (Ex.cast (Ex.eql rfl rfl) (congrArg Value.bool (decide_eq_true (by exact hp3.1)))) (by decide) ?_
      refine GL.val (Ex.move rfl) (by decide) ?_
      refine GL.stepG (tj := 105) rfl rfl (Ex.wp (v := (.int .i64 j)) (Ex.move rfl) (by decide)) (fun _ _ => ?_)
      refine GL.stepG (tj := 105) rfl rfl (Stp.callR (vs := [(.int .i64 j)]) rfl rfl T.own37 (by decide) (fun wc hw => fromint_all j wc (by omega))) (fun xq305 hq306 => ?_)
      refine GL.stepG (tj := 105) rfl rfl (Stp.callR (vs := [(.int .u32 ((Lb.FI j)))]) rfl rfl T.own20 (by decide) (fun wc hw => exp_p ((Lb.FI j)) wc (by omega))) (fun xq307 hq308 => ?_)
      refine GL.stepG (tj := 105) rfl rfl (Ex.wp (v := (.int .i64 j)) (Ex.move rfl) (by decide)) (fun _ _ => ?_)
      refine GL.stepG (tj := 105) rfl rfl (Ex.wp (v := (.int .i64 (j + 127))) (Ex.add rfl rfl (Z := j + 127) (w64 (by omega))) (by decide)) (fun _ _ => ?_)
      refine GL.stepG (tj := 105) rfl rfl (Ex.wp (v := (.int .u32 (j + 127))) (Ex.conv rfl Try.underlying3 Try.underlying23 (Z := j + 127) (wu32b (by omega))) (by decide)) (fun _ _ => ?_)
      refine GL.stepG (tj := 105) rfl rfl (Ex.wp (v := (.int .u32 ((j + 127) * 8388608))) (Ex.shl rfl (m := 23) rfl (by decide) (Z := (j + 127) * 8388608) (wu32b (by omega))) (by decide)) (fun _ _ => ?_)
      refine GL.stepG (tj := 105) rfl rfl (Ex.wp (v := (.bool true)) (Ex.cast (Ex.eql rfl rfl) (congrArg Value.bool (decide_eq_true (by exact hp3.2)))) (by decide)) (fun _ _ => ?_)
      refine GL.val (v := (.bool true)) (Ex.pickT rfl rfl) (by decide) ?_
      refine GL.val (Ex.assign rfl) (by decide) ?_
      refine GL.nil ?_
      refine GE.thenN ?_
      refine GC.ret ?_
      refine GC.ret1 rfl (Rv.tmp rfl) (fun wN HN => ?_)
      exact HN.ret () trivial (by first | rfl | simp) (List.nil_sublist _) rfl
   ·replace hq8 := of_decide_eq_false hq8
    refine GC.skip ?_
    refine GE.thenN ?_
    refine GC.seq ?_
    refine GC.seq ?_
    refine GC.region ?_
    refine GL.val (Ex.move rfl) (by decide) ?_
    refine GL.step (Stp.callR (vs := [(.int .u32 y)]) rfl rfl T.own28 (by decide) (fun wc hw => finite_l y wc (by first | assumption | omega | exact Bt.lst_bd (by assumption) (by assumption) | exact Bt.gst_bd (by assumption) (by assumption) | exact Bt.key_bd (by assumption) | exact Bt.unkey_bd (by assumption) | exact Bt.nxt_bd (by assumption) | exact Bt.lst_bd (Bt.gst_bd (by assumption) (by assumption)) (by assumption) | exact Bt.btw_bd (by assumption) (Bt.lst_bd (by assumption) (by assumption)) (Bt.gst_bd (by assumption) (by assumption))))) (fun xq309 hq310 => ?_)
    by_cases hq311 : (y % 2147483648 < 2139095040)
    ·refine GL.val (v := (.bool true)) (Ex.cast (Ex.move rfl) (congrArg Value.bool (decide_eq_true hq311))) (by decide) ?_
     refine GL.stepG (tj := 56) rfl rfl (Ex.wp (v := (.int .u32 y)) (Ex.move rfl) (by decide)) (fun _ _ => ?_)
     refine GL.stepG (tj := 56) rfl rfl (Stp.callR (vs := [(.int .u32 y)]) rfl rfl T.own36 (by decide) (fun wc hw => key_l y wc (by first | assumption | omega | exact Bt.lst_bd (by assumption) (by assumption) | exact Bt.gst_bd (by assumption) (by assumption) | exact Bt.key_bd (by assumption) | exact Bt.unkey_bd (by assumption) | exact Bt.nxt_bd (by assumption) | exact Bt.lst_bd (Bt.gst_bd (by assumption) (by assumption)) (by assumption) | exact Bt.btw_bd (by assumption) (Bt.lst_bd (by assumption) (by assumption)) (Bt.gst_bd (by assumption) (by assumption))))) (fun xq312 hq313 => ?_)
     refine GL.stepG (tj := 56) rfl rfl (Stp.callR (vs := [(.int .u32 3271426048)]) rfl rfl T.own36 (by decide) (fun wc hw => key_l 3271426048 wc (by first | assumption | omega | exact Bt.lst_bd (by assumption) (by assumption) | exact Bt.gst_bd (by assumption) (by assumption) | exact Bt.key_bd (by assumption) | exact Bt.unkey_bd (by assumption) | exact Bt.nxt_bd (by assumption) | exact Bt.lst_bd (Bt.gst_bd (by assumption) (by assumption)) (by assumption) | exact Bt.btw_bd (by assumption) (Bt.lst_bd (by assumption) (by assumption)) (Bt.gst_bd (by assumption) (by assumption))))) (fun xq314 hq315 => ?_)
     by_cases hq316 : ((Fv.rk 3271426048)) < ((Fv.rk y))
     ·refine GL.stepG (tj := 56) rfl rfl (Ex.wp (v := (.bool true)) (Ex.cast (Ex.gtr rfl rfl) (congrArg Value.bool (decide_eq_true hq316))) (by decide)) (fun _ _ => ?_)
      refine GL.val (v := (.bool true)) (Ex.pickT rfl rfl) (by decide) ?_
      refine GL.val (Ex.move rfl) (by decide) ?_
      refine GL.stepG (tj := 62) rfl rfl (Ex.wp (v := (.int .u32 y)) (Ex.move rfl) (by decide)) (fun _ _ => ?_)
      refine GL.stepG (tj := 62) rfl rfl (Stp.callR (vs := [(.int .u32 y)]) rfl rfl T.own36 (by decide) (fun wc hw => key_l y wc (by first | assumption | omega | exact Bt.lst_bd (by assumption) (by assumption) | exact Bt.gst_bd (by assumption) (by assumption) | exact Bt.key_bd (by assumption) | exact Bt.unkey_bd (by assumption) | exact Bt.nxt_bd (by assumption) | exact Bt.lst_bd (Bt.gst_bd (by assumption) (by assumption)) (by assumption) | exact Bt.btw_bd (by assumption) (Bt.lst_bd (by assumption) (by assumption)) (Bt.gst_bd (by assumption) (by assumption))))) (fun xq317 hq318 => ?_)
      refine GL.stepG (tj := 62) rfl rfl (Stp.callR (vs := [(.int .u32 1124073472)]) rfl rfl T.own36 (by decide) (fun wc hw => key_l 1124073472 wc (by first | assumption | omega | exact Bt.lst_bd (by assumption) (by assumption) | exact Bt.gst_bd (by assumption) (by assumption) | exact Bt.key_bd (by assumption) | exact Bt.unkey_bd (by assumption) | exact Bt.nxt_bd (by assumption) | exact Bt.lst_bd (Bt.gst_bd (by assumption) (by assumption)) (by assumption) | exact Bt.btw_bd (by assumption) (Bt.lst_bd (by assumption) (by assumption)) (Bt.gst_bd (by assumption) (by assumption))))) (fun xq319 hq320 => ?_)
      refine GL.stepG (tj := 62) rfl rfl (Ex.wp (v := (.bool (decide (((Fv.rk y)) < ((Fv.rk 1124073472)))))) (Ex.lss rfl rfl) (by decide)) (fun _ _ => ?_)
      refine GL.val (v := (.bool (decide (((Fv.rk y)) < ((Fv.rk 1124073472)))))) (Ex.pickT rfl rfl) (by decide) ?_
      refine GL.nil ?_
      refine GE.thenN ?_
      refine GC.cond rfl (fun hq321 => ?_) (fun hq321 => ?_)
      ·replace hq321 := of_decide_eq_true hq321
       refine GC.seq ?_
       refine GC.region ?_
       refine GL.val (Ex.move rfl) (by decide) ?_
       refine GL.step (Stp.callR (vs := [(.int .u32 y)]) rfl rfl T.own20 (by decide) (fun wc hw => exp_p y wc (by omega))) (fun xq322 hq323 => ?_)
       refine GL.step (Stp.callR (vs := [(.int .u32 ((Sl.EX y)))]) rfl rfl T.own18 (by decide) (fun wc hw => log_p ((Sl.EX y)) wc (by omega))) (fun xq324 hq325 => ?_)
       refine GL.val (Ex.assign rfl) (by decide) ?_
       refine GL.nil ?_
       refine GE.thenN ?_
       refine GC.seq ?_
       have hp2 := Lb.back2' hy (by omega) (by omega)
       have hxb := Lb.expo_bd hy (by omega)
       by_cases hyb : (Sl.LG (Sl.EX y)) = y
       ·obtain ⟨g', m1, m2, he3, he4, hm12, hg'⟩ := Lb.mins (Bt.expo y) (-24)
        rw [hyb]
        refine GC.region ?_
        refine GL.val (Ex.move rfl) (by decide) ?_
        refine GL.step (Stp.callR (vs := [(.int .u32 y)]) rfl rfl T.own28 (by decide) (fun wc hw => finite_l y wc (by first | assumption | omega | exact Bt.lst_bd (by assumption) (by assumption) | exact Bt.gst_bd (by assumption) (by assumption) | exact Bt.key_bd (by assumption) | exact Bt.unkey_bd (by assumption) | exact Bt.nxt_bd (by assumption) | exact Bt.lst_bd (Bt.gst_bd (by assumption) (by assumption)) (by assumption) | exact Bt.btw_bd (by assumption) (Bt.lst_bd (by assumption) (by assumption)) (Bt.gst_bd (by assumption) (by assumption))))) (fun xq326 hq327 => ?_)
        refine GL.val (v := (.bool false)) (Ex.cast (Ex.not rfl) (congrArg Value.bool (congrArg (fun z => !z) (decide_eq_true (by assumption))))) (by decide) ?_
        refine GL.val (Ex.move rfl) (by decide) ?_
        refine GL.stepG (tj := 74) rfl rfl (Ex.wp (v := (.int .u32 y)) (Ex.move rfl) (by decide)) (fun _ _ => ?_)
        refine GL.stepG (tj := 74) rfl rfl (Ex.wp (v := (.int .u32 y)) (Ex.move rfl) (by decide)) (fun _ _ => ?_)
        refine GL.stepG (tj := 74) rfl rfl (Stp.callR (vs := [(.int .u32 y), (.int .u32 y)]) rfl rfl T.own34 (by decide) (fun wc hw => off_eq y y (Bt.expo y) 0 0 wc hy (by omega) hy (by omega) (by omega) (by omega) (.inl rfl) (by decide) (by decide) (by omega) (Lb.ne_not _) rfl)) (fun xq328 hq329 => ?_)
        refine GL.stepG (tj := 74) rfl rfl (Stp.callR (vs := [(.int .i64 (-24))]) rfl rfl T.own31 (by decide) (fun wc hw => power_l (-24) wc)) (fun xq330 hq331 => ?_)
        refine GL.stepG (tj := 74) rfl rfl (Stp.callR (vs := [(.agg #[(.int .i64 2), (.bool false), (.slice none 0 0), (.int .i64 ((Bt.expo y))), (.bool false)]), (.agg #[(.int .i64 2), (.bool false), (.slice (some ⟨xq330, 0, none⟩) ((Nd.nd 1)) 2), (.int .i64 (-24)), (.bool false)])]) rfl rfl T.own30 (by decide) (fun wc hw => within_n none 0 1 xq330 2 g' (Bt.expo y) (-24) m1 m2 false false wc (Nd.Nb.one (Lg.rd1 (hw.rdOf (i := 0) rfl 0)) (by decide)) (by rw [Nd.nd_one (by decide)]; decide) he3 he4 hm12 (by omega) (by omega) (by omega))) (fun xq332 hq333 => ?_)
        refine GL.stepG (tj := 74) rfl rfl (Ex.wp (v := (.bool false)) (Ex.cast (Ex.not rfl) rfl) (by decide)) (fun _ _ => ?_)
        refine GL.val (v := (.bool false)) (Ex.pickF rfl rfl) (by decide) ?_
        refine GL.val (Ex.move rfl) (by decide) ?_
        refine GL.stepG (tj := 82) rfl rfl (Ex.wp (v := (.int .u32 y)) (Ex.move rfl) (by decide)) (fun _ _ => ?_)
        refine GL.stepG (tj := 82) rfl rfl (Ex.wp (v := (.int .u32 (y % 2147483648))) (Ex.bits rfl rfl (by simp) (Z := y % 2147483648) (andm 31 (by omega) (by omega) (by decide) rfl rfl)) (by decide)) (fun _ _ => ?_)
        by_cases hq334 : 1065353216 ≤ (y % 2147483648)
        ·refine GL.stepG (tj := 82) rfl rfl (Ex.wp (v := (.bool true)) (Ex.cast (Ex.geq rfl rfl) (congrArg Value.bool (decide_eq_true hq334))) (by decide)) (fun _ _ => ?_)
         refine GL.stepG (tj := 82) rfl rfl (Ex.wp (v := (.bool true)) (Ex.move rfl) (by decide)) (fun _ _ => ?_)
         refine GL.stepG (tj := 86) rfl rfl (Ex.wp (v := (.int .u32 y)) (Ex.move rfl) (by decide)) (fun _ _ => ?_)
         refine GL.stepG (tj := 86) rfl rfl (Ex.wp (v := (.int .u32 y)) (Ex.move rfl) (by decide)) (fun _ _ => ?_)
         refine GL.stepG (tj := 86) rfl rfl (Ex.wp (v := (.bool false)) (Ex.cast (Ex.neq rfl rfl) (congrArg Value.bool (decide_eq_false (by simp)))) (by decide)) (fun _ _ => ?_)
         refine GL.stepG (tj := 82) rfl rfl (Ex.wp (v := (.bool false)) (Ex.pickT rfl rfl) (by decide)) (fun _ _ => ?_)
         refine GL.val (v := (.bool false)) (Ex.pickF rfl rfl) (by decide) ?_
         refine GL.nil ?_
         refine GE.thenN ?_
         refine GC.cond rfl (fun hq335 => by cases hq335) (fun _ => ?_)
         refine GC.skip ?_
         refine GE.thenN ?_
         refine GC.seq ?_
         refine GC.region ?_
         refine GL.val (Ex.move rfl) (by decide) ?_
         refine GL.val (v := (.int .i64 q)) (Ex.rem rfl rfl (Z := q) (by decide) (by first | exact hq.symm | (rw [← hq]; exact w64 (by omega)))) (by decide) ?_
         refine GL.val (v := (.int .i64 (q + 254))) (Ex.add rfl rfl (Z := q + 254) (w64 (by omega))) (by decide) ?_
         refine GL.val (v := (.int .i64 ((q + 254) % 254))) (Ex.rem rfl rfl (Z := (q + 254) % 254) (by omega) (rem64 (by omega) (by omega))) (by decide) ?_
         refine GL.val (v := (.int .i64 (((q + 254) % 254) - 126))) (Ex.sub' rfl rfl (Z := ((q + 254) % 254) - 126) (w64 (by omega))) (by decide) ?_
         refine GL.val (Ex.assign rfl) (by decide) ?_
         refine GL.nil ?_
         refine GE.thenN ?_
         refine GC.seq ?_
         obtain ⟨j, hj⟩ : ∃ j, j = ((q + 254) % 254) - 126 := ⟨_, rfl⟩
         rw [← hj]
         have hp3 := Lb.back3 (k := j) (by omega) (by omega)
         have hFI := Lb.FI_u32 (k := j) (by omega) (by omega)
         refine GC.region ?_
         refine GL.val (Ex.move rfl) (by decide) ?_
         refine GL.val (v := (.int .i64 (j + 127))) (Ex.add rfl rfl (Z := j + 127) (w64 (by omega))) (by decide) ?_
         refine GL.val (v := (.int .u32 (j + 127))) (Ex.conv rfl Try.underlying3 Try.underlying23 (Z := j + 127) (wu32b (by omega))) (by decide) ?_
         refine GL.val (v := (.int .u32 ((j + 127) * 8388608))) (Ex.shl rfl (m := 23) rfl (by decide) (Z := (j + 127) * 8388608) (wu32b (by omega))) (by decide) ?_
         refine GL.step (Stp.callR (vs := [(.int .u32 ((j + 127) * 8388608))]) rfl rfl T.own18 (by decide) (fun wc hw => log_p ((j + 127) * 8388608) wc (by omega))) (fun xq336 hq337 => ?_)
         refine GL.val (Ex.move rfl) (by decide) ?_
         refine GL.step (Stp.callR (vs := [(.int .i64 j)]) rfl rfl T.own37 (by decide) (fun wc hw => fromint_all j wc (by omega))) (fun xq338 hq339 => ?_)
         refine GL.val (v := (.bool true)) (Ex.cast (Ex.eql rfl rfl) (congrArg Value.bool (decide_eq_true (by exact hp3.1)))) (by decide) ?_
         refine GL.val (Ex.move rfl) (by decide) ?_
         refine GL.stepG (tj := 105) rfl rfl (Ex.wp (v := (.int .i64 j)) (Ex.move rfl) (by decide)) (fun _ _ => ?_)
         refine GL.stepG (tj := 105) rfl rfl (Stp.callR (vs := [(.int .i64 j)]) rfl rfl T.own37 (by decide) (fun wc hw => fromint_all j wc (by omega))) (fun xq340 hq341 => ?_)
         refine GL.stepG (tj := 105) rfl rfl (Stp.callR (vs := [(.int .u32 ((Lb.FI j)))]) rfl rfl T.own20 (by decide) (fun wc hw => exp_p ((Lb.FI j)) wc (by omega))) (fun xq342 hq343 => ?_)
         refine GL.stepG (tj := 105) rfl rfl (Ex.wp (v := (.int .i64 j)) (Ex.move rfl) (by decide)) (fun _ _ => ?_)
         refine GL.stepG (tj := 105) rfl rfl (Ex.wp (v := (.int .i64 (j + 127))) (Ex.add rfl rfl (Z := j + 127) (w64 (by omega))) (by decide)) (fun _ _ => ?_)
         refine GL.stepG (tj := 105) rfl rfl (Ex.wp (v := (.int .u32 (j + 127))) (Ex.conv rfl Try.underlying3 Try.underlying23 (Z := j + 127) (wu32b (by omega))) (by decide)) (fun _ _ => ?_)
         refine GL.stepG (tj := 105) rfl rfl (Ex.wp (v := (.int .u32 ((j + 127) * 8388608))) (Ex.shl rfl (m := 23) rfl (by decide) (Z := (j + 127) * 8388608) (wu32b (by omega))) (by decide)) (fun _ _ => ?_)
         refine GL.stepG (tj := 105) rfl rfl (Ex.wp (v := (.bool true)) (Ex.cast (Ex.eql rfl rfl) (congrArg Value.bool (decide_eq_true (by exact hp3.2)))) (by decide)) (fun _ _ => ?_)
         refine GL.val (v := (.bool true)) (Ex.pickT rfl rfl) (by decide) ?_
         refine GL.val (Ex.assign rfl) (by decide) ?_
         refine GL.nil ?_
         refine GE.thenN ?_
         refine GC.ret ?_
         refine GC.ret1 rfl (Rv.tmp rfl) (fun wN HN => ?_)
         exact HN.ret () trivial (by first | rfl | simp) (List.nil_sublist _) rfl
        ·refine GL.stepG (tj := 82) rfl rfl (Ex.wp (v := (.bool false)) (Ex.cast (Ex.geq rfl rfl) (congrArg Value.bool (decide_eq_false hq334))) (by decide)) (fun _ _ => ?_)
         refine GL.stepG (tj := 82) rfl rfl (Ex.wp (v := (.bool false)) (Ex.move rfl) (by decide)) (fun _ _ => ?_)
         refine GL.skipG (tj := 86) rfl rfl rfl (by decide) ?_
         refine GL.skipG (tj := 86) rfl rfl rfl (by decide) ?_
         refine GL.skipG (tj := 86) rfl rfl rfl (by decide) ?_
         refine GL.stepG (tj := 82) rfl rfl (Ex.wp (v := (.bool false)) (Ex.pickF rfl rfl) (by decide)) (fun _ _ => ?_)
         refine GL.val (v := (.bool false)) (Ex.pickF rfl rfl) (by decide) ?_
         refine GL.nil ?_
         refine GE.thenN ?_
         refine GC.cond rfl (fun hq344 => by cases hq344) (fun _ => ?_)
         refine GC.skip ?_
         refine GE.thenN ?_
         refine GC.seq ?_
         refine GC.region ?_
         refine GL.val (Ex.move rfl) (by decide) ?_
         refine GL.val (v := (.int .i64 q)) (Ex.rem rfl rfl (Z := q) (by decide) (by first | exact hq.symm | (rw [← hq]; exact w64 (by omega)))) (by decide) ?_
         refine GL.val (v := (.int .i64 (q + 254))) (Ex.add rfl rfl (Z := q + 254) (w64 (by omega))) (by decide) ?_
         refine GL.val (v := (.int .i64 ((q + 254) % 254))) (Ex.rem rfl rfl (Z := (q + 254) % 254) (by omega) (rem64 (by omega) (by omega))) (by decide) ?_
         refine GL.val (v := (.int .i64 (((q + 254) % 254) - 126))) (Ex.sub' rfl rfl (Z := ((q + 254) % 254) - 126) (w64 (by omega))) (by decide) ?_
         refine GL.val (Ex.assign rfl) (by decide) ?_
         refine GL.nil ?_
         refine GE.thenN ?_
         refine GC.seq ?_
         obtain ⟨j, hj⟩ : ∃ j, j = ((q + 254) % 254) - 126 := ⟨_, rfl⟩
         rw [← hj]
         have hp3 := Lb.back3 (k := j) (by omega) (by omega)
         have hFI := Lb.FI_u32 (k := j) (by omega) (by omega)
         refine GC.region ?_
         refine GL.val (Ex.move rfl) (by decide) ?_
         refine GL.val (v := (.int .i64 (j + 127))) (Ex.add rfl rfl (Z := j + 127) (w64 (by omega))) (by decide) ?_
         refine GL.val (v := (.int .u32 (j + 127))) (Ex.conv rfl Try.underlying3 Try.underlying23 (Z := j + 127) (wu32b (by omega))) (by decide) ?_
         refine GL.val (v := (.int .u32 ((j + 127) * 8388608))) (Ex.shl rfl (m := 23) rfl (by decide) (Z := (j + 127) * 8388608) (wu32b (by omega))) (by decide) ?_
         refine GL.step (Stp.callR (vs := [(.int .u32 ((j + 127) * 8388608))]) rfl rfl T.own18 (by decide) (fun wc hw => log_p ((j + 127) * 8388608) wc (by omega))) (fun xq345 hq346 => ?_)
         refine GL.val (Ex.move rfl) (by decide) ?_
         refine GL.step (Stp.callR (vs := [(.int .i64 j)]) rfl rfl T.own37 (by decide) (fun wc hw => fromint_all j wc (by omega))) (fun xq347 hq348 => ?_)
         refine GL.val (v := (.bool true)) (Ex.cast (Ex.eql rfl rfl) (congrArg Value.bool (decide_eq_true (by exact hp3.1)))) (by decide) ?_
         refine GL.val (Ex.move rfl) (by decide) ?_
         refine GL.stepG (tj := 105) rfl rfl (Ex.wp (v := (.int .i64 j)) (Ex.move rfl) (by decide)) (fun _ _ => ?_)
         refine GL.stepG (tj := 105) rfl rfl (Stp.callR (vs := [(.int .i64 j)]) rfl rfl T.own37 (by decide) (fun wc hw => fromint_all j wc (by omega))) (fun xq349 hq350 => ?_)
         refine GL.stepG (tj := 105) rfl rfl (Stp.callR (vs := [(.int .u32 ((Lb.FI j)))]) rfl rfl T.own20 (by decide) (fun wc hw => exp_p ((Lb.FI j)) wc (by omega))) (fun xq351 hq352 => ?_)
         refine GL.stepG (tj := 105) rfl rfl (Ex.wp (v := (.int .i64 j)) (Ex.move rfl) (by decide)) (fun _ _ => ?_)
         refine GL.stepG (tj := 105) rfl rfl (Ex.wp (v := (.int .i64 (j + 127))) (Ex.add rfl rfl (Z := j + 127) (w64 (by omega))) (by decide)) (fun _ _ => ?_)
         refine GL.stepG (tj := 105) rfl rfl (Ex.wp (v := (.int .u32 (j + 127))) (Ex.conv rfl Try.underlying3 Try.underlying23 (Z := j + 127) (wu32b (by omega))) (by decide)) (fun _ _ => ?_)
         refine GL.stepG (tj := 105) rfl rfl (Ex.wp (v := (.int .u32 ((j + 127) * 8388608))) (Ex.shl rfl (m := 23) rfl (by decide) (Z := (j + 127) * 8388608) (wu32b (by omega))) (by decide)) (fun _ _ => ?_)
         refine GL.stepG (tj := 105) rfl rfl (Ex.wp (v := (.bool true)) (Ex.cast (Ex.eql rfl rfl) (congrArg Value.bool (decide_eq_true (by exact hp3.2)))) (by decide)) (fun _ _ => ?_)
         refine GL.val (v := (.bool true)) (Ex.pickT rfl rfl) (by decide) ?_
         refine GL.val (Ex.assign rfl) (by decide) ?_
         refine GL.nil ?_
         refine GE.thenN ?_
         refine GC.ret ?_
         refine GC.ret1 rfl (Rv.tmp rfl) (fun wN HN => ?_)
         exact HN.ret () trivial (by first | rfl | simp) (List.nil_sublist _) rfl
       ·have hxc := Lb.expo_bd hLy hp2.1
        obtain ⟨e, n1, n2, he1, he2, hn12, he⟩ := Lb.mins (Bt.expo y) (Bt.expo (Sl.LG (Sl.EX y)))
        obtain ⟨g', m1, m2, he3, he4, hm12, hg'⟩ := Lb.mins e (-24)
        have hW := Lb.near_ok hy (by omega) hLy hp2.1 he1 he2 he3 he4 (by omega) hp2.2.2
        refine GC.region ?_
        refine GL.val (Ex.move rfl) (by decide) ?_
        refine GL.step (Stp.callR (vs := [(.int .u32 ((Sl.LG ((Sl.EX y)))))]) rfl rfl T.own28 (by decide) (fun wc hw => finite_l ((Sl.LG ((Sl.EX y)))) wc (by first | assumption | omega | exact Bt.lst_bd (by assumption) (by assumption) | exact Bt.gst_bd (by assumption) (by assumption) | exact Bt.key_bd (by assumption) | exact Bt.unkey_bd (by assumption) | exact Bt.nxt_bd (by assumption) | exact Bt.lst_bd (Bt.gst_bd (by assumption) (by assumption)) (by assumption) | exact Bt.btw_bd (by assumption) (Bt.lst_bd (by assumption) (by assumption)) (Bt.gst_bd (by assumption) (by assumption))))) (fun xq353 hq354 => ?_)
        refine GL.val (v := (.bool false)) (Ex.cast (Ex.not rfl) (congrArg Value.bool (congrArg (fun z => !z) (decide_eq_true (by exact hp2.1))))) (by decide) ?_
        refine GL.val (Ex.move rfl) (by decide) ?_
        refine GL.stepG (tj := 74) rfl rfl (Ex.wp (v := (.int .u32 y)) (Ex.move rfl) (by decide)) (fun _ _ => ?_)
        refine GL.stepG (tj := 74) rfl rfl (Ex.wp (v := (.int .u32 ((Sl.LG ((Sl.EX y)))))) (Ex.move rfl) (by decide)) (fun _ _ => ?_)
        refine GL.stepG (tj := 74) rfl rfl (Stp.callR (vs := [(.int .u32 y), (.int .u32 ((Sl.LG ((Sl.EX y)))))]) rfl rfl T.own34 (by decide) (fun wc hw => off_ne y ((Sl.LG ((Sl.EX y)))) e n1 n2 wc hy (by omega) hLy hp2.1 he1 he2 hn12 (by omega) (by omega) (by omega) (fun q => hyb q.symm))) (fun xq355 hq356 => ?_)
        have hpx := hq356
        refine GL.stepG (tj := 74) rfl rfl (Stp.callR (vs := [(.int .i64 (-24))]) rfl rfl T.own31 (by decide) (fun wc hw => power_l (-24) wc)) (fun xq357 hq358 => ?_)
        refine GL.stepG (tj := 74) rfl rfl (Stp.callR (vs := [(.agg #[(.int .i64 2), (.bool false), (.slice (some ⟨xq355.1, 0, none⟩) ((Nd.nd (Lb.dfr (decide (y / 2147483648 % 2 = 1)) (decide (((Sl.LG ((Sl.EX y)))) / 2147483648 % 2 = 1)) ((Bt.mant y).toNat * 2 ^ n1) ((Bt.mant ((Sl.LG ((Sl.EX y))))).toNat * 2 ^ n2)))) xq355.2), (.int .i64 e), (.bool false)]), (.agg #[(.int .i64 2), (.bool false), (.slice (some ⟨xq357, 0, none⟩) ((Nd.nd 1)) 2), (.int .i64 (-24)), (.bool false)])]) rfl rfl T.own30 (by decide) (fun wc hw => within_b (Lb.dfr (decide (y / 2147483648 % 2 = 1)) (decide (((Sl.LG ((Sl.EX y)))) / 2147483648 % 2 = 1)) ((Bt.mant y).toNat * 2 ^ n1) ((Bt.mant ((Sl.LG ((Sl.EX y))))).toNat * 2 ^ n2)) xq355.1 xq355.2 1 xq357 2 g' e (-24) m1 m2 false false wc (Nd.Nb.of (hw.rdOf (i := 1) rfl 0) (Lb.nd_lt_of hpx)) (Nat.le_trans (Lb.dfr_nd hy hLy (by omega) (by omega) _ _) (by decide)) (Nd.Nb.one (Lg.rd1 (hw.rdOf (i := 0) rfl 0)) (by decide)) (by rw [Nd.nd_one (by decide)]; decide) he3 he4 hm12 (by omega) (by omega) (by omega))) (fun xq359 hq360 => ?_)
        refine GL.stepG (tj := 74) rfl rfl (Ex.wp (v := (.bool false)) (Ex.cast (Ex.not rfl) (congrArg Value.bool (congrArg (fun z => !z) (decide_eq_true (by exact hW))))) (by decide)) (fun _ _ => ?_)
        refine GL.val (v := (.bool false)) (Ex.pickF rfl rfl) (by decide) ?_
        refine GL.val (Ex.move rfl) (by decide) ?_
        refine GL.stepG (tj := 82) rfl rfl (Ex.wp (v := (.int .u32 y)) (Ex.move rfl) (by decide)) (fun _ _ => ?_)
        refine GL.stepG (tj := 82) rfl rfl (Ex.wp (v := (.int .u32 (y % 2147483648))) (Ex.bits rfl rfl (by simp) (Z := y % 2147483648) (andm 31 (by omega) (by omega) (by decide) rfl rfl)) (by decide)) (fun _ _ => ?_)
        by_cases hq361 : 1065353216 ≤ (y % 2147483648)
        ·refine GL.stepG (tj := 82) rfl rfl (Ex.wp (v := (.bool true)) (Ex.cast (Ex.geq rfl rfl) (congrArg Value.bool (decide_eq_true hq361))) (by decide)) (fun _ _ => ?_)
         refine GL.stepG (tj := 82) rfl rfl (Ex.wp (v := (.bool true)) (Ex.move rfl) (by decide)) (fun _ _ => ?_)
         refine GL.stepG (tj := 86) rfl rfl (Ex.wp (v := (.int .u32 ((Sl.LG ((Sl.EX y)))))) (Ex.move rfl) (by decide)) (fun _ _ => ?_)
         refine GL.stepG (tj := 86) rfl rfl (Ex.wp (v := (.int .u32 y)) (Ex.move rfl) (by decide)) (fun _ _ => ?_)
         refine GL.stepG (tj := 86) rfl rfl (Ex.wp (v := (.bool false)) (Ex.cast (Ex.neq rfl rfl) (congrArg Value.bool (decide_eq_false (by exact absurd (hp2.2.1 (by omega)) hyb)))) (by decide)) (fun _ _ => ?_)
         refine GL.stepG (tj := 82) rfl rfl (Ex.wp (v := (.bool false)) (Ex.pickT rfl rfl) (by decide)) (fun _ _ => ?_)
         refine GL.val (v := (.bool false)) (Ex.pickF rfl rfl) (by decide) ?_
         refine GL.nil ?_
         refine GE.thenN ?_
         refine GC.cond rfl (fun hq362 => by cases hq362) (fun _ => ?_)
         refine GC.skip ?_
         refine GE.thenN ?_
         refine GC.seq ?_
         refine GC.region ?_
         refine GL.val (Ex.move rfl) (by decide) ?_
         refine GL.val (v := (.int .i64 q)) (Ex.rem rfl rfl (Z := q) (by decide) (by first | exact hq.symm | (rw [← hq]; exact w64 (by omega)))) (by decide) ?_
         refine GL.val (v := (.int .i64 (q + 254))) (Ex.add rfl rfl (Z := q + 254) (w64 (by omega))) (by decide) ?_
         refine GL.val (v := (.int .i64 ((q + 254) % 254))) (Ex.rem rfl rfl (Z := (q + 254) % 254) (by omega) (rem64 (by omega) (by omega))) (by decide) ?_
         refine GL.val (v := (.int .i64 (((q + 254) % 254) - 126))) (Ex.sub' rfl rfl (Z := ((q + 254) % 254) - 126) (w64 (by omega))) (by decide) ?_
         refine GL.val (Ex.assign rfl) (by decide) ?_
         refine GL.nil ?_
         refine GE.thenN ?_
         refine GC.seq ?_
         obtain ⟨j, hj⟩ : ∃ j, j = ((q + 254) % 254) - 126 := ⟨_, rfl⟩
         rw [← hj]
         have hp3 := Lb.back3 (k := j) (by omega) (by omega)
         have hFI := Lb.FI_u32 (k := j) (by omega) (by omega)
         refine GC.region ?_
         refine GL.val (Ex.move rfl) (by decide) ?_
         refine GL.val (v := (.int .i64 (j + 127))) (Ex.add rfl rfl (Z := j + 127) (w64 (by omega))) (by decide) ?_
         refine GL.val (v := (.int .u32 (j + 127))) (Ex.conv rfl Try.underlying3 Try.underlying23 (Z := j + 127) (wu32b (by omega))) (by decide) ?_
         refine GL.val (v := (.int .u32 ((j + 127) * 8388608))) (Ex.shl rfl (m := 23) rfl (by decide) (Z := (j + 127) * 8388608) (wu32b (by omega))) (by decide) ?_
         refine GL.step (Stp.callR (vs := [(.int .u32 ((j + 127) * 8388608))]) rfl rfl T.own18 (by decide) (fun wc hw => log_p ((j + 127) * 8388608) wc (by omega))) (fun xq363 hq364 => ?_)
         refine GL.val (Ex.move rfl) (by decide) ?_
         refine GL.step (Stp.callR (vs := [(.int .i64 j)]) rfl rfl T.own37 (by decide) (fun wc hw => fromint_all j wc (by omega))) (fun xq365 hq366 => ?_)
         refine GL.val (v := (.bool true)) (Ex.cast (Ex.eql rfl rfl) (congrArg Value.bool (decide_eq_true (by exact hp3.1)))) (by decide) ?_
         refine GL.val (Ex.move rfl) (by decide) ?_
         refine GL.stepG (tj := 105) rfl rfl (Ex.wp (v := (.int .i64 j)) (Ex.move rfl) (by decide)) (fun _ _ => ?_)
         refine GL.stepG (tj := 105) rfl rfl (Stp.callR (vs := [(.int .i64 j)]) rfl rfl T.own37 (by decide) (fun wc hw => fromint_all j wc (by omega))) (fun xq367 hq368 => ?_)
         refine GL.stepG (tj := 105) rfl rfl (Stp.callR (vs := [(.int .u32 ((Lb.FI j)))]) rfl rfl T.own20 (by decide) (fun wc hw => exp_p ((Lb.FI j)) wc (by omega))) (fun xq369 hq370 => ?_)
         refine GL.stepG (tj := 105) rfl rfl (Ex.wp (v := (.int .i64 j)) (Ex.move rfl) (by decide)) (fun _ _ => ?_)
         refine GL.stepG (tj := 105) rfl rfl (Ex.wp (v := (.int .i64 (j + 127))) (Ex.add rfl rfl (Z := j + 127) (w64 (by omega))) (by decide)) (fun _ _ => ?_)
         refine GL.stepG (tj := 105) rfl rfl (Ex.wp (v := (.int .u32 (j + 127))) (Ex.conv rfl Try.underlying3 Try.underlying23 (Z := j + 127) (wu32b (by omega))) (by decide)) (fun _ _ => ?_)
         refine GL.stepG (tj := 105) rfl rfl (Ex.wp (v := (.int .u32 ((j + 127) * 8388608))) (Ex.shl rfl (m := 23) rfl (by decide) (Z := (j + 127) * 8388608) (wu32b (by omega))) (by decide)) (fun _ _ => ?_)
         refine GL.stepG (tj := 105) rfl rfl (Ex.wp (v := (.bool true)) (Ex.cast (Ex.eql rfl rfl) (congrArg Value.bool (decide_eq_true (by exact hp3.2)))) (by decide)) (fun _ _ => ?_)
         refine GL.val (v := (.bool true)) (Ex.pickT rfl rfl) (by decide) ?_
         refine GL.val (Ex.assign rfl) (by decide) ?_
         refine GL.nil ?_
         refine GE.thenN ?_
         refine GC.ret ?_
         refine GC.ret1 rfl (Rv.tmp rfl) (fun wN HN => ?_)
         exact HN.ret () trivial (by first | rfl | simp) (List.nil_sublist _) rfl
        ·refine GL.stepG (tj := 82) rfl rfl (Ex.wp (v := (.bool false)) (Ex.cast (Ex.geq rfl rfl) (congrArg Value.bool (decide_eq_false hq361))) (by decide)) (fun _ _ => ?_)
         refine GL.stepG (tj := 82) rfl rfl (Ex.wp (v := (.bool false)) (Ex.move rfl) (by decide)) (fun _ _ => ?_)
         refine GL.skipG (tj := 86) rfl rfl rfl (by decide) ?_
         refine GL.skipG (tj := 86) rfl rfl rfl (by decide) ?_
         refine GL.skipG (tj := 86) rfl rfl rfl (by decide) ?_
         refine GL.stepG (tj := 82) rfl rfl (Ex.wp (v := (.bool false)) (Ex.pickF rfl rfl) (by decide)) (fun _ _ => ?_)
         refine GL.val (v := (.bool false)) (Ex.pickF rfl rfl) (by decide) ?_
         refine GL.nil ?_
         refine GE.thenN ?_
         refine GC.cond rfl (fun hq371 => by cases hq371) (fun _ => ?_)
         refine GC.skip ?_
         refine GE.thenN ?_
         refine GC.seq ?_
         refine GC.region ?_
         refine GL.val (Ex.move rfl) (by decide) ?_
         refine GL.val (v := (.int .i64 q)) (Ex.rem rfl rfl (Z := q) (by decide) (by first | exact hq.symm | (rw [← hq]; exact w64 (by omega)))) (by decide) ?_
         refine GL.val (v := (.int .i64 (q + 254))) (Ex.add rfl rfl (Z := q + 254) (w64 (by omega))) (by decide) ?_
         refine GL.val (v := (.int .i64 ((q + 254) % 254))) (Ex.rem rfl rfl (Z := (q + 254) % 254) (by omega) (rem64 (by omega) (by omega))) (by decide) ?_
         refine GL.val (v := (.int .i64 (((q + 254) % 254) - 126))) (Ex.sub' rfl rfl (Z := ((q + 254) % 254) - 126) (w64 (by omega))) (by decide) ?_
         refine GL.val (Ex.assign rfl) (by decide) ?_
         refine GL.nil ?_
         refine GE.thenN ?_
         refine GC.seq ?_
         obtain ⟨j, hj⟩ : ∃ j, j = ((q + 254) % 254) - 126 := ⟨_, rfl⟩
         rw [← hj]
         have hp3 := Lb.back3 (k := j) (by omega) (by omega)
         have hFI := Lb.FI_u32 (k := j) (by omega) (by omega)
         refine GC.region ?_
         refine GL.val (Ex.move rfl) (by decide) ?_
         refine GL.val (v := (.int .i64 (j + 127))) (Ex.add rfl rfl (Z := j + 127) (w64 (by omega))) (by decide) ?_
         refine GL.val (v := (.int .u32 (j + 127))) (Ex.conv rfl Try.underlying3 Try.underlying23 (Z := j + 127) (wu32b (by omega))) (by decide) ?_
         refine GL.val (v := (.int .u32 ((j + 127) * 8388608))) (Ex.shl rfl (m := 23) rfl (by decide) (Z := (j + 127) * 8388608) (wu32b (by omega))) (by decide) ?_
         refine GL.step (Stp.callR (vs := [(.int .u32 ((j + 127) * 8388608))]) rfl rfl T.own18 (by decide) (fun wc hw => log_p ((j + 127) * 8388608) wc (by omega))) (fun xq372 hq373 => ?_)
         refine GL.val (Ex.move rfl) (by decide) ?_
         refine GL.step (Stp.callR (vs := [(.int .i64 j)]) rfl rfl T.own37 (by decide) (fun wc hw => fromint_all j wc (by omega))) (fun xq374 hq375 => ?_)
         refine GL.val (v := (.bool true)) (Ex.cast (Ex.eql rfl rfl) (congrArg Value.bool (decide_eq_true (by exact hp3.1)))) (by decide) ?_
         refine GL.val (Ex.move rfl) (by decide) ?_
         refine GL.stepG (tj := 105) rfl rfl (Ex.wp (v := (.int .i64 j)) (Ex.move rfl) (by decide)) (fun _ _ => ?_)
         refine GL.stepG (tj := 105) rfl rfl (Stp.callR (vs := [(.int .i64 j)]) rfl rfl T.own37 (by decide) (fun wc hw => fromint_all j wc (by omega))) (fun xq376 hq377 => ?_)
         refine GL.stepG (tj := 105) rfl rfl (Stp.callR (vs := [(.int .u32 ((Lb.FI j)))]) rfl rfl T.own20 (by decide) (fun wc hw => exp_p ((Lb.FI j)) wc (by omega))) (fun xq378 hq379 => ?_)
         refine GL.stepG (tj := 105) rfl rfl (Ex.wp (v := (.int .i64 j)) (Ex.move rfl) (by decide)) (fun _ _ => ?_)
         refine GL.stepG (tj := 105) rfl rfl (Ex.wp (v := (.int .i64 (j + 127))) (Ex.add rfl rfl (Z := j + 127) (w64 (by omega))) (by decide)) (fun _ _ => ?_)
         refine GL.stepG (tj := 105) rfl rfl (Ex.wp (v := (.int .u32 (j + 127))) (Ex.conv rfl Try.underlying3 Try.underlying23 (Z := j + 127) (wu32b (by omega))) (by decide)) (fun _ _ => ?_)
         refine GL.stepG (tj := 105) rfl rfl (Ex.wp (v := (.int .u32 ((j + 127) * 8388608))) (Ex.shl rfl (m := 23) rfl (by decide) (Z := (j + 127) * 8388608) (wu32b (by omega))) (by decide)) (fun _ _ => ?_)
         refine GL.stepG (tj := 105) rfl rfl (Ex.wp (v := (.bool true)) (Ex.cast (Ex.eql rfl rfl) (congrArg Value.bool (decide_eq_true (by exact hp3.2)))) (by decide)) (fun _ _ => ?_)
         refine GL.val (v := (.bool true)) (Ex.pickT rfl rfl) (by decide) ?_
         refine GL.val (Ex.assign rfl) (by decide) ?_
         refine GL.nil ?_
         refine GE.thenN ?_
         refine GC.ret ?_
         refine GC.ret1 rfl (Rv.tmp rfl) (fun wN HN => ?_)
         exact HN.ret () trivial (by first | rfl | simp) (List.nil_sublist _) rfl
      ·replace hq321 := of_decide_eq_false hq321
       refine GC.skip ?_
       refine GE.thenN ?_
       refine GC.seq ?_
       refine GC.region ?_
       refine GL.val (Ex.move rfl) (by decide) ?_
       refine GL.val (v := (.int .i64 q)) (Ex.rem rfl rfl (Z := q) (by decide) (by first | exact hq.symm | (rw [← hq]; exact w64 (by omega)))) (by decide) ?_
       refine GL.val (v := (.int .i64 (q + 254))) (Ex.add rfl rfl (Z := q + 254) (w64 (by omega))) (by decide) ?_
       refine GL.val (v := (.int .i64 ((q + 254) % 254))) (Ex.rem rfl rfl (Z := (q + 254) % 254) (by omega) (rem64 (by omega) (by omega))) (by decide) ?_
       refine GL.val (v := (.int .i64 (((q + 254) % 254) - 126))) (Ex.sub' rfl rfl (Z := ((q + 254) % 254) - 126) (w64 (by omega))) (by decide) ?_
       refine GL.val (Ex.assign rfl) (by decide) ?_
       refine GL.nil ?_
       refine GE.thenN ?_
       refine GC.seq ?_
       obtain ⟨j, hj⟩ : ∃ j, j = ((q + 254) % 254) - 126 := ⟨_, rfl⟩
       rw [← hj]
       have hp3 := Lb.back3 (k := j) (by omega) (by omega)
       have hFI := Lb.FI_u32 (k := j) (by omega) (by omega)
       refine GC.region ?_
       refine GL.val (Ex.move rfl) (by decide) ?_
       refine GL.val (v := (.int .i64 (j + 127))) (Ex.add rfl rfl (Z := j + 127) (w64 (by omega))) (by decide) ?_
       refine GL.val (v := (.int .u32 (j + 127))) (Ex.conv rfl Try.underlying3 Try.underlying23 (Z := j + 127) (wu32b (by omega))) (by decide) ?_
       refine GL.val (v := (.int .u32 ((j + 127) * 8388608))) (Ex.shl rfl (m := 23) rfl (by decide) (Z := (j + 127) * 8388608) (wu32b (by omega))) (by decide) ?_
       refine GL.step (Stp.callR (vs := [(.int .u32 ((j + 127) * 8388608))]) rfl rfl T.own18 (by decide) (fun wc hw => log_p ((j + 127) * 8388608) wc (by omega))) (fun xq380 hq381 => ?_)
       refine GL.val (Ex.move rfl) (by decide) ?_
       refine GL.step (Stp.callR (vs := [(.int .i64 j)]) rfl rfl T.own37 (by decide) (fun wc hw => fromint_all j wc (by omega))) (fun xq382 hq383 => ?_)
       refine GL.val (v := (.bool true)) (Ex.cast (Ex.eql rfl rfl) (congrArg Value.bool (decide_eq_true (by exact hp3.1)))) (by decide) ?_
       refine GL.val (Ex.move rfl) (by decide) ?_
       refine GL.stepG (tj := 105) rfl rfl (Ex.wp (v := (.int .i64 j)) (Ex.move rfl) (by decide)) (fun _ _ => ?_)
       refine GL.stepG (tj := 105) rfl rfl (Stp.callR (vs := [(.int .i64 j)]) rfl rfl T.own37 (by decide) (fun wc hw => fromint_all j wc (by omega))) (fun xq384 hq385 => ?_)
       refine GL.stepG (tj := 105) rfl rfl (Stp.callR (vs := [(.int .u32 ((Lb.FI j)))]) rfl rfl T.own20 (by decide) (fun wc hw => exp_p ((Lb.FI j)) wc (by omega))) (fun xq386 hq387 => ?_)
       refine GL.stepG (tj := 105) rfl rfl (Ex.wp (v := (.int .i64 j)) (Ex.move rfl) (by decide)) (fun _ _ => ?_)
       refine GL.stepG (tj := 105) rfl rfl (Ex.wp (v := (.int .i64 (j + 127))) (Ex.add rfl rfl (Z := j + 127) (w64 (by omega))) (by decide)) (fun _ _ => ?_)
       refine GL.stepG (tj := 105) rfl rfl (Ex.wp (v := (.int .u32 (j + 127))) (Ex.conv rfl Try.underlying3 Try.underlying23 (Z := j + 127) (wu32b (by omega))) (by decide)) (fun _ _ => ?_)
       refine GL.stepG (tj := 105) rfl rfl (Ex.wp (v := (.int .u32 ((j + 127) * 8388608))) (Ex.shl rfl (m := 23) rfl (by decide) (Z := (j + 127) * 8388608) (wu32b (by omega))) (by decide)) (fun _ _ => ?_)
       refine GL.stepG (tj := 105) rfl rfl (Ex.wp (v := (.bool true)) (Ex.cast (Ex.eql rfl rfl) (congrArg Value.bool (decide_eq_true (by exact hp3.2)))) (by decide)) (fun _ _ => ?_)
       refine GL.val (v := (.bool true)) (Ex.pickT rfl rfl) (by decide) ?_
       refine GL.val (Ex.assign rfl) (by decide) ?_
       refine GL.nil ?_
       refine GE.thenN ?_
       refine GC.ret ?_
       refine GC.ret1 rfl (Rv.tmp rfl) (fun wN HN => ?_)
       exact HN.ret () trivial (by first | rfl | simp) (List.nil_sublist _) rfl
     ·refine GL.stepG (tj := 56) rfl rfl (Ex.wp (v := (.bool false)) (Ex.cast (Ex.gtr rfl rfl) (congrArg Value.bool (decide_eq_false hq316))) (by decide)) (fun _ _ => ?_)
      refine GL.val (v := (.bool false)) (Ex.pickT rfl rfl) (by decide) ?_
      refine GL.val (Ex.move rfl) (by decide) ?_
      refine GL.skipG (tj := 62) rfl rfl rfl (by decide) ?_
      refine GL.skipG (tj := 62) rfl rfl rfl (by decide) ?_
      refine GL.skipG (tj := 62) rfl rfl rfl (by decide) ?_
      refine GL.skipG (tj := 62) rfl rfl rfl (by decide) ?_
      refine GL.val (v := (.bool false)) (Ex.pickF rfl rfl) (by decide) ?_
      refine GL.nil ?_
      refine GE.thenN ?_
      refine GC.cond rfl (fun hq388 => by cases hq388) (fun _ => ?_)
      refine GC.skip ?_
      refine GE.thenN ?_
      refine GC.seq ?_
      refine GC.region ?_
      refine GL.val (Ex.move rfl) (by decide) ?_
      refine GL.val (v := (.int .i64 q)) (Ex.rem rfl rfl (Z := q) (by decide) (by first | exact hq.symm | (rw [← hq]; exact w64 (by omega)))) (by decide) ?_
      refine GL.val (v := (.int .i64 (q + 254))) (Ex.add rfl rfl (Z := q + 254) (w64 (by omega))) (by decide) ?_
      refine GL.val (v := (.int .i64 ((q + 254) % 254))) (Ex.rem rfl rfl (Z := (q + 254) % 254) (by omega) (rem64 (by omega) (by omega))) (by decide) ?_
      refine GL.val (v := (.int .i64 (((q + 254) % 254) - 126))) (Ex.sub' rfl rfl (Z := ((q + 254) % 254) - 126) (w64 (by omega))) (by decide) ?_
      refine GL.val (Ex.assign rfl) (by decide) ?_
      refine GL.nil ?_
      refine GE.thenN ?_
      refine GC.seq ?_
      obtain ⟨j, hj⟩ : ∃ j, j = ((q + 254) % 254) - 126 := ⟨_, rfl⟩
      rw [← hj]
      have hp3 := Lb.back3 (k := j) (by omega) (by omega)
      have hFI := Lb.FI_u32 (k := j) (by omega) (by omega)
      refine GC.region ?_
      refine GL.val (Ex.move rfl) (by decide) ?_
      refine GL.val (v := (.int .i64 (j + 127))) (Ex.add rfl rfl (Z := j + 127) (w64 (by omega))) (by decide) ?_
      refine GL.val (v := (.int .u32 (j + 127))) (Ex.conv rfl Try.underlying3 Try.underlying23 (Z := j + 127) (wu32b (by omega))) (by decide) ?_
      refine GL.val (v := (.int .u32 ((j + 127) * 8388608))) (Ex.shl rfl (m := 23) rfl (by decide) (Z := (j + 127) * 8388608) (wu32b (by omega))) (by decide) ?_
      refine GL.step (Stp.callR (vs := [(.int .u32 ((j + 127) * 8388608))]) rfl rfl T.own18 (by decide) (fun wc hw => log_p ((j + 127) * 8388608) wc (by omega))) (fun xq389 hq390 => ?_)
      refine GL.val (Ex.move rfl) (by decide) ?_
      refine GL.step (Stp.callR (vs := [(.int .i64 j)]) rfl rfl T.own37 (by decide) (fun wc hw => fromint_all j wc (by omega))) (fun xq391 hq392 => ?_)
      refine GL.val (v := (.bool true)) (Ex.cast (Ex.eql rfl rfl) (congrArg Value.bool (decide_eq_true (by exact hp3.1)))) (by decide) ?_
      refine GL.val (Ex.move rfl) (by decide) ?_
      refine GL.stepG (tj := 105) rfl rfl (Ex.wp (v := (.int .i64 j)) (Ex.move rfl) (by decide)) (fun _ _ => ?_)
      refine GL.stepG (tj := 105) rfl rfl (Stp.callR (vs := [(.int .i64 j)]) rfl rfl T.own37 (by decide) (fun wc hw => fromint_all j wc (by omega))) (fun xq393 hq394 => ?_)
      refine GL.stepG (tj := 105) rfl rfl (Stp.callR (vs := [(.int .u32 ((Lb.FI j)))]) rfl rfl T.own20 (by decide) (fun wc hw => exp_p ((Lb.FI j)) wc (by omega))) (fun xq395 hq396 => ?_)
      refine GL.stepG (tj := 105) rfl rfl (Ex.wp (v := (.int .i64 j)) (Ex.move rfl) (by decide)) (fun _ _ => ?_)
      refine GL.stepG (tj := 105) rfl rfl (Ex.wp (v := (.int .i64 (j + 127))) (Ex.add rfl rfl (Z := j + 127) (w64 (by omega))) (by decide)) (fun _ _ => ?_)
      refine GL.stepG (tj := 105) rfl rfl (Ex.wp (v := (.int .u32 (j + 127))) (Ex.conv rfl Try.underlying3 Try.underlying23 (Z := j + 127) (wu32b (by omega))) (by decide)) (fun _ _ => ?_)
      refine GL.stepG (tj := 105) rfl rfl (Ex.wp (v := (.int .u32 ((j + 127) * 8388608))) (Ex.shl rfl (m := 23) rfl (by decide) (Z := (j + 127) * 8388608) (wu32b (by omega))) (by decide)) (fun _ _ => ?_)
      refine GL.stepG (tj := 105) rfl rfl (Ex.wp (v := (.bool true)) (Ex.cast (Ex.eql rfl rfl) (congrArg Value.bool (decide_eq_true (by exact hp3.2)))) (by decide)) (fun _ _ => ?_)
      refine GL.val (v := (.bool true)) (Ex.pickT rfl rfl) (by decide) ?_
      refine GL.val (Ex.assign rfl) (by decide) ?_
      refine GL.nil ?_
      refine GE.thenN ?_
      refine GC.ret ?_
      refine GC.ret1 rfl (Rv.tmp rfl) (fun wN HN => ?_)
      exact HN.ret () trivial (by first | rfl | simp) (List.nil_sublist _) rfl
    ·refine GL.val (v := (.bool false)) (Ex.cast (Ex.move rfl) (congrArg Value.bool (decide_eq_false hq311))) (by decide) ?_
     refine GL.skipG (tj := 56) rfl rfl rfl (by decide) ?_
     refine GL.skipG (tj := 56) rfl rfl rfl (by decide) ?_
     refine GL.skipG (tj := 56) rfl rfl rfl (by decide) ?_
     refine GL.skipG (tj := 56) rfl rfl rfl (by decide) ?_
     refine GL.val (v := (.bool false)) (Ex.pickF rfl rfl) (by decide) ?_
     refine GL.val (Ex.move rfl) (by decide) ?_
     refine GL.skipG (tj := 62) rfl rfl rfl (by decide) ?_
     refine GL.skipG (tj := 62) rfl rfl rfl (by decide) ?_
     refine GL.skipG (tj := 62) rfl rfl rfl (by decide) ?_
     refine GL.skipG (tj := 62) rfl rfl rfl (by decide) ?_
     refine GL.val (v := (.bool false)) (Ex.pickF rfl rfl) (by decide) ?_
     refine GL.nil ?_
     refine GE.thenN ?_
     refine GC.cond rfl (fun hq397 => by cases hq397) (fun _ => ?_)
     refine GC.skip ?_
     refine GE.thenN ?_
     refine GC.seq ?_
     refine GC.region ?_
     refine GL.val (Ex.move rfl) (by decide) ?_
     refine GL.val (v := (.int .i64 q)) (Ex.rem rfl rfl (Z := q) (by decide) (by first | exact hq.symm | (rw [← hq]; exact w64 (by omega)))) (by decide) ?_
     refine GL.val (v := (.int .i64 (q + 254))) (Ex.add rfl rfl (Z := q + 254) (w64 (by omega))) (by decide) ?_
     refine GL.val (v := (.int .i64 ((q + 254) % 254))) (Ex.rem rfl rfl (Z := (q + 254) % 254) (by omega) (rem64 (by omega) (by omega))) (by decide) ?_
     refine GL.val (v := (.int .i64 (((q + 254) % 254) - 126))) (Ex.sub' rfl rfl (Z := ((q + 254) % 254) - 126) (w64 (by omega))) (by decide) ?_
     refine GL.val (Ex.assign rfl) (by decide) ?_
     refine GL.nil ?_
     refine GE.thenN ?_
     refine GC.seq ?_
     obtain ⟨j, hj⟩ : ∃ j, j = ((q + 254) % 254) - 126 := ⟨_, rfl⟩
     rw [← hj]
     have hp3 := Lb.back3 (k := j) (by omega) (by omega)
     have hFI := Lb.FI_u32 (k := j) (by omega) (by omega)
     refine GC.region ?_
     refine GL.val (Ex.move rfl) (by decide) ?_
     refine GL.val (v := (.int .i64 (j + 127))) (Ex.add rfl rfl (Z := j + 127) (w64 (by omega))) (by decide) ?_
     refine GL.val (v := (.int .u32 (j + 127))) (Ex.conv rfl Try.underlying3 Try.underlying23 (Z := j + 127) (wu32b (by omega))) (by decide) ?_
     refine GL.val (v := (.int .u32 ((j + 127) * 8388608))) (Ex.shl rfl (m := 23) rfl (by decide) (Z := (j + 127) * 8388608) (wu32b (by omega))) (by decide) ?_
     refine GL.step (Stp.callR (vs := [(.int .u32 ((j + 127) * 8388608))]) rfl rfl T.own18 (by decide) (fun wc hw => log_p ((j + 127) * 8388608) wc (by omega))) (fun xq398 hq399 => ?_)
     refine GL.val (Ex.move rfl) (by decide) ?_
     refine GL.step (Stp.callR (vs := [(.int .i64 j)]) rfl rfl T.own37 (by decide) (fun wc hw => fromint_all j wc (by omega))) (fun xq400 hq401 => ?_)
     refine GL.val (v := (.bool true)) (Ex.cast (Ex.eql rfl rfl) (congrArg Value.bool (decide_eq_true (by exact hp3.1)))) (by decide) ?_
     refine GL.val (Ex.move rfl) (by decide) ?_
     refine GL.stepG (tj := 105) rfl rfl (Ex.wp (v := (.int .i64 j)) (Ex.move rfl) (by decide)) (fun _ _ => ?_)
     refine GL.stepG (tj := 105) rfl rfl (Stp.callR (vs := [(.int .i64 j)]) rfl rfl T.own37 (by decide) (fun wc hw => fromint_all j wc (by omega))) (fun xq402 hq403 => ?_)
     refine GL.stepG (tj := 105) rfl rfl (Stp.callR (vs := [(.int .u32 ((Lb.FI j)))]) rfl rfl T.own20 (by decide) (fun wc hw => exp_p ((Lb.FI j)) wc (by omega))) (fun xq404 hq405 => ?_)
     refine GL.stepG (tj := 105) rfl rfl (Ex.wp (v := (.int .i64 j)) (Ex.move rfl) (by decide)) (fun _ _ => ?_)
     refine GL.stepG (tj := 105) rfl rfl (Ex.wp (v := (.int .i64 (j + 127))) (Ex.add rfl rfl (Z := j + 127) (w64 (by omega))) (by decide)) (fun _ _ => ?_)
     refine GL.stepG (tj := 105) rfl rfl (Ex.wp (v := (.int .u32 (j + 127))) (Ex.conv rfl Try.underlying3 Try.underlying23 (Z := j + 127) (wu32b (by omega))) (by decide)) (fun _ _ => ?_)
     refine GL.stepG (tj := 105) rfl rfl (Ex.wp (v := (.int .u32 ((j + 127) * 8388608))) (Ex.shl rfl (m := 23) rfl (by decide) (Z := (j + 127) * 8388608) (wu32b (by omega))) (by decide)) (fun _ _ => ?_)
     refine GL.stepG (tj := 105) rfl rfl (Ex.wp (v := (.bool true)) (Ex.cast (Ex.eql rfl rfl) (congrArg Value.bool (decide_eq_true (by exact hp3.2)))) (by decide)) (fun _ _ => ?_)
     refine GL.val (v := (.bool true)) (Ex.pickT rfl rfl) (by decide) ?_
     refine GL.val (Ex.assign rfl) (by decide) ?_
     refine GL.nil ?_
     refine GE.thenN ?_
     refine GC.ret ?_
     refine GC.ret1 rfl (Rv.tmp rfl) (fun wN HN => ?_)
     exact HN.ret () trivial (by first | rfl | simp) (List.nil_sublist _) rfl
  ·refine GL.stepG (tj := 15) rfl rfl (Ex.wp (v := (.bool false)) (Ex.cast (Ex.gtr rfl rfl) (congrArg Value.bool (decide_eq_false hq5))) (by decide)) (fun _ _ => ?_)
   refine GL.val (v := (.bool false)) (Ex.pickT rfl rfl) (by decide) ?_
   refine GL.val (Ex.move rfl) (by decide) ?_
   refine GL.skipG (tj := 19) rfl rfl rfl (by decide) ?_
   refine GL.skipG (tj := 19) rfl rfl rfl (by decide) ?_
   refine GL.val (v := (.bool false)) (Ex.pickF rfl rfl) (by decide) ?_
   refine GL.nil ?_
   refine GE.thenN ?_
   refine GC.cond rfl (fun hq406 => by cases hq406) (fun _ => ?_)
   refine GC.skip ?_
   refine GE.thenN ?_
   refine GC.seq ?_
   refine GC.seq ?_
   refine GC.region ?_
   refine GL.val (Ex.move rfl) (by decide) ?_
   refine GL.step (Stp.callR (vs := [(.int .u32 y)]) rfl rfl T.own28 (by decide) (fun wc hw => finite_l y wc (by first | assumption | omega | exact Bt.lst_bd (by assumption) (by assumption) | exact Bt.gst_bd (by assumption) (by assumption) | exact Bt.key_bd (by assumption) | exact Bt.unkey_bd (by assumption) | exact Bt.nxt_bd (by assumption) | exact Bt.lst_bd (Bt.gst_bd (by assumption) (by assumption)) (by assumption) | exact Bt.btw_bd (by assumption) (Bt.lst_bd (by assumption) (by assumption)) (Bt.gst_bd (by assumption) (by assumption))))) (fun xq407 hq408 => ?_)
   by_cases hq409 : (y % 2147483648 < 2139095040)
   ·refine GL.val (v := (.bool true)) (Ex.cast (Ex.move rfl) (congrArg Value.bool (decide_eq_true hq409))) (by decide) ?_
    refine GL.stepG (tj := 56) rfl rfl (Ex.wp (v := (.int .u32 y)) (Ex.move rfl) (by decide)) (fun _ _ => ?_)
    refine GL.stepG (tj := 56) rfl rfl (Stp.callR (vs := [(.int .u32 y)]) rfl rfl T.own36 (by decide) (fun wc hw => key_l y wc (by first | assumption | omega | exact Bt.lst_bd (by assumption) (by assumption) | exact Bt.gst_bd (by assumption) (by assumption) | exact Bt.key_bd (by assumption) | exact Bt.unkey_bd (by assumption) | exact Bt.nxt_bd (by assumption) | exact Bt.lst_bd (Bt.gst_bd (by assumption) (by assumption)) (by assumption) | exact Bt.btw_bd (by assumption) (Bt.lst_bd (by assumption) (by assumption)) (Bt.gst_bd (by assumption) (by assumption))))) (fun xq410 hq411 => ?_)
    refine GL.stepG (tj := 56) rfl rfl (Stp.callR (vs := [(.int .u32 3271426048)]) rfl rfl T.own36 (by decide) (fun wc hw => key_l 3271426048 wc (by first | assumption | omega | exact Bt.lst_bd (by assumption) (by assumption) | exact Bt.gst_bd (by assumption) (by assumption) | exact Bt.key_bd (by assumption) | exact Bt.unkey_bd (by assumption) | exact Bt.nxt_bd (by assumption) | exact Bt.lst_bd (Bt.gst_bd (by assumption) (by assumption)) (by assumption) | exact Bt.btw_bd (by assumption) (Bt.lst_bd (by assumption) (by assumption)) (Bt.gst_bd (by assumption) (by assumption))))) (fun xq412 hq413 => ?_)
    by_cases hq414 : ((Fv.rk 3271426048)) < ((Fv.rk y))
    ·refine GL.stepG (tj := 56) rfl rfl (Ex.wp (v := (.bool true)) (Ex.cast (Ex.gtr rfl rfl) (congrArg Value.bool (decide_eq_true hq414))) (by decide)) (fun _ _ => ?_)
     refine GL.val (v := (.bool true)) (Ex.pickT rfl rfl) (by decide) ?_
     refine GL.val (Ex.move rfl) (by decide) ?_
     refine GL.stepG (tj := 62) rfl rfl (Ex.wp (v := (.int .u32 y)) (Ex.move rfl) (by decide)) (fun _ _ => ?_)
     refine GL.stepG (tj := 62) rfl rfl (Stp.callR (vs := [(.int .u32 y)]) rfl rfl T.own36 (by decide) (fun wc hw => key_l y wc (by first | assumption | omega | exact Bt.lst_bd (by assumption) (by assumption) | exact Bt.gst_bd (by assumption) (by assumption) | exact Bt.key_bd (by assumption) | exact Bt.unkey_bd (by assumption) | exact Bt.nxt_bd (by assumption) | exact Bt.lst_bd (Bt.gst_bd (by assumption) (by assumption)) (by assumption) | exact Bt.btw_bd (by assumption) (Bt.lst_bd (by assumption) (by assumption)) (Bt.gst_bd (by assumption) (by assumption))))) (fun xq415 hq416 => ?_)
     refine GL.stepG (tj := 62) rfl rfl (Stp.callR (vs := [(.int .u32 1124073472)]) rfl rfl T.own36 (by decide) (fun wc hw => key_l 1124073472 wc (by first | assumption | omega | exact Bt.lst_bd (by assumption) (by assumption) | exact Bt.gst_bd (by assumption) (by assumption) | exact Bt.key_bd (by assumption) | exact Bt.unkey_bd (by assumption) | exact Bt.nxt_bd (by assumption) | exact Bt.lst_bd (Bt.gst_bd (by assumption) (by assumption)) (by assumption) | exact Bt.btw_bd (by assumption) (Bt.lst_bd (by assumption) (by assumption)) (Bt.gst_bd (by assumption) (by assumption))))) (fun xq417 hq418 => ?_)
     refine GL.stepG (tj := 62) rfl rfl (Ex.wp (v := (.bool (decide (((Fv.rk y)) < ((Fv.rk 1124073472)))))) (Ex.lss rfl rfl) (by decide)) (fun _ _ => ?_)
     refine GL.val (v := (.bool (decide (((Fv.rk y)) < ((Fv.rk 1124073472)))))) (Ex.pickT rfl rfl) (by decide) ?_
     refine GL.nil ?_
     refine GE.thenN ?_
     refine GC.cond rfl (fun hq419 => ?_) (fun hq419 => ?_)
     ·replace hq419 := of_decide_eq_true hq419
      refine GC.seq ?_
      refine GC.region ?_
      refine GL.val (Ex.move rfl) (by decide) ?_
      refine GL.step (Stp.callR (vs := [(.int .u32 y)]) rfl rfl T.own20 (by decide) (fun wc hw => exp_p y wc (by omega))) (fun xq420 hq421 => ?_)
      refine GL.step (Stp.callR (vs := [(.int .u32 ((Sl.EX y)))]) rfl rfl T.own18 (by decide) (fun wc hw => log_p ((Sl.EX y)) wc (by omega))) (fun xq422 hq423 => ?_)
      refine GL.val (Ex.assign rfl) (by decide) ?_
      refine GL.nil ?_
      refine GE.thenN ?_
      refine GC.seq ?_
      have hp2 := Lb.back2' hy (by omega) (by omega)
      have hxb := Lb.expo_bd hy (by omega)
      by_cases hyb : (Sl.LG (Sl.EX y)) = y
      ·obtain ⟨g', m1, m2, he3, he4, hm12, hg'⟩ := Lb.mins (Bt.expo y) (-24)
       rw [hyb]
       refine GC.region ?_
       refine GL.val (Ex.move rfl) (by decide) ?_
       refine GL.step (Stp.callR (vs := [(.int .u32 y)]) rfl rfl T.own28 (by decide) (fun wc hw => finite_l y wc (by first | assumption | omega | exact Bt.lst_bd (by assumption) (by assumption) | exact Bt.gst_bd (by assumption) (by assumption) | exact Bt.key_bd (by assumption) | exact Bt.unkey_bd (by assumption) | exact Bt.nxt_bd (by assumption) | exact Bt.lst_bd (Bt.gst_bd (by assumption) (by assumption)) (by assumption) | exact Bt.btw_bd (by assumption) (Bt.lst_bd (by assumption) (by assumption)) (Bt.gst_bd (by assumption) (by assumption))))) (fun xq424 hq425 => ?_)
       refine GL.val (v := (.bool false)) (Ex.cast (Ex.not rfl) (congrArg Value.bool (congrArg (fun z => !z) (decide_eq_true (by assumption))))) (by decide) ?_
       refine GL.val (Ex.move rfl) (by decide) ?_
       refine GL.stepG (tj := 74) rfl rfl (Ex.wp (v := (.int .u32 y)) (Ex.move rfl) (by decide)) (fun _ _ => ?_)
       refine GL.stepG (tj := 74) rfl rfl (Ex.wp (v := (.int .u32 y)) (Ex.move rfl) (by decide)) (fun _ _ => ?_)
       refine GL.stepG (tj := 74) rfl rfl (Stp.callR (vs := [(.int .u32 y), (.int .u32 y)]) rfl rfl T.own34 (by decide) (fun wc hw => off_eq y y (Bt.expo y) 0 0 wc hy (by omega) hy (by omega) (by omega) (by omega) (.inl rfl) (by decide) (by decide) (by omega) (Lb.ne_not _) rfl)) (fun xq426 hq427 => ?_)
       refine GL.stepG (tj := 74) rfl rfl (Stp.callR (vs := [(.int .i64 (-24))]) rfl rfl T.own31 (by decide) (fun wc hw => power_l (-24) wc)) (fun xq428 hq429 => ?_)
       refine GL.stepG (tj := 74) rfl rfl (Stp.callR (vs := [(.agg #[(.int .i64 2), (.bool false), (.slice none 0 0), (.int .i64 ((Bt.expo y))), (.bool false)]), (.agg #[(.int .i64 2), (.bool false), (.slice (some ⟨xq428, 0, none⟩) ((Nd.nd 1)) 2), (.int .i64 (-24)), (.bool false)])]) rfl rfl T.own30 (by decide) (fun wc hw => within_n none 0 1 xq428 2 g' (Bt.expo y) (-24) m1 m2 false false wc (Nd.Nb.one (Lg.rd1 (hw.rdOf (i := 0) rfl 0)) (by decide)) (by rw [Nd.nd_one (by decide)]; decide) he3 he4 hm12 (by omega) (by omega) (by omega))) (fun xq430 hq431 => ?_)
       refine GL.stepG (tj := 74) rfl rfl (Ex.wp (v := (.bool false)) (Ex.cast (Ex.not rfl) rfl) (by decide)) (fun _ _ => ?_)
       refine GL.val (v := (.bool false)) (Ex.pickF rfl rfl) (by decide) ?_
       refine GL.val (Ex.move rfl) (by decide) ?_
       refine GL.stepG (tj := 82) rfl rfl (Ex.wp (v := (.int .u32 y)) (Ex.move rfl) (by decide)) (fun _ _ => ?_)
       refine GL.stepG (tj := 82) rfl rfl (Ex.wp (v := (.int .u32 (y % 2147483648))) (Ex.bits rfl rfl (by simp) (Z := y % 2147483648) (andm 31 (by omega) (by omega) (by decide) rfl rfl)) (by decide)) (fun _ _ => ?_)
       by_cases hq432 : 1065353216 ≤ (y % 2147483648)
       ·refine GL.stepG (tj := 82) rfl rfl (Ex.wp (v := (.bool true)) (Ex.cast (Ex.geq rfl rfl) (congrArg Value.bool (decide_eq_true hq432))) (by decide)) (fun _ _ => ?_)
        refine GL.stepG (tj := 82) rfl rfl (Ex.wp (v := (.bool true)) (Ex.move rfl) (by decide)) (fun _ _ => ?_)
        refine GL.stepG (tj := 86) rfl rfl (Ex.wp (v := (.int .u32 y)) (Ex.move rfl) (by decide)) (fun _ _ => ?_)
        refine GL.stepG (tj := 86) rfl rfl (Ex.wp (v := (.int .u32 y)) (Ex.move rfl) (by decide)) (fun _ _ => ?_)
        refine GL.stepG (tj := 86) rfl rfl (Ex.wp (v := (.bool false)) (Ex.cast (Ex.neq rfl rfl) (congrArg Value.bool (decide_eq_false (by simp)))) (by decide)) (fun _ _ => ?_)
        refine GL.stepG (tj := 82) rfl rfl (Ex.wp (v := (.bool false)) (Ex.pickT rfl rfl) (by decide)) (fun _ _ => ?_)
        refine GL.val (v := (.bool false)) (Ex.pickF rfl rfl) (by decide) ?_
        refine GL.nil ?_
        refine GE.thenN ?_
        refine GC.cond rfl (fun hq433 => by cases hq433) (fun _ => ?_)
        refine GC.skip ?_
        refine GE.thenN ?_
        refine GC.seq ?_
        refine GC.region ?_
        refine GL.val (Ex.move rfl) (by decide) ?_
        refine GL.val (v := (.int .i64 q)) (Ex.rem rfl rfl (Z := q) (by decide) (by first | exact hq.symm | (rw [← hq]; exact w64 (by omega)))) (by decide) ?_
        refine GL.val (v := (.int .i64 (q + 254))) (Ex.add rfl rfl (Z := q + 254) (w64 (by omega))) (by decide) ?_
        refine GL.val (v := (.int .i64 ((q + 254) % 254))) (Ex.rem rfl rfl (Z := (q + 254) % 254) (by omega) (rem64 (by omega) (by omega))) (by decide) ?_
        refine GL.val (v := (.int .i64 (((q + 254) % 254) - 126))) (Ex.sub' rfl rfl (Z := ((q + 254) % 254) - 126) (w64 (by omega))) (by decide) ?_
        refine GL.val (Ex.assign rfl) (by decide) ?_
        refine GL.nil ?_
        refine GE.thenN ?_
        refine GC.seq ?_
        obtain ⟨j, hj⟩ : ∃ j, j = ((q + 254) % 254) - 126 := ⟨_, rfl⟩
        rw [← hj]
        have hp3 := Lb.back3 (k := j) (by omega) (by omega)
        have hFI := Lb.FI_u32 (k := j) (by omega) (by omega)
        refine GC.region ?_
        refine GL.val (Ex.move rfl) (by decide) ?_
        refine GL.val (v := (.int .i64 (j + 127))) (Ex.add rfl rfl (Z := j + 127) (w64 (by omega))) (by decide) ?_
        refine GL.val (v := (.int .u32 (j + 127))) (Ex.conv rfl Try.underlying3 Try.underlying23 (Z := j + 127) (wu32b (by omega))) (by decide) ?_
        refine GL.val (v := (.int .u32 ((j + 127) * 8388608))) (Ex.shl rfl (m := 23) rfl (by decide) (Z := (j + 127) * 8388608) (wu32b (by omega))) (by decide) ?_
        refine GL.step (Stp.callR (vs := [(.int .u32 ((j + 127) * 8388608))]) rfl rfl T.own18 (by decide) (fun wc hw => log_p ((j + 127) * 8388608) wc (by omega))) (fun xq434 hq435 => ?_)
        refine GL.val (Ex.move rfl) (by decide) ?_
        refine GL.step (Stp.callR (vs := [(.int .i64 j)]) rfl rfl T.own37 (by decide) (fun wc hw => fromint_all j wc (by omega))) (fun xq436 hq437 => ?_)
        refine GL.val (v := (.bool true)) (Ex.cast (Ex.eql rfl rfl) (congrArg Value.bool (decide_eq_true (by exact hp3.1)))) (by decide) ?_
        refine GL.val (Ex.move rfl) (by decide) ?_
        refine GL.stepG (tj := 105) rfl rfl (Ex.wp (v := (.int .i64 j)) (Ex.move rfl) (by decide)) (fun _ _ => ?_)
        refine GL.stepG (tj := 105) rfl rfl (Stp.callR (vs := [(.int .i64 j)]) rfl rfl T.own37 (by decide) (fun wc hw => fromint_all j wc (by omega))) (fun xq438 hq439 => ?_)
        refine GL.stepG (tj := 105) rfl rfl (Stp.callR (vs := [(.int .u32 ((Lb.FI j)))]) rfl rfl T.own20 (by decide) (fun wc hw => exp_p ((Lb.FI j)) wc (by omega))) (fun xq440 hq441 => ?_)
        refine GL.stepG (tj := 105) rfl rfl (Ex.wp (v := (.int .i64 j)) (Ex.move rfl) (by decide)) (fun _ _ => ?_)
        refine GL.stepG (tj := 105) rfl rfl (Ex.wp (v := (.int .i64 (j + 127))) (Ex.add rfl rfl (Z := j + 127) (w64 (by omega))) (by decide)) (fun _ _ => ?_)
        refine GL.stepG (tj := 105) rfl rfl (Ex.wp (v := (.int .u32 (j + 127))) (Ex.conv rfl Try.underlying3 Try.underlying23 (Z := j + 127) (wu32b (by omega))) (by decide)) (fun _ _ => ?_)
        refine GL.stepG (tj := 105) rfl rfl (Ex.wp (v := (.int .u32 ((j + 127) * 8388608))) (Ex.shl rfl (m := 23) rfl (by decide) (Z := (j + 127) * 8388608) (wu32b (by omega))) (by decide)) (fun _ _ => ?_)
        refine GL.stepG (tj := 105) rfl rfl (Ex.wp (v := (.bool true)) (Ex.cast (Ex.eql rfl rfl) (congrArg Value.bool (decide_eq_true (by exact hp3.2)))) (by decide)) (fun _ _ => ?_)
        refine GL.val (v := (.bool true)) (Ex.pickT rfl rfl) (by decide) ?_
        refine GL.val (Ex.assign rfl) (by decide) ?_
        refine GL.nil ?_
        refine GE.thenN ?_
        refine GC.ret ?_
        refine GC.ret1 rfl (Rv.tmp rfl) (fun wN HN => ?_)
        exact HN.ret () trivial (by first | rfl | simp) (List.nil_sublist _) rfl
       ·refine GL.stepG (tj := 82) rfl rfl (Ex.wp (v := (.bool false)) (Ex.cast (Ex.geq rfl rfl) (congrArg Value.bool (decide_eq_false hq432))) (by decide)) (fun _ _ => ?_)
        refine GL.stepG (tj := 82) rfl rfl (Ex.wp (v := (.bool false)) (Ex.move rfl) (by decide)) (fun _ _ => ?_)
        refine GL.skipG (tj := 86) rfl rfl rfl (by decide) ?_
        refine GL.skipG (tj := 86) rfl rfl rfl (by decide) ?_
        refine GL.skipG (tj := 86) rfl rfl rfl (by decide) ?_
        refine GL.stepG (tj := 82) rfl rfl (Ex.wp (v := (.bool false)) (Ex.pickF rfl rfl) (by decide)) (fun _ _ => ?_)
        refine GL.val (v := (.bool false)) (Ex.pickF rfl rfl) (by decide) ?_
        refine GL.nil ?_
        refine GE.thenN ?_
        refine GC.cond rfl (fun hq442 => by cases hq442) (fun _ => ?_)
        refine GC.skip ?_
        refine GE.thenN ?_
        refine GC.seq ?_
        refine GC.region ?_
        refine GL.val (Ex.move rfl) (by decide) ?_
        refine GL.val (v := (.int .i64 q)) (Ex.rem rfl rfl (Z := q) (by decide) (by first | exact hq.symm | (rw [← hq]; exact w64 (by omega)))) (by decide) ?_
        refine GL.val (v := (.int .i64 (q + 254))) (Ex.add rfl rfl (Z := q + 254) (w64 (by omega))) (by decide) ?_
        refine GL.val (v := (.int .i64 ((q + 254) % 254))) (Ex.rem rfl rfl (Z := (q + 254) % 254) (by omega) (rem64 (by omega) (by omega))) (by decide) ?_
        refine GL.val (v := (.int .i64 (((q + 254) % 254) - 126))) (Ex.sub' rfl rfl (Z := ((q + 254) % 254) - 126) (w64 (by omega))) (by decide) ?_
        refine GL.val (Ex.assign rfl) (by decide) ?_
        refine GL.nil ?_
        refine GE.thenN ?_
        refine GC.seq ?_
        obtain ⟨j, hj⟩ : ∃ j, j = ((q + 254) % 254) - 126 := ⟨_, rfl⟩
        rw [← hj]
        have hp3 := Lb.back3 (k := j) (by omega) (by omega)
        have hFI := Lb.FI_u32 (k := j) (by omega) (by omega)
        refine GC.region ?_
        refine GL.val (Ex.move rfl) (by decide) ?_
        refine GL.val (v := (.int .i64 (j + 127))) (Ex.add rfl rfl (Z := j + 127) (w64 (by omega))) (by decide) ?_
        refine GL.val (v := (.int .u32 (j + 127))) (Ex.conv rfl Try.underlying3 Try.underlying23 (Z := j + 127) (wu32b (by omega))) (by decide) ?_
        refine GL.val (v := (.int .u32 ((j + 127) * 8388608))) (Ex.shl rfl (m := 23) rfl (by decide) (Z := (j + 127) * 8388608) (wu32b (by omega))) (by decide) ?_
        refine GL.step (Stp.callR (vs := [(.int .u32 ((j + 127) * 8388608))]) rfl rfl T.own18 (by decide) (fun wc hw => log_p ((j + 127) * 8388608) wc (by omega))) (fun xq443 hq444 => ?_)
        refine GL.val (Ex.move rfl) (by decide) ?_
        refine GL.step (Stp.callR (vs := [(.int .i64 j)]) rfl rfl T.own37 (by decide) (fun wc hw => fromint_all j wc (by omega))) (fun xq445 hq446 => ?_)
        refine GL.val (v := (.bool true)) (Ex.cast (Ex.eql rfl rfl) (congrArg Value.bool (decide_eq_true (by exact hp3.1)))) (by decide) ?_
        refine GL.val (Ex.move rfl) (by decide) ?_
        refine GL.stepG (tj := 105) rfl rfl (Ex.wp (v := (.int .i64 j)) (Ex.move rfl) (by decide)) (fun _ _ => ?_)
        refine GL.stepG (tj := 105) rfl rfl (Stp.callR (vs := [(.int .i64 j)]) rfl rfl T.own37 (by decide) (fun wc hw => fromint_all j wc (by omega))) (fun xq447 hq448 => ?_)
        refine GL.stepG (tj := 105) rfl rfl (Stp.callR (vs := [(.int .u32 ((Lb.FI j)))]) rfl rfl T.own20 (by decide) (fun wc hw => exp_p ((Lb.FI j)) wc (by omega))) (fun xq449 hq450 => ?_)
        refine GL.stepG (tj := 105) rfl rfl (Ex.wp (v := (.int .i64 j)) (Ex.move rfl) (by decide)) (fun _ _ => ?_)
        refine GL.stepG (tj := 105) rfl rfl (Ex.wp (v := (.int .i64 (j + 127))) (Ex.add rfl rfl (Z := j + 127) (w64 (by omega))) (by decide)) (fun _ _ => ?_)
        refine GL.stepG (tj := 105) rfl rfl (Ex.wp (v := (.int .u32 (j + 127))) (Ex.conv rfl Try.underlying3 Try.underlying23 (Z := j + 127) (wu32b (by omega))) (by decide)) (fun _ _ => ?_)
        refine GL.stepG (tj := 105) rfl rfl (Ex.wp (v := (.int .u32 ((j + 127) * 8388608))) (Ex.shl rfl (m := 23) rfl (by decide) (Z := (j + 127) * 8388608) (wu32b (by omega))) (by decide)) (fun _ _ => ?_)
        refine GL.stepG (tj := 105) rfl rfl (Ex.wp (v := (.bool true)) (Ex.cast (Ex.eql rfl rfl) (congrArg Value.bool (decide_eq_true (by exact hp3.2)))) (by decide)) (fun _ _ => ?_)
        refine GL.val (v := (.bool true)) (Ex.pickT rfl rfl) (by decide) ?_
        refine GL.val (Ex.assign rfl) (by decide) ?_
        refine GL.nil ?_
        refine GE.thenN ?_
        refine GC.ret ?_
        refine GC.ret1 rfl (Rv.tmp rfl) (fun wN HN => ?_)
        exact HN.ret () trivial (by first | rfl | simp) (List.nil_sublist _) rfl
      ·have hxc := Lb.expo_bd hLy hp2.1
       obtain ⟨e, n1, n2, he1, he2, hn12, he⟩ := Lb.mins (Bt.expo y) (Bt.expo (Sl.LG (Sl.EX y)))
       obtain ⟨g', m1, m2, he3, he4, hm12, hg'⟩ := Lb.mins e (-24)
       have hW := Lb.near_ok hy (by omega) hLy hp2.1 he1 he2 he3 he4 (by omega) hp2.2.2
       refine GC.region ?_
       refine GL.val (Ex.move rfl) (by decide) ?_
       refine GL.step (Stp.callR (vs := [(.int .u32 ((Sl.LG ((Sl.EX y)))))]) rfl rfl T.own28 (by decide) (fun wc hw => finite_l ((Sl.LG ((Sl.EX y)))) wc (by first | assumption | omega | exact Bt.lst_bd (by assumption) (by assumption) | exact Bt.gst_bd (by assumption) (by assumption) | exact Bt.key_bd (by assumption) | exact Bt.unkey_bd (by assumption) | exact Bt.nxt_bd (by assumption) | exact Bt.lst_bd (Bt.gst_bd (by assumption) (by assumption)) (by assumption) | exact Bt.btw_bd (by assumption) (Bt.lst_bd (by assumption) (by assumption)) (Bt.gst_bd (by assumption) (by assumption))))) (fun xq451 hq452 => ?_)
       refine GL.val (v := (.bool false)) (Ex.cast (Ex.not rfl) (congrArg Value.bool (congrArg (fun z => !z) (decide_eq_true (by exact hp2.1))))) (by decide) ?_
       refine GL.val (Ex.move rfl) (by decide) ?_
       refine GL.stepG (tj := 74) rfl rfl (Ex.wp (v := (.int .u32 y)) (Ex.move rfl) (by decide)) (fun _ _ => ?_)
       refine GL.stepG (tj := 74) rfl rfl (Ex.wp (v := (.int .u32 ((Sl.LG ((Sl.EX y)))))) (Ex.move rfl) (by decide)) (fun _ _ => ?_)
       refine GL.stepG (tj := 74) rfl rfl (Stp.callR (vs := [(.int .u32 y), (.int .u32 ((Sl.LG ((Sl.EX y)))))]) rfl rfl T.own34 (by decide) (fun wc hw => off_ne y ((Sl.LG ((Sl.EX y)))) e n1 n2 wc hy (by omega) hLy hp2.1 he1 he2 hn12 (by omega) (by omega) (by omega) (fun q => hyb q.symm))) (fun xq453 hq454 => ?_)
       have hpx := hq454
       refine GL.stepG (tj := 74) rfl rfl (Stp.callR (vs := [(.int .i64 (-24))]) rfl rfl T.own31 (by decide) (fun wc hw => power_l (-24) wc)) (fun xq455 hq456 => ?_)
       refine GL.stepG (tj := 74) rfl rfl (Stp.callR (vs := [(.agg #[(.int .i64 2), (.bool false), (.slice (some ⟨xq453.1, 0, none⟩) ((Nd.nd (Lb.dfr (decide (y / 2147483648 % 2 = 1)) (decide (((Sl.LG ((Sl.EX y)))) / 2147483648 % 2 = 1)) ((Bt.mant y).toNat * 2 ^ n1) ((Bt.mant ((Sl.LG ((Sl.EX y))))).toNat * 2 ^ n2)))) xq453.2), (.int .i64 e), (.bool false)]), (.agg #[(.int .i64 2), (.bool false), (.slice (some ⟨xq455, 0, none⟩) ((Nd.nd 1)) 2), (.int .i64 (-24)), (.bool false)])]) rfl rfl T.own30 (by decide) (fun wc hw => within_b (Lb.dfr (decide (y / 2147483648 % 2 = 1)) (decide (((Sl.LG ((Sl.EX y)))) / 2147483648 % 2 = 1)) ((Bt.mant y).toNat * 2 ^ n1) ((Bt.mant ((Sl.LG ((Sl.EX y))))).toNat * 2 ^ n2)) xq453.1 xq453.2 1 xq455 2 g' e (-24) m1 m2 false false wc (Nd.Nb.of (hw.rdOf (i := 1) rfl 0) (Lb.nd_lt_of hpx)) (Nat.le_trans (Lb.dfr_nd hy hLy (by omega) (by omega) _ _) (by decide)) (Nd.Nb.one (Lg.rd1 (hw.rdOf (i := 0) rfl 0)) (by decide)) (by rw [Nd.nd_one (by decide)]; decide) he3 he4 hm12 (by omega) (by omega) (by omega))) (fun xq457 hq458 => ?_)
       refine GL.stepG (tj := 74) rfl rfl (Ex.wp (v := (.bool false)) (Ex.cast (Ex.not rfl) (congrArg Value.bool (congrArg (fun z => !z) (decide_eq_true (by exact hW))))) (by decide)) (fun _ _ => ?_)
       refine GL.val (v := (.bool false)) (Ex.pickF rfl rfl) (by decide) ?_
       refine GL.val (Ex.move rfl) (by decide) ?_
       refine GL.stepG (tj := 82) rfl rfl (Ex.wp (v := (.int .u32 y)) (Ex.move rfl) (by decide)) (fun _ _ => ?_)
       refine GL.stepG (tj := 82) rfl rfl (Ex.wp (v := (.int .u32 (y % 2147483648))) (Ex.bits rfl rfl (by simp) (Z := y % 2147483648) (andm 31 (by omega) (by omega) (by decide) rfl rfl)) (by decide)) (fun _ _ => ?_)
       by_cases hq459 : 1065353216 ≤ (y % 2147483648)
       ·refine GL.stepG (tj := 82) rfl rfl (Ex.wp (v := (.bool true)) (Ex.cast (Ex.geq rfl rfl) (congrArg Value.bool (decide_eq_true hq459))) (by decide)) (fun _ _ => ?_)
        refine GL.stepG (tj := 82) rfl rfl (Ex.wp (v := (.bool true)) (Ex.move rfl) (by decide)) (fun _ _ => ?_)
        refine GL.stepG (tj := 86) rfl rfl (Ex.wp (v := (.int .u32 ((Sl.LG ((Sl.EX y)))))) (Ex.move rfl) (by decide)) (fun _ _ => ?_)
        refine GL.stepG (tj := 86) rfl rfl (Ex.wp (v := (.int .u32 y)) (Ex.move rfl) (by decide)) (fun _ _ => ?_)
        refine GL.stepG (tj := 86) rfl rfl (Ex.wp (v := (.bool false)) (Ex.cast (Ex.neq rfl rfl) (congrArg Value.bool (decide_eq_false (by exact absurd (hp2.2.1 (by omega)) hyb)))) (by decide)) (fun _ _ => ?_)
        refine GL.stepG (tj := 82) rfl rfl (Ex.wp (v := (.bool false)) (Ex.pickT rfl rfl) (by decide)) (fun _ _ => ?_)
        refine GL.val (v := (.bool false)) (Ex.pickF rfl rfl) (by decide) ?_
        refine GL.nil ?_
        refine GE.thenN ?_
        refine GC.cond rfl (fun hq460 => by cases hq460) (fun _ => ?_)
        refine GC.skip ?_
        refine GE.thenN ?_
        refine GC.seq ?_
        refine GC.region ?_
        refine GL.val (Ex.move rfl) (by decide) ?_
        refine GL.val (v := (.int .i64 q)) (Ex.rem rfl rfl (Z := q) (by decide) (by first | exact hq.symm | (rw [← hq]; exact w64 (by omega)))) (by decide) ?_
        refine GL.val (v := (.int .i64 (q + 254))) (Ex.add rfl rfl (Z := q + 254) (w64 (by omega))) (by decide) ?_
        refine GL.val (v := (.int .i64 ((q + 254) % 254))) (Ex.rem rfl rfl (Z := (q + 254) % 254) (by omega) (rem64 (by omega) (by omega))) (by decide) ?_
        refine GL.val (v := (.int .i64 (((q + 254) % 254) - 126))) (Ex.sub' rfl rfl (Z := ((q + 254) % 254) - 126) (w64 (by omega))) (by decide) ?_
        refine GL.val (Ex.assign rfl) (by decide) ?_
        refine GL.nil ?_
        refine GE.thenN ?_
        refine GC.seq ?_
        obtain ⟨j, hj⟩ : ∃ j, j = ((q + 254) % 254) - 126 := ⟨_, rfl⟩
        rw [← hj]
        have hp3 := Lb.back3 (k := j) (by omega) (by omega)
        have hFI := Lb.FI_u32 (k := j) (by omega) (by omega)
        refine GC.region ?_
        refine GL.val (Ex.move rfl) (by decide) ?_
        refine GL.val (v := (.int .i64 (j + 127))) (Ex.add rfl rfl (Z := j + 127) (w64 (by omega))) (by decide) ?_
        refine GL.val (v := (.int .u32 (j + 127))) (Ex.conv rfl Try.underlying3 Try.underlying23 (Z := j + 127) (wu32b (by omega))) (by decide) ?_
        refine GL.val (v := (.int .u32 ((j + 127) * 8388608))) (Ex.shl rfl (m := 23) rfl (by decide) (Z := (j + 127) * 8388608) (wu32b (by omega))) (by decide) ?_
        refine GL.step (Stp.callR (vs := [(.int .u32 ((j + 127) * 8388608))]) rfl rfl T.own18 (by decide) (fun wc hw => log_p ((j + 127) * 8388608) wc (by omega))) (fun xq461 hq462 => ?_)
        refine GL.val (Ex.move rfl) (by decide) ?_
        refine GL.step (Stp.callR (vs := [(.int .i64 j)]) rfl rfl T.own37 (by decide) (fun wc hw => fromint_all j wc (by omega))) (fun xq463 hq464 => ?_)
        refine GL.val (v := (.bool true)) (Ex.cast (Ex.eql rfl rfl) (congrArg Value.bool (decide_eq_true (by exact hp3.1)))) (by decide) ?_
        refine GL.val (Ex.move rfl) (by decide) ?_
        refine GL.stepG (tj := 105) rfl rfl (Ex.wp (v := (.int .i64 j)) (Ex.move rfl) (by decide)) (fun _ _ => ?_)
        refine GL.stepG (tj := 105) rfl rfl (Stp.callR (vs := [(.int .i64 j)]) rfl rfl T.own37 (by decide) (fun wc hw => fromint_all j wc (by omega))) (fun xq465 hq466 => ?_)
        refine GL.stepG (tj := 105) rfl rfl (Stp.callR (vs := [(.int .u32 ((Lb.FI j)))]) rfl rfl T.own20 (by decide) (fun wc hw => exp_p ((Lb.FI j)) wc (by omega))) (fun xq467 hq468 => ?_)
        refine GL.stepG (tj := 105) rfl rfl (Ex.wp (v := (.int .i64 j)) (Ex.move rfl) (by decide)) (fun _ _ => ?_)
        refine GL.stepG (tj := 105) rfl rfl (Ex.wp (v := (.int .i64 (j + 127))) (Ex.add rfl rfl (Z := j + 127) (w64 (by omega))) (by decide)) (fun _ _ => ?_)
        refine GL.stepG (tj := 105) rfl rfl (Ex.wp (v := (.int .u32 (j + 127))) (Ex.conv rfl Try.underlying3 Try.underlying23 (Z := j + 127) (wu32b (by omega))) (by decide)) (fun _ _ => ?_)
        refine GL.stepG (tj := 105) rfl rfl (Ex.wp (v := (.int .u32 ((j + 127) * 8388608))) (Ex.shl rfl (m := 23) rfl (by decide) (Z := (j + 127) * 8388608) (wu32b (by omega))) (by decide)) (fun _ _ => ?_)
        refine GL.stepG (tj := 105) rfl rfl (Ex.wp (v := (.bool true)) (Ex.cast (Ex.eql rfl rfl) (congrArg Value.bool (decide_eq_true (by exact hp3.2)))) (by decide)) (fun _ _ => ?_)
        refine GL.val (v := (.bool true)) (Ex.pickT rfl rfl) (by decide) ?_
        refine GL.val (Ex.assign rfl) (by decide) ?_
        refine GL.nil ?_
        refine GE.thenN ?_
        refine GC.ret ?_
        refine GC.ret1 rfl (Rv.tmp rfl) (fun wN HN => ?_)
        exact HN.ret () trivial (by first | rfl | simp) (List.nil_sublist _) rfl
       ·refine GL.stepG (tj := 82) rfl rfl (Ex.wp (v := (.bool false)) (Ex.cast (Ex.geq rfl rfl) (congrArg Value.bool (decide_eq_false hq459))) (by decide)) (fun _ _ => ?_)
        refine GL.stepG (tj := 82) rfl rfl (Ex.wp (v := (.bool false)) (Ex.move rfl) (by decide)) (fun _ _ => ?_)
        refine GL.skipG (tj := 86) rfl rfl rfl (by decide) ?_
        refine GL.skipG (tj := 86) rfl rfl rfl (by decide) ?_
        refine GL.skipG (tj := 86) rfl rfl rfl (by decide) ?_
        refine GL.stepG (tj := 82) rfl rfl (Ex.wp (v := (.bool false)) (Ex.pickF rfl rfl) (by decide)) (fun _ _ => ?_)
        refine GL.val (v := (.bool false)) (Ex.pickF rfl rfl) (by decide) ?_
        refine GL.nil ?_
        refine GE.thenN ?_
        refine GC.cond rfl (fun hq469 => by cases hq469) (fun _ => ?_)
        refine GC.skip ?_
        refine GE.thenN ?_
        refine GC.seq ?_
        refine GC.region ?_
        refine GL.val (Ex.move rfl) (by decide) ?_
        refine GL.val (v := (.int .i64 q)) (Ex.rem rfl rfl (Z := q) (by decide) (by first | exact hq.symm | (rw [← hq]; exact w64 (by omega)))) (by decide) ?_
        refine GL.val (v := (.int .i64 (q + 254))) (Ex.add rfl rfl (Z := q + 254) (w64 (by omega))) (by decide) ?_
        refine GL.val (v := (.int .i64 ((q + 254) % 254))) (Ex.rem rfl rfl (Z := (q + 254) % 254) (by omega) (rem64 (by omega) (by omega))) (by decide) ?_
        refine GL.val (v := (.int .i64 (((q + 254) % 254) - 126))) (Ex.sub' rfl rfl (Z := ((q + 254) % 254) - 126) (w64 (by omega))) (by decide) ?_
        refine GL.val (Ex.assign rfl) (by decide) ?_
        refine GL.nil ?_
        refine GE.thenN ?_
        refine GC.seq ?_
        obtain ⟨j, hj⟩ : ∃ j, j = ((q + 254) % 254) - 126 := ⟨_, rfl⟩
        rw [← hj]
        have hp3 := Lb.back3 (k := j) (by omega) (by omega)
        have hFI := Lb.FI_u32 (k := j) (by omega) (by omega)
        refine GC.region ?_
        refine GL.val (Ex.move rfl) (by decide) ?_
        refine GL.val (v := (.int .i64 (j + 127))) (Ex.add rfl rfl (Z := j + 127) (w64 (by omega))) (by decide) ?_
        refine GL.val (v := (.int .u32 (j + 127))) (Ex.conv rfl Try.underlying3 Try.underlying23 (Z := j + 127) (wu32b (by omega))) (by decide) ?_
        refine GL.val (v := (.int .u32 ((j + 127) * 8388608))) (Ex.shl rfl (m := 23) rfl (by decide) (Z := (j + 127) * 8388608) (wu32b (by omega))) (by decide) ?_
        refine GL.step (Stp.callR (vs := [(.int .u32 ((j + 127) * 8388608))]) rfl rfl T.own18 (by decide) (fun wc hw => log_p ((j + 127) * 8388608) wc (by omega))) (fun xq470 hq471 => ?_)
        refine GL.val (Ex.move rfl) (by decide) ?_
        refine GL.step (Stp.callR (vs := [(.int .i64 j)]) rfl rfl T.own37 (by decide) (fun wc hw => fromint_all j wc (by omega))) (fun xq472 hq473 => ?_)
        refine GL.val (v := (.bool true)) (Ex.cast (Ex.eql rfl rfl) (congrArg Value.bool (decide_eq_true (by exact hp3.1)))) (by decide) ?_
        refine GL.val (Ex.move rfl) (by decide) ?_
        refine GL.stepG (tj := 105) rfl rfl (Ex.wp (v := (.int .i64 j)) (Ex.move rfl) (by decide)) (fun _ _ => ?_)
        refine GL.stepG (tj := 105) rfl rfl (Stp.callR (vs := [(.int .i64 j)]) rfl rfl T.own37 (by decide) (fun wc hw => fromint_all j wc (by omega))) (fun xq474 hq475 => ?_)
        refine GL.stepG (tj := 105) rfl rfl (Stp.callR (vs := [(.int .u32 ((Lb.FI j)))]) rfl rfl T.own20 (by decide) (fun wc hw => exp_p ((Lb.FI j)) wc (by omega))) (fun xq476 hq477 => ?_)
        refine GL.stepG (tj := 105) rfl rfl (Ex.wp (v := (.int .i64 j)) (Ex.move rfl) (by decide)) (fun _ _ => ?_)
        refine GL.stepG (tj := 105) rfl rfl (Ex.wp (v := (.int .i64 (j + 127))) (Ex.add rfl rfl (Z := j + 127) (w64 (by omega))) (by decide)) (fun _ _ => ?_)
        refine GL.stepG (tj := 105) rfl rfl (Ex.wp (v := (.int .u32 (j + 127))) (Ex.conv rfl Try.underlying3 Try.underlying23 (Z := j + 127) (wu32b (by omega))) (by decide)) (fun _ _ => ?_)
        refine GL.stepG (tj := 105) rfl rfl (Ex.wp (v := (.int .u32 ((j + 127) * 8388608))) (Ex.shl rfl (m := 23) rfl (by decide) (Z := (j + 127) * 8388608) (wu32b (by omega))) (by decide)) (fun _ _ => ?_)
        refine GL.stepG (tj := 105) rfl rfl (Ex.wp (v := (.bool true)) (Ex.cast (Ex.eql rfl rfl) (congrArg Value.bool (decide_eq_true (by exact hp3.2)))) (by decide)) (fun _ _ => ?_)
        refine GL.val (v := (.bool true)) (Ex.pickT rfl rfl) (by decide) ?_
        refine GL.val (Ex.assign rfl) (by decide) ?_
        refine GL.nil ?_
        refine GE.thenN ?_
        refine GC.ret ?_
        refine GC.ret1 rfl (Rv.tmp rfl) (fun wN HN => ?_)
        exact HN.ret () trivial (by first | rfl | simp) (List.nil_sublist _) rfl
     ·replace hq419 := of_decide_eq_false hq419
      refine GC.skip ?_
      refine GE.thenN ?_
      refine GC.seq ?_
      refine GC.region ?_
      refine GL.val (Ex.move rfl) (by decide) ?_
      refine GL.val (v := (.int .i64 q)) (Ex.rem rfl rfl (Z := q) (by decide) (by first | exact hq.symm | (rw [← hq]; exact w64 (by omega)))) (by decide) ?_
      refine GL.val (v := (.int .i64 (q + 254))) (Ex.add rfl rfl (Z := q + 254) (w64 (by omega))) (by decide) ?_
      refine GL.val (v := (.int .i64 ((q + 254) % 254))) (Ex.rem rfl rfl (Z := (q + 254) % 254) (by omega) (rem64 (by omega) (by omega))) (by decide) ?_
      refine GL.val (v := (.int .i64 (((q + 254) % 254) - 126))) (Ex.sub' rfl rfl (Z := ((q + 254) % 254) - 126) (w64 (by omega))) (by decide) ?_
      refine GL.val (Ex.assign rfl) (by decide) ?_
      refine GL.nil ?_
      refine GE.thenN ?_
      refine GC.seq ?_
      obtain ⟨j, hj⟩ : ∃ j, j = ((q + 254) % 254) - 126 := ⟨_, rfl⟩
      rw [← hj]
      have hp3 := Lb.back3 (k := j) (by omega) (by omega)
      have hFI := Lb.FI_u32 (k := j) (by omega) (by omega)
      refine GC.region ?_
      refine GL.val (Ex.move rfl) (by decide) ?_
      refine GL.val (v := (.int .i64 (j + 127))) (Ex.add rfl rfl (Z := j + 127) (w64 (by omega))) (by decide) ?_
      refine GL.val (v := (.int .u32 (j + 127))) (Ex.conv rfl Try.underlying3 Try.underlying23 (Z := j + 127) (wu32b (by omega))) (by decide) ?_
      refine GL.val (v := (.int .u32 ((j + 127) * 8388608))) (Ex.shl rfl (m := 23) rfl (by decide) (Z := (j + 127) * 8388608) (wu32b (by omega))) (by decide) ?_
      refine GL.step (Stp.callR (vs := [(.int .u32 ((j + 127) * 8388608))]) rfl rfl T.own18 (by decide) (fun wc hw => log_p ((j + 127) * 8388608) wc (by omega))) (fun xq478 hq479 => ?_)
      refine GL.val (Ex.move rfl) (by decide) ?_
      refine GL.step (Stp.callR (vs := [(.int .i64 j)]) rfl rfl T.own37 (by decide) (fun wc hw => fromint_all j wc (by omega))) (fun xq480 hq481 => ?_)
      refine GL.val (v := (.bool true)) (Ex.cast (Ex.eql rfl rfl) (congrArg Value.bool (decide_eq_true (by exact hp3.1)))) (by decide) ?_
      refine GL.val (Ex.move rfl) (by decide) ?_
      refine GL.stepG (tj := 105) rfl rfl (Ex.wp (v := (.int .i64 j)) (Ex.move rfl) (by decide)) (fun _ _ => ?_)
      refine GL.stepG (tj := 105) rfl rfl (Stp.callR (vs := [(.int .i64 j)]) rfl rfl T.own37 (by decide) (fun wc hw => fromint_all j wc (by omega))) (fun xq482 hq483 => ?_)
      refine GL.stepG (tj := 105) rfl rfl (Stp.callR (vs := [(.int .u32 ((Lb.FI j)))]) rfl rfl T.own20 (by decide) (fun wc hw => exp_p ((Lb.FI j)) wc (by omega))) (fun xq484 hq485 => ?_)
      refine GL.stepG (tj := 105) rfl rfl (Ex.wp (v := (.int .i64 j)) (Ex.move rfl) (by decide)) (fun _ _ => ?_)
      refine GL.stepG (tj := 105) rfl rfl (Ex.wp (v := (.int .i64 (j + 127))) (Ex.add rfl rfl (Z := j + 127) (w64 (by omega))) (by decide)) (fun _ _ => ?_)
      refine GL.stepG (tj := 105) rfl rfl (Ex.wp (v := (.int .u32 (j + 127))) (Ex.conv rfl Try.underlying3 Try.underlying23 (Z := j + 127) (wu32b (by omega))) (by decide)) (fun _ _ => ?_)
      refine GL.stepG (tj := 105) rfl rfl (Ex.wp (v := (.int .u32 ((j + 127) * 8388608))) (Ex.shl rfl (m := 23) rfl (by decide) (Z := (j + 127) * 8388608) (wu32b (by omega))) (by decide)) (fun _ _ => ?_)
      refine GL.stepG (tj := 105) rfl rfl (Ex.wp (v := (.bool true)) (Ex.cast (Ex.eql rfl rfl) (congrArg Value.bool (decide_eq_true (by exact hp3.2)))) (by decide)) (fun _ _ => ?_)
      refine GL.val (v := (.bool true)) (Ex.pickT rfl rfl) (by decide) ?_
      refine GL.val (Ex.assign rfl) (by decide) ?_
      refine GL.nil ?_
      refine GE.thenN ?_
      refine GC.ret ?_
      refine GC.ret1 rfl (Rv.tmp rfl) (fun wN HN => ?_)
      exact HN.ret () trivial (by first | rfl | simp) (List.nil_sublist _) rfl
    ·refine GL.stepG (tj := 56) rfl rfl (Ex.wp (v := (.bool false)) (Ex.cast (Ex.gtr rfl rfl) (congrArg Value.bool (decide_eq_false hq414))) (by decide)) (fun _ _ => ?_)
     refine GL.val (v := (.bool false)) (Ex.pickT rfl rfl) (by decide) ?_
     refine GL.val (Ex.move rfl) (by decide) ?_
     refine GL.skipG (tj := 62) rfl rfl rfl (by decide) ?_
     refine GL.skipG (tj := 62) rfl rfl rfl (by decide) ?_
     refine GL.skipG (tj := 62) rfl rfl rfl (by decide) ?_
     refine GL.skipG (tj := 62) rfl rfl rfl (by decide) ?_
     refine GL.val (v := (.bool false)) (Ex.pickF rfl rfl) (by decide) ?_
     refine GL.nil ?_
     refine GE.thenN ?_
     refine GC.cond rfl (fun hq486 => by cases hq486) (fun _ => ?_)
     refine GC.skip ?_
     refine GE.thenN ?_
     refine GC.seq ?_
     refine GC.region ?_
     refine GL.val (Ex.move rfl) (by decide) ?_
     refine GL.val (v := (.int .i64 q)) (Ex.rem rfl rfl (Z := q) (by decide) (by first | exact hq.symm | (rw [← hq]; exact w64 (by omega)))) (by decide) ?_
     refine GL.val (v := (.int .i64 (q + 254))) (Ex.add rfl rfl (Z := q + 254) (w64 (by omega))) (by decide) ?_
     refine GL.val (v := (.int .i64 ((q + 254) % 254))) (Ex.rem rfl rfl (Z := (q + 254) % 254) (by omega) (rem64 (by omega) (by omega))) (by decide) ?_
     refine GL.val (v := (.int .i64 (((q + 254) % 254) - 126))) (Ex.sub' rfl rfl (Z := ((q + 254) % 254) - 126) (w64 (by omega))) (by decide) ?_
     refine GL.val (Ex.assign rfl) (by decide) ?_
     refine GL.nil ?_
     refine GE.thenN ?_
     refine GC.seq ?_
     obtain ⟨j, hj⟩ : ∃ j, j = ((q + 254) % 254) - 126 := ⟨_, rfl⟩
     rw [← hj]
     have hp3 := Lb.back3 (k := j) (by omega) (by omega)
     have hFI := Lb.FI_u32 (k := j) (by omega) (by omega)
     refine GC.region ?_
     refine GL.val (Ex.move rfl) (by decide) ?_
     refine GL.val (v := (.int .i64 (j + 127))) (Ex.add rfl rfl (Z := j + 127) (w64 (by omega))) (by decide) ?_
     refine GL.val (v := (.int .u32 (j + 127))) (Ex.conv rfl Try.underlying3 Try.underlying23 (Z := j + 127) (wu32b (by omega))) (by decide) ?_
     refine GL.val (v := (.int .u32 ((j + 127) * 8388608))) (Ex.shl rfl (m := 23) rfl (by decide) (Z := (j + 127) * 8388608) (wu32b (by omega))) (by decide) ?_
     refine GL.step (Stp.callR (vs := [(.int .u32 ((j + 127) * 8388608))]) rfl rfl T.own18 (by decide) (fun wc hw => log_p ((j + 127) * 8388608) wc (by omega))) (fun xq487 hq488 => ?_)
     refine GL.val (Ex.move rfl) (by decide) ?_
     refine GL.step (Stp.callR (vs := [(.int .i64 j)]) rfl rfl T.own37 (by decide) (fun wc hw => fromint_all j wc (by omega))) (fun xq489 hq490 => ?_)
     refine GL.val (v := (.bool true)) (Ex.cast (Ex.eql rfl rfl) (congrArg Value.bool (decide_eq_true (by exact hp3.1)))) (by decide) ?_
     refine GL.val (Ex.move rfl) (by decide) ?_
     refine GL.stepG (tj := 105) rfl rfl (Ex.wp (v := (.int .i64 j)) (Ex.move rfl) (by decide)) (fun _ _ => ?_)
     refine GL.stepG (tj := 105) rfl rfl (Stp.callR (vs := [(.int .i64 j)]) rfl rfl T.own37 (by decide) (fun wc hw => fromint_all j wc (by omega))) (fun xq491 hq492 => ?_)
     refine GL.stepG (tj := 105) rfl rfl (Stp.callR (vs := [(.int .u32 ((Lb.FI j)))]) rfl rfl T.own20 (by decide) (fun wc hw => exp_p ((Lb.FI j)) wc (by omega))) (fun xq493 hq494 => ?_)
     refine GL.stepG (tj := 105) rfl rfl (Ex.wp (v := (.int .i64 j)) (Ex.move rfl) (by decide)) (fun _ _ => ?_)
     refine GL.stepG (tj := 105) rfl rfl (Ex.wp (v := (.int .i64 (j + 127))) (Ex.add rfl rfl (Z := j + 127) (w64 (by omega))) (by decide)) (fun _ _ => ?_)
     refine GL.stepG (tj := 105) rfl rfl (Ex.wp (v := (.int .u32 (j + 127))) (Ex.conv rfl Try.underlying3 Try.underlying23 (Z := j + 127) (wu32b (by omega))) (by decide)) (fun _ _ => ?_)
     refine GL.stepG (tj := 105) rfl rfl (Ex.wp (v := (.int .u32 ((j + 127) * 8388608))) (Ex.shl rfl (m := 23) rfl (by decide) (Z := (j + 127) * 8388608) (wu32b (by omega))) (by decide)) (fun _ _ => ?_)
     refine GL.stepG (tj := 105) rfl rfl (Ex.wp (v := (.bool true)) (Ex.cast (Ex.eql rfl rfl) (congrArg Value.bool (decide_eq_true (by exact hp3.2)))) (by decide)) (fun _ _ => ?_)
     refine GL.val (v := (.bool true)) (Ex.pickT rfl rfl) (by decide) ?_
     refine GL.val (Ex.assign rfl) (by decide) ?_
     refine GL.nil ?_
     refine GE.thenN ?_
     refine GC.ret ?_
     refine GC.ret1 rfl (Rv.tmp rfl) (fun wN HN => ?_)
     exact HN.ret () trivial (by first | rfl | simp) (List.nil_sublist _) rfl
   ·refine GL.val (v := (.bool false)) (Ex.cast (Ex.move rfl) (congrArg Value.bool (decide_eq_false hq409))) (by decide) ?_
    refine GL.skipG (tj := 56) rfl rfl rfl (by decide) ?_
    refine GL.skipG (tj := 56) rfl rfl rfl (by decide) ?_
    refine GL.skipG (tj := 56) rfl rfl rfl (by decide) ?_
    refine GL.skipG (tj := 56) rfl rfl rfl (by decide) ?_
    refine GL.val (v := (.bool false)) (Ex.pickF rfl rfl) (by decide) ?_
    refine GL.val (Ex.move rfl) (by decide) ?_
    refine GL.skipG (tj := 62) rfl rfl rfl (by decide) ?_
    refine GL.skipG (tj := 62) rfl rfl rfl (by decide) ?_
    refine GL.skipG (tj := 62) rfl rfl rfl (by decide) ?_
    refine GL.skipG (tj := 62) rfl rfl rfl (by decide) ?_
    refine GL.val (v := (.bool false)) (Ex.pickF rfl rfl) (by decide) ?_
    refine GL.nil ?_
    refine GE.thenN ?_
    refine GC.cond rfl (fun hq495 => by cases hq495) (fun _ => ?_)
    refine GC.skip ?_
    refine GE.thenN ?_
    refine GC.seq ?_
    refine GC.region ?_
    refine GL.val (Ex.move rfl) (by decide) ?_
    refine GL.val (v := (.int .i64 q)) (Ex.rem rfl rfl (Z := q) (by decide) (by first | exact hq.symm | (rw [← hq]; exact w64 (by omega)))) (by decide) ?_
    refine GL.val (v := (.int .i64 (q + 254))) (Ex.add rfl rfl (Z := q + 254) (w64 (by omega))) (by decide) ?_
    refine GL.val (v := (.int .i64 ((q + 254) % 254))) (Ex.rem rfl rfl (Z := (q + 254) % 254) (by omega) (rem64 (by omega) (by omega))) (by decide) ?_
    refine GL.val (v := (.int .i64 (((q + 254) % 254) - 126))) (Ex.sub' rfl rfl (Z := ((q + 254) % 254) - 126) (w64 (by omega))) (by decide) ?_
    refine GL.val (Ex.assign rfl) (by decide) ?_
    refine GL.nil ?_
    refine GE.thenN ?_
    refine GC.seq ?_
    obtain ⟨j, hj⟩ : ∃ j, j = ((q + 254) % 254) - 126 := ⟨_, rfl⟩
    rw [← hj]
    have hp3 := Lb.back3 (k := j) (by omega) (by omega)
    have hFI := Lb.FI_u32 (k := j) (by omega) (by omega)
    refine GC.region ?_
    refine GL.val (Ex.move rfl) (by decide) ?_
    refine GL.val (v := (.int .i64 (j + 127))) (Ex.add rfl rfl (Z := j + 127) (w64 (by omega))) (by decide) ?_
    refine GL.val (v := (.int .u32 (j + 127))) (Ex.conv rfl Try.underlying3 Try.underlying23 (Z := j + 127) (wu32b (by omega))) (by decide) ?_
    refine GL.val (v := (.int .u32 ((j + 127) * 8388608))) (Ex.shl rfl (m := 23) rfl (by decide) (Z := (j + 127) * 8388608) (wu32b (by omega))) (by decide) ?_
    refine GL.step (Stp.callR (vs := [(.int .u32 ((j + 127) * 8388608))]) rfl rfl T.own18 (by decide) (fun wc hw => log_p ((j + 127) * 8388608) wc (by omega))) (fun xq496 hq497 => ?_)
    refine GL.val (Ex.move rfl) (by decide) ?_
    refine GL.step (Stp.callR (vs := [(.int .i64 j)]) rfl rfl T.own37 (by decide) (fun wc hw => fromint_all j wc (by omega))) (fun xq498 hq499 => ?_)
    refine GL.val (v := (.bool true)) (Ex.cast (Ex.eql rfl rfl) (congrArg Value.bool (decide_eq_true (by exact hp3.1)))) (by decide) ?_
    refine GL.val (Ex.move rfl) (by decide) ?_
    refine GL.stepG (tj := 105) rfl rfl (Ex.wp (v := (.int .i64 j)) (Ex.move rfl) (by decide)) (fun _ _ => ?_)
    refine GL.stepG (tj := 105) rfl rfl (Stp.callR (vs := [(.int .i64 j)]) rfl rfl T.own37 (by decide) (fun wc hw => fromint_all j wc (by omega))) (fun xq500 hq501 => ?_)
    refine GL.stepG (tj := 105) rfl rfl (Stp.callR (vs := [(.int .u32 ((Lb.FI j)))]) rfl rfl T.own20 (by decide) (fun wc hw => exp_p ((Lb.FI j)) wc (by omega))) (fun xq502 hq503 => ?_)
    refine GL.stepG (tj := 105) rfl rfl (Ex.wp (v := (.int .i64 j)) (Ex.move rfl) (by decide)) (fun _ _ => ?_)
    refine GL.stepG (tj := 105) rfl rfl (Ex.wp (v := (.int .i64 (j + 127))) (Ex.add rfl rfl (Z := j + 127) (w64 (by omega))) (by decide)) (fun _ _ => ?_)
    refine GL.stepG (tj := 105) rfl rfl (Ex.wp (v := (.int .u32 (j + 127))) (Ex.conv rfl Try.underlying3 Try.underlying23 (Z := j + 127) (wu32b (by omega))) (by decide)) (fun _ _ => ?_)
    refine GL.stepG (tj := 105) rfl rfl (Ex.wp (v := (.int .u32 ((j + 127) * 8388608))) (Ex.shl rfl (m := 23) rfl (by decide) (Z := (j + 127) * 8388608) (wu32b (by omega))) (by decide)) (fun _ _ => ?_)
    refine GL.stepG (tj := 105) rfl rfl (Ex.wp (v := (.bool true)) (Ex.cast (Ex.eql rfl rfl) (congrArg Value.bool (decide_eq_true (by exact hp3.2)))) (by decide)) (fun _ _ => ?_)
    refine GL.val (v := (.bool true)) (Ex.pickT rfl rfl) (by decide) ?_
    refine GL.val (Ex.assign rfl) (by decide) ?_
    refine GL.nil ?_
    refine GE.thenN ?_
    refine GC.ret ?_
    refine GC.ret1 rfl (Rv.tmp rfl) (fun wN HN => ?_)
    exact HN.ret () trivial (by first | rfl | simp) (List.nil_sublist _) rfl
 ·refine GL.val (v := (.bool false)) (Ex.cast (Ex.eql rfl rfl) (congrArg Value.bool (decide_eq_false hq4))) (by decide) ?_
  refine GL.val (Ex.move rfl) (by decide) ?_
  refine GL.skipG (tj := 15) rfl rfl rfl (by decide) ?_
  refine GL.skipG (tj := 15) rfl rfl rfl (by decide) ?_
  refine GL.val (v := (.bool false)) (Ex.pickF rfl rfl) (by decide) ?_
  refine GL.val (Ex.move rfl) (by decide) ?_
  refine GL.skipG (tj := 19) rfl rfl rfl (by decide) ?_
  refine GL.skipG (tj := 19) rfl rfl rfl (by decide) ?_
  refine GL.val (v := (.bool false)) (Ex.pickF rfl rfl) (by decide) ?_
  refine GL.nil ?_
  refine GE.thenN ?_
  refine GC.cond rfl (fun hq504 => by cases hq504) (fun _ => ?_)
  refine GC.skip ?_
  refine GE.thenN ?_
  refine GC.seq ?_
  refine GC.seq ?_
  refine GC.region ?_
  refine GL.val (Ex.move rfl) (by decide) ?_
  refine GL.step (Stp.callR (vs := [(.int .u32 y)]) rfl rfl T.own28 (by decide) (fun wc hw => finite_l y wc (by first | assumption | omega | exact Bt.lst_bd (by assumption) (by assumption) | exact Bt.gst_bd (by assumption) (by assumption) | exact Bt.key_bd (by assumption) | exact Bt.unkey_bd (by assumption) | exact Bt.nxt_bd (by assumption) | exact Bt.lst_bd (Bt.gst_bd (by assumption) (by assumption)) (by assumption) | exact Bt.btw_bd (by assumption) (Bt.lst_bd (by assumption) (by assumption)) (Bt.gst_bd (by assumption) (by assumption))))) (fun xq505 hq506 => ?_)
  by_cases hq507 : (y % 2147483648 < 2139095040)
  ·refine GL.val (v := (.bool true)) (Ex.cast (Ex.move rfl) (congrArg Value.bool (decide_eq_true hq507))) (by decide) ?_
   refine GL.stepG (tj := 56) rfl rfl (Ex.wp (v := (.int .u32 y)) (Ex.move rfl) (by decide)) (fun _ _ => ?_)
   refine GL.stepG (tj := 56) rfl rfl (Stp.callR (vs := [(.int .u32 y)]) rfl rfl T.own36 (by decide) (fun wc hw => key_l y wc (by first | assumption | omega | exact Bt.lst_bd (by assumption) (by assumption) | exact Bt.gst_bd (by assumption) (by assumption) | exact Bt.key_bd (by assumption) | exact Bt.unkey_bd (by assumption) | exact Bt.nxt_bd (by assumption) | exact Bt.lst_bd (Bt.gst_bd (by assumption) (by assumption)) (by assumption) | exact Bt.btw_bd (by assumption) (Bt.lst_bd (by assumption) (by assumption)) (Bt.gst_bd (by assumption) (by assumption))))) (fun xq508 hq509 => ?_)
   refine GL.stepG (tj := 56) rfl rfl (Stp.callR (vs := [(.int .u32 3271426048)]) rfl rfl T.own36 (by decide) (fun wc hw => key_l 3271426048 wc (by first | assumption | omega | exact Bt.lst_bd (by assumption) (by assumption) | exact Bt.gst_bd (by assumption) (by assumption) | exact Bt.key_bd (by assumption) | exact Bt.unkey_bd (by assumption) | exact Bt.nxt_bd (by assumption) | exact Bt.lst_bd (Bt.gst_bd (by assumption) (by assumption)) (by assumption) | exact Bt.btw_bd (by assumption) (Bt.lst_bd (by assumption) (by assumption)) (Bt.gst_bd (by assumption) (by assumption))))) (fun xq510 hq511 => ?_)
   by_cases hq512 : ((Fv.rk 3271426048)) < ((Fv.rk y))
   ·refine GL.stepG (tj := 56) rfl rfl (Ex.wp (v := (.bool true)) (Ex.cast (Ex.gtr rfl rfl) (congrArg Value.bool (decide_eq_true hq512))) (by decide)) (fun _ _ => ?_)
    refine GL.val (v := (.bool true)) (Ex.pickT rfl rfl) (by decide) ?_
    refine GL.val (Ex.move rfl) (by decide) ?_
    refine GL.stepG (tj := 62) rfl rfl (Ex.wp (v := (.int .u32 y)) (Ex.move rfl) (by decide)) (fun _ _ => ?_)
    refine GL.stepG (tj := 62) rfl rfl (Stp.callR (vs := [(.int .u32 y)]) rfl rfl T.own36 (by decide) (fun wc hw => key_l y wc (by first | assumption | omega | exact Bt.lst_bd (by assumption) (by assumption) | exact Bt.gst_bd (by assumption) (by assumption) | exact Bt.key_bd (by assumption) | exact Bt.unkey_bd (by assumption) | exact Bt.nxt_bd (by assumption) | exact Bt.lst_bd (Bt.gst_bd (by assumption) (by assumption)) (by assumption) | exact Bt.btw_bd (by assumption) (Bt.lst_bd (by assumption) (by assumption)) (Bt.gst_bd (by assumption) (by assumption))))) (fun xq513 hq514 => ?_)
    refine GL.stepG (tj := 62) rfl rfl (Stp.callR (vs := [(.int .u32 1124073472)]) rfl rfl T.own36 (by decide) (fun wc hw => key_l 1124073472 wc (by first | assumption | omega | exact Bt.lst_bd (by assumption) (by assumption) | exact Bt.gst_bd (by assumption) (by assumption) | exact Bt.key_bd (by assumption) | exact Bt.unkey_bd (by assumption) | exact Bt.nxt_bd (by assumption) | exact Bt.lst_bd (Bt.gst_bd (by assumption) (by assumption)) (by assumption) | exact Bt.btw_bd (by assumption) (Bt.lst_bd (by assumption) (by assumption)) (Bt.gst_bd (by assumption) (by assumption))))) (fun xq515 hq516 => ?_)
    refine GL.stepG (tj := 62) rfl rfl (Ex.wp (v := (.bool (decide (((Fv.rk y)) < ((Fv.rk 1124073472)))))) (Ex.lss rfl rfl) (by decide)) (fun _ _ => ?_)
    refine GL.val (v := (.bool (decide (((Fv.rk y)) < ((Fv.rk 1124073472)))))) (Ex.pickT rfl rfl) (by decide) ?_
    refine GL.nil ?_
    refine GE.thenN ?_
    refine GC.cond rfl (fun hq517 => ?_) (fun hq517 => ?_)
    ·replace hq517 := of_decide_eq_true hq517
     refine GC.seq ?_
     refine GC.region ?_
     refine GL.val (Ex.move rfl) (by decide) ?_
     refine GL.step (Stp.callR (vs := [(.int .u32 y)]) rfl rfl T.own20 (by decide) (fun wc hw => exp_p y wc (by omega))) (fun xq518 hq519 => ?_)
     refine GL.step (Stp.callR (vs := [(.int .u32 ((Sl.EX y)))]) rfl rfl T.own18 (by decide) (fun wc hw => log_p ((Sl.EX y)) wc (by omega))) (fun xq520 hq521 => ?_)
     refine GL.val (Ex.assign rfl) (by decide) ?_
     refine GL.nil ?_
     refine GE.thenN ?_
     refine GC.seq ?_
     have hp2 := Lb.back2' hy (by omega) (by omega)
     have hxb := Lb.expo_bd hy (by omega)
     by_cases hyb : (Sl.LG (Sl.EX y)) = y
     ·obtain ⟨g', m1, m2, he3, he4, hm12, hg'⟩ := Lb.mins (Bt.expo y) (-24)
      rw [hyb]
      refine GC.region ?_
      refine GL.val (Ex.move rfl) (by decide) ?_
      refine GL.step (Stp.callR (vs := [(.int .u32 y)]) rfl rfl T.own28 (by decide) (fun wc hw => finite_l y wc (by first | assumption | omega | exact Bt.lst_bd (by assumption) (by assumption) | exact Bt.gst_bd (by assumption) (by assumption) | exact Bt.key_bd (by assumption) | exact Bt.unkey_bd (by assumption) | exact Bt.nxt_bd (by assumption) | exact Bt.lst_bd (Bt.gst_bd (by assumption) (by assumption)) (by assumption) | exact Bt.btw_bd (by assumption) (Bt.lst_bd (by assumption) (by assumption)) (Bt.gst_bd (by assumption) (by assumption))))) (fun xq522 hq523 => ?_)
      refine GL.val (v := (.bool false)) (Ex.cast (Ex.not rfl) (congrArg Value.bool (congrArg (fun z => !z) (decide_eq_true (by assumption))))) (by decide) ?_
      refine GL.val (Ex.move rfl) (by decide) ?_
      refine GL.stepG (tj := 74) rfl rfl (Ex.wp (v := (.int .u32 y)) (Ex.move rfl) (by decide)) (fun _ _ => ?_)
      refine GL.stepG (tj := 74) rfl rfl (Ex.wp (v := (.int .u32 y)) (Ex.move rfl) (by decide)) (fun _ _ => ?_)
      refine GL.stepG (tj := 74) rfl rfl (Stp.callR (vs := [(.int .u32 y), (.int .u32 y)]) rfl rfl T.own34 (by decide) (fun wc hw => off_eq y y (Bt.expo y) 0 0 wc hy (by omega) hy (by omega) (by omega) (by omega) (.inl rfl) (by decide) (by decide) (by omega) (Lb.ne_not _) rfl)) (fun xq524 hq525 => ?_)
      refine GL.stepG (tj := 74) rfl rfl (Stp.callR (vs := [(.int .i64 (-24))]) rfl rfl T.own31 (by decide) (fun wc hw => power_l (-24) wc)) (fun xq526 hq527 => ?_)
      refine GL.stepG (tj := 74) rfl rfl (Stp.callR (vs := [(.agg #[(.int .i64 2), (.bool false), (.slice none 0 0), (.int .i64 ((Bt.expo y))), (.bool false)]), (.agg #[(.int .i64 2), (.bool false), (.slice (some ⟨xq526, 0, none⟩) ((Nd.nd 1)) 2), (.int .i64 (-24)), (.bool false)])]) rfl rfl T.own30 (by decide) (fun wc hw => within_n none 0 1 xq526 2 g' (Bt.expo y) (-24) m1 m2 false false wc (Nd.Nb.one (Lg.rd1 (hw.rdOf (i := 0) rfl 0)) (by decide)) (by rw [Nd.nd_one (by decide)]; decide) he3 he4 hm12 (by omega) (by omega) (by omega))) (fun xq528 hq529 => ?_)
      refine GL.stepG (tj := 74) rfl rfl (Ex.wp (v := (.bool false)) (Ex.cast (Ex.not rfl) rfl) (by decide)) (fun _ _ => ?_)
      refine GL.val (v := (.bool false)) (Ex.pickF rfl rfl) (by decide) ?_
      refine GL.val (Ex.move rfl) (by decide) ?_
      refine GL.stepG (tj := 82) rfl rfl (Ex.wp (v := (.int .u32 y)) (Ex.move rfl) (by decide)) (fun _ _ => ?_)
      refine GL.stepG (tj := 82) rfl rfl (Ex.wp (v := (.int .u32 (y % 2147483648))) (Ex.bits rfl rfl (by simp) (Z := y % 2147483648) (andm 31 (by omega) (by omega) (by decide) rfl rfl)) (by decide)) (fun _ _ => ?_)
      by_cases hq530 : 1065353216 ≤ (y % 2147483648)
      ·refine GL.stepG (tj := 82) rfl rfl (Ex.wp (v := (.bool true)) (Ex.cast (Ex.geq rfl rfl) (congrArg Value.bool (decide_eq_true hq530))) (by decide)) (fun _ _ => ?_)
       refine GL.stepG (tj := 82) rfl rfl (Ex.wp (v := (.bool true)) (Ex.move rfl) (by decide)) (fun _ _ => ?_)
       refine GL.stepG (tj := 86) rfl rfl (Ex.wp (v := (.int .u32 y)) (Ex.move rfl) (by decide)) (fun _ _ => ?_)
       refine GL.stepG (tj := 86) rfl rfl (Ex.wp (v := (.int .u32 y)) (Ex.move rfl) (by decide)) (fun _ _ => ?_)
       refine GL.stepG (tj := 86) rfl rfl (Ex.wp (v := (.bool false)) (Ex.cast (Ex.neq rfl rfl) (congrArg Value.bool (decide_eq_false (by simp)))) (by decide)) (fun _ _ => ?_)
       refine GL.stepG (tj := 82) rfl rfl (Ex.wp (v := (.bool false)) (Ex.pickT rfl rfl) (by decide)) (fun _ _ => ?_)
       refine GL.val (v := (.bool false)) (Ex.pickF rfl rfl) (by decide) ?_
       refine GL.nil ?_
       refine GE.thenN ?_
       refine GC.cond rfl (fun hq531 => by cases hq531) (fun _ => ?_)
       refine GC.skip ?_
       refine GE.thenN ?_
       refine GC.seq ?_
       refine GC.region ?_
       refine GL.val (Ex.move rfl) (by decide) ?_
       refine GL.val (v := (.int .i64 q)) (Ex.rem rfl rfl (Z := q) (by decide) (by first | exact hq.symm | (rw [← hq]; exact w64 (by omega)))) (by decide) ?_
       refine GL.val (v := (.int .i64 (q + 254))) (Ex.add rfl rfl (Z := q + 254) (w64 (by omega))) (by decide) ?_
       refine GL.val (v := (.int .i64 ((q + 254) % 254))) (Ex.rem rfl rfl (Z := (q + 254) % 254) (by omega) (rem64 (by omega) (by omega))) (by decide) ?_
       refine GL.val (v := (.int .i64 (((q + 254) % 254) - 126))) (Ex.sub' rfl rfl (Z := ((q + 254) % 254) - 126) (w64 (by omega))) (by decide) ?_
       refine GL.val (Ex.assign rfl) (by decide) ?_
       refine GL.nil ?_
       refine GE.thenN ?_
       refine GC.seq ?_
       obtain ⟨j, hj⟩ : ∃ j, j = ((q + 254) % 254) - 126 := ⟨_, rfl⟩
       rw [← hj]
       have hp3 := Lb.back3 (k := j) (by omega) (by omega)
       have hFI := Lb.FI_u32 (k := j) (by omega) (by omega)
       refine GC.region ?_
       refine GL.val (Ex.move rfl) (by decide) ?_
       refine GL.val (v := (.int .i64 (j + 127))) (Ex.add rfl rfl (Z := j + 127) (w64 (by omega))) (by decide) ?_
       refine GL.val (v := (.int .u32 (j + 127))) (Ex.conv rfl Try.underlying3 Try.underlying23 (Z := j + 127) (wu32b (by omega))) (by decide) ?_
       refine GL.val (v := (.int .u32 ((j + 127) * 8388608))) (Ex.shl rfl (m := 23) rfl (by decide) (Z := (j + 127) * 8388608) (wu32b (by omega))) (by decide) ?_
       refine GL.step (Stp.callR (vs := [(.int .u32 ((j + 127) * 8388608))]) rfl rfl T.own18 (by decide) (fun wc hw => log_p ((j + 127) * 8388608) wc (by omega))) (fun xq532 hq533 => ?_)
       refine GL.val (Ex.move rfl) (by decide) ?_
       refine GL.step (Stp.callR (vs := [(.int .i64 j)]) rfl rfl T.own37 (by decide) (fun wc hw => fromint_all j wc (by omega))) (fun xq534 hq535 => ?_)
       refine GL.val (v := (.bool true)) (Ex.cast (Ex.eql rfl rfl) (congrArg Value.bool (decide_eq_true (by exact hp3.1)))) (by decide) ?_
       refine GL.val (Ex.move rfl) (by decide) ?_
       refine GL.stepG (tj := 105) rfl rfl (Ex.wp (v := (.int .i64 j)) (Ex.move rfl) (by decide)) (fun _ _ => ?_)
       refine GL.stepG (tj := 105) rfl rfl (Stp.callR (vs := [(.int .i64 j)]) rfl rfl T.own37 (by decide) (fun wc hw => fromint_all j wc (by omega))) (fun xq536 hq537 => ?_)
       refine GL.stepG (tj := 105) rfl rfl (Stp.callR (vs := [(.int .u32 ((Lb.FI j)))]) rfl rfl T.own20 (by decide) (fun wc hw => exp_p ((Lb.FI j)) wc (by omega))) (fun xq538 hq539 => ?_)
       refine GL.stepG (tj := 105) rfl rfl (Ex.wp (v := (.int .i64 j)) (Ex.move rfl) (by decide)) (fun _ _ => ?_)
       refine GL.stepG (tj := 105) rfl rfl (Ex.wp (v := (.int .i64 (j + 127))) (Ex.add rfl rfl (Z := j + 127) (w64 (by omega))) (by decide)) (fun _ _ => ?_)
       refine GL.stepG (tj := 105) rfl rfl (Ex.wp (v := (.int .u32 (j + 127))) (Ex.conv rfl Try.underlying3 Try.underlying23 (Z := j + 127) (wu32b (by omega))) (by decide)) (fun _ _ => ?_)
       refine GL.stepG (tj := 105) rfl rfl (Ex.wp (v := (.int .u32 ((j + 127) * 8388608))) (Ex.shl rfl (m := 23) rfl (by decide) (Z := (j + 127) * 8388608) (wu32b (by omega))) (by decide)) (fun _ _ => ?_)
       refine GL.stepG (tj := 105) rfl rfl (Ex.wp (v := (.bool true)) (Ex.cast (Ex.eql rfl rfl) (congrArg Value.bool (decide_eq_true (by exact hp3.2)))) (by decide)) (fun _ _ => ?_)
       refine GL.val (v := (.bool true)) (Ex.pickT rfl rfl) (by decide) ?_
       refine GL.val (Ex.assign rfl) (by decide) ?_
       refine GL.nil ?_
       refine GE.thenN ?_
       refine GC.ret ?_
       refine GC.ret1 rfl (Rv.tmp rfl) (fun wN HN => ?_)
       exact HN.ret () trivial (by first | rfl | simp) (List.nil_sublist _) rfl
      ·refine GL.stepG (tj := 82) rfl rfl (Ex.wp (v := (.bool false)) (Ex.cast (Ex.geq rfl rfl) (congrArg Value.bool (decide_eq_false hq530))) (by decide)) (fun _ _ => ?_)
       refine GL.stepG (tj := 82) rfl rfl (Ex.wp (v := (.bool false)) (Ex.move rfl) (by decide)) (fun _ _ => ?_)
       refine GL.skipG (tj := 86) rfl rfl rfl (by decide) ?_
       refine GL.skipG (tj := 86) rfl rfl rfl (by decide) ?_
       refine GL.skipG (tj := 86) rfl rfl rfl (by decide) ?_
       refine GL.stepG (tj := 82) rfl rfl (Ex.wp (v := (.bool false)) (Ex.pickF rfl rfl) (by decide)) (fun _ _ => ?_)
       refine GL.val (v := (.bool false)) (Ex.pickF rfl rfl) (by decide) ?_
       refine GL.nil ?_
       refine GE.thenN ?_
       refine GC.cond rfl (fun hq540 => by cases hq540) (fun _ => ?_)
       refine GC.skip ?_
       refine GE.thenN ?_
       refine GC.seq ?_
       refine GC.region ?_
       refine GL.val (Ex.move rfl) (by decide) ?_
       refine GL.val (v := (.int .i64 q)) (Ex.rem rfl rfl (Z := q) (by decide) (by first | exact hq.symm | (rw [← hq]; exact w64 (by omega)))) (by decide) ?_
       refine GL.val (v := (.int .i64 (q + 254))) (Ex.add rfl rfl (Z := q + 254) (w64 (by omega))) (by decide) ?_
       refine GL.val (v := (.int .i64 ((q + 254) % 254))) (Ex.rem rfl rfl (Z := (q + 254) % 254) (by omega) (rem64 (by omega) (by omega))) (by decide) ?_
       refine GL.val (v := (.int .i64 (((q + 254) % 254) - 126))) (Ex.sub' rfl rfl (Z := ((q + 254) % 254) - 126) (w64 (by omega))) (by decide) ?_
       refine GL.val (Ex.assign rfl) (by decide) ?_
       refine GL.nil ?_
       refine GE.thenN ?_
       refine GC.seq ?_
       obtain ⟨j, hj⟩ : ∃ j, j = ((q + 254) % 254) - 126 := ⟨_, rfl⟩
       rw [← hj]
       have hp3 := Lb.back3 (k := j) (by omega) (by omega)
       have hFI := Lb.FI_u32 (k := j) (by omega) (by omega)
       refine GC.region ?_
       refine GL.val (Ex.move rfl) (by decide) ?_
       refine GL.val (v := (.int .i64 (j + 127))) (Ex.add rfl rfl (Z := j + 127) (w64 (by omega))) (by decide) ?_
       refine GL.val (v := (.int .u32 (j + 127))) (Ex.conv rfl Try.underlying3 Try.underlying23 (Z := j + 127) (wu32b (by omega))) (by decide) ?_
       refine GL.val (v := (.int .u32 ((j + 127) * 8388608))) (Ex.shl rfl (m := 23) rfl (by decide) (Z := (j + 127) * 8388608) (wu32b (by omega))) (by decide) ?_
       refine GL.step (Stp.callR (vs := [(.int .u32 ((j + 127) * 8388608))]) rfl rfl T.own18 (by decide) (fun wc hw => log_p ((j + 127) * 8388608) wc (by omega))) (fun xq541 hq542 => ?_)
       refine GL.val (Ex.move rfl) (by decide) ?_
       refine GL.step (Stp.callR (vs := [(.int .i64 j)]) rfl rfl T.own37 (by decide) (fun wc hw => fromint_all j wc (by omega))) (fun xq543 hq544 => ?_)
       refine GL.val (v := (.bool true)) (Ex.cast (Ex.eql rfl rfl) (congrArg Value.bool (decide_eq_true (by exact hp3.1)))) (by decide) ?_
       refine GL.val (Ex.move rfl) (by decide) ?_
       refine GL.stepG (tj := 105) rfl rfl (Ex.wp (v := (.int .i64 j)) (Ex.move rfl) (by decide)) (fun _ _ => ?_)
       refine GL.stepG (tj := 105) rfl rfl (Stp.callR (vs := [(.int .i64 j)]) rfl rfl T.own37 (by decide) (fun wc hw => fromint_all j wc (by omega))) (fun xq545 hq546 => ?_)
       refine GL.stepG (tj := 105) rfl rfl (Stp.callR (vs := [(.int .u32 ((Lb.FI j)))]) rfl rfl T.own20 (by decide) (fun wc hw => exp_p ((Lb.FI j)) wc (by omega))) (fun xq547 hq548 => ?_)
       refine GL.stepG (tj := 105) rfl rfl (Ex.wp (v := (.int .i64 j)) (Ex.move rfl) (by decide)) (fun _ _ => ?_)
       refine GL.stepG (tj := 105) rfl rfl (Ex.wp (v := (.int .i64 (j + 127))) (Ex.add rfl rfl (Z := j + 127) (w64 (by omega))) (by decide)) (fun _ _ => ?_)
       refine GL.stepG (tj := 105) rfl rfl (Ex.wp (v := (.int .u32 (j + 127))) (Ex.conv rfl Try.underlying3 Try.underlying23 (Z := j + 127) (wu32b (by omega))) (by decide)) (fun _ _ => ?_)
       refine GL.stepG (tj := 105) rfl rfl (Ex.wp (v := (.int .u32 ((j + 127) * 8388608))) (Ex.shl rfl (m := 23) rfl (by decide) (Z := (j + 127) * 8388608) (wu32b (by omega))) (by decide)) (fun _ _ => ?_)
       refine GL.stepG (tj := 105) rfl rfl (Ex.wp (v := (.bool true)) (Ex.cast (Ex.eql rfl rfl) (congrArg Value.bool (decide_eq_true (by exact hp3.2)))) (by decide)) (fun _ _ => ?_)
       refine GL.val (v := (.bool true)) (Ex.pickT rfl rfl) (by decide) ?_
       refine GL.val (Ex.assign rfl) (by decide) ?_
       refine GL.nil ?_
       refine GE.thenN ?_
       refine GC.ret ?_
       refine GC.ret1 rfl (Rv.tmp rfl) (fun wN HN => ?_)
       exact HN.ret () trivial (by first | rfl | simp) (List.nil_sublist _) rfl
     ·have hxc := Lb.expo_bd hLy hp2.1
      obtain ⟨e, n1, n2, he1, he2, hn12, he⟩ := Lb.mins (Bt.expo y) (Bt.expo (Sl.LG (Sl.EX y)))
      obtain ⟨g', m1, m2, he3, he4, hm12, hg'⟩ := Lb.mins e (-24)
      have hW := Lb.near_ok hy (by omega) hLy hp2.1 he1 he2 he3 he4 (by omega) hp2.2.2
      refine GC.region ?_
      refine GL.val (Ex.move rfl) (by decide) ?_
      refine GL.step (Stp.callR (vs := [(.int .u32 ((Sl.LG ((Sl.EX y)))))]) rfl rfl T.own28 (by decide) (fun wc hw => finite_l ((Sl.LG ((Sl.EX y)))) wc (by first | assumption | omega | exact Bt.lst_bd (by assumption) (by assumption) | exact Bt.gst_bd (by assumption) (by assumption) | exact Bt.key_bd (by assumption) | exact Bt.unkey_bd (by assumption) | exact Bt.nxt_bd (by assumption) | exact Bt.lst_bd (Bt.gst_bd (by assumption) (by assumption)) (by assumption) | exact Bt.btw_bd (by assumption) (Bt.lst_bd (by assumption) (by assumption)) (Bt.gst_bd (by assumption) (by assumption))))) (fun xq549 hq550 => ?_)
      refine GL.val (v := (.bool false)) (Ex.cast (Ex.not rfl) (congrArg Value.bool (congrArg (fun z => !z) (decide_eq_true (by exact hp2.1))))) (by decide) ?_
      refine GL.val (Ex.move rfl) (by decide) ?_
      refine GL.stepG (tj := 74) rfl rfl (Ex.wp (v := (.int .u32 y)) (Ex.move rfl) (by decide)) (fun _ _ => ?_)
      refine GL.stepG (tj := 74) rfl rfl (Ex.wp (v := (.int .u32 ((Sl.LG ((Sl.EX y)))))) (Ex.move rfl) (by decide)) (fun _ _ => ?_)
      refine GL.stepG (tj := 74) rfl rfl (Stp.callR (vs := [(.int .u32 y), (.int .u32 ((Sl.LG ((Sl.EX y)))))]) rfl rfl T.own34 (by decide) (fun wc hw => off_ne y ((Sl.LG ((Sl.EX y)))) e n1 n2 wc hy (by omega) hLy hp2.1 he1 he2 hn12 (by omega) (by omega) (by omega) (fun q => hyb q.symm))) (fun xq551 hq552 => ?_)
      have hpx := hq552
      refine GL.stepG (tj := 74) rfl rfl (Stp.callR (vs := [(.int .i64 (-24))]) rfl rfl T.own31 (by decide) (fun wc hw => power_l (-24) wc)) (fun xq553 hq554 => ?_)
      refine GL.stepG (tj := 74) rfl rfl (Stp.callR (vs := [(.agg #[(.int .i64 2), (.bool false), (.slice (some ⟨xq551.1, 0, none⟩) ((Nd.nd (Lb.dfr (decide (y / 2147483648 % 2 = 1)) (decide (((Sl.LG ((Sl.EX y)))) / 2147483648 % 2 = 1)) ((Bt.mant y).toNat * 2 ^ n1) ((Bt.mant ((Sl.LG ((Sl.EX y))))).toNat * 2 ^ n2)))) xq551.2), (.int .i64 e), (.bool false)]), (.agg #[(.int .i64 2), (.bool false), (.slice (some ⟨xq553, 0, none⟩) ((Nd.nd 1)) 2), (.int .i64 (-24)), (.bool false)])]) rfl rfl T.own30 (by decide) (fun wc hw => within_b (Lb.dfr (decide (y / 2147483648 % 2 = 1)) (decide (((Sl.LG ((Sl.EX y)))) / 2147483648 % 2 = 1)) ((Bt.mant y).toNat * 2 ^ n1) ((Bt.mant ((Sl.LG ((Sl.EX y))))).toNat * 2 ^ n2)) xq551.1 xq551.2 1 xq553 2 g' e (-24) m1 m2 false false wc (Nd.Nb.of (hw.rdOf (i := 1) rfl 0) (Lb.nd_lt_of hpx)) (Nat.le_trans (Lb.dfr_nd hy hLy (by omega) (by omega) _ _) (by decide)) (Nd.Nb.one (Lg.rd1 (hw.rdOf (i := 0) rfl 0)) (by decide)) (by rw [Nd.nd_one (by decide)]; decide) he3 he4 hm12 (by omega) (by omega) (by omega))) (fun xq555 hq556 => ?_)
      refine GL.stepG (tj := 74) rfl rfl (Ex.wp (v := (.bool false)) (Ex.cast (Ex.not rfl) (congrArg Value.bool (congrArg (fun z => !z) (decide_eq_true (by exact hW))))) (by decide)) (fun _ _ => ?_)
      refine GL.val (v := (.bool false)) (Ex.pickF rfl rfl) (by decide) ?_
      refine GL.val (Ex.move rfl) (by decide) ?_
      refine GL.stepG (tj := 82) rfl rfl (Ex.wp (v := (.int .u32 y)) (Ex.move rfl) (by decide)) (fun _ _ => ?_)
      refine GL.stepG (tj := 82) rfl rfl (Ex.wp (v := (.int .u32 (y % 2147483648))) (Ex.bits rfl rfl (by simp) (Z := y % 2147483648) (andm 31 (by omega) (by omega) (by decide) rfl rfl)) (by decide)) (fun _ _ => ?_)
      by_cases hq557 : 1065353216 ≤ (y % 2147483648)
      ·refine GL.stepG (tj := 82) rfl rfl (Ex.wp (v := (.bool true)) (Ex.cast (Ex.geq rfl rfl) (congrArg Value.bool (decide_eq_true hq557))) (by decide)) (fun _ _ => ?_)
       refine GL.stepG (tj := 82) rfl rfl (Ex.wp (v := (.bool true)) (Ex.move rfl) (by decide)) (fun _ _ => ?_)
       refine GL.stepG (tj := 86) rfl rfl (Ex.wp (v := (.int .u32 ((Sl.LG ((Sl.EX y)))))) (Ex.move rfl) (by decide)) (fun _ _ => ?_)
       refine GL.stepG (tj := 86) rfl rfl (Ex.wp (v := (.int .u32 y)) (Ex.move rfl) (by decide)) (fun _ _ => ?_)
       refine GL.stepG (tj := 86) rfl rfl (Ex.wp (v := (.bool false)) (Ex.cast (Ex.neq rfl rfl) (congrArg Value.bool (decide_eq_false (by exact absurd (hp2.2.1 (by omega)) hyb)))) (by decide)) (fun _ _ => ?_)
       refine GL.stepG (tj := 82) rfl rfl (Ex.wp (v := (.bool false)) (Ex.pickT rfl rfl) (by decide)) (fun _ _ => ?_)
       refine GL.val (v := (.bool false)) (Ex.pickF rfl rfl) (by decide) ?_
       refine GL.nil ?_
       refine GE.thenN ?_
       refine GC.cond rfl (fun hq558 => by cases hq558) (fun _ => ?_)
       refine GC.skip ?_
       refine GE.thenN ?_
       refine GC.seq ?_
       refine GC.region ?_
       refine GL.val (Ex.move rfl) (by decide) ?_
       refine GL.val (v := (.int .i64 q)) (Ex.rem rfl rfl (Z := q) (by decide) (by first | exact hq.symm | (rw [← hq]; exact w64 (by omega)))) (by decide) ?_
       refine GL.val (v := (.int .i64 (q + 254))) (Ex.add rfl rfl (Z := q + 254) (w64 (by omega))) (by decide) ?_
       refine GL.val (v := (.int .i64 ((q + 254) % 254))) (Ex.rem rfl rfl (Z := (q + 254) % 254) (by omega) (rem64 (by omega) (by omega))) (by decide) ?_
       refine GL.val (v := (.int .i64 (((q + 254) % 254) - 126))) (Ex.sub' rfl rfl (Z := ((q + 254) % 254) - 126) (w64 (by omega))) (by decide) ?_
       refine GL.val (Ex.assign rfl) (by decide) ?_
       refine GL.nil ?_
       refine GE.thenN ?_
       refine GC.seq ?_
       obtain ⟨j, hj⟩ : ∃ j, j = ((q + 254) % 254) - 126 := ⟨_, rfl⟩
       rw [← hj]
       have hp3 := Lb.back3 (k := j) (by omega) (by omega)
       have hFI := Lb.FI_u32 (k := j) (by omega) (by omega)
       refine GC.region ?_
       refine GL.val (Ex.move rfl) (by decide) ?_
       refine GL.val (v := (.int .i64 (j + 127))) (Ex.add rfl rfl (Z := j + 127) (w64 (by omega))) (by decide) ?_
       refine GL.val (v := (.int .u32 (j + 127))) (Ex.conv rfl Try.underlying3 Try.underlying23 (Z := j + 127) (wu32b (by omega))) (by decide) ?_
       refine GL.val (v := (.int .u32 ((j + 127) * 8388608))) (Ex.shl rfl (m := 23) rfl (by decide) (Z := (j + 127) * 8388608) (wu32b (by omega))) (by decide) ?_
       refine GL.step (Stp.callR (vs := [(.int .u32 ((j + 127) * 8388608))]) rfl rfl T.own18 (by decide) (fun wc hw => log_p ((j + 127) * 8388608) wc (by omega))) (fun xq559 hq560 => ?_)
       refine GL.val (Ex.move rfl) (by decide) ?_
       refine GL.step (Stp.callR (vs := [(.int .i64 j)]) rfl rfl T.own37 (by decide) (fun wc hw => fromint_all j wc (by omega))) (fun xq561 hq562 => ?_)
       refine GL.val (v := (.bool true)) (Ex.cast (Ex.eql rfl rfl) (congrArg Value.bool (decide_eq_true (by exact hp3.1)))) (by decide) ?_
       refine GL.val (Ex.move rfl) (by decide) ?_
       refine GL.stepG (tj := 105) rfl rfl (Ex.wp (v := (.int .i64 j)) (Ex.move rfl) (by decide)) (fun _ _ => ?_)
       refine GL.stepG (tj := 105) rfl rfl (Stp.callR (vs := [(.int .i64 j)]) rfl rfl T.own37 (by decide) (fun wc hw => fromint_all j wc (by omega))) (fun xq563 hq564 => ?_)
       refine GL.stepG (tj := 105) rfl rfl (Stp.callR (vs := [(.int .u32 ((Lb.FI j)))]) rfl rfl T.own20 (by decide) (fun wc hw => exp_p ((Lb.FI j)) wc (by omega))) (fun xq565 hq566 => ?_)
       refine GL.stepG (tj := 105) rfl rfl (Ex.wp (v := (.int .i64 j)) (Ex.move rfl) (by decide)) (fun _ _ => ?_)
       refine GL.stepG (tj := 105) rfl rfl (Ex.wp (v := (.int .i64 (j + 127))) (Ex.add rfl rfl (Z := j + 127) (w64 (by omega))) (by decide)) (fun _ _ => ?_)
       refine GL.stepG (tj := 105) rfl rfl (Ex.wp (v := (.int .u32 (j + 127))) (Ex.conv rfl Try.underlying3 Try.underlying23 (Z := j + 127) (wu32b (by omega))) (by decide)) (fun _ _ => ?_)
       refine GL.stepG (tj := 105) rfl rfl (Ex.wp (v := (.int .u32 ((j + 127) * 8388608))) (Ex.shl rfl (m := 23) rfl (by decide) (Z := (j + 127) * 8388608) (wu32b (by omega))) (by decide)) (fun _ _ => ?_)
       refine GL.stepG (tj := 105) rfl rfl (Ex.wp (v := (.bool true)) (Ex.cast (Ex.eql rfl rfl) (congrArg Value.bool (decide_eq_true (by exact hp3.2)))) (by decide)) (fun _ _ => ?_)
       refine GL.val (v := (.bool true)) (Ex.pickT rfl rfl) (by decide) ?_
       refine GL.val (Ex.assign rfl) (by decide) ?_
       refine GL.nil ?_
       refine GE.thenN ?_
       refine GC.ret ?_
       refine GC.ret1 rfl (Rv.tmp rfl) (fun wN HN => ?_)
       exact HN.ret () trivial (by first | rfl | simp) (List.nil_sublist _) rfl
      ·refine GL.stepG (tj := 82) rfl rfl (Ex.wp (v := (.bool false)) (Ex.cast (Ex.geq rfl rfl) (congrArg Value.bool (decide_eq_false hq557))) (by decide)) (fun _ _ => ?_)
       refine GL.stepG (tj := 82) rfl rfl (Ex.wp (v := (.bool false)) (Ex.move rfl) (by decide)) (fun _ _ => ?_)
       refine GL.skipG (tj := 86) rfl rfl rfl (by decide) ?_
       refine GL.skipG (tj := 86) rfl rfl rfl (by decide) ?_
       refine GL.skipG (tj := 86) rfl rfl rfl (by decide) ?_
       refine GL.stepG (tj := 82) rfl rfl (Ex.wp (v := (.bool false)) (Ex.pickF rfl rfl) (by decide)) (fun _ _ => ?_)
       refine GL.val (v := (.bool false)) (Ex.pickF rfl rfl) (by decide) ?_
       refine GL.nil ?_
       refine GE.thenN ?_
       refine GC.cond rfl (fun hq567 => by cases hq567) (fun _ => ?_)
       refine GC.skip ?_
       refine GE.thenN ?_
       refine GC.seq ?_
       refine GC.region ?_
       refine GL.val (Ex.move rfl) (by decide) ?_
       refine GL.val (v := (.int .i64 q)) (Ex.rem rfl rfl (Z := q) (by decide) (by first | exact hq.symm | (rw [← hq]; exact w64 (by omega)))) (by decide) ?_
       refine GL.val (v := (.int .i64 (q + 254))) (Ex.add rfl rfl (Z := q + 254) (w64 (by omega))) (by decide) ?_
       refine GL.val (v := (.int .i64 ((q + 254) % 254))) (Ex.rem rfl rfl (Z := (q + 254) % 254) (by omega) (rem64 (by omega) (by omega))) (by decide) ?_
       refine GL.val (v := (.int .i64 (((q + 254) % 254) - 126))) (Ex.sub' rfl rfl (Z := ((q + 254) % 254) - 126) (w64 (by omega))) (by decide) ?_
       refine GL.val (Ex.assign rfl) (by decide) ?_
       refine GL.nil ?_
       refine GE.thenN ?_
       refine GC.seq ?_
       obtain ⟨j, hj⟩ : ∃ j, j = ((q + 254) % 254) - 126 := ⟨_, rfl⟩
       rw [← hj]
       have hp3 := Lb.back3 (k := j) (by omega) (by omega)
       have hFI := Lb.FI_u32 (k := j) (by omega) (by omega)
       refine GC.region ?_
       refine GL.val (Ex.move rfl) (by decide) ?_
       refine GL.val (v := (.int .i64 (j + 127))) (Ex.add rfl rfl (Z := j + 127) (w64 (by omega))) (by decide) ?_
       refine GL.val (v := (.int .u32 (j + 127))) (Ex.conv rfl Try.underlying3 Try.underlying23 (Z := j + 127) (wu32b (by omega))) (by decide) ?_
       refine GL.val (v := (.int .u32 ((j + 127) * 8388608))) (Ex.shl rfl (m := 23) rfl (by decide) (Z := (j + 127) * 8388608) (wu32b (by omega))) (by decide) ?_
       refine GL.step (Stp.callR (vs := [(.int .u32 ((j + 127) * 8388608))]) rfl rfl T.own18 (by decide) (fun wc hw => log_p ((j + 127) * 8388608) wc (by omega))) (fun xq568 hq569 => ?_)
       refine GL.val (Ex.move rfl) (by decide) ?_
       refine GL.step (Stp.callR (vs := [(.int .i64 j)]) rfl rfl T.own37 (by decide) (fun wc hw => fromint_all j wc (by omega))) (fun xq570 hq571 => ?_)
       refine GL.val (v := (.bool true)) (Ex.cast (Ex.eql rfl rfl) (congrArg Value.bool (decide_eq_true (by exact hp3.1)))) (by decide) ?_
       refine GL.val (Ex.move rfl) (by decide) ?_
       refine GL.stepG (tj := 105) rfl rfl (Ex.wp (v := (.int .i64 j)) (Ex.move rfl) (by decide)) (fun _ _ => ?_)
       refine GL.stepG (tj := 105) rfl rfl (Stp.callR (vs := [(.int .i64 j)]) rfl rfl T.own37 (by decide) (fun wc hw => fromint_all j wc (by omega))) (fun xq572 hq573 => ?_)
       refine GL.stepG (tj := 105) rfl rfl (Stp.callR (vs := [(.int .u32 ((Lb.FI j)))]) rfl rfl T.own20 (by decide) (fun wc hw => exp_p ((Lb.FI j)) wc (by omega))) (fun xq574 hq575 => ?_)
       refine GL.stepG (tj := 105) rfl rfl (Ex.wp (v := (.int .i64 j)) (Ex.move rfl) (by decide)) (fun _ _ => ?_)
       refine GL.stepG (tj := 105) rfl rfl (Ex.wp (v := (.int .i64 (j + 127))) (Ex.add rfl rfl (Z := j + 127) (w64 (by omega))) (by decide)) (fun _ _ => ?_)
       refine GL.stepG (tj := 105) rfl rfl (Ex.wp (v := (.int .u32 (j + 127))) (Ex.conv rfl Try.underlying3 Try.underlying23 (Z := j + 127) (wu32b (by omega))) (by decide)) (fun _ _ => ?_)
       refine GL.stepG (tj := 105) rfl rfl (Ex.wp (v := (.int .u32 ((j + 127) * 8388608))) (Ex.shl rfl (m := 23) rfl (by decide) (Z := (j + 127) * 8388608) (wu32b (by omega))) (by decide)) (fun _ _ => ?_)
       refine GL.stepG (tj := 105) rfl rfl (Ex.wp (v := (.bool true)) (Ex.cast (Ex.eql rfl rfl) (congrArg Value.bool (decide_eq_true (by exact hp3.2)))) (by decide)) (fun _ _ => ?_)
       refine GL.val (v := (.bool true)) (Ex.pickT rfl rfl) (by decide) ?_
       refine GL.val (Ex.assign rfl) (by decide) ?_
       refine GL.nil ?_
       refine GE.thenN ?_
       refine GC.ret ?_
       refine GC.ret1 rfl (Rv.tmp rfl) (fun wN HN => ?_)
       exact HN.ret () trivial (by first | rfl | simp) (List.nil_sublist _) rfl
    ·replace hq517 := of_decide_eq_false hq517
     refine GC.skip ?_
     refine GE.thenN ?_
     refine GC.seq ?_
     refine GC.region ?_
     refine GL.val (Ex.move rfl) (by decide) ?_
     refine GL.val (v := (.int .i64 q)) (Ex.rem rfl rfl (Z := q) (by decide) (by first | exact hq.symm | (rw [← hq]; exact w64 (by omega)))) (by decide) ?_
     refine GL.val (v := (.int .i64 (q + 254))) (Ex.add rfl rfl (Z := q + 254) (w64 (by omega))) (by decide) ?_
     refine GL.val (v := (.int .i64 ((q + 254) % 254))) (Ex.rem rfl rfl (Z := (q + 254) % 254) (by omega) (rem64 (by omega) (by omega))) (by decide) ?_
     refine GL.val (v := (.int .i64 (((q + 254) % 254) - 126))) (Ex.sub' rfl rfl (Z := ((q + 254) % 254) - 126) (w64 (by omega))) (by decide) ?_
     refine GL.val (Ex.assign rfl) (by decide) ?_
     refine GL.nil ?_
     refine GE.thenN ?_
     refine GC.seq ?_
     obtain ⟨j, hj⟩ : ∃ j, j = ((q + 254) % 254) - 126 := ⟨_, rfl⟩
     rw [← hj]
     have hp3 := Lb.back3 (k := j) (by omega) (by omega)
     have hFI := Lb.FI_u32 (k := j) (by omega) (by omega)
     refine GC.region ?_
     refine GL.val (Ex.move rfl) (by decide) ?_
     refine GL.val (v := (.int .i64 (j + 127))) (Ex.add rfl rfl (Z := j + 127) (w64 (by omega))) (by decide) ?_
     refine GL.val (v := (.int .u32 (j + 127))) (Ex.conv rfl Try.underlying3 Try.underlying23 (Z := j + 127) (wu32b (by omega))) (by decide) ?_
     refine GL.val (v := (.int .u32 ((j + 127) * 8388608))) (Ex.shl rfl (m := 23) rfl (by decide) (Z := (j + 127) * 8388608) (wu32b (by omega))) (by decide) ?_
     refine GL.step (Stp.callR (vs := [(.int .u32 ((j + 127) * 8388608))]) rfl rfl T.own18 (by decide) (fun wc hw => log_p ((j + 127) * 8388608) wc (by omega))) (fun xq576 hq577 => ?_)
     refine GL.val (Ex.move rfl) (by decide) ?_
     refine GL.step (Stp.callR (vs := [(.int .i64 j)]) rfl rfl T.own37 (by decide) (fun wc hw => fromint_all j wc (by omega))) (fun xq578 hq579 => ?_)
     refine GL.val (v := (.bool true)) (Ex.cast (Ex.eql rfl rfl) (congrArg Value.bool (decide_eq_true (by exact hp3.1)))) (by decide) ?_
     refine GL.val (Ex.move rfl) (by decide) ?_
     refine GL.stepG (tj := 105) rfl rfl (Ex.wp (v := (.int .i64 j)) (Ex.move rfl) (by decide)) (fun _ _ => ?_)
     refine GL.stepG (tj := 105) rfl rfl (Stp.callR (vs := [(.int .i64 j)]) rfl rfl T.own37 (by decide) (fun wc hw => fromint_all j wc (by omega))) (fun xq580 hq581 => ?_)
     refine GL.stepG (tj := 105) rfl rfl (Stp.callR (vs := [(.int .u32 ((Lb.FI j)))]) rfl rfl T.own20 (by decide) (fun wc hw => exp_p ((Lb.FI j)) wc (by omega))) (fun xq582 hq583 => ?_)
     refine GL.stepG (tj := 105) rfl rfl (Ex.wp (v := (.int .i64 j)) (Ex.move rfl) (by decide)) (fun _ _ => ?_)
     refine GL.stepG (tj := 105) rfl rfl (Ex.wp (v := (.int .i64 (j + 127))) (Ex.add rfl rfl (Z := j + 127) (w64 (by omega))) (by decide)) (fun _ _ => ?_)
     refine GL.stepG (tj := 105) rfl rfl (Ex.wp (v := (.int .u32 (j + 127))) (Ex.conv rfl Try.underlying3 Try.underlying23 (Z := j + 127) (wu32b (by omega))) (by decide)) (fun _ _ => ?_)
     refine GL.stepG (tj := 105) rfl rfl (Ex.wp (v := (.int .u32 ((j + 127) * 8388608))) (Ex.shl rfl (m := 23) rfl (by decide) (Z := (j + 127) * 8388608) (wu32b (by omega))) (by decide)) (fun _ _ => ?_)
     refine GL.stepG (tj := 105) rfl rfl (Ex.wp (v := (.bool true)) (Ex.cast (Ex.eql rfl rfl) (congrArg Value.bool (decide_eq_true (by exact hp3.2)))) (by decide)) (fun _ _ => ?_)
     refine GL.val (v := (.bool true)) (Ex.pickT rfl rfl) (by decide) ?_
     refine GL.val (Ex.assign rfl) (by decide) ?_
     refine GL.nil ?_
     refine GE.thenN ?_
     refine GC.ret ?_
     refine GC.ret1 rfl (Rv.tmp rfl) (fun wN HN => ?_)
     exact HN.ret () trivial (by first | rfl | simp) (List.nil_sublist _) rfl
   ·refine GL.stepG (tj := 56) rfl rfl (Ex.wp (v := (.bool false)) (Ex.cast (Ex.gtr rfl rfl) (congrArg Value.bool (decide_eq_false hq512))) (by decide)) (fun _ _ => ?_)
    refine GL.val (v := (.bool false)) (Ex.pickT rfl rfl) (by decide) ?_
    refine GL.val (Ex.move rfl) (by decide) ?_
    refine GL.skipG (tj := 62) rfl rfl rfl (by decide) ?_
    refine GL.skipG (tj := 62) rfl rfl rfl (by decide) ?_
    refine GL.skipG (tj := 62) rfl rfl rfl (by decide) ?_
    refine GL.skipG (tj := 62) rfl rfl rfl (by decide) ?_
    refine GL.val (v := (.bool false)) (Ex.pickF rfl rfl) (by decide) ?_
    refine GL.nil ?_
    refine GE.thenN ?_
    refine GC.cond rfl (fun hq584 => by cases hq584) (fun _ => ?_)
    refine GC.skip ?_
    refine GE.thenN ?_
    refine GC.seq ?_
    refine GC.region ?_
    refine GL.val (Ex.move rfl) (by decide) ?_
    refine GL.val (v := (.int .i64 q)) (Ex.rem rfl rfl (Z := q) (by decide) (by first | exact hq.symm | (rw [← hq]; exact w64 (by omega)))) (by decide) ?_
    refine GL.val (v := (.int .i64 (q + 254))) (Ex.add rfl rfl (Z := q + 254) (w64 (by omega))) (by decide) ?_
    refine GL.val (v := (.int .i64 ((q + 254) % 254))) (Ex.rem rfl rfl (Z := (q + 254) % 254) (by omega) (rem64 (by omega) (by omega))) (by decide) ?_
    refine GL.val (v := (.int .i64 (((q + 254) % 254) - 126))) (Ex.sub' rfl rfl (Z := ((q + 254) % 254) - 126) (w64 (by omega))) (by decide) ?_
    refine GL.val (Ex.assign rfl) (by decide) ?_
    refine GL.nil ?_
    refine GE.thenN ?_
    refine GC.seq ?_
    obtain ⟨j, hj⟩ : ∃ j, j = ((q + 254) % 254) - 126 := ⟨_, rfl⟩
    rw [← hj]
    have hp3 := Lb.back3 (k := j) (by omega) (by omega)
    have hFI := Lb.FI_u32 (k := j) (by omega) (by omega)
    refine GC.region ?_
    refine GL.val (Ex.move rfl) (by decide) ?_
    refine GL.val (v := (.int .i64 (j + 127))) (Ex.add rfl rfl (Z := j + 127) (w64 (by omega))) (by decide) ?_
    refine GL.val (v := (.int .u32 (j + 127))) (Ex.conv rfl Try.underlying3 Try.underlying23 (Z := j + 127) (wu32b (by omega))) (by decide) ?_
    refine GL.val (v := (.int .u32 ((j + 127) * 8388608))) (Ex.shl rfl (m := 23) rfl (by decide) (Z := (j + 127) * 8388608) (wu32b (by omega))) (by decide) ?_
    refine GL.step (Stp.callR (vs := [(.int .u32 ((j + 127) * 8388608))]) rfl rfl T.own18 (by decide) (fun wc hw => log_p ((j + 127) * 8388608) wc (by omega))) (fun xq585 hq586 => ?_)
    refine GL.val (Ex.move rfl) (by decide) ?_
    refine GL.step (Stp.callR (vs := [(.int .i64 j)]) rfl rfl T.own37 (by decide) (fun wc hw => fromint_all j wc (by omega))) (fun xq587 hq588 => ?_)
    refine GL.val (v := (.bool true)) (Ex.cast (Ex.eql rfl rfl) (congrArg Value.bool (decide_eq_true (by exact hp3.1)))) (by decide) ?_
    refine GL.val (Ex.move rfl) (by decide) ?_
    refine GL.stepG (tj := 105) rfl rfl (Ex.wp (v := (.int .i64 j)) (Ex.move rfl) (by decide)) (fun _ _ => ?_)
    refine GL.stepG (tj := 105) rfl rfl (Stp.callR (vs := [(.int .i64 j)]) rfl rfl T.own37 (by decide) (fun wc hw => fromint_all j wc (by omega))) (fun xq589 hq590 => ?_)
    refine GL.stepG (tj := 105) rfl rfl (Stp.callR (vs := [(.int .u32 ((Lb.FI j)))]) rfl rfl T.own20 (by decide) (fun wc hw => exp_p ((Lb.FI j)) wc (by omega))) (fun xq591 hq592 => ?_)
    refine GL.stepG (tj := 105) rfl rfl (Ex.wp (v := (.int .i64 j)) (Ex.move rfl) (by decide)) (fun _ _ => ?_)
    refine GL.stepG (tj := 105) rfl rfl (Ex.wp (v := (.int .i64 (j + 127))) (Ex.add rfl rfl (Z := j + 127) (w64 (by omega))) (by decide)) (fun _ _ => ?_)
    refine GL.stepG (tj := 105) rfl rfl (Ex.wp (v := (.int .u32 (j + 127))) (Ex.conv rfl Try.underlying3 Try.underlying23 (Z := j + 127) (wu32b (by omega))) (by decide)) (fun _ _ => ?_)
    refine GL.stepG (tj := 105) rfl rfl (Ex.wp (v := (.int .u32 ((j + 127) * 8388608))) (Ex.shl rfl (m := 23) rfl (by decide) (Z := (j + 127) * 8388608) (wu32b (by omega))) (by decide)) (fun _ _ => ?_)
    refine GL.stepG (tj := 105) rfl rfl (Ex.wp (v := (.bool true)) (Ex.cast (Ex.eql rfl rfl) (congrArg Value.bool (decide_eq_true (by exact hp3.2)))) (by decide)) (fun _ _ => ?_)
    refine GL.val (v := (.bool true)) (Ex.pickT rfl rfl) (by decide) ?_
    refine GL.val (Ex.assign rfl) (by decide) ?_
    refine GL.nil ?_
    refine GE.thenN ?_
    refine GC.ret ?_
    refine GC.ret1 rfl (Rv.tmp rfl) (fun wN HN => ?_)
    exact HN.ret () trivial (by first | rfl | simp) (List.nil_sublist _) rfl
  ·refine GL.val (v := (.bool false)) (Ex.cast (Ex.move rfl) (congrArg Value.bool (decide_eq_false hq507))) (by decide) ?_
   refine GL.skipG (tj := 56) rfl rfl rfl (by decide) ?_
   refine GL.skipG (tj := 56) rfl rfl rfl (by decide) ?_
   refine GL.skipG (tj := 56) rfl rfl rfl (by decide) ?_
   refine GL.skipG (tj := 56) rfl rfl rfl (by decide) ?_
   refine GL.val (v := (.bool false)) (Ex.pickF rfl rfl) (by decide) ?_
   refine GL.val (Ex.move rfl) (by decide) ?_
   refine GL.skipG (tj := 62) rfl rfl rfl (by decide) ?_
   refine GL.skipG (tj := 62) rfl rfl rfl (by decide) ?_
   refine GL.skipG (tj := 62) rfl rfl rfl (by decide) ?_
   refine GL.skipG (tj := 62) rfl rfl rfl (by decide) ?_
   refine GL.val (v := (.bool false)) (Ex.pickF rfl rfl) (by decide) ?_
   refine GL.nil ?_
   refine GE.thenN ?_
   refine GC.cond rfl (fun hq593 => by cases hq593) (fun _ => ?_)
   refine GC.skip ?_
   refine GE.thenN ?_
   refine GC.seq ?_
   refine GC.region ?_
   refine GL.val (Ex.move rfl) (by decide) ?_
   refine GL.val (v := (.int .i64 q)) (Ex.rem rfl rfl (Z := q) (by decide) (by first | exact hq.symm | (rw [← hq]; exact w64 (by omega)))) (by decide) ?_
   refine GL.val (v := (.int .i64 (q + 254))) (Ex.add rfl rfl (Z := q + 254) (w64 (by omega))) (by decide) ?_
   refine GL.val (v := (.int .i64 ((q + 254) % 254))) (Ex.rem rfl rfl (Z := (q + 254) % 254) (by omega) (rem64 (by omega) (by omega))) (by decide) ?_
   refine GL.val (v := (.int .i64 (((q + 254) % 254) - 126))) (Ex.sub' rfl rfl (Z := ((q + 254) % 254) - 126) (w64 (by omega))) (by decide) ?_
   refine GL.val (Ex.assign rfl) (by decide) ?_
   refine GL.nil ?_
   refine GE.thenN ?_
   refine GC.seq ?_
   obtain ⟨j, hj⟩ : ∃ j, j = ((q + 254) % 254) - 126 := ⟨_, rfl⟩
   rw [← hj]
   have hp3 := Lb.back3 (k := j) (by omega) (by omega)
   have hFI := Lb.FI_u32 (k := j) (by omega) (by omega)
   refine GC.region ?_
   refine GL.val (Ex.move rfl) (by decide) ?_
   refine GL.val (v := (.int .i64 (j + 127))) (Ex.add rfl rfl (Z := j + 127) (w64 (by omega))) (by decide) ?_
   refine GL.val (v := (.int .u32 (j + 127))) (Ex.conv rfl Try.underlying3 Try.underlying23 (Z := j + 127) (wu32b (by omega))) (by decide) ?_
   refine GL.val (v := (.int .u32 ((j + 127) * 8388608))) (Ex.shl rfl (m := 23) rfl (by decide) (Z := (j + 127) * 8388608) (wu32b (by omega))) (by decide) ?_
   refine GL.step (Stp.callR (vs := [(.int .u32 ((j + 127) * 8388608))]) rfl rfl T.own18 (by decide) (fun wc hw => log_p ((j + 127) * 8388608) wc (by omega))) (fun xq594 hq595 => ?_)
   refine GL.val (Ex.move rfl) (by decide) ?_
   refine GL.step (Stp.callR (vs := [(.int .i64 j)]) rfl rfl T.own37 (by decide) (fun wc hw => fromint_all j wc (by omega))) (fun xq596 hq597 => ?_)
   refine GL.val (v := (.bool true)) (Ex.cast (Ex.eql rfl rfl) (congrArg Value.bool (decide_eq_true (by exact hp3.1)))) (by decide) ?_
   refine GL.val (Ex.move rfl) (by decide) ?_
   refine GL.stepG (tj := 105) rfl rfl (Ex.wp (v := (.int .i64 j)) (Ex.move rfl) (by decide)) (fun _ _ => ?_)
   refine GL.stepG (tj := 105) rfl rfl (Stp.callR (vs := [(.int .i64 j)]) rfl rfl T.own37 (by decide) (fun wc hw => fromint_all j wc (by omega))) (fun xq598 hq599 => ?_)
   refine GL.stepG (tj := 105) rfl rfl (Stp.callR (vs := [(.int .u32 ((Lb.FI j)))]) rfl rfl T.own20 (by decide) (fun wc hw => exp_p ((Lb.FI j)) wc (by omega))) (fun xq600 hq601 => ?_)
   refine GL.stepG (tj := 105) rfl rfl (Ex.wp (v := (.int .i64 j)) (Ex.move rfl) (by decide)) (fun _ _ => ?_)
   refine GL.stepG (tj := 105) rfl rfl (Ex.wp (v := (.int .i64 (j + 127))) (Ex.add rfl rfl (Z := j + 127) (w64 (by omega))) (by decide)) (fun _ _ => ?_)
   refine GL.stepG (tj := 105) rfl rfl (Ex.wp (v := (.int .u32 (j + 127))) (Ex.conv rfl Try.underlying3 Try.underlying23 (Z := j + 127) (wu32b (by omega))) (by decide)) (fun _ _ => ?_)
   refine GL.stepG (tj := 105) rfl rfl (Ex.wp (v := (.int .u32 ((j + 127) * 8388608))) (Ex.shl rfl (m := 23) rfl (by decide) (Z := (j + 127) * 8388608) (wu32b (by omega))) (by decide)) (fun _ _ => ?_)
   refine GL.stepG (tj := 105) rfl rfl (Ex.wp (v := (.bool true)) (Ex.cast (Ex.eql rfl rfl) (congrArg Value.bool (decide_eq_true (by exact hp3.2)))) (by decide)) (fun _ _ => ?_)
   refine GL.val (v := (.bool true)) (Ex.pickT rfl rfl) (by decide) ?_
   refine GL.val (Ex.assign rfl) (by decide) ?_
   refine GL.nil ?_
   refine GE.thenN ?_
   refine GC.ret ?_
   refine GC.ret1 rfl (Rv.tmp rfl) (fun wN HN => ?_)
   exact HN.ret () trivial (by first | rfl | simp) (List.nil_sublist _) rfl

end Go.Proofs.Ytbhjadkgeadpiaa.C
