/- PictureKeeps: what its code does, walked. -/
import Derived.Test.YtiikkhbmhojbaaaT
import Derived.Test.YtiikkhbmhojbaaaOp
import Derived.Test.YtiikkhbmhojbaaaKq
namespace Go.Proofs.Ytiikkhbmhojbaaa.C
open Go Go.RowKit Sx
set_option linter.unusedVariables false
set_option maxRecDepth 100000
set_option maxHeartbeats 1000000
theorem size (pw ph : Int) (w : World) :
  Calls Try.prog 70 #[(.int .i64 pw), (.int .i64 ph)] w (Ret w (fun _ : Unit => True) (fun _ => .bool (sizeB pw ph)) (fun _ => [])) := by
 refine enter (M := None) (L := []) (n := 25) (l := [(0, (.int .i64 pw)), (1, (.int .i64 ph))]) Try.func70 rfl rfl (Args.cons rfl (Args.cons rfl (Args.nil _))) (Hp.start _ _) ?_
 refine GC.seq (GC.region ?_)
 refine GL.sg rfl (by decide) ?_
 refine GL.nil (GE.thenN (GC.seq (GC.region ?_)))
 refine GL.mv rfl (by decide) ?_
 by_cases hq1 : 1 ≤ pw
 ·refine GL.val (v := (.bool true)) (Ex.cast (Ex.geq rfl rfl) (congrArg Value.bool (decide_eq_true hq1))) (by decide) ?_
  refine GL.mv rfl (by decide) ?_
  refine GL.stepG (tj := 7) rfl rfl (Ex.wp (v := (.int .i64 ph)) (Ex.move rfl) (by decide)) (fun _ _ => ?_)
  by_cases hq2 : 1 ≤ ph
  ·refine GL.stepG (tj := 7) rfl rfl (Ex.wp (v := (.bool true)) (Ex.cast (Ex.geq rfl rfl) (congrArg Value.bool (decide_eq_true hq2))) (by decide)) (fun _ _ => ?_)
   refine GL.val (v := (.bool true)) (Ex.pickT rfl rfl) (by decide) ?_
   refine GL.mv rfl (by decide) ?_
   refine GL.stepG (tj := 11) rfl rfl (Ex.wp (v := (.int .i64 pw)) (Ex.move rfl) (by decide)) (fun _ _ => ?_)
   by_cases hq3 : pw ≤ 1024
   ·refine GL.stepG (tj := 11) rfl rfl (Ex.wp (v := (.bool true)) (Ex.cast (Ex.leq rfl rfl) (congrArg Value.bool (decide_eq_true hq3))) (by decide)) (fun _ _ => ?_)
    refine GL.val (v := (.bool true)) (Ex.pickT rfl rfl) (by decide) ?_
    refine GL.mv rfl (by decide) ?_
    refine GL.stepG (tj := 15) rfl rfl (Ex.wp (v := (.int .i64 ph)) (Ex.move rfl) (by decide)) (fun _ _ => ?_)
    by_cases hq4 : ph ≤ 1024
    ·have hm := mul_bd (w := pw) (h := ph) (by omega) (by omega) (by omega) (by omega)
     refine GL.stepG (tj := 15) rfl rfl (Ex.wp (v := (.bool true)) (Ex.cast (Ex.leq rfl rfl) (congrArg Value.bool (decide_eq_true hq4))) (by decide)) (fun _ _ => ?_)
     refine GL.val (v := (.bool true)) (Ex.pickT rfl rfl) (by decide) ?_
     refine GL.mv rfl (by decide) ?_
     refine GL.stepG (tj := 19) rfl rfl (Ex.wp (v := (.int .i64 pw)) (Ex.move rfl) (by decide)) (fun _ _ => ?_)
     refine GL.stepG (tj := 19) rfl rfl (Ex.wp (v := (.int .i64 ph)) (Ex.move rfl) (by decide)) (fun _ _ => ?_)
     refine GL.stepG (tj := 19) rfl rfl (Ex.wp (v := (.int .i64 (pw * ph))) (Ex.mul rfl rfl (Z := pw * ph) (w64 (by omega))) (by decide)) (fun _ _ => ?_)
     refine GL.stepG (tj := 19) rfl rfl (Ex.wp (v := (.bool (decide ((pw * ph) ≤ 65536)))) (Ex.leq rfl rfl) (by decide)) (fun _ _ => ?_)
     refine GL.val (v := (.bool (decide ((pw * ph) ≤ 65536)))) (Ex.pickT rfl rfl) (by decide) ?_
     refine GL.sg rfl (by decide) ?_
     refine GL.nil (GE.thenN (GC.ret ?_))
     refine GC.ret1 rfl (Rv.tmp rfl) (fun wN HN => ?_)
     exact HN.ret () trivial (by simp only [sizeB]; congr 1; apply decide_eq_decide.2; omega) (List.nil_sublist _) rfl
    ·refine GL.stepG (tj := 15) rfl rfl (Ex.wp (v := (.bool false)) (Ex.cast (Ex.leq rfl rfl) (congrArg Value.bool (decide_eq_false hq4))) (by decide)) (fun _ _ => ?_)
     refine GL.val (v := (.bool false)) (Ex.pickT rfl rfl) (by decide) ?_
     refine GL.mv rfl (by decide) ?_
     refine GL.skipG (tj := 19) rfl rfl rfl (by decide) ?_
     refine GL.skipG (tj := 19) rfl rfl rfl (by decide) ?_
     refine GL.skipG (tj := 19) rfl rfl rfl (by decide) ?_
     refine GL.skipG (tj := 19) rfl rfl rfl (by decide) ?_
     refine GL.val (v := (.bool false)) (Ex.pickF rfl rfl) (by decide) ?_
     refine GL.sg rfl (by decide) ?_
     refine GL.nil (GE.thenN (GC.ret ?_))
     refine GC.ret1 rfl (Rv.tmp rfl) (fun wN HN => ?_)
     exact HN.ret () trivial (by simp only [sizeB]; rw [decide_eq_false (by omega)]) (List.nil_sublist _) rfl
   ·refine GL.stepG (tj := 11) rfl rfl (Ex.wp (v := (.bool false)) (Ex.cast (Ex.leq rfl rfl) (congrArg Value.bool (decide_eq_false hq3))) (by decide)) (fun _ _ => ?_)
    refine GL.val (v := (.bool false)) (Ex.pickT rfl rfl) (by decide) ?_
    refine GL.mv rfl (by decide) ?_
    refine GL.skipG (tj := 15) rfl rfl rfl (by decide) ?_
    refine GL.skipG (tj := 15) rfl rfl rfl (by decide) ?_
    refine GL.val (v := (.bool false)) (Ex.pickF rfl rfl) (by decide) ?_
    refine GL.mv rfl (by decide) ?_
    refine GL.skipG (tj := 19) rfl rfl rfl (by decide) ?_
    refine GL.skipG (tj := 19) rfl rfl rfl (by decide) ?_
    refine GL.skipG (tj := 19) rfl rfl rfl (by decide) ?_
    refine GL.skipG (tj := 19) rfl rfl rfl (by decide) ?_
    refine GL.val (v := (.bool false)) (Ex.pickF rfl rfl) (by decide) ?_
    refine GL.sg rfl (by decide) ?_
    refine GL.nil (GE.thenN (GC.ret ?_))
    refine GC.ret1 rfl (Rv.tmp rfl) (fun wN HN => ?_)
    exact HN.ret () trivial (by simp only [sizeB]; rw [decide_eq_false (by omega)]) (List.nil_sublist _) rfl
  ·refine GL.stepG (tj := 7) rfl rfl (Ex.wp (v := (.bool false)) (Ex.cast (Ex.geq rfl rfl) (congrArg Value.bool (decide_eq_false hq2))) (by decide)) (fun _ _ => ?_)
   refine GL.val (v := (.bool false)) (Ex.pickT rfl rfl) (by decide) ?_
   refine GL.mv rfl (by decide) ?_
   refine GL.skipG (tj := 11) rfl rfl rfl (by decide) ?_
   refine GL.skipG (tj := 11) rfl rfl rfl (by decide) ?_
   refine GL.val (v := (.bool false)) (Ex.pickF rfl rfl) (by decide) ?_
   refine GL.mv rfl (by decide) ?_
   refine GL.skipG (tj := 15) rfl rfl rfl (by decide) ?_
   refine GL.skipG (tj := 15) rfl rfl rfl (by decide) ?_
   refine GL.val (v := (.bool false)) (Ex.pickF rfl rfl) (by decide) ?_
   refine GL.mv rfl (by decide) ?_
   refine GL.skipG (tj := 19) rfl rfl rfl (by decide) ?_
   refine GL.skipG (tj := 19) rfl rfl rfl (by decide) ?_
   refine GL.skipG (tj := 19) rfl rfl rfl (by decide) ?_
   refine GL.skipG (tj := 19) rfl rfl rfl (by decide) ?_
   refine GL.val (v := (.bool false)) (Ex.pickF rfl rfl) (by decide) ?_
   refine GL.sg rfl (by decide) ?_
   refine GL.nil (GE.thenN (GC.ret ?_))
   refine GC.ret1 rfl (Rv.tmp rfl) (fun wN HN => ?_)
   exact HN.ret () trivial (by simp only [sizeB]; rw [decide_eq_false (by omega)]) (List.nil_sublist _) rfl
 ·refine GL.val (v := (.bool false)) (Ex.cast (Ex.geq rfl rfl) (congrArg Value.bool (decide_eq_false hq1))) (by decide) ?_
  refine GL.mv rfl (by decide) ?_
  refine GL.skipG (tj := 7) rfl rfl rfl (by decide) ?_
  refine GL.skipG (tj := 7) rfl rfl rfl (by decide) ?_
  refine GL.val (v := (.bool false)) (Ex.pickF rfl rfl) (by decide) ?_
  refine GL.mv rfl (by decide) ?_
  refine GL.skipG (tj := 11) rfl rfl rfl (by decide) ?_
  refine GL.skipG (tj := 11) rfl rfl rfl (by decide) ?_
  refine GL.val (v := (.bool false)) (Ex.pickF rfl rfl) (by decide) ?_
  refine GL.mv rfl (by decide) ?_
  refine GL.skipG (tj := 15) rfl rfl rfl (by decide) ?_
  refine GL.skipG (tj := 15) rfl rfl rfl (by decide) ?_
  refine GL.val (v := (.bool false)) (Ex.pickF rfl rfl) (by decide) ?_
  refine GL.mv rfl (by decide) ?_
  refine GL.skipG (tj := 19) rfl rfl rfl (by decide) ?_
  refine GL.skipG (tj := 19) rfl rfl rfl (by decide) ?_
  refine GL.skipG (tj := 19) rfl rfl rfl (by decide) ?_
  refine GL.skipG (tj := 19) rfl rfl rfl (by decide) ?_
  refine GL.val (v := (.bool false)) (Ex.pickF rfl rfl) (by decide) ?_
  refine GL.sg rfl (by decide) ?_
  refine GL.nil (GE.thenN (GC.ret ?_))
  refine GC.ret1 rfl (Rv.tmp rfl) (fun wN HN => ?_)
  exact HN.ret () trivial (by simp only [sizeB]; rw [decide_eq_false (by omega)]) (List.nil_sublist _) rfl

theorem check (W H : Int) (ad : Option Addr) (n cap : Nat) (w : World) :
  Calls Try.prog 34 #[(.agg #[(.int .i64 W), (.int .i64 H), (.slice ad n cap)])] w (Ret w (fun _ : Unit => True) (fun _ => .int .i64 (chk W H n)) (fun _ => [])) := by
 refine enter (M := None) (L := []) (n := 20) (l := [(0, (.agg #[(.int .i64 W), (.int .i64 H), (.slice ad n cap)]))]) Try.func34 rfl rfl (Args.cons rfl (Args.nil _)) (Hp.start _ _) ?_
 refine GC.seq (GC.region ?_)
 refine GL.step (Stp.box (cs := [(.int .i64 W), (.int .i64 H), (.slice ad n cap)]) rfl rfl (by decide)) (fun bq1 _ => ?_)
 refine GL.sg rfl (by decide) ?_
 refine GL.nil (GE.thenN (GC.seq (GC.block (GC.seq (GC.region ?_)))))
 refine GL.val (v := (.pointer (some ⟨bq1, 0, none⟩))) (Ex.cast (Ex.fieldAddr rfl Try.underlying43 rfl T.sz3 (by decide)) rfl) (by decide) ?_
 refine GL.val (Ex.load rfl T.ag3 (i := 0) rfl rfl) (by decide) ?_
 refine GL.val (v := (.pointer (some ⟨bq1, 1, none⟩))) (Ex.cast (Ex.fieldAddr rfl Try.underlying43 rfl T.sz3 (by decide)) rfl) (by decide) ?_
 refine GL.val (Ex.load rfl T.ag3 (i := 0) rfl rfl) (by decide) ?_
 refine GL.step (Stp.callR (vs := [(.int .i64 W), (.int .i64 H)]) rfl rfl T.own70 (by decide) (fun wc hw => size W H wc)) (fun xq2 hq3 => ?_)
 refine GL.val (v := (.bool (!(sizeB W H)))) (Ex.not rfl) (by decide) ?_
 refine GL.sg rfl (by decide) ?_
 refine GL.nil (GE.thenN ?_)
 refine GC.cond rfl (fun hq4 => ?_) (fun hq4 => ?_)
 ·have hs : sizeB W H = false := by simpa using hq4
  refine GC.seq (GC.region ?_)
  refine GL.sg rfl (by decide) ?_
  refine GL.nil (GE.thenN (GC.ret (GE.blockR (GE.thenR ?_))))
  refine GC.ret1 rfl (Rv.tmp rfl) (fun wN HN => ?_)
  exact HN.ret () trivial (by simp [chk, *]) (List.nil_sublist _) rfl
 ·have hs : sizeB W H = true := by simpa using hq4
  refine GC.seq ?_
  have hm := sizeB_mul hs
  refine GC.region ?_
  refine GL.val (v := (.pointer (some ⟨bq1, 2, none⟩))) (Ex.cast (Ex.fieldAddr rfl Try.underlying43 rfl T.sz41 (by decide)) rfl) (by decide) ?_
  refine GL.val (Ex.load rfl T.ag41 (i := 0) rfl rfl) (by decide) ?_
  refine GL.val (v := (.int .i64 ((n : Int)))) (Ex.len rfl Try.underlying41) (by decide) ?_
  refine GL.val (v := (.pointer (some ⟨bq1, 0, none⟩))) (Ex.cast (Ex.fieldAddr rfl Try.underlying43 rfl T.sz3 (by decide)) rfl) (by decide) ?_
  refine GL.val (Ex.load rfl T.ag3 (i := 0) rfl rfl) (by decide) ?_
  refine GL.val (v := (.pointer (some ⟨bq1, 1, none⟩))) (Ex.cast (Ex.fieldAddr rfl Try.underlying43 rfl T.sz3 (by decide)) rfl) (by decide) ?_
  refine GL.val (Ex.load rfl T.ag3 (i := 0) rfl rfl) (by decide) ?_
  refine GL.val (v := (.int .i64 (W * H))) (Ex.mul rfl rfl (Z := W * H) (w64 (by omega))) (by decide) ?_
  refine GL.val (v := (.bool (decide (((n : Int)) ≠ (W * H))))) (Ex.neq rfl rfl) (by decide) ?_
  refine GL.sg rfl (by decide) ?_
  refine GL.nil (GE.thenN ?_)
  refine GC.cond rfl (fun hq5 => ?_) (fun hq5 => ?_)
  ·replace hq5 := of_decide_eq_true hq5
   refine GC.seq (GC.region ?_)
   refine GL.sg rfl (by decide) ?_
   refine GL.nil (GE.thenN (GC.ret (GE.blockR (GE.thenR ?_))))
   refine GC.ret1 rfl (Rv.tmp rfl) (fun wN HN => ?_)
   exact HN.ret () trivial (by simp [chk, *]) (List.nil_sublist _) rfl
  ·replace hq5 := of_decide_eq_false hq5
   refine GC.skip (GE.blockN (GE.thenN (GC.seq (GC.region ?_))))
   refine GL.sg rfl (by decide) ?_
   refine GL.nil (GE.thenN (GC.ret ?_))
   refine GC.ret1 rfl (Rv.tmp rfl) (fun wN HN => ?_)
   exact HN.ret () trivial (by simp [chk, *]) (List.nil_sublist _) rfl

theorem made (W H : Nat) (fid : FuncId) (caps : Array Value) (g : Nat → Nat → Int) (w : World) (hf : Fn2 Try.prog w fid caps W H g) (hW : W ≤ 1024) (hH : H ≤ 1024) (hWH : W * H ≤ 65536) :
  Calls Try.prog 73 #[(.agg #[(.int .i64 ((W : Int))), (.int .i64 ((H : Int))), (.func (.func fid) #[] caps)])] w (Ret w (fun _ : Nat => True) (fun b => .agg #[.int .i64 W, .int .i64 H, .slice (some ⟨b, 0, none⟩) (W * H) (W * H)]) (fun b => [⟨b, (tab W g (W * H)).map u32, 28, true⟩])) := by
 refine enter (M := None) (L := []) (n := 40) (l := [(0, (.agg #[(.int .i64 ((W : Int))), (.int .i64 ((H : Int))), (.func (.func fid) #[] caps)]))]) Try.func73 rfl rfl (Args.cons rfl (Args.nil _)) (Hp.start _ _) ?_
 refine GC.seq (GC.region ?_)
 refine GL.step (Stp.box (cs := [(.int .i64 ((W : Int))), (.int .i64 ((H : Int))), (.func (.func fid) #[] caps)]) rfl rfl (by decide)) (fun bq1 _ => ?_)
 refine GL.step (Stp.alloc T.zr43 (by decide)) (fun bq2 _ => ?_)
 refine GL.nil (GE.thenN (GC.seq ?_))
 refine GC.drawP [⟨bq2, [(.int .i64 0), (.int .i64 0), (.slice none 0 0)], 43, true⟩, ⟨bq1, [(.int .i64 ((W : Int))), (.int .i64 ((H : Int))), (.func (.func fid) #[] caps)], 120, true⟩] T.mixed (by kernel_rfl) (by kernel_rfl) (fuel := 12) rfl rfl ?_
 refine GH.tk 0 (v := (.pointer (some ⟨bq1, 0, none⟩))) rfl (by kernel_rfl) (fun _ _ _ h => h) (Ex.cast (Ex.fieldAddr rfl Try.underlying120 rfl T.sz3 (by decide)) rfl) (ulC (ulC ulN)) (by decide) ?_
 refine GH.tk 1 (v := (.int .i64 ((W : Int)))) rfl (by kernel_rfl) (fun _ _ _ h => h) (Ex.load rfl T.ag3 (i := 1) rfl rfl) (ulC (ulC ulN)) (by decide) ?_
 refine GH.tk 2 (v := (.pointer (some ⟨bq1, 1, none⟩))) rfl (by kernel_rfl) (fun _ _ _ h => h) (Ex.cast (Ex.fieldAddr rfl Try.underlying120 rfl T.sz3 (by decide)) rfl) (ulC (ulC ulN)) (by decide) ?_
 refine GH.tk 3 (v := (.int .i64 ((H : Int)))) rfl (by kernel_rfl) (fun _ _ _ h => h) (Ex.load rfl T.ag3 (i := 1) rfl rfl) (ulC (ulC ulN)) (by decide) ?_
 refine GH.tk 4 (v := (.pointer (some ⟨bq1, 0, none⟩))) rfl (by kernel_rfl) (fun _ _ _ h => h) (Ex.cast (Ex.fieldAddr rfl Try.underlying120 rfl T.sz3 (by decide)) rfl) (ulC (ulC ulN)) (by decide) ?_
 refine GH.tk 5 (v := (.int .i64 ((W : Int)))) rfl (by kernel_rfl) (fun _ _ _ h => h) (Ex.load rfl T.ag3 (i := 1) rfl rfl) (ulC (ulC ulN)) (by decide) ?_
 refine GH.tk 6 (v := (.pointer (some ⟨bq1, 1, none⟩))) rfl (by kernel_rfl) (fun _ _ _ h => h) (Ex.cast (Ex.fieldAddr rfl Try.underlying120 rfl T.sz3 (by decide)) rfl) (ulC (ulC ulN)) (by decide) ?_
 refine GH.tk 7 (v := (.int .i64 ((H : Int)))) rfl (by kernel_rfl) (fun _ _ _ h => h) (Ex.load rfl T.ag3 (i := 1) rfl rfl) (ulC (ulC ulN)) (by decide) ?_
 refine GH.tk 8 (v := (.int .i64 (((W * H : Nat) : Int)))) rfl (by kernel_rfl) (fun _ _ _ h => h) (Ex.mul rfl rfl (Z := ((W * H : Nat) : Int)) (by rw [w64 (by have := Int.natCast_mul W H; omega)]; exact (Int.natCast_mul W H).symm)) (ulC (ulC ulN)) (by decide) ?_
 refine GH.many (rs := [9, 11]) (by kernel_rfl) (by simp) ?_
 refine GHs.cons rfl (Stp.makeSlice (a1 := 0) (c := W * H) rfl rfl Try.underlying41 T.zr28 T.sz28 T.by28 rfl (by omega) (by omega) (by omega) (by decide)) (fun _ => (ulS (ulC (ulC ulN)))) (fun bq3 _ => ?_) ?_
 ·refine GH.tk 10 (v := (.agg #[(.int .i64 ((W : Int))), (.int .i64 ((H : Int))), (.slice (some ⟨bq3, 0, none⟩) 0 (W * H))])) rfl (by kernel_rfl) (fun _ _ _ h => h) (Ex.build (vs := [(0, (.int .i64 ((W : Int)))), (1, (.int .i64 ((H : Int)))), (2, (.slice (some ⟨bq3, 0, none⟩) 0 (W * H)))]) rfl (by first | rfl | kernel_rfl)) (ulS (ulC (ulC ulN))) (by decide) ?_
  refine GH.one 11 rfl (by kernel_rfl) (Stp.alloc T.zr43 (by decide)) (fun _ => (ulS (ulS (ulC (ulC ulN))))) (fun bq4 _ => ?_)
  refine GH.done (by kernel_rfl) ?_
  refine GE.thenN ?_
  refine GE.tail rfl (Stp.st0 (cs' := [(.int .i64 ((W : Int))), (.int .i64 ((H : Int))), (.slice (some ⟨bq3, 0, none⟩) 0 (W * H))]) rfl rfl rfl T.sz43 rfl rfl rfl) (fun _ _ => ?_)
  refine GE.thenN (GC.seq (GC.seq ?_))
  rw [madeCells_one, ← cur_zero W g (W * H)]
  refine GC.region ?_
  refine GL.val (v := (.pointer (some ⟨bq1, 1, none⟩))) (Ex.cast (Ex.fieldAddr rfl Try.underlying120 rfl T.sz3 (by decide)) rfl) (by decide) ?_
  refine GL.val (Ex.load rfl T.ag3 (i := 3) rfl rfl) (by decide) ?_
  refine GL.mv rfl (by decide) ?_
  refine GL.nil (GE.thenN (GC.block ?_))
  refine GC.loop (σ := Nat) (fun y => y ≤ H) (fun y => [(1, (.pointer (some ⟨bq1, 0, none⟩))), (2, (.pointer (some ⟨bq2, 0, none⟩))), (3, (.pointer (some ⟨bq4, 0, none⟩))), (18, (.int .i64 ((H : Int)))), (19, (.int .i64 (((y : Nat) : Int))))]) (fun y => [⟨bq4, [(.int .i64 ((W : Int))), (.int .i64 ((H : Int))), (.slice (some ⟨bq3, 0, none⟩) (W * y) (W * H))], 43, true⟩, ⟨bq3, cur W g (W * H) (W * y), 28, true⟩, ⟨bq2, [(.int .i64 0), (.int .i64 0), (.slice none 0 0)], 43, true⟩, ⟨bq1, [(.int .i64 ((W : Int))), (.int .i64 ((H : Int))), (.func (.func fid) #[] caps)], 120, true⟩]) (fun y => H - y) (0) (Nat.zero_le _) ((sub_cons rfl ((sub_cons rfl ((sub_cons rfl ((sub_cons rfl ((sub_cons rfl ((sub_nil _)))))))))))) (ulC (ulC (ulC (ulC ulN)))) (fun y hp => ?_)
  refine GC.seq (GC.region ?_)
  refine GL.val (v := (.bool (decide ((((y : Nat) : Int)) < ((H : Int)))))) (Ex.lss rfl rfl) (by decide) ?_
  refine GL.nil (GE.thenN (GC.seq ?_))
  refine GC.cond rfl (fun hq5 => ?_) (fun hq5 => ?_)
  ·replace hq5 := of_decide_eq_true hq5
   refine GC.skip (GE.thenN (GC.seq (GC.block (GC.seq (GC.region ?_)))))
   refine GL.mv rfl (by decide) ?_
   refine GL.sg rfl (by decide) ?_
   refine GL.nil (GE.thenN (GC.seq (GC.region ?_)))
   refine GL.val (v := (.pointer (some ⟨bq1, 0, none⟩))) (Ex.cast (Ex.fieldAddr rfl Try.underlying120 rfl T.sz3 (by decide)) rfl) (by decide) ?_
   refine GL.val (Ex.load rfl T.ag3 (i := 3) rfl rfl) (by decide) ?_
   refine GL.mv rfl (by decide) ?_
   refine GL.nil (GE.thenN (GC.block ?_))
   refine GC.loop (σ := Nat) (fun x => x ≤ W) (fun x => [(1, (.pointer (some ⟨bq1, 0, none⟩))), (2, (.pointer (some ⟨bq2, 0, none⟩))), (3, (.pointer (some ⟨bq4, 0, none⟩))), (18, (.int .i64 ((H : Int)))), (19, (.int .i64 (((y : Nat) : Int)))), (4, (.int .i64 (((y : Nat) : Int)))), (23, (.int .i64 ((W : Int)))), (24, (.int .i64 (((x : Nat) : Int))))]) (fun x => [⟨bq4, [(.int .i64 ((W : Int))), (.int .i64 ((H : Int))), (.slice (some ⟨bq3, 0, none⟩) (W * y + x) (W * H))], 43, true⟩, ⟨bq3, cur W g (W * H) (W * y + x), 28, true⟩, ⟨bq2, [(.int .i64 0), (.int .i64 0), (.slice none 0 0)], 43, true⟩, ⟨bq1, [(.int .i64 ((W : Int))), (.int .i64 ((H : Int))), (.func (.func fid) #[] caps)], 120, true⟩]) (fun x => W - x) (0) (Nat.zero_le _) ((sub_cons rfl ((sub_cons rfl ((sub_cons rfl ((sub_cons rfl ((sub_cons rfl ((sub_cons rfl ((sub_cons rfl ((sub_cons rfl ((sub_nil _)))))))))))))))))) (ulC (ulC (ulC (ulC ulN)))) (fun x hp => ?_)
   refine GC.seq (GC.region ?_)
   refine GL.val (v := (.bool (decide ((((x : Nat) : Int)) < ((W : Int)))))) (Ex.lss rfl rfl) (by decide) ?_
   refine GL.nil (GE.thenN (GC.seq ?_))
   refine GC.cond rfl (fun hq6 => ?_) (fun hq6 => ?_)
   ·replace hq6 := of_decide_eq_true hq6
    have hxy := place_lt (H := H) (by omega : x < W) (by omega : y < H)
    have hp := at_place (W := W) (y := y) (by omega : x < W)
    have hap := cur_app W g (W * H) (W * y + x) (g x y) hxy (by rw [hp.1, hp.2])
    rw [Nat.add_assoc] at hap
    refine GC.skip (GE.thenN (GC.seq (GC.block (GC.seq (GC.region ?_)))))
    refine GL.mv rfl (by decide) ?_
    refine GL.sg rfl (by decide) ?_
    refine GL.nil (GE.thenN ?_)
    refine GC.drawP [⟨bq4, [(.int .i64 ((W : Int))), (.int .i64 ((H : Int))), (.slice (some ⟨bq3, 0, none⟩) (W * y + x) (W * H))], 43, true⟩, ⟨bq2, [(.int .i64 0), (.int .i64 0), (.slice none 0 0)], 43, true⟩, ⟨bq1, [(.int .i64 ((W : Int))), (.int .i64 ((H : Int))), (.func (.func fid) #[] caps)], 120, true⟩] T.mixed (by kernel_rfl) (by kernel_rfl) (fuel := 10) rfl rfl ?_
    refine GH.tk 0 (v := (.pointer (some ⟨bq4, 2, none⟩))) rfl (by kernel_rfl) (fun _ _ _ h => h) (Ex.cast (Ex.fieldAddr rfl Try.underlying43 rfl T.sz41 (by decide)) rfl) (ulC (ulS (ulC (ulC ulN)))) (by decide) ?_
    refine GH.tk 1 (v := (.slice (some ⟨bq3, 0, none⟩) (W * y + x) (W * H))) rfl (by kernel_rfl) (fun _ _ _ h => h) (Ex.load rfl T.ag41 (i := 0) rfl rfl) (ulC (ulS (ulC (ulC ulN)))) (by decide) ?_
    refine GH.tk 2 (v := (.pointer (some ⟨bq1, 2, none⟩))) rfl (by kernel_rfl) (fun _ _ _ h => h) (Ex.cast (Ex.fieldAddr rfl Try.underlying120 rfl T.sz117 (by decide)) rfl) (ulC (ulS (ulC (ulC ulN)))) (by decide) ?_
    refine GH.tk 3 (v := (.func (.func fid) #[] caps)) rfl (by kernel_rfl) (fun _ _ _ h => h) (Ex.load rfl T.ag117 (i := 2) rfl rfl) (ulC (ulS (ulC (ulC ulN)))) (by decide) ?_
    refine GH.tk 4 (v := (.int .i64 (((x : Nat) : Int)))) rfl (by kernel_rfl) (fun _ _ _ h => h) (Ex.move rfl) (ulC (ulS (ulC (ulC ulN)))) (by decide) ?_
    refine GH.tk 5 (v := (.int .i64 (((y : Nat) : Int)))) rfl (by kernel_rfl) (fun _ _ _ h => h) (Ex.move rfl) (ulC (ulS (ulC (ulC ulN)))) (by decide) ?_
    refine GH.one 6 rfl (by kernel_rfl) (Stp.callR (vs := [(.int .i64 (((x : Nat) : Int))), (.int .i64 (((y : Nat) : Int)))]) rfl rfl hf.1 (by decide) (fun wc hw => hf.2 x y (by omega) (by omega) wc hw.1)) (fun _ => (ulC (ulS (ulC (ulC ulN))))) (fun xq7 hq8 => ?_)
    refine GH.one 7 rfl (by kernel_rfl) (Stp.buildSlice (cs := [(.int .u32 ((g x y)))]) (vs := [(0, (.int .u32 ((g x y))))]) Try.underlying41 T.zr28 T.sz28 rfl (by decide) (by decide) (by first | rfl | kernel_rfl) (by decide)) (fun _ => (ulS (ulC (ulS (ulC (ulC ulN)))))) (fun bq9 _ => ?_)
    refine GH.one 8 rfl (by kernel_rfl) (Stp.appendFits (i := 2) (vs := [.int .u32 (g x y)]) (L1 := [⟨bq9, [(.int .u32 ((g x y)))], 28, true⟩, ⟨bq4, [(.int .i64 ((W : Int))), (.int .i64 ((H : Int))), (.slice (some ⟨bq3, 0, none⟩) (W * y + x) (W * H))], 43, true⟩, ⟨bq3, cur W g (W * H) (W * y + (x + 1)), 28, true⟩, ⟨bq2, [(.int .i64 0), (.int .i64 0), (.slice none 0 0)], 43, true⟩, ⟨bq1, [(.int .i64 ((W : Int))), (.int .i64 ((H : Int))), (.func (.func fid) #[] caps)], 120, true⟩]) rfl rfl Try.underlying41 T.sz28 rfl (fun w hw => hw.rdOf (i := 0) rfl 0) rfl rfl (len' := W * y + (x + 1)) rfl (by omega) (by rw [cur_len _ _ _ _ (by omega)]; simp; omega) (by rw [hap]; rfl) (by decide)) (fun _ => (ulS (ulC (ulS (ulC (ulC ulN)))))) (fun _ _ => ?_)
    refine GH.tk 9 (v := (.pointer (some ⟨bq4, 2, none⟩))) rfl (by kernel_rfl) (fun _ _ _ h => h) (Ex.cast (Ex.fieldAddr rfl Try.underlying43 rfl T.sz41 (by decide)) rfl) (ulS (ulC (ulS (ulC (ulC ulN))))) (by decide) ?_
    refine GH.done (by kernel_rfl) ?_
    refine GE.thenN ?_
    refine GE.tail rfl (Stp.st1 (cs' := [(.int .i64 ((W : Int))), (.int .i64 ((H : Int))), (.slice (some ⟨bq3, 0, none⟩) (W * y + (x + 1)) (W * H))]) rfl rfl rfl T.sz41 rfl rfl rfl) (fun _ _ => ?_)
    refine GE.blockN (GE.thenN (GC.region ?_))
    refine GL.val (v := (.int .i64 (((x + 1 : Nat) : Int)))) (Ex.add rfl rfl (Z := ((x + 1 : Nat) : Int)) (w64 (by omega))) (by decide) ?_
    refine GL.mv rfl (by decide) ?_
    refine GL.nil (GE.thenN ?_)
    exact Head.mk (x + 1) (by omega) (by omega) ((sub_cons rfl ((sub_cons rfl ((sub_cons rfl ((sub_cons rfl ((sub_cons rfl ((sub_cons rfl ((sub_cons rfl ((sub_cons rfl ((sub_nil _)))))))))))))))))) (ulS (ulC (ulC (ulC (ulC ulN)))))
   ·replace hq6 := of_decide_eq_false hq6
    have ex : W = x := by omega
    have e2 : W * y + x = W * (y + 1) := by rw [← ex]; rfl
    rw [e2]
    refine GC.exit (GE.thenE (GE.thenE (GE.blockE (GE.blockN (GE.thenN (GC.region ?_))))))
    refine GL.val (v := (.int .i64 (((y + 1 : Nat) : Int)))) (Ex.add rfl rfl (Z := ((y + 1 : Nat) : Int)) (w64 (by omega))) (by decide) ?_
    refine GL.mv rfl (by decide) ?_
    refine GL.nil (GE.thenN ?_)
    exact Head.mk (y + 1) (by omega) (by omega) ((sub_cons rfl ((sub_cons rfl ((sub_cons rfl ((sub_cons rfl ((sub_cons rfl ((sub_nil _)))))))))))) (ulC (ulC (ulC (ulC ulN))))
  ·replace hq5 := of_decide_eq_false hq5
   refine GC.exit (GE.thenE (GE.thenE (GE.blockE (GE.thenN (GC.seq (GC.region ?_))))))
   refine GL.val (v := (.agg #[(.int .i64 ((W : Int))), (.int .i64 ((H : Int))), (.slice (some ⟨bq3, 0, none⟩) (W * y) (W * H))])) (Ex.loadA rfl T.ag43 T.sz43 (i := 0) rfl (vs := [(.int .i64 ((W : Int))), (.int .i64 ((H : Int))), (.slice (some ⟨bq3, 0, none⟩) (W * y) (W * H))]) rfl rfl) (by decide) ?_
   refine GL.step (Stp.st2 (cs' := [(.int .i64 ((W : Int))), (.int .i64 ((H : Int))), (.slice (some ⟨bq3, 0, none⟩) (W * y) (W * H))]) rfl rfl rfl T.sz43 rfl rfl rfl) (fun _ _ => ?_)
   refine GL.nil (GE.thenN (GC.ret ?_))
   refine GC.ret1 rfl (Rv.cellA rfl T.ag43 T.sz43 (L := _) (i := 2) rfl (vs := [(.int .i64 ((W : Int))), (.int .i64 ((H : Int))), (.slice (some ⟨bq3, 0, none⟩) (W * y) (W * H))]) rfl rfl) (fun wN HN => ?_)
   have ey : H = y := by omega
   have e3 : W * y = W * H := by rw [ey]
   rw [e3, cur_full] at HN
   exact HN.ret bq3 trivial (by rw [e3]) (ulS (ulC (ulS (ulS ulN)))) rfl
 refine GHs.cons rfl (Stp.alloc T.zr43 (by decide)) (fun _ => (ulS (ulC (ulC ulN)))) (fun bq10 _ => ?_) ?_
 ·refine GH.one 9 rfl (by kernel_rfl) (Stp.makeSlice (a1 := 0) (c := W * H) rfl rfl Try.underlying41 T.zr28 T.sz28 T.by28 rfl (by omega) (by omega) (by omega) (by decide)) (fun _ => (ulS (ulS (ulC (ulC ulN))))) (fun bq11 _ => ?_)
  refine GH.tk 10 (v := (.agg #[(.int .i64 ((W : Int))), (.int .i64 ((H : Int))), (.slice (some ⟨bq11, 0, none⟩) 0 (W * H))])) rfl (by kernel_rfl) (fun _ _ _ h => h) (Ex.build (vs := [(0, (.int .i64 ((W : Int)))), (1, (.int .i64 ((H : Int)))), (2, (.slice (some ⟨bq11, 0, none⟩) 0 (W * H)))]) rfl (by first | rfl | kernel_rfl)) (ulS (ulS (ulC (ulC ulN)))) (by decide) ?_
  refine GH.done (by kernel_rfl) ?_
  refine GE.thenN ?_
  refine GE.tail rfl (Stp.st1 (cs' := [(.int .i64 ((W : Int))), (.int .i64 ((H : Int))), (.slice (some ⟨bq11, 0, none⟩) 0 (W * H))]) rfl rfl rfl T.sz43 rfl rfl rfl) (fun _ _ => ?_)
  refine GE.thenN (GC.seq (GC.seq ?_))
  rw [madeCells_one, ← cur_zero W g (W * H)]
  refine GC.region ?_
  refine GL.val (v := (.pointer (some ⟨bq1, 1, none⟩))) (Ex.cast (Ex.fieldAddr rfl Try.underlying120 rfl T.sz3 (by decide)) rfl) (by decide) ?_
  refine GL.val (Ex.load rfl T.ag3 (i := 3) rfl rfl) (by decide) ?_
  refine GL.mv rfl (by decide) ?_
  refine GL.nil (GE.thenN (GC.block ?_))
  refine GC.loop (σ := Nat) (fun y => y ≤ H) (fun y => [(1, (.pointer (some ⟨bq1, 0, none⟩))), (2, (.pointer (some ⟨bq2, 0, none⟩))), (3, (.pointer (some ⟨bq10, 0, none⟩))), (18, (.int .i64 ((H : Int)))), (19, (.int .i64 (((y : Nat) : Int))))]) (fun y => [⟨bq11, cur W g (W * H) (W * y), 28, true⟩, ⟨bq10, [(.int .i64 ((W : Int))), (.int .i64 ((H : Int))), (.slice (some ⟨bq11, 0, none⟩) (W * y) (W * H))], 43, true⟩, ⟨bq2, [(.int .i64 0), (.int .i64 0), (.slice none 0 0)], 43, true⟩, ⟨bq1, [(.int .i64 ((W : Int))), (.int .i64 ((H : Int))), (.func (.func fid) #[] caps)], 120, true⟩]) (fun y => H - y) (0) (Nat.zero_le _) ((sub_cons rfl ((sub_cons rfl ((sub_cons rfl ((sub_cons rfl ((sub_cons rfl ((sub_nil _)))))))))))) (ulC (ulC (ulC (ulC ulN)))) (fun y hp => ?_)
  refine GC.seq (GC.region ?_)
  refine GL.val (v := (.bool (decide ((((y : Nat) : Int)) < ((H : Int)))))) (Ex.lss rfl rfl) (by decide) ?_
  refine GL.nil (GE.thenN (GC.seq ?_))
  refine GC.cond rfl (fun hq12 => ?_) (fun hq12 => ?_)
  ·replace hq12 := of_decide_eq_true hq12
   refine GC.skip (GE.thenN (GC.seq (GC.block (GC.seq (GC.region ?_)))))
   refine GL.mv rfl (by decide) ?_
   refine GL.sg rfl (by decide) ?_
   refine GL.nil (GE.thenN (GC.seq (GC.region ?_)))
   refine GL.val (v := (.pointer (some ⟨bq1, 0, none⟩))) (Ex.cast (Ex.fieldAddr rfl Try.underlying120 rfl T.sz3 (by decide)) rfl) (by decide) ?_
   refine GL.val (Ex.load rfl T.ag3 (i := 3) rfl rfl) (by decide) ?_
   refine GL.mv rfl (by decide) ?_
   refine GL.nil (GE.thenN (GC.block ?_))
   refine GC.loop (σ := Nat) (fun x => x ≤ W) (fun x => [(1, (.pointer (some ⟨bq1, 0, none⟩))), (2, (.pointer (some ⟨bq2, 0, none⟩))), (3, (.pointer (some ⟨bq10, 0, none⟩))), (18, (.int .i64 ((H : Int)))), (19, (.int .i64 (((y : Nat) : Int)))), (4, (.int .i64 (((y : Nat) : Int)))), (23, (.int .i64 ((W : Int)))), (24, (.int .i64 (((x : Nat) : Int))))]) (fun x => [⟨bq11, cur W g (W * H) (W * y + x), 28, true⟩, ⟨bq10, [(.int .i64 ((W : Int))), (.int .i64 ((H : Int))), (.slice (some ⟨bq11, 0, none⟩) (W * y + x) (W * H))], 43, true⟩, ⟨bq2, [(.int .i64 0), (.int .i64 0), (.slice none 0 0)], 43, true⟩, ⟨bq1, [(.int .i64 ((W : Int))), (.int .i64 ((H : Int))), (.func (.func fid) #[] caps)], 120, true⟩]) (fun x => W - x) (0) (Nat.zero_le _) ((sub_cons rfl ((sub_cons rfl ((sub_cons rfl ((sub_cons rfl ((sub_cons rfl ((sub_cons rfl ((sub_cons rfl ((sub_cons rfl ((sub_nil _)))))))))))))))))) (ulC (ulC (ulC (ulC ulN)))) (fun x hp => ?_)
   refine GC.seq (GC.region ?_)
   refine GL.val (v := (.bool (decide ((((x : Nat) : Int)) < ((W : Int)))))) (Ex.lss rfl rfl) (by decide) ?_
   refine GL.nil (GE.thenN (GC.seq ?_))
   refine GC.cond rfl (fun hq13 => ?_) (fun hq13 => ?_)
   ·replace hq13 := of_decide_eq_true hq13
    have hxy := place_lt (H := H) (by omega : x < W) (by omega : y < H)
    have hp := at_place (W := W) (y := y) (by omega : x < W)
    have hap := cur_app W g (W * H) (W * y + x) (g x y) hxy (by rw [hp.1, hp.2])
    rw [Nat.add_assoc] at hap
    refine GC.skip (GE.thenN (GC.seq (GC.block (GC.seq (GC.region ?_)))))
    refine GL.mv rfl (by decide) ?_
    refine GL.sg rfl (by decide) ?_
    refine GL.nil (GE.thenN ?_)
    refine GC.drawP [⟨bq10, [(.int .i64 ((W : Int))), (.int .i64 ((H : Int))), (.slice (some ⟨bq11, 0, none⟩) (W * y + x) (W * H))], 43, true⟩, ⟨bq2, [(.int .i64 0), (.int .i64 0), (.slice none 0 0)], 43, true⟩, ⟨bq1, [(.int .i64 ((W : Int))), (.int .i64 ((H : Int))), (.func (.func fid) #[] caps)], 120, true⟩] T.mixed (by kernel_rfl) (by kernel_rfl) (fuel := 10) rfl rfl ?_
    refine GH.tk 0 (v := (.pointer (some ⟨bq10, 2, none⟩))) rfl (by kernel_rfl) (fun _ _ _ h => h) (Ex.cast (Ex.fieldAddr rfl Try.underlying43 rfl T.sz41 (by decide)) rfl) (ulS (ulC (ulC (ulC ulN)))) (by decide) ?_
    refine GH.tk 1 (v := (.slice (some ⟨bq11, 0, none⟩) (W * y + x) (W * H))) rfl (by kernel_rfl) (fun _ _ _ h => h) (Ex.load rfl T.ag41 (i := 0) rfl rfl) (ulS (ulC (ulC (ulC ulN)))) (by decide) ?_
    refine GH.tk 2 (v := (.pointer (some ⟨bq1, 2, none⟩))) rfl (by kernel_rfl) (fun _ _ _ h => h) (Ex.cast (Ex.fieldAddr rfl Try.underlying120 rfl T.sz117 (by decide)) rfl) (ulS (ulC (ulC (ulC ulN)))) (by decide) ?_
    refine GH.tk 3 (v := (.func (.func fid) #[] caps)) rfl (by kernel_rfl) (fun _ _ _ h => h) (Ex.load rfl T.ag117 (i := 2) rfl rfl) (ulS (ulC (ulC (ulC ulN)))) (by decide) ?_
    refine GH.tk 4 (v := (.int .i64 (((x : Nat) : Int)))) rfl (by kernel_rfl) (fun _ _ _ h => h) (Ex.move rfl) (ulS (ulC (ulC (ulC ulN)))) (by decide) ?_
    refine GH.tk 5 (v := (.int .i64 (((y : Nat) : Int)))) rfl (by kernel_rfl) (fun _ _ _ h => h) (Ex.move rfl) (ulS (ulC (ulC (ulC ulN)))) (by decide) ?_
    refine GH.one 6 rfl (by kernel_rfl) (Stp.callR (vs := [(.int .i64 (((x : Nat) : Int))), (.int .i64 (((y : Nat) : Int)))]) rfl rfl hf.1 (by decide) (fun wc hw => hf.2 x y (by omega) (by omega) wc hw.1)) (fun _ => (ulS (ulC (ulC (ulC ulN))))) (fun xq14 hq15 => ?_)
    refine GH.one 7 rfl (by kernel_rfl) (Stp.buildSlice (cs := [(.int .u32 ((g x y)))]) (vs := [(0, (.int .u32 ((g x y))))]) Try.underlying41 T.zr28 T.sz28 rfl (by decide) (by decide) (by first | rfl | kernel_rfl) (by decide)) (fun _ => (ulS (ulS (ulC (ulC (ulC ulN)))))) (fun bq16 _ => ?_)
    refine GH.one 8 rfl (by kernel_rfl) (Stp.appendFits (i := 1) (vs := [.int .u32 (g x y)]) (L1 := [⟨bq16, [(.int .u32 ((g x y)))], 28, true⟩, ⟨bq11, cur W g (W * H) (W * y + (x + 1)), 28, true⟩, ⟨bq10, [(.int .i64 ((W : Int))), (.int .i64 ((H : Int))), (.slice (some ⟨bq11, 0, none⟩) (W * y + x) (W * H))], 43, true⟩, ⟨bq2, [(.int .i64 0), (.int .i64 0), (.slice none 0 0)], 43, true⟩, ⟨bq1, [(.int .i64 ((W : Int))), (.int .i64 ((H : Int))), (.func (.func fid) #[] caps)], 120, true⟩]) rfl rfl Try.underlying41 T.sz28 rfl (fun w hw => hw.rdOf (i := 0) rfl 0) rfl rfl (len' := W * y + (x + 1)) rfl (by omega) (by rw [cur_len _ _ _ _ (by omega)]; simp; omega) (by rw [hap]; rfl) (by decide)) (fun _ => (ulS (ulS (ulC (ulC (ulC ulN)))))) (fun _ _ => ?_)
    refine GH.tk 9 (v := (.pointer (some ⟨bq10, 2, none⟩))) rfl (by kernel_rfl) (fun _ _ _ h => h) (Ex.cast (Ex.fieldAddr rfl Try.underlying43 rfl T.sz41 (by decide)) rfl) (ulS (ulS (ulC (ulC (ulC ulN))))) (by decide) ?_
    refine GH.done (by kernel_rfl) ?_
    refine GE.thenN ?_
    refine GE.tail rfl (Stp.st2 (cs' := [(.int .i64 ((W : Int))), (.int .i64 ((H : Int))), (.slice (some ⟨bq11, 0, none⟩) (W * y + (x + 1)) (W * H))]) rfl rfl rfl T.sz41 rfl rfl rfl) (fun _ _ => ?_)
    refine GE.blockN (GE.thenN (GC.region ?_))
    refine GL.val (v := (.int .i64 (((x + 1 : Nat) : Int)))) (Ex.add rfl rfl (Z := ((x + 1 : Nat) : Int)) (w64 (by omega))) (by decide) ?_
    refine GL.mv rfl (by decide) ?_
    refine GL.nil (GE.thenN ?_)
    exact Head.mk (x + 1) (by omega) (by omega) ((sub_cons rfl ((sub_cons rfl ((sub_cons rfl ((sub_cons rfl ((sub_cons rfl ((sub_cons rfl ((sub_cons rfl ((sub_cons rfl ((sub_nil _)))))))))))))))))) (ulS (ulC (ulC (ulC (ulC ulN)))))
   ·replace hq13 := of_decide_eq_false hq13
    have ex : W = x := by omega
    have e2 : W * y + x = W * (y + 1) := by rw [← ex]; rfl
    rw [e2]
    refine GC.exit (GE.thenE (GE.thenE (GE.blockE (GE.blockN (GE.thenN (GC.region ?_))))))
    refine GL.val (v := (.int .i64 (((y + 1 : Nat) : Int)))) (Ex.add rfl rfl (Z := ((y + 1 : Nat) : Int)) (w64 (by omega))) (by decide) ?_
    refine GL.mv rfl (by decide) ?_
    refine GL.nil (GE.thenN ?_)
    exact Head.mk (y + 1) (by omega) (by omega) ((sub_cons rfl ((sub_cons rfl ((sub_cons rfl ((sub_cons rfl ((sub_cons rfl ((sub_nil _)))))))))))) (ulC (ulC (ulC (ulC ulN))))
  ·replace hq12 := of_decide_eq_false hq12
   refine GC.exit (GE.thenE (GE.thenE (GE.blockE (GE.thenN (GC.seq (GC.region ?_))))))
   refine GL.val (v := (.agg #[(.int .i64 ((W : Int))), (.int .i64 ((H : Int))), (.slice (some ⟨bq11, 0, none⟩) (W * y) (W * H))])) (Ex.loadA rfl T.ag43 T.sz43 (i := 1) rfl (vs := [(.int .i64 ((W : Int))), (.int .i64 ((H : Int))), (.slice (some ⟨bq11, 0, none⟩) (W * y) (W * H))]) rfl rfl) (by decide) ?_
   refine GL.step (Stp.st2 (cs' := [(.int .i64 ((W : Int))), (.int .i64 ((H : Int))), (.slice (some ⟨bq11, 0, none⟩) (W * y) (W * H))]) rfl rfl rfl T.sz43 rfl rfl rfl) (fun _ _ => ?_)
   refine GL.nil (GE.thenN (GC.ret ?_))
   refine GC.ret1 rfl (Rv.cellA rfl T.ag43 T.sz43 (L := _) (i := 2) rfl (vs := [(.int .i64 ((W : Int))), (.int .i64 ((H : Int))), (.slice (some ⟨bq11, 0, none⟩) (W * y) (W * H))]) rfl rfl) (fun wN HN => ?_)
   have ey : H = y := by omega
   have e3 : W * y = W * H := by rw [ey]
   rw [e3, cur_full] at HN
   exact HN.ret bq11 trivial (by rw [e3]) (ulC (ulS (ulS (ulS ulN)))) rfl
 exact GHs.nil

theorem newC (x y bs : Nat) (s : Int) (w : World) (h1 : w.heap[bs]? = some (.cells #[(.int .u32 s)] 28 (0, 0))) :
  Calls Try.prog 89 #[(.int .i64 ((x : Int))), (.int .i64 ((y : Int))), (.pointer (some ⟨bs, 0, none⟩))] w (Ret w (fun _ : Unit => True) (fun _ => .int .u32 s) (fun _ => [])) := by
 refine enter (M := None) (L := [⟨bs, [(.int .u32 s)], 28, false⟩]) (n := 7) (l := [(0, (.int .i64 ((x : Int)))), (1, (.int .i64 ((y : Int)))), (2, (.pointer (some ⟨bs, 0, none⟩)))]) Try.func89 rfl rfl (Args.cons rfl (Args.cons rfl (Args.cons rfl (Args.nil _)))) (Hp.reads (Has.cons h1 (Has.nil _)) rfl) ?_
 refine GC.seq (GC.region ?_)
 refine GL.sg rfl (by decide) ?_
 refine GL.nil (GE.thenN (GC.seq (GC.region ?_)))
 refine GL.val (Ex.load rfl T.ag28 (i := 0) rfl rfl) (by decide) ?_
 refine GL.sg rfl (by decide) ?_
 refine GL.nil (GE.thenN (GC.ret ?_))
 refine GC.ret1 rfl (Rv.tmp rfl) (fun wN HN => ?_)
 exact HN.ret () trivial (by first | rfl | (congr 1; done)) (List.nil_sublist _) rfl

theorem new_ok (W H : Nat) (s : Int) (w : World) (hok : okP W H) :
  Calls Try.prog 55 #[(.int .i64 (((W : Nat) : Int))), (.int .i64 (((H : Nat) : Int))), (.int .u32 s)] w (Ret w (fun _ : Nat => True) (fun r => .tuple #[(.agg #[(.int .i64 (((W : Nat) : Int))), (.int .i64 (((H : Nat) : Int))), (.slice (some ⟨r, 0, none⟩) (W * H) (W * H))]), .int .i64 0]) (fun r => [⟨r, (tab W (fun _ _ => s) (W * H)).map u32, 28, true⟩])) := by
 refine enter (M := None) (L := []) (n := 18) (l := [(0, (.int .i64 (((W : Nat) : Int)))), (1, (.int .i64 (((H : Nat) : Int)))), (2, (.int .u32 s))]) Try.func55 rfl rfl (Args.cons rfl (Args.cons rfl (Args.cons rfl (Args.nil _)))) (Hp.start _ _) ?_
 refine GC.seq (GC.region ?_)
 refine GL.step (Stp.box (cs := [(.int .u32 s)]) rfl rfl (by decide)) (fun bq1 _ => ?_)
 refine GL.step (Stp.alloc T.zr43 (by decide)) (fun bq2 _ => ?_)
 refine GL.sg rfl (by decide) ?_
 refine GL.nil (GE.thenN (GC.seq (GC.seq (GC.region ?_))))
 refine GL.mv rfl (by decide) ?_
 refine GL.mv rfl (by decide) ?_
 refine GL.step (Stp.callR (vs := [(.int .i64 (((W : Nat) : Int))), (.int .i64 (((H : Nat) : Int)))]) rfl rfl T.own70 (by decide) (fun wc hw => size (((W : Nat) : Int)) (((H : Nat) : Int)) wc)) (fun xq3 hq4 => ?_)
 refine GL.val (v := (.bool (!(sizeB (((W : Nat) : Int)) (((H : Nat) : Int)))))) (Ex.not rfl) (by decide) ?_
 refine GL.nil (GE.thenN ?_)
 refine GC.cond rfl (fun hq5 => ?_) (fun hq5 => ?_)
 ·exfalso; rw [sizeB_ok hok] at hq5; cases hq5
 ·refine GC.skip (GE.thenN (GC.seq (GC.region ?_)))
  refine GL.mv rfl (by decide) ?_
  refine GL.mv rfl (by decide) ?_
  refine GL.val (v := (.func (.func 89) #[] #[(.pointer (some ⟨bq1, 0, none⟩))])) (Ex.func (cs := [(.pointer (some ⟨bq1, 0, none⟩))]) rfl (fun _ hF => hF.evals _ _ rfl)) (by decide) ?_
  refine GL.val (v := (.agg #[(.int .i64 (((W : Nat) : Int))), (.int .i64 (((H : Nat) : Int))), (.func (.func 89) #[] #[(.pointer (some ⟨bq1, 0, none⟩))])])) (Ex.build (vs := [(0, (.int .i64 (((W : Nat) : Int)))), (1, (.int .i64 (((H : Nat) : Int)))), (2, (.func (.func 89) #[] #[(.pointer (some ⟨bq1, 0, none⟩))]))]) rfl (by first | rfl | kernel_rfl)) (by decide) ?_
  refine GL.step (Stp.callR (vs := [(.agg #[(.int .i64 (((W : Nat) : Int))), (.int .i64 (((H : Nat) : Int))), (.func (.func 89) #[] #[(.pointer (some ⟨bq1, 0, none⟩))])])]) rfl rfl T.own73 (by decide) (fun wc hw => made (W) (H) (89) (#[(.pointer (some ⟨bq1, 0, none⟩))]) (fun _ _ => s) wc ⟨T.own89, fun x y _ _ w3 hk3 => newC x y bq1 s w3 ((Has.cons (o := true) (hw.get (i := 1) rfl) (Has.nil _)).later hk3 _ List.mem_cons_self)⟩ hok.2.2.1 hok.2.2.2.1 hok.2.2.2.2)) (fun xq6 hq7 => ?_)
  refine GL.step (Stp.st1 (cs' := [(.int .i64 (((W : Nat) : Int))), (.int .i64 (((H : Nat) : Int))), (.slice (some ⟨xq6, 0, none⟩) ((W) * (H)) ((W) * (H)))]) rfl rfl rfl T.sz43 rfl rfl rfl) (fun _ _ => ?_)
  refine GL.sg rfl (by decide) ?_
  refine GL.nil (GE.thenN (GC.ret ?_))
  refine GC.ret2 rfl (Rv.cellA rfl T.ag43 T.sz43 (L := _) (i := 1) rfl (vs := [(.int .i64 (((W : Nat) : Int))), (.int .i64 (((H : Nat) : Int))), (.slice (some ⟨xq6, 0, none⟩) ((W) * (H)) ((W) * (H)))]) rfl rfl) (Rv.tmp rfl) (fun wN HN => ?_)
  exact HN.ret (xq6) trivial rfl (ulC (ulS (ulS ulN))) rfl

theorem new_inv (W H s : Int) (w : World) (hs : sizeB W H = false) :
  Calls Try.prog 55 #[(.int .i64 W), (.int .i64 H), (.int .u32 s)] w (Ret w (fun _ : Unit => True) (fun _ => .tuple #[(.agg #[(.int .i64 0), (.int .i64 0), (.slice none 0 0)]), .int .i64 50]) (fun _ => [])) := by
 refine enter (M := None) (L := []) (n := 18) (l := [(0, (.int .i64 W)), (1, (.int .i64 H)), (2, (.int .u32 s))]) Try.func55 rfl rfl (Args.cons rfl (Args.cons rfl (Args.cons rfl (Args.nil _)))) (Hp.start _ _) ?_
 refine GC.seq (GC.region ?_)
 refine GL.step (Stp.box (cs := [(.int .u32 s)]) rfl rfl (by decide)) (fun bq1 _ => ?_)
 refine GL.step (Stp.alloc T.zr43 (by decide)) (fun bq2 _ => ?_)
 refine GL.sg rfl (by decide) ?_
 refine GL.nil (GE.thenN (GC.seq (GC.seq (GC.region ?_))))
 refine GL.mv rfl (by decide) ?_
 refine GL.mv rfl (by decide) ?_
 refine GL.step (Stp.callR (vs := [(.int .i64 W), (.int .i64 H)]) rfl rfl T.own70 (by decide) (fun wc hw => size W H wc)) (fun xq3 hq4 => ?_)
 refine GL.val (v := (.bool (!(sizeB W H)))) (Ex.not rfl) (by decide) ?_
 refine GL.nil (GE.thenN ?_)
 refine GC.cond rfl (fun hq5 => ?_) (fun hq5 => ?_)
 ·refine GC.seq (GC.region ?_)
  refine GL.val (v := (.agg #[(.int .i64 0), (.int .i64 0), (.slice none 0 0)])) (Ex.build (vs := []) rfl (by first | rfl | kernel_rfl)) (by decide) ?_
  refine GL.step (Stp.st0 (cs' := [(.int .i64 0), (.int .i64 0), (.slice none 0 0)]) rfl rfl rfl T.sz43 rfl rfl rfl) (fun _ _ => ?_)
  refine GL.sg rfl (by decide) ?_
  refine GL.nil (GE.thenN (GC.ret (GE.thenR ?_)))
  refine GC.ret2 rfl (Rv.cellA rfl T.ag43 T.sz43 (L := _) (i := 0) rfl (vs := [(.int .i64 0), (.int .i64 0), (.slice none 0 0)]) rfl rfl) (Rv.tmp rfl) (fun wN HN => ?_)
  exact HN.ret () trivial (by first | rfl | (congr 1; done)) (List.nil_sublist _) rfl
 ·exfalso; rw [hs] at hq5; cases hq5

theorem spaceof (sp : Int) (n : Nat) (w : World) :
  Calls Try.prog 35 #[(.int .i64 sp), (.int .i64 (((n : Nat) : Int)))] w (Ret w (fun _ : Unit => True) (fun _ => (.int .i64 ((spc sp n)))) (fun _ => [])) := by
 refine enter (M := None) (L := []) (n := 19) (l := [(0, (.int .i64 sp)), (1, (.int .i64 (((n : Nat) : Int))))]) Try.func35 rfl rfl (Args.cons rfl (Args.cons rfl (Args.nil _))) (Hp.start _ _) ?_
 refine GC.seq (GC.region ?_)
 refine GL.sg rfl (by decide) ?_
 refine GL.nil (GE.thenN (GC.seq (GC.seq (GC.region ?_))))
 refine GL.mv rfl (by decide) ?_
 by_cases hq1 : sp < 0
 ·refine GL.val (v := (.bool true)) (Ex.cast (Ex.lss rfl rfl) (congrArg Value.bool (decide_eq_true hq1))) (by decide) ?_
  refine GL.mv rfl (by decide) ?_
  refine GL.skipG (tj := 7) rfl rfl rfl (by decide) ?_
  refine GL.skipG (tj := 7) rfl rfl rfl (by decide) ?_
  refine GL.val (v := (.bool true)) (Ex.pickT rfl rfl) (by decide) ?_
  refine GL.mv rfl (by decide) ?_
  refine GL.skipG (tj := 11) rfl rfl rfl (by decide) ?_
  refine GL.skipG (tj := 11) rfl rfl rfl (by decide) ?_
  refine GL.skipG (tj := 11) rfl rfl rfl (by decide) ?_
  refine GL.skipU (tj := 14) rfl rfl (by decide) ?_
  refine GL.skipU (tj := 14) rfl rfl (by decide) ?_
  refine GL.skipG (tj := 11) rfl rfl rfl (by decide) ?_
  refine GL.val (v := (.bool true)) (Ex.pickT rfl rfl) (by decide) ?_
  refine GL.nil (GE.thenN ?_)
  refine GC.cond rfl (fun _ => ?_) (fun hq2 => by cases hq2)
  refine GC.seq (GC.region ?_)
  refine GL.sg rfl (by decide) ?_
  refine GL.nil (GE.thenN (GC.ret (GE.thenR ?_)))
  refine GC.ret1 rfl (Rv.tmp rfl) (fun wN HN => ?_)
  exact HN.ret () trivial (congrArg (Value.int .i64) (by unfold spc; first | rw [if_pos (by omega)] | rw [if_neg (by omega)])) (List.nil_sublist _) rfl
 ·refine GL.val (v := (.bool false)) (Ex.cast (Ex.lss rfl rfl) (congrArg Value.bool (decide_eq_false hq1))) (by decide) ?_
  refine GL.mv rfl (by decide) ?_
  refine GL.stepG (tj := 7) rfl rfl (Ex.wp (v := (.int .i64 sp)) (Ex.move rfl) (by decide)) (fun _ _ => ?_)
  by_cases hq3 : 4 < sp
  ·refine GL.stepG (tj := 7) rfl rfl (Ex.wp (v := (.bool true)) (Ex.cast (Ex.gtr rfl rfl) (congrArg Value.bool (decide_eq_true hq3))) (by decide)) (fun _ _ => ?_)
   refine GL.val (v := (.bool true)) (Ex.pickF rfl rfl) (by decide) ?_
   refine GL.mv rfl (by decide) ?_
   refine GL.skipG (tj := 11) rfl rfl rfl (by decide) ?_
   refine GL.skipG (tj := 11) rfl rfl rfl (by decide) ?_
   refine GL.skipG (tj := 11) rfl rfl rfl (by decide) ?_
   refine GL.skipU (tj := 14) rfl rfl (by decide) ?_
   refine GL.skipU (tj := 14) rfl rfl (by decide) ?_
   refine GL.skipG (tj := 11) rfl rfl rfl (by decide) ?_
   refine GL.val (v := (.bool true)) (Ex.pickT rfl rfl) (by decide) ?_
   refine GL.nil (GE.thenN ?_)
   refine GC.cond rfl (fun _ => ?_) (fun hq4 => by cases hq4)
   refine GC.seq (GC.region ?_)
   refine GL.sg rfl (by decide) ?_
   refine GL.nil (GE.thenN (GC.ret (GE.thenR ?_)))
   refine GC.ret1 rfl (Rv.tmp rfl) (fun wN HN => ?_)
   exact HN.ret () trivial (congrArg (Value.int .i64) (by unfold spc; first | rw [if_pos (by omega)] | rw [if_neg (by omega)])) (List.nil_sublist _) rfl
  ·refine GL.stepG (tj := 7) rfl rfl (Ex.wp (v := (.bool false)) (Ex.cast (Ex.gtr rfl rfl) (congrArg Value.bool (decide_eq_false hq3))) (by decide)) (fun _ _ => ?_)
   refine GL.val (v := (.bool false)) (Ex.pickF rfl rfl) (by decide) ?_
   refine GL.mv rfl (by decide) ?_
   refine GL.stepG (tj := 11) rfl rfl (Ex.wp (v := (.int .i64 sp)) (Ex.move rfl) (by decide)) (fun _ _ => ?_)
   by_cases hq5 : sp ≠ 0
   ·refine GL.stepG (tj := 11) rfl rfl (Ex.wp (v := (.bool true)) (Ex.cast (Ex.neq rfl rfl) (congrArg Value.bool (decide_eq_true hq5))) (by decide)) (fun _ _ => ?_)
    refine GL.stepG (tj := 11) rfl rfl (Ex.wp (v := (.bool true)) (Ex.move rfl) (by decide)) (fun _ _ => ?_)
    refine GL.stepG (tj := 14) rfl rfl (Ex.wp (v := (.int .i64 (((n : Nat) : Int)))) (Ex.move rfl) (by decide)) (fun _ _ => ?_)
    refine GL.stepG (tj := 14) rfl rfl (Ex.wp (v := (.bool (decide ((((n : Nat) : Int)) < 3)))) (Ex.lss rfl rfl) (by decide)) (fun _ _ => ?_)
    refine GL.stepG (tj := 11) rfl rfl (Ex.wp (v := (.bool (decide ((((n : Nat) : Int)) < 3)))) (Ex.pickT rfl rfl) (by decide)) (fun _ _ => ?_)
    refine GL.val (v := (.bool (decide ((((n : Nat) : Int)) < 3)))) (Ex.pickF rfl rfl) (by decide) ?_
    refine GL.nil (GE.thenN ?_)
    refine GC.cond rfl (fun hq6 => ?_) (fun hq6 => ?_)
    ·replace hq6 := of_decide_eq_true hq6
     refine GC.seq (GC.region ?_)
     refine GL.sg rfl (by decide) ?_
     refine GL.nil (GE.thenN (GC.ret (GE.thenR ?_)))
     refine GC.ret1 rfl (Rv.tmp rfl) (fun wN HN => ?_)
     exact HN.ret () trivial (congrArg (Value.int .i64) (by unfold spc; first | rw [if_pos (by omega)] | rw [if_neg (by omega)])) (List.nil_sublist _) rfl
    ·replace hq6 := of_decide_eq_false hq6
     refine GC.skip (GE.thenN (GC.seq (GC.region ?_)))
     refine GL.sg rfl (by decide) ?_
     refine GL.nil (GE.thenN (GC.ret ?_))
     refine GC.ret1 rfl (Rv.tmp rfl) (fun wN HN => ?_)
     exact HN.ret () trivial (congrArg (Value.int .i64) (by unfold spc; first | rw [if_pos (by omega)] | rw [if_neg (by omega)])) (List.nil_sublist _) rfl
   ·refine GL.stepG (tj := 11) rfl rfl (Ex.wp (v := (.bool false)) (Ex.cast (Ex.neq rfl rfl) (congrArg Value.bool (decide_eq_false hq5))) (by decide)) (fun _ _ => ?_)
    refine GL.stepG (tj := 11) rfl rfl (Ex.wp (v := (.bool false)) (Ex.move rfl) (by decide)) (fun _ _ => ?_)
    refine GL.skipG (tj := 14) rfl rfl rfl (by decide) ?_
    refine GL.skipG (tj := 14) rfl rfl rfl (by decide) ?_
    refine GL.stepG (tj := 11) rfl rfl (Ex.wp (v := (.bool false)) (Ex.pickF rfl rfl) (by decide)) (fun _ _ => ?_)
    refine GL.val (v := (.bool false)) (Ex.pickF rfl rfl) (by decide) ?_
    refine GL.nil (GE.thenN ?_)
    refine GC.cond rfl (fun hq7 => by cases hq7) (fun _ => ?_)
    refine GC.skip (GE.thenN (GC.seq (GC.region ?_)))
    refine GL.sg rfl (by decide) ?_
    refine GL.nil (GE.thenN (GC.ret ?_))
    refine GC.ret1 rfl (Rv.tmp rfl) (fun wN HN => ?_)
    exact HN.ret () trivial (congrArg (Value.int .i64) (by unfold spc; first | rw [if_pos (by omega)] | rw [if_neg (by omega)])) (List.nil_sublist _) rfl

theorem chk_p (sp : Int) (b o n cap : Nat) (ps : List Pn) (w : World) (hps : Pns w b o ps) (hn : n = ps.length) (hnb : n ≤ 35184372087808) :
  Calls Try.prog 9 #[(.agg #[(.int .i64 sp), (.slice (some ⟨b, o, none⟩) n cap)])] w (Ret w (fun _ : Unit => True) (fun _ => (.int .i64 ((chkP sp ps)))) (fun _ => [])) := by
 refine enter (M := None) (L := []) (n := 63) (l := [(0, (.agg #[(.int .i64 sp), (.slice (some ⟨b, o, none⟩) n cap)]))]) Try.func9 rfl rfl (Args.cons rfl (Args.nil _)) (Hp.start _ _) ?_
 refine GC.seq (GC.region ?_)
 refine GL.step (Stp.box (cs := [(.int .i64 sp), (.slice (some ⟨b, o, none⟩) n cap)]) rfl rfl (by decide)) (fun bq1 _ => ?_)
 refine GL.sg rfl (by decide) ?_
 refine GL.nil (GE.thenN (GC.seq (GC.seq (GC.region ?_))))
 refine GL.val (v := (.pointer (some ⟨bq1, 1, none⟩))) (Ex.cast (Ex.fieldAddr rfl Try.underlying25 rfl T.sz23 (by decide)) rfl) (by decide) ?_
 refine GL.val (Ex.load rfl T.ag23 (i := 0) rfl rfl) (by decide) ?_
 refine GL.val (v := (.int .i64 ((n : Int)))) (Ex.len rfl Try.underlying23) (by decide) ?_
 by_cases hq2 : ((n : Int)) = 0
 ·refine GL.val (v := (.bool true)) (Ex.cast (Ex.eql rfl rfl) (congrArg Value.bool (decide_eq_true hq2))) (by decide) ?_
  refine GL.mv rfl (by decide) ?_
  refine GL.skipG (tj := 12) rfl rfl rfl (by decide) ?_
  refine GL.skipG (tj := 12) rfl rfl rfl (by decide) ?_
  refine GL.skipG (tj := 12) rfl rfl rfl (by decide) ?_
  refine GL.skipG (tj := 12) rfl rfl rfl (by decide) ?_
  refine GL.val (v := (.bool true)) (Ex.pickT rfl rfl) (by decide) ?_
  refine GL.nil (GE.thenN ?_)
  refine GC.cond rfl (fun _ => ?_) (fun hq3 => by cases hq3)
  refine GC.seq (GC.region ?_)
  refine GL.sg rfl (by decide) ?_
  refine GL.nil (GE.thenN (GC.ret (GE.thenR ?_)))
  refine GC.ret1 rfl (Rv.tmp rfl) (fun wN HN => ?_)
  exact HN.ret () trivial (congrArg (Value.int .i64) (by unfold chkP; rw [if_pos (by omega)])) (List.nil_sublist _) rfl
 ·refine GL.val (v := (.bool false)) (Ex.cast (Ex.eql rfl rfl) (congrArg Value.bool (decide_eq_false hq2))) (by decide) ?_
  refine GL.mv rfl (by decide) ?_
  refine GL.stepG (tj := 12) rfl rfl (Ex.wp (v := (.pointer (some ⟨bq1, 1, none⟩))) (Ex.cast (Ex.fieldAddr rfl Try.underlying25 rfl T.sz23 (by decide)) rfl) (by decide)) (fun _ _ => ?_)
  refine GL.stepG (tj := 12) rfl rfl (Ex.wp (v := (.slice (some ⟨b, o, none⟩) n cap)) (Ex.load rfl T.ag23 (i := 0) rfl rfl) (by decide)) (fun _ _ => ?_)
  refine GL.stepG (tj := 12) rfl rfl (Ex.wp (v := (.int .i64 ((n : Int)))) (Ex.len rfl Try.underlying23) (by decide)) (fun _ _ => ?_)
  refine GL.stepG (tj := 12) rfl rfl (Ex.wp (v := (.bool (decide (4 < ((n : Int)))))) (Ex.gtr rfl rfl) (by decide)) (fun _ _ => ?_)
  refine GL.val (v := (.bool (decide (4 < ((n : Int)))))) (Ex.pickF rfl rfl) (by decide) ?_
  refine GL.nil (GE.thenN ?_)
  refine GC.cond rfl (fun hq4 => ?_) (fun hq4 => ?_)
  ·replace hq4 := of_decide_eq_true hq4
   refine GC.seq (GC.region ?_)
   refine GL.sg rfl (by decide) ?_
   refine GL.nil (GE.thenN (GC.ret (GE.thenR ?_)))
   refine GC.ret1 rfl (Rv.tmp rfl) (fun wN HN => ?_)
   exact HN.ret () trivial (congrArg (Value.int .i64) (by unfold chkP; rw [if_pos (by omega)])) (List.nil_sublist _) rfl
  ·replace hq4 := of_decide_eq_false hq4
   refine GC.skip (GE.thenN (GC.seq (GC.seq (GC.region ?_))))
   refine GL.val (v := (.pointer (some ⟨bq1, 1, none⟩))) (Ex.cast (Ex.fieldAddr rfl Try.underlying25 rfl T.sz23 (by decide)) rfl) (by decide) ?_
   refine GL.val (Ex.load rfl T.ag23 (i := 0) rfl rfl) (by decide) ?_
   refine GL.val (v := (.int .i64 ((n : Int)))) (Ex.len rfl Try.underlying23) (by decide) ?_
   refine GL.mv rfl (by decide) ?_
   refine GL.nil (GE.thenN (GC.block ?_))
   refine GC.loop (σ := Nat) (fun i => i ≤ n ∧ ∀ j, j < i → (pAt ps j).chk = 0) (fun i => [(1, (.pointer (some ⟨bq1, 0, none⟩))), (2, (.int .i64 0)), (19, (.slice (some ⟨b, o, none⟩) n cap)), (20, (.int .i64 ((n : Int)))), (21, (.int .i64 (((i : Nat) : Int))))]) (fun i => [⟨bq1, [(.int .i64 sp), (.slice (some ⟨b, o, none⟩) n cap)], 25, true⟩]) (fun i => n - i) (0) ⟨Nat.zero_le _, fun j hj => absurd hj (Nat.not_lt_zero _)⟩ ((sub_cons rfl ((sub_cons rfl ((sub_cons rfl ((sub_cons rfl ((sub_cons rfl ((sub_nil _)))))))))))) (ulC ulN) (fun i hp => ?_)
   have hpi := hp.1
   refine GC.seq (GC.region ?_)
   refine GL.val (v := (.bool (decide ((((i : Nat) : Int)) < ((n : Int)))))) (Ex.lss rfl rfl) (by decide) ?_
   refine GL.nil (GE.thenN (GC.seq ?_))
   refine GC.cond rfl (fun hq5 => ?_) (fun hq5 => ?_)
   ·replace hq5 := of_decide_eq_true hq5
    refine GC.skip (GE.thenN (GC.seq (GC.block (GC.seq (GC.region ?_)))))
    refine GL.val (v := (.pointer (some ⟨b, o + i * 3, none⟩))) (Ex.cast (Ex.indexAddr rfl rfl Try.underlying23 T.sz43 (by omega) (by omega)) (by simp)) (by decide) ?_
    refine GL.val (v := (.agg #[(.int .i64 ((pAt ps i).W)), (.int .i64 ((pAt ps i).H)), (.slice (pAt ps i).ad ((pAt ps i).n) ((pAt ps i).cap))])) (Ex.loadAO rfl T.ag43 T.sz43 (Pns.ld (i := i) hps (by omega)) (fun x => x) rfl) (by decide) ?_
    refine GL.step (Stp.alloc T.zr43 (by decide)) (fun bq6 _ => ?_)
    refine GL.step (Stp.st0 (cs' := [(.int .i64 ((pAt ps i).W)), (.int .i64 ((pAt ps i).H)), (.slice (pAt ps i).ad ((pAt ps i).n) ((pAt ps i).cap))]) rfl rfl rfl T.sz43 rfl rfl rfl) (fun _ _ => ?_)
    refine GL.nil (GE.thenN (GC.seq (GC.region ?_)))
    refine GL.val (v := (.agg #[(.int .i64 ((pAt ps i).W)), (.int .i64 ((pAt ps i).H)), (.slice (pAt ps i).ad ((pAt ps i).n) ((pAt ps i).cap))])) (Ex.loadA rfl T.ag43 T.sz43 (i := 0) rfl (vs := [(.int .i64 ((pAt ps i).W)), (.int .i64 ((pAt ps i).H)), (.slice (pAt ps i).ad ((pAt ps i).n) ((pAt ps i).cap))]) rfl rfl) (by decide) ?_
    refine GL.step (Stp.callR (vs := [(.agg #[(.int .i64 ((pAt ps i).W)), (.int .i64 ((pAt ps i).H)), (.slice (pAt ps i).ad ((pAt ps i).n) ((pAt ps i).cap))])]) rfl rfl T.own34 (by decide) (fun wc hw => check ((pAt ps i).W) ((pAt ps i).H) ((pAt ps i).ad) ((pAt ps i).n) ((pAt ps i).cap) wc)) (fun xq7 hq8 => ?_)
    refine GL.sg rfl (by decide) ?_
    refine GL.nil (GE.thenN (GC.seq (GC.region ?_)))
    refine GL.mv rfl (by decide) ?_
    refine GL.val (v := (.bool (decide ((chk ((pAt ps i).W) ((pAt ps i).H) ((pAt ps i).n)) ≠ 0)))) (Ex.neq rfl rfl) (by decide) ?_
    refine GL.nil (GE.thenN ?_)
    refine GC.cond rfl (fun hq9 => ?_) (fun hq9 => ?_)
    ·replace hq9 := of_decide_eq_true hq9
     have hE : (pAt ps i).chk ≠ 0 := hq9
     refine GC.seq (GC.region ?_)
     refine GL.mv rfl (by decide) ?_
     refine GL.sg rfl (by decide) ?_
     refine GL.nil (GE.thenN (GC.ret (GE.blockR (GE.thenR (GE.thenR (GE.blockR (GE.thenR ?_)))))))
     refine GC.ret1 rfl (Rv.tmp rfl) (fun wN HN => ?_)
     exact HN.ret () trivial (congrArg (Value.int .i64) (by unfold chkP; rw [if_neg (by omega), chkL_at (by omega) hp.2 hE, if_pos hE]; rfl)) (List.nil_sublist _) rfl
    ·replace hq9 := of_decide_eq_false hq9
     have hE : ¬ (pAt ps i).chk ≠ 0 := hq9
     refine GC.skip (GE.blockN (GE.thenN (GC.region ?_)))
     refine GL.val (v := (.int .i64 (((i + 1 : Nat) : Int)))) (Ex.add rfl rfl (Z := ((i + 1 : Nat) : Int)) (by rw [w64 (by omega)]; rfl)) (by decide) ?_
     refine GL.mv rfl (by decide) ?_
     refine GL.nil (GE.thenN ?_)
     exact Head.mk (i + 1) ⟨by omega, below_succ hp.2 (Classical.not_not.1 hE)⟩ (by omega) ((sub_cons rfl ((sub_cons rfl ((sub_cons rfl ((sub_cons rfl ((sub_cons rfl ((sub_nil _)))))))))))) (ulS (ulC ulN))
   ·replace hq5 := of_decide_eq_false hq5
    have hL : chkL ps = 0 := chkL_zero fun j hj => hp.2 j (by omega)
    refine GC.exit (GE.thenE (GE.thenE (GE.blockE (GE.thenN (GC.seq (GC.seq (GC.region ?_)))))))
    refine GL.val (v := (.pointer (some ⟨bq1, 1, none⟩))) (Ex.cast (Ex.fieldAddr rfl Try.underlying25 rfl T.sz23 (by decide)) rfl) (by decide) ?_
    refine GL.val (Ex.load rfl T.ag23 (i := 0) rfl rfl) (by decide) ?_
    refine GL.val (v := (.int .i64 ((n : Int)))) (Ex.len rfl Try.underlying23) (by decide) ?_
    refine GL.mv rfl (by decide) ?_
    refine GL.nil (GE.thenN (GC.block ?_))
    refine GC.loop (σ := Nat) (fun k => k ≤ n ∧ ∀ j, j < k → (pAt ps j).W = (pAt ps 0).W ∧ (pAt ps j).H = (pAt ps 0).H) (fun k => [(1, (.pointer (some ⟨bq1, 0, none⟩))), (2, (.int .i64 0)), (32, (.slice (some ⟨b, o, none⟩) n cap)), (33, (.int .i64 ((n : Int)))), (34, (.int .i64 (((k : Nat) : Int))))]) (fun k => [⟨bq1, [(.int .i64 sp), (.slice (some ⟨b, o, none⟩) n cap)], 25, true⟩]) (fun k => n - k) (0) ⟨Nat.zero_le _, fun j hj => absurd hj (Nat.not_lt_zero _)⟩ ((sub_cons rfl ((sub_cons rfl ((sub_cons rfl ((sub_cons rfl ((sub_cons rfl ((sub_nil _)))))))))))) (ulC ulN) (fun k hp => ?_)
    have hpi := hp.1
    refine GC.seq (GC.region ?_)
    refine GL.val (v := (.bool (decide ((((k : Nat) : Int)) < ((n : Int)))))) (Ex.lss rfl rfl) (by decide) ?_
    refine GL.nil (GE.thenN (GC.seq ?_))
    refine GC.cond rfl (fun hq10 => ?_) (fun hq10 => ?_)
    ·replace hq10 := of_decide_eq_true hq10
     refine GC.skip (GE.thenN (GC.seq (GC.block (GC.seq (GC.region ?_)))))
     refine GL.val (v := (.pointer (some ⟨b, o + k * 3, none⟩))) (Ex.cast (Ex.indexAddr rfl rfl Try.underlying23 T.sz43 (by omega) (by omega)) (by simp)) (by decide) ?_
     refine GL.val (v := (.agg #[(.int .i64 ((pAt ps k).W)), (.int .i64 ((pAt ps k).H)), (.slice (pAt ps k).ad ((pAt ps k).n) ((pAt ps k).cap))])) (Ex.loadAO rfl T.ag43 T.sz43 (Pns.ld (i := k) hps (by omega)) (fun x => x) rfl) (by decide) ?_
     refine GL.step (Stp.alloc T.zr43 (by decide)) (fun bq11 _ => ?_)
     refine GL.step (Stp.st0 (cs' := [(.int .i64 ((pAt ps k).W)), (.int .i64 ((pAt ps k).H)), (.slice (pAt ps k).ad ((pAt ps k).n) ((pAt ps k).cap))]) rfl rfl rfl T.sz43 rfl rfl rfl) (fun _ _ => ?_)
     refine GL.nil (GE.thenN (GC.seq ?_))
     by_cases hW : (pAt ps k).W = (pAt ps 0).W
     ·refine GC.draw [⟨bq11, [(.int .i64 ((pAt ps k).W)), (.int .i64 ((pAt ps k).H)), (.slice (pAt ps k).ad ((pAt ps k).n) ((pAt ps k).cap))], 43, true⟩, ⟨bq1, [(.int .i64 sp), (.slice (some ⟨b, o, none⟩) n cap)], 25, true⟩] T.mixed (fuel := 18) rfl rfl ?_
      refine GH.tk 0 (v := (.pointer (some ⟨bq11, 0, none⟩))) rfl (by kernel_rfl) (fun _ _ _ h => h) (Ex.cast (Ex.fieldAddr rfl Try.underlying43 rfl T.sz3 (by decide)) rfl) (ulC (ulC ulN)) (by decide) ?_
      refine GH.tk 1 (v := (.int .i64 ((pAt ps k).W))) rfl (by kernel_rfl) (fun _ _ _ h => h) (Ex.load rfl T.ag3 (i := 0) rfl rfl) (ulC (ulC ulN)) (by decide) ?_
      refine GH.tk 2 (v := (.pointer (some ⟨bq1, 1, none⟩))) rfl (by kernel_rfl) (fun _ _ _ h => h) (Ex.cast (Ex.fieldAddr rfl Try.underlying25 rfl T.sz23 (by decide)) rfl) (ulC (ulC ulN)) (by decide) ?_
      refine GH.tk 3 (v := (.slice (some ⟨b, o, none⟩) n cap)) rfl (by kernel_rfl) (fun _ _ _ h => h) (Ex.load rfl T.ag23 (i := 1) rfl rfl) (ulC (ulC ulN)) (by decide) ?_
      refine GH.tk 4 (v := (.pointer (some ⟨b, o, none⟩))) rfl (by kernel_rfl) (fun _ _ _ h => h) (Ex.cast (Ex.indexAddr rfl rfl Try.underlying23 T.sz43 (by omega) (by omega)) rfl) (ulC (ulC ulN)) (by decide) ?_
      refine GH.tk 5 (v := (.pointer (some ⟨b, o, none⟩))) rfl (by kernel_rfl) (fun _ _ _ h => h) (Ex.cast (Ex.fieldAddr rfl Try.underlying43 rfl T.sz3 (by decide)) rfl) (ulC (ulC ulN)) (by decide) ?_
      refine GH.tk 6 (v := (.int .i64 ((pAt ps 0).W))) rfl (by kernel_rfl) (fun _ _ _ h => h) (Ex.loadO rfl T.ag3 (Pns.cell (i := 0) (j := 0) hps (by omega) (by decide) rfl) (fun x => x)) (ulC (ulC ulN)) (by decide) ?_
      refine GH.tk 7 (v := (.bool false)) rfl (by kernel_rfl) (fun _ _ _ h => h) (Ex.cast (Ex.neq rfl rfl) (congrArg Value.bool (decide_eq_false (by exact fun h => h hW)))) (ulC (ulC ulN)) (by decide) ?_
      refine GH.tk 8 (v := (.bool false)) rfl (by kernel_rfl) (fun _ _ _ h => h) (Ex.move rfl) (ulC (ulC ulN)) (by decide) ?_
      refine GH.takeG 9 (tj := 46) (v := (.pointer (some ⟨bq11, 1, none⟩))) rfl rfl rfl (by kernel_rfl) (by kernel_rfl) (by kernel_rfl) (fun _ _ _ h => h) (Ex.cast (Ex.fieldAddr rfl Try.underlying43 rfl T.sz3 (by decide)) rfl) (ulC (ulC ulN)) (by decide) ?_
      refine GH.takeG 10 (tj := 46) (v := (.int .i64 ((pAt ps k).H))) rfl rfl rfl (by kernel_rfl) (by kernel_rfl) (by kernel_rfl) (fun _ _ _ h => h) (Ex.load rfl T.ag3 (i := 0) rfl rfl) (ulC (ulC ulN)) (by decide) ?_
      refine GH.takeG 11 (tj := 46) (v := (.pointer (some ⟨bq1, 1, none⟩))) rfl rfl rfl (by kernel_rfl) (by kernel_rfl) (by kernel_rfl) (fun _ _ _ h => h) (Ex.cast (Ex.fieldAddr rfl Try.underlying25 rfl T.sz23 (by decide)) rfl) (ulC (ulC ulN)) (by decide) ?_
      refine GH.takeG 12 (tj := 46) (v := (.slice (some ⟨b, o, none⟩) n cap)) rfl rfl rfl (by kernel_rfl) (by kernel_rfl) (by kernel_rfl) (fun _ _ _ h => h) (Ex.load rfl T.ag23 (i := 1) rfl rfl) (ulC (ulC ulN)) (by decide) ?_
      refine GH.takeG 13 (tj := 46) (v := (.pointer (some ⟨b, o, none⟩))) rfl rfl rfl (by kernel_rfl) (by kernel_rfl) (by kernel_rfl) (fun _ _ _ h => h) (Ex.cast (Ex.indexAddr rfl rfl Try.underlying23 T.sz43 (by omega) (by omega)) rfl) (ulC (ulC ulN)) (by decide) ?_
      refine GH.takeG 14 (tj := 46) (v := (.pointer (some ⟨b, o + 1, none⟩))) rfl rfl rfl (by kernel_rfl) (by kernel_rfl) (by kernel_rfl) (fun _ _ _ h => h) (Ex.cast (Ex.fieldAddr rfl Try.underlying43 rfl T.sz3 (by decide)) rfl) (ulC (ulC ulN)) (by decide) ?_
      refine GH.takeG 15 (tj := 46) (v := (.int .i64 ((pAt ps 0).H))) rfl rfl rfl (by kernel_rfl) (by kernel_rfl) (by kernel_rfl) (fun _ _ _ h => h) (Ex.loadO rfl T.ag3 (Pns.cell (i := 0) (j := 1) hps (by omega) (by decide) rfl) (fun x => x)) (ulC (ulC ulN)) (by decide) ?_
      refine GH.takeG 16 (tj := 46) (v := (.bool (decide (((pAt ps k).H) ≠ ((pAt ps 0).H))))) rfl rfl rfl (by kernel_rfl) (by kernel_rfl) (by kernel_rfl) (fun _ _ _ h => h) (Ex.neq rfl rfl) (ulC (ulC ulN)) (by decide) ?_
      refine GH.tk 17 (v := (.bool (decide (((pAt ps k).H) ≠ ((pAt ps 0).H))))) rfl (by kernel_rfl) (fun _ _ _ h => h) (Ex.pickF rfl rfl) (ulC (ulC ulN)) (by decide) ?_
      refine GH.done (by kernel_rfl) ?_
      refine GE.thenN ?_
      refine GC.cond rfl (fun hq12 => ?_) (fun hq12 => ?_)
      ·replace hq12 := of_decide_eq_true hq12
       have hH := hq12
       refine GC.seq (GC.region ?_)
       refine GL.sg rfl (by decide) ?_
       refine GL.nil (GE.thenN (GC.ret (GE.blockR (GE.thenR (GE.thenR (GE.blockR (GE.thenR ?_)))))))
       refine GC.ret1 rfl (Rv.tmp rfl) (fun wN HN => ?_)
       exact HN.ret () trivial (congrArg (Value.int .i64) (by unfold chkP; rw [if_neg (by omega), if_neg (by rw [hL]; simp), if_pos (alike_not (i := k) (by omega) (Or.inr hH))])) (List.nil_sublist _) rfl
      ·replace hq12 := of_decide_eq_false hq12
       have hH := hq12
       refine GC.skip (GE.blockN (GE.thenN (GC.region ?_)))
       refine GL.val (v := (.int .i64 (((k + 1 : Nat) : Int)))) (Ex.add rfl rfl (Z := ((k + 1 : Nat) : Int)) (by rw [w64 (by omega)]; rfl)) (by decide) ?_
       refine GL.mv rfl (by decide) ?_
       refine GL.nil (GE.thenN ?_)
       exact Head.mk (k + 1) ⟨by omega, below_succ hp.2 ⟨hW, Classical.not_not.1 hH⟩⟩ (by omega) ((sub_cons rfl ((sub_cons rfl ((sub_cons rfl ((sub_cons rfl ((sub_cons rfl ((sub_nil _)))))))))))) (ulS (ulC ulN))
     ·refine GC.draw [⟨bq11, [(.int .i64 ((pAt ps k).W)), (.int .i64 ((pAt ps k).H)), (.slice (pAt ps k).ad ((pAt ps k).n) ((pAt ps k).cap))], 43, true⟩, ⟨bq1, [(.int .i64 sp), (.slice (some ⟨b, o, none⟩) n cap)], 25, true⟩] T.mixed (fuel := 18) rfl rfl ?_
      refine GH.tk 0 (v := (.pointer (some ⟨bq11, 0, none⟩))) rfl (by kernel_rfl) (fun _ _ _ h => h) (Ex.cast (Ex.fieldAddr rfl Try.underlying43 rfl T.sz3 (by decide)) rfl) (ulC (ulC ulN)) (by decide) ?_
      refine GH.tk 1 (v := (.int .i64 ((pAt ps k).W))) rfl (by kernel_rfl) (fun _ _ _ h => h) (Ex.load rfl T.ag3 (i := 0) rfl rfl) (ulC (ulC ulN)) (by decide) ?_
      refine GH.tk 2 (v := (.pointer (some ⟨bq1, 1, none⟩))) rfl (by kernel_rfl) (fun _ _ _ h => h) (Ex.cast (Ex.fieldAddr rfl Try.underlying25 rfl T.sz23 (by decide)) rfl) (ulC (ulC ulN)) (by decide) ?_
      refine GH.tk 3 (v := (.slice (some ⟨b, o, none⟩) n cap)) rfl (by kernel_rfl) (fun _ _ _ h => h) (Ex.load rfl T.ag23 (i := 1) rfl rfl) (ulC (ulC ulN)) (by decide) ?_
      refine GH.tk 4 (v := (.pointer (some ⟨b, o, none⟩))) rfl (by kernel_rfl) (fun _ _ _ h => h) (Ex.cast (Ex.indexAddr rfl rfl Try.underlying23 T.sz43 (by omega) (by omega)) rfl) (ulC (ulC ulN)) (by decide) ?_
      refine GH.tk 5 (v := (.pointer (some ⟨b, o, none⟩))) rfl (by kernel_rfl) (fun _ _ _ h => h) (Ex.cast (Ex.fieldAddr rfl Try.underlying43 rfl T.sz3 (by decide)) rfl) (ulC (ulC ulN)) (by decide) ?_
      refine GH.tk 6 (v := (.int .i64 ((pAt ps 0).W))) rfl (by kernel_rfl) (fun _ _ _ h => h) (Ex.loadO rfl T.ag3 (Pns.cell (i := 0) (j := 0) hps (by omega) (by decide) rfl) (fun x => x)) (ulC (ulC ulN)) (by decide) ?_
      refine GH.tk 7 (v := (.bool true)) rfl (by kernel_rfl) (fun _ _ _ h => h) (Ex.cast (Ex.neq rfl rfl) (congrArg Value.bool (decide_eq_true (by exact hW)))) (ulC (ulC ulN)) (by decide) ?_
      refine GH.tk 8 (v := (.bool true)) rfl (by kernel_rfl) (fun _ _ _ h => h) (Ex.move rfl) (ulC (ulC ulN)) (by decide) ?_
      refine GH.skipG 9 (tj := 46) rfl rfl rfl rfl (by kernel_rfl) (by kernel_rfl) (by kernel_rfl) (fun _ _ _ h => h) (ulC (ulC ulN)) (by decide) ?_
      refine GH.skipG 10 (tj := 46) rfl rfl rfl rfl (by kernel_rfl) (by kernel_rfl) (by kernel_rfl) (fun _ _ _ h => h) (ulC (ulC ulN)) (by decide) ?_
      refine GH.skipG 11 (tj := 46) rfl rfl rfl rfl (by kernel_rfl) (by kernel_rfl) (by kernel_rfl) (fun _ _ _ h => h) (ulC (ulC ulN)) (by decide) ?_
      refine GH.skipG 12 (tj := 46) rfl rfl rfl rfl (by kernel_rfl) (by kernel_rfl) (by kernel_rfl) (fun _ _ _ h => h) (ulC (ulC ulN)) (by decide) ?_
      refine GH.skipG 13 (tj := 46) rfl rfl rfl rfl (by kernel_rfl) (by kernel_rfl) (by kernel_rfl) (fun _ _ _ h => h) (ulC (ulC ulN)) (by decide) ?_
      refine GH.skipG 14 (tj := 46) rfl rfl rfl rfl (by kernel_rfl) (by kernel_rfl) (by kernel_rfl) (fun _ _ _ h => h) (ulC (ulC ulN)) (by decide) ?_
      refine GH.skipG 15 (tj := 46) rfl rfl rfl rfl (by kernel_rfl) (by kernel_rfl) (by kernel_rfl) (fun _ _ _ h => h) (ulC (ulC ulN)) (by decide) ?_
      refine GH.skipG 16 (tj := 46) rfl rfl rfl rfl (by kernel_rfl) (by kernel_rfl) (by kernel_rfl) (fun _ _ _ h => h) (ulC (ulC ulN)) (by decide) ?_
      refine GH.tk 17 (v := (.bool true)) rfl (by kernel_rfl) (fun _ _ _ h => h) (Ex.pickT rfl rfl) (ulC (ulC ulN)) (by decide) ?_
      refine GH.done (by kernel_rfl) ?_
      refine GE.thenN ?_
      refine GC.cond rfl (fun _ => ?_) (fun hq13 => by cases hq13)
      refine GC.seq (GC.region ?_)
      refine GL.sg rfl (by decide) ?_
      refine GL.nil (GE.thenN (GC.ret (GE.blockR (GE.thenR (GE.thenR (GE.blockR (GE.thenR ?_)))))))
      refine GC.ret1 rfl (Rv.tmp rfl) (fun wN HN => ?_)
      exact HN.ret () trivial (congrArg (Value.int .i64) (by unfold chkP; rw [if_neg (by omega), if_neg (by rw [hL]; simp), if_pos (alike_not (i := k) (by omega) (Or.inl hW))])) (List.nil_sublist _) rfl
    ·replace hq10 := of_decide_eq_false hq10
     have hA : alike ps = true := alike_of fun j hj => hp.2 j (by omega)
     refine GC.exit (GE.thenE (GE.thenE (GE.blockE (GE.thenN (GC.seq (GC.region ?_))))))
     refine GL.val (v := (.pointer (some ⟨bq1, 0, none⟩))) (Ex.cast (Ex.fieldAddr rfl Try.underlying25 rfl T.sz3 (by decide)) rfl) (by decide) ?_
     refine GL.val (Ex.load rfl T.ag3 (i := 0) rfl rfl) (by decide) ?_
     refine GL.val (v := (.pointer (some ⟨bq1, 1, none⟩))) (Ex.cast (Ex.fieldAddr rfl Try.underlying25 rfl T.sz23 (by decide)) rfl) (by decide) ?_
     refine GL.val (Ex.load rfl T.ag23 (i := 0) rfl rfl) (by decide) ?_
     refine GL.val (v := (.int .i64 ((n : Int)))) (Ex.len rfl Try.underlying23) (by decide) ?_
     refine GL.step (Stp.callR (vs := [(.int .i64 sp), (.int .i64 ((n : Int)))]) rfl rfl T.own35 (by decide) (fun wc hw => spaceof sp n wc)) (fun xq14 hq15 => ?_)
     refine GL.sg rfl (by decide) ?_
     refine GL.nil (GE.thenN (GC.ret ?_))
     refine GC.ret1 rfl (Rv.tmp rfl) (fun wN HN => ?_)
     exact HN.ret () trivial (congrArg (Value.int .i64) (by unfold chkP; rw [if_neg (by omega), if_neg (by rw [hL]; simp), if_neg (by rw [hA]; simp)]; rw [hn])) (List.nil_sublist _) rfl

theorem chk_p0 (sp : Int) (ad : Option Addr) (cap : Nat) (w : World) :
  Calls Try.prog 9 #[(.agg #[(.int .i64 sp), (.slice ad 0 cap)])] w (Ret w (fun _ : Unit => True) (fun _ => (.int .i64 80)) (fun _ => [])) := by
 refine enter (M := None) (L := []) (n := 63) (l := [(0, (.agg #[(.int .i64 sp), (.slice ad 0 cap)]))]) Try.func9 rfl rfl (Args.cons rfl (Args.nil _)) (Hp.start _ _) ?_
 refine GC.seq (GC.region ?_)
 refine GL.step (Stp.box (cs := [(.int .i64 sp), (.slice ad 0 cap)]) rfl rfl (by decide)) (fun bq1 _ => ?_)
 refine GL.sg rfl (by decide) ?_
 refine GL.nil (GE.thenN (GC.seq (GC.seq (GC.region ?_))))
 refine GL.val (v := (.pointer (some ⟨bq1, 1, none⟩))) (Ex.cast (Ex.fieldAddr rfl Try.underlying25 rfl T.sz23 (by decide)) rfl) (by decide) ?_
 refine GL.val (Ex.load rfl T.ag23 (i := 0) rfl rfl) (by decide) ?_
 refine GL.val (v := (.int .i64 0)) (Ex.len rfl Try.underlying23) (by decide) ?_
 refine GL.val (v := (.bool true)) (Ex.cast (Ex.eql rfl rfl) rfl) (by decide) ?_
 refine GL.mv rfl (by decide) ?_
 refine GL.skipG (tj := 12) rfl rfl rfl (by decide) ?_
 refine GL.skipG (tj := 12) rfl rfl rfl (by decide) ?_
 refine GL.skipG (tj := 12) rfl rfl rfl (by decide) ?_
 refine GL.skipG (tj := 12) rfl rfl rfl (by decide) ?_
 refine GL.val (v := (.bool true)) (Ex.pickT rfl rfl) (by decide) ?_
 refine GL.nil (GE.thenN ?_)
 refine GC.cond rfl (fun _ => ?_) (fun hq2 => by cases hq2)
 refine GC.seq (GC.region ?_)
 refine GL.sg rfl (by decide) ?_
 refine GL.nil (GE.thenN (GC.ret (GE.thenR ?_)))
 refine GC.ret1 rfl (Rv.tmp rfl) (fun wN HN => ?_)
 exact HN.ret () trivial rfl (List.nil_sublist _) rfl

theorem chk_p_a (sp : Int) (ad : Option Addr) (n cap : Nat) (ps : List Pn) (w : World) (hps : PnsA w ad ps) (hn : n = ps.length) (hnb : n ≤ 35184372087808) : Calls Try.prog 9 #[(.agg #[(.int .i64 sp), (.slice ad n cap)])] w (Ret w (fun _ : Unit => True) (fun _ => (.int .i64 ((chkP sp ps)))) (fun _ => [])) := by
 by_cases h0 : 0 < ps.length
 ·obtain ⟨b, o, rfl, h⟩ := hps.at h0
  exact chk_p sp b o n cap ps w h hn hnb
 ·have e : chkP sp ps = 80 := by unfold chkP; rw [if_pos (by omega)]
  rw [e, show n = 0 by omega]; exact chk_p0 sp ad cap w

theorem clone (b o n cap : Nat) (xs : List Int) (w : World) (hx : xs.length = n) (h0 : 0 < n) (hb : n ≤ 35184372087808) (hr : Rd w b o (xs.map u32)) :
  Calls Try.prog 76 #[(.slice (some ⟨b, o, none⟩) n cap)] w (Ret w (fun r : Nat × Nat × List Value => (xs.map u32 ++ r.2.2).length = r.2.1 * 1 ∧ r.2.1 ≤ 9223372036854775807) (fun r => (.slice (some ⟨r.1, 0, none⟩) n r.2.1)) (fun r => [⟨r.1, xs.map u32 ++ r.2.2, 28, true⟩])) := by
 refine enter (M := None) (L := []) (n := 8) (l := [(0, (.slice (some ⟨b, o, none⟩) n cap))]) Try.func76 rfl rfl (Args.cons rfl (Args.nil _)) (Hp.start _ _) ?_
 refine GC.seq (GC.region ?_)
 refine GL.sg rfl (by decide) ?_
 refine GL.nil (GE.thenN (GC.seq (GC.seq (GC.region ?_))))
 refine GL.mv rfl (by decide) ?_
 refine GL.val (v := (.bool false)) (Ex.cast (Ex.eqNilS rfl rfl Try.underlying41) rfl) (by decide) ?_
 refine GL.nil (GE.thenN ?_)
 refine GC.cond rfl (fun hq1 => by cases hq1) (fun _ => ?_)
 refine GC.skip (GE.thenN (GC.seq (GC.region ?_)))
 refine GL.step (Stp.buildSlice0 Try.underlying41 T.sz28 (by decide)) (fun bq2 _ => ?_)
 refine GL.mv rfl (by decide) ?_
 refine GL.step (Stp.appendOwnB (i := 0) (xs := []) (sp := []) (vs := xs.map u32) (L1 := []) rfl rfl Try.underlying41 T.sz28 T.zr28 rfl T.by28 rfl rfl rfl (fun wz hz => hz.rd hr (fun x => x)) (by simpa using hx) (u32_all xs) (by omega) (by omega) rfl (by decide) (by decide)) (fun xq3 hq4 => ?_)
 refine GL.sg rfl (by decide) ?_
 refine GL.nil (GE.thenN (GC.ret ?_))
 refine GC.ret1 rfl (Rv.tmp rfl) (fun wN HN => ?_)
 exact HN.ret xq3 ⟨hq4.1, hq4.2.2⟩ (by rw [Nat.zero_add]) (ulC ulN) rfl

theorem copied (W H : Int) (b o n cap : Nat) (xs : List Int) (w : World) (hx : xs.length = n) (h0 : 0 < n) (hb : n ≤ 35184372087808) (hr : Rd w b o (xs.map u32)) :
  Calls Try.prog 41 #[(.agg #[(.int .i64 W), (.int .i64 H), (.slice (some ⟨b, o, none⟩) n cap)])] w (Ret w (fun r : Nat × Nat × List Value => (xs.map u32 ++ r.2.2).length = r.2.1 * 1 ∧ r.2.1 ≤ 9223372036854775807) (fun r => (.agg #[(.int .i64 W), (.int .i64 H), (.slice (some ⟨r.1, 0, none⟩) n r.2.1)])) (fun r => [⟨r.1, xs.map u32 ++ r.2.2, 28, true⟩])) := by
 refine enter (M := None) (L := []) (n := 11) (l := [(0, (.agg #[(.int .i64 W), (.int .i64 H), (.slice (some ⟨b, o, none⟩) n cap)]))]) Try.func41 rfl rfl (Args.cons rfl (Args.nil _)) (Hp.start _ _) ?_
 refine GC.seq (GC.region ?_)
 refine GL.step (Stp.box (cs := [(.int .i64 W), (.int .i64 H), (.slice (some ⟨b, o, none⟩) n cap)]) rfl rfl (by decide)) (fun bq1 _ => ?_)
 refine GL.step (Stp.alloc T.zr43 (by decide)) (fun bq2 _ => ?_)
 refine GL.nil (GE.thenN (GC.seq ?_))
 refine GC.drawP [⟨bq2, [(.int .i64 0), (.int .i64 0), (.slice none 0 0)], 43, true⟩, ⟨bq1, [(.int .i64 W), (.int .i64 H), (.slice (some ⟨b, o, none⟩) n cap)], 43, true⟩] T.mixed (by kernel_rfl) (by kernel_rfl) (fuel := 8) rfl rfl ?_
 refine GH.tk 0 (v := (.pointer (some ⟨bq1, 0, none⟩))) rfl (by kernel_rfl) (fun _ _ _ h => h) (Ex.cast (Ex.fieldAddr rfl Try.underlying43 rfl T.sz3 (by decide)) rfl) (ulC (ulC ulN)) (by decide) ?_
 refine GH.tk 1 (v := (.int .i64 W)) rfl (by kernel_rfl) (fun _ _ _ h => h) (Ex.load rfl T.ag3 (i := 1) rfl rfl) (ulC (ulC ulN)) (by decide) ?_
 refine GH.tk 2 (v := (.pointer (some ⟨bq1, 1, none⟩))) rfl (by kernel_rfl) (fun _ _ _ h => h) (Ex.cast (Ex.fieldAddr rfl Try.underlying43 rfl T.sz3 (by decide)) rfl) (ulC (ulC ulN)) (by decide) ?_
 refine GH.tk 3 (v := (.int .i64 H)) rfl (by kernel_rfl) (fun _ _ _ h => h) (Ex.load rfl T.ag3 (i := 1) rfl rfl) (ulC (ulC ulN)) (by decide) ?_
 refine GH.tk 4 (v := (.pointer (some ⟨bq1, 2, none⟩))) rfl (by kernel_rfl) (fun _ _ _ h => h) (Ex.cast (Ex.fieldAddr rfl Try.underlying43 rfl T.sz41 (by decide)) rfl) (ulC (ulC ulN)) (by decide) ?_
 refine GH.tk 5 (v := (.slice (some ⟨b, o, none⟩) n cap)) rfl (by kernel_rfl) (fun _ _ _ h => h) (Ex.load rfl T.ag41 (i := 1) rfl rfl) (ulC (ulC ulN)) (by decide) ?_
 refine GH.one 6 rfl (by kernel_rfl) (Stp.callR (vs := [(.slice (some ⟨b, o, none⟩) n cap)]) rfl rfl T.own76 (by decide) (fun wc hw => clone b o n cap xs wc hx h0 hb (hw.rd hr (fun x => x)))) (fun _ => (ulS (ulC (ulC ulN)))) (fun xq3 hq4 => ?_)
 refine GH.tk 7 (v := (.agg #[(.int .i64 W), (.int .i64 H), (.slice (some ⟨xq3.1, 0, none⟩) n xq3.2.1)])) rfl (by kernel_rfl) (fun _ _ _ h => h) (Ex.build (vs := [(0, (.int .i64 W)), (1, (.int .i64 H)), (2, (.slice (some ⟨xq3.1, 0, none⟩) n xq3.2.1))]) rfl (by first | rfl | kernel_rfl)) (ulS (ulC (ulC ulN))) (by decide) ?_
 refine GH.done (by kernel_rfl) ?_
 refine GE.thenN ?_
 refine GE.tail rfl (Stp.st1 (cs' := [(.int .i64 W), (.int .i64 H), (.slice (some ⟨xq3.1, 0, none⟩) n xq3.2.1)]) rfl rfl rfl T.sz43 rfl rfl rfl) (fun _ _ => ?_)
 refine GE.thenN (GC.ret ?_)
 refine GC.ret1 rfl (Rv.cellA rfl T.ag43 T.sz43 (L := _) (i := 1) rfl (vs := [(.int .i64 W), (.int .i64 H), (.slice (some ⟨xq3.1, 0, none⟩) n xq3.2.1)]) rfl rfl) (fun wN HN => ?_)
 exact HN.ret xq3 hq4 rfl (ulC (ulS (ulS ulN))) rfl

theorem every_ok (sp : Int) (b o n cap : Nat) (ps : List Pn) (W H : Nat) (fid : FuncId) (caps : Array Value) (g : Nat → Int × Int × List Int) (w : World) (hps : Pns w b o ps) (hn : n = ps.length) (hok : OkPic sp ps W H) (hf : FnE Try.prog w fid caps ps g 28) :
  Calls Try.prog 36 #[(.agg #[(.int .i64 sp), (.slice (some ⟨b, o, none⟩) n cap)]), (.func (.func fid) #[] caps)] w (Ret w (fun r : Ac => r.qs ≠ [] ∧ r.ds = ((List.range n).map g) ∧ r.Ok ∧ ∀ q ∈ r.qs, q.Ok) (fun r => .tuple #[(.agg #[(.int .i64 sp), (.slice r.ad r.n r.cp)]), .int .i64 0]) (fun r => r.blks 43 28)) := by
 refine enter (M := None) (L := []) (n := 48) (l := [(0, (.agg #[(.int .i64 sp), (.slice (some ⟨b, o, none⟩) n cap)])), (1, (.func (.func fid) #[] caps))]) Try.func36 rfl rfl (Args.cons rfl (Args.cons rfl (Args.nil _))) (Hp.start _ _) ?_
 refine GC.seq (GC.region ?_)
 refine GL.step (Stp.box (cs := [(.int .i64 sp), (.slice (some ⟨b, o, none⟩) n cap)]) rfl rfl (by decide)) (fun bq1 _ => ?_)
 refine GL.step (Stp.alloc T.zr25 (by decide)) (fun bq2 _ => ?_)
 refine GL.sg rfl (by decide) ?_
 refine GL.nil (GE.thenN (GC.seq (GC.seq (GC.region ?_))))
 refine GL.val (v := (.agg #[(.int .i64 sp), (.slice (some ⟨b, o, none⟩) n cap)])) (Ex.loadA rfl T.ag25 T.sz25 (i := 1) rfl (vs := [(.int .i64 sp), (.slice (some ⟨b, o, none⟩) n cap)]) rfl rfl) (by decide) ?_
 refine GL.step (Stp.callR (σ := Unit) (p := fun rz => True) (v := fun rz => (.int .i64 0)) (N := fun rz => []) (vs := [(.agg #[(.int .i64 sp), (.slice (some ⟨b, o, none⟩) n cap)])]) rfl rfl T.own9 (by decide) (fun wc hw => (by have h := chk_p sp b o n cap ps wc (hps.later hw.1) hn (by have := hok.n4; omega); rw [hok.chk] at h; exact h))) (fun xq3 hq4 => ?_)
 refine GL.sg rfl (by decide) ?_
 refine GL.nil (GE.thenN (GC.seq (GC.region ?_)))
 refine GL.mv rfl (by decide) ?_
 refine GL.val (v := (.bool false)) (Ex.cast (Ex.neq rfl rfl) rfl) (by decide) ?_
 refine GL.nil (GE.thenN ?_)
 refine GC.cond rfl (fun hq5 => by cases hq5) (fun _ => ?_)
 refine GC.skip (GE.thenN (GC.seq (GC.region ?_)))
 refine GL.val (v := (.pointer (some ⟨bq1, 0, none⟩))) (Ex.cast (Ex.fieldAddr rfl Try.underlying25 rfl T.sz3 (by decide)) rfl) (by decide) ?_
 refine GL.val (Ex.load rfl T.ag3 (i := 1) rfl rfl) (by decide) ?_
 refine GL.val (v := (.agg #[(.int .i64 sp), (.slice none 0 0)])) (Ex.build (vs := [(0, (.int .i64 sp))]) rfl (by first | rfl | kernel_rfl)) (by decide) ?_
 refine GL.step (Stp.alloc T.zr25 (by decide)) (fun bq6 _ => ?_)
 refine GL.step (Stp.st0 (cs' := [(.int .i64 sp), (.slice none 0 0)]) rfl rfl rfl T.sz25 rfl rfl rfl) (fun _ _ => ?_)
 refine GL.nil (GE.thenN (GC.seq (GC.seq (GC.region ?_))))
 refine GL.val (v := (.pointer (some ⟨bq1, 1, none⟩))) (Ex.cast (Ex.fieldAddr rfl Try.underlying25 rfl T.sz23 (by decide)) rfl) (by decide) ?_
 refine GL.val (Ex.load rfl T.ag23 (i := 2) rfl rfl) (by decide) ?_
 refine GL.val (v := (.int .i64 ((n : Int)))) (Ex.len rfl Try.underlying23) (by decide) ?_
 refine GL.mv rfl (by decide) ?_
 refine GL.nil (GE.thenN (GC.block ?_))
 refine GC.loop (σ := Ac) (fun a => a.n ≤ n ∧ a.ds = (List.range a.n).map g ∧ a.Ok ∧ ∀ q ∈ a.qs, q.Ok) (fun a => [(1, (.func (.func fid) #[] caps)), (2, (.pointer (some ⟨bq1, 0, none⟩))), (4, (.pointer (some ⟨bq2, 0, none⟩))), (5, (.int .i64 0)), (7, (.pointer (some ⟨bq6, 0, none⟩))), (22, (.slice (some ⟨b, o, none⟩) n cap)), (23, (.int .i64 ((n : Int)))), (24, (.int .i64 (((a.n : Nat) : Int))))]) (fun a => (⟨bq6, [(.int .i64 sp), (.slice a.ad a.n a.cp)], 25, true⟩ :: ⟨bq2, [(.int .i64 0), (.slice none 0 0)], 25, true⟩ :: ⟨bq1, [(.int .i64 sp), (.slice (some ⟨b, o, none⟩) n cap)], 25, true⟩ :: (a.row 43 ++ (a.qs.map (Nq.blk 28) ++ [])))) (fun a => n - a.n) (Ac.no) ⟨Nat.zero_le _, rfl, Or.inl rfl, fun q h => by cases h⟩ ((sub_cons rfl ((sub_cons rfl ((sub_cons rfl ((sub_cons rfl ((sub_cons rfl ((sub_cons rfl ((sub_cons rfl ((sub_cons rfl ((sub_nil _)))))))))))))))))) (ulC (ulC (ulC ulR))) (fun a hp => ?_)
 have hpn := hp.1
 have hp4 := hok.n4
 refine GC.seq (GC.region ?_)
 refine GL.val (v := (.bool (decide ((((a.n : Nat) : Int)) < ((n : Int)))))) (Ex.lss rfl rfl) (by decide) ?_
 refine GL.nil (GE.thenN (GC.seq ?_))
 refine GC.cond rfl (fun hq7 => ?_) (fun hq7 => ?_)
 ·replace hq7 := of_decide_eq_true hq7
  refine GC.skip (GE.thenN (GC.seq (GC.block (GC.seq (GC.region ?_)))))
  refine GL.mv rfl (by decide) ?_
  refine GL.val (v := (.pointer (some ⟨b, o + a.n * 3, none⟩))) (Ex.cast (Ex.indexAddr rfl rfl Try.underlying23 T.sz43 (by omega) (by omega)) (by simp)) (by decide) ?_
  refine GL.val (v := (.agg #[(.int .i64 ((pAt ps a.n).W)), (.int .i64 ((pAt ps a.n).H)), (.slice (pAt ps a.n).ad ((pAt ps a.n).n) ((pAt ps a.n).cap))])) (Ex.loadAO rfl T.ag43 T.sz43 (Pns.ld (i := a.n) hps (by omega)) (fun x => x) rfl) (by decide) ?_
  refine GL.step (Stp.alloc T.zr43 (by decide)) (fun bq8 _ => ?_)
  refine GL.sg rfl (by decide) ?_
  refine GL.step (Stp.st0 (cs' := [(.int .i64 ((pAt ps a.n).W)), (.int .i64 ((pAt ps a.n).H)), (.slice (pAt ps a.n).ad ((pAt ps a.n).n) ((pAt ps a.n).cap))]) rfl rfl rfl T.sz43 rfl rfl rfl) (fun _ _ => ?_)
  refine GL.nil (GE.thenN (GC.seq (GC.region ?_)))
  refine GL.mv rfl (by decide) ?_
  refine GL.mv rfl (by decide) ?_
  refine GL.val (v := (.agg #[(.int .i64 ((pAt ps a.n).W)), (.int .i64 ((pAt ps a.n).H)), (.slice (pAt ps a.n).ad ((pAt ps a.n).n) ((pAt ps a.n).cap))])) (Ex.loadA rfl T.ag43 T.sz43 (i := 0) rfl (vs := [(.int .i64 ((pAt ps a.n).W)), (.int .i64 ((pAt ps a.n).H)), (.slice (pAt ps a.n).ad ((pAt ps a.n).n) ((pAt ps a.n).cap))]) rfl rfl) (by decide) ?_
  refine GL.step (Stp.callR (vs := [(.int .i64 (((a.n : Nat) : Int))), (.agg #[(.int .i64 ((pAt ps a.n).W)), (.int .i64 ((pAt ps a.n).H)), (.slice (pAt ps a.n).ad ((pAt ps a.n).n) ((pAt ps a.n).cap))])]) rfl rfl hf.1 (by decide) (fun wc hw => hf.2 a.n (by omega) wc hw.1)) (fun xq9 hq10 => ?_)
  refine GL.mv rfl (by decide) ?_
  refine GL.val (Ex.extract rfl rfl) (by decide) ?_
  refine GL.val (Ex.extract rfl rfl) (by decide) ?_
  refine GL.step (Stp.alloc T.zr43 (by decide)) (fun bq11 _ => ?_)
  refine GL.step (Stp.st0 (cs' := [(.int .i64 ((g a.n).1)), (.int .i64 ((g a.n).2.1)), (.slice (some ⟨xq9.1, 0, none⟩) ((g a.n).2.2.length) xq9.2.1)]) rfl rfl rfl T.sz43 rfl rfl rfl) (fun _ _ => ?_)
  refine GL.sg rfl (by decide) ?_
  refine GL.nil (GE.thenN (GC.seq (GC.seq (GC.region ?_))))
  refine GL.mv rfl (by decide) ?_
  refine GL.val (v := (.bool false)) (Ex.cast (Ex.neq rfl rfl) rfl) (by decide) ?_
  refine GL.nil (GE.thenN ?_)
  refine GC.cond rfl (fun hq12 => by cases hq12) (fun _ => ?_)
  refine GC.skip (GE.thenN (GC.region ?_))
  refine GL.val (v := (.pointer (some ⟨bq6, 1, none⟩))) (Ex.cast (Ex.fieldAddr rfl Try.underlying25 rfl T.sz23 (by decide)) rfl) (by decide) ?_
  refine GL.val (Ex.load rfl T.ag23 (i := 3) rfl rfl) (by decide) ?_
  refine GL.val (v := (.agg #[(.int .i64 ((g a.n).1)), (.int .i64 ((g a.n).2.1)), (.slice (some ⟨xq9.1, 0, none⟩) ((g a.n).2.2.length) xq9.2.1)])) (Ex.loadA rfl T.ag43 T.sz43 (i := 0) rfl (vs := [(.int .i64 ((g a.n).1)), (.int .i64 ((g a.n).2.1)), (.slice (some ⟨xq9.1, 0, none⟩) ((g a.n).2.2.length) xq9.2.1)]) rfl rfl) (by decide) ?_
  refine GL.step (Stp.buildSlice (cs := [(.int .i64 ((g a.n).1)), (.int .i64 ((g a.n).2.1)), (.slice (some ⟨xq9.1, 0, none⟩) ((g a.n).2.2.length) xq9.2.1)]) (vs := [(0, (.agg #[(.int .i64 ((g a.n).1)), (.int .i64 ((g a.n).2.1)), (.slice (some ⟨xq9.1, 0, none⟩) ((g a.n).2.2.length) xq9.2.1)]))]) Try.underlying23 T.zr43 T.sz43 rfl (by decide) (by decide) (by first | rfl | kernel_rfl) (by decide)) (fun bq13 _ => ?_)
  refine GL.step (Stp.appAc (a := a) (q := (Nq.mk (g a.n).1 (g a.n).2.1 (g a.n).2.2 xq9.1 xq9.2.1 xq9.2.2)) (K := [⟨bq13, [(.int .i64 ((g a.n).1)), (.int .i64 ((g a.n).2.1)), (.slice (some ⟨xq9.1, 0, none⟩) ((g a.n).2.2.length) xq9.2.1)], 43, true⟩, ⟨bq11, [(.int .i64 ((g a.n).1)), (.int .i64 ((g a.n).2.1)), (.slice (some ⟨xq9.1, 0, none⟩) ((g a.n).2.2.length) xq9.2.1)], 43, true⟩, ⟨xq9.1, (g a.n).2.2.map u32 ++ xq9.2.2, 28, true⟩, ⟨bq8, [(.int .i64 ((pAt ps a.n).W)), (.int .i64 ((pAt ps a.n).H)), (.slice (pAt ps a.n).ad ((pAt ps a.n).n) ((pAt ps a.n).cap))], 43, true⟩, ⟨bq6, [(.int .i64 sp), (.slice a.ad a.n a.cp)], 25, true⟩, ⟨bq2, [(.int .i64 0), (.slice none 0 0)], 25, true⟩, ⟨bq1, [(.int .i64 sp), (.slice (some ⟨b, o, none⟩) n cap)], 25, true⟩]) (R := (a.qs.map (Nq.blk 28) ++ [])) rfl rfl Try.underlying23 T.sz43 T.zr43 rfl T.by43 rfl hp.2.2.1 (fun w hw => hw.rdOf (i := 0) rfl 0) (by omega) (by omega) (by decide)) (fun xq14 hq15 => ?_)
  refine GL.val (v := (.pointer (some ⟨bq6, 1, none⟩))) (Ex.cast (Ex.fieldAddr rfl Try.underlying25 rfl T.sz23 (by decide)) rfl) (by decide) ?_
  refine GL.step (Stp.st4 (cs' := [(.int .i64 sp), (.slice (a.add (Nq.mk (g a.n).1 (g a.n).2.1 (g a.n).2.2 xq9.1 xq9.2.1 xq9.2.2) xq14).ad ((a.add (Nq.mk (g a.n).1 (g a.n).2.1 (g a.n).2.2 xq9.1 xq9.2.1 xq9.2.2) xq14).n) ((a.add (Nq.mk (g a.n).1 (g a.n).2.1 (g a.n).2.2 xq9.1 xq9.2.1 xq9.2.2) xq14).cp))]) rfl rfl rfl T.sz23 rfl rfl rfl) (fun _ _ => ?_)
  refine GL.nil (GE.blockN (GE.thenN ?_))
  refine GC.hp (L2 := (⟨bq6, [(.int .i64 sp), (.slice (a.add (Nq.mk (g a.n).1 (g a.n).2.1 (g a.n).2.2 xq9.1 xq9.2.1 xq9.2.2) xq14).ad ((a.add (Nq.mk (g a.n).1 (g a.n).2.1 (g a.n).2.2 xq9.1 xq9.2.1 xq9.2.2) xq14).n) ((a.add (Nq.mk (g a.n).1 (g a.n).2.1 (g a.n).2.2 xq9.1 xq9.2.1 xq9.2.2) xq14).cp))], 25, true⟩ :: ⟨bq2, [(.int .i64 0), (.slice none 0 0)], 25, true⟩ :: ⟨bq1, [(.int .i64 sp), (.slice (some ⟨b, o, none⟩) n cap)], 25, true⟩ :: ((a.add (Nq.mk (g a.n).1 (g a.n).2.1 (g a.n).2.2 xq9.1 xq9.2.1 xq9.2.2) xq14).row 43 ++ ((a.add (Nq.mk (g a.n).1 (g a.n).2.1 (g a.n).2.2 xq9.1 xq9.2.1 xq9.2.2) xq14).qs.map (Nq.blk 28) ++ [])))) (fun w h => by rw [Ac.add_map, List.append_assoc]; exact Hp.segsD (A := [[⟨bq13, [(.int .i64 ((g a.n).1)), (.int .i64 ((g a.n).2.1)), (.slice (some ⟨xq9.1, 0, none⟩) ((g a.n).2.2.length) xq9.2.1)], 43, true⟩, ⟨bq11, [(.int .i64 ((g a.n).1)), (.int .i64 ((g a.n).2.1)), (.slice (some ⟨xq9.1, 0, none⟩) ((g a.n).2.2.length) xq9.2.1)], 43, true⟩], [⟨xq9.1, (g a.n).2.2.map u32 ++ xq9.2.2, 28, true⟩], [⟨bq8, [(.int .i64 ((pAt ps a.n).W)), (.int .i64 ((pAt ps a.n).H)), (.slice (pAt ps a.n).ad ((pAt ps a.n).n) ((pAt ps a.n).cap))], 43, true⟩], [⟨bq6, [(.int .i64 sp), (.slice (a.add (Nq.mk (g a.n).1 (g a.n).2.1 (g a.n).2.2 xq9.1 xq9.2.1 xq9.2.2) xq14).ad ((a.add (Nq.mk (g a.n).1 (g a.n).2.1 (g a.n).2.2 xq9.1 xq9.2.1 xq9.2.2) xq14).n) ((a.add (Nq.mk (g a.n).1 (g a.n).2.1 (g a.n).2.2 xq9.1 xq9.2.1 xq9.2.2) xq14).cp))], 25, true⟩, ⟨bq2, [(.int .i64 0), (.slice none 0 0)], 25, true⟩, ⟨bq1, [(.int .i64 sp), (.slice (some ⟨b, o, none⟩) n cap)], 25, true⟩], ((a.add (Nq.mk (g a.n).1 (g a.n).2.1 (g a.n).2.2 xq9.1 xq9.2.1 xq9.2.2) xq14).row 43), (a.qs.map (Nq.blk 28))]) (idx := [3, 4, 5, 1]) 6 [0, 2] h rfl (by decide) rfl) ?_
  refine GC.region ?_
  refine GL.val (v := (.int .i64 ((((a.add (Nq.mk (g a.n).1 (g a.n).2.1 (g a.n).2.2 xq9.1 xq9.2.1 xq9.2.2) xq14).n : Nat) : Int)))) (Ex.add rfl rfl (Z := (((a.add (Nq.mk (g a.n).1 (g a.n).2.1 (g a.n).2.2 xq9.1 xq9.2.1 xq9.2.2) xq14).n : Nat) : Int)) (by rw [Ac.add_n, w64 (by omega)]; omega)) (by decide) ?_
  refine GL.mv rfl (by decide) ?_
  refine GL.nil (GE.thenN ?_)
  exact Head.mk ((a.add (Nq.mk (g a.n).1 (g a.n).2.1 (g a.n).2.2 xq9.1 xq9.2.1 xq9.2.2) xq14)) ⟨by rw [Ac.add_n]; omega, Ac.ds_step hp.2.1 rfl, hq15, Ac.add_mem hp.2.2.2 hq10⟩ (by rw [Ac.add_n]; omega) ((sub_cons rfl ((sub_cons rfl ((sub_cons rfl ((sub_cons rfl ((sub_cons rfl ((sub_cons rfl ((sub_cons rfl ((sub_cons rfl ((sub_nil _)))))))))))))))))) (ulC (ulC (ulC ulR)))
 ·replace hq7 := of_decide_eq_false hq7
  refine GC.exit (GE.thenE (GE.thenE (GE.blockE (GE.thenN (GC.seq (GC.region ?_))))))
  refine GL.val (v := (.agg #[(.int .i64 sp), (.slice a.ad a.n a.cp)])) (Ex.loadA rfl T.ag25 T.sz25 (i := 0) rfl (vs := [(.int .i64 sp), (.slice a.ad a.n a.cp)]) rfl rfl) (by decide) ?_
  refine GL.step (Stp.st1 (cs' := [(.int .i64 sp), (.slice a.ad a.n a.cp)]) rfl rfl rfl T.sz25 rfl rfl rfl) (fun _ _ => ?_)
  refine GL.sg rfl (by decide) ?_
  refine GL.nil (GE.thenN (GC.ret ?_))
  refine GC.ret2 rfl (Rv.cellA rfl T.ag25 T.sz25 (L := _) (i := 1) rfl (vs := [(.int .i64 sp), (.slice a.ad a.n a.cp)]) rfl rfl) (Rv.tmp rfl) (fun wN HN => ?_)
  exact HN.ret a ⟨Ac.ne (by have := hok.n0; omega), by rw [hp.2.1, show a.n = n by omega], hp.2.2⟩ rfl (ulS (ulS (ulS ulR))) (Ac.blks_own _ _ _)

theorem copied_p (p : Pn) (W H : Nat) (w : World) (hok : okP W H) (h : p.W = (W : Int) ∧ p.H = (H : Int) ∧ p.n = W * H) (hp : p.Ok w) : Calls Try.prog 41 #[.agg #[.int .i64 p.W, .int .i64 p.H, .slice p.ad p.n p.cap]] w (RetP w p.d 28) := by
 obtain ⟨pw, ph, ad, n, cap, xs⟩ := p
 obtain ⟨h1, h2, h3⟩ := h
 obtain ⟨hl, hb⟩ := hp
 dsimp only at h1 h2 h3 hl hb
 subst h1 h2 h3
 have hq := Nat.mul_pos (show 0 < W from hok.1) (show 0 < H from hok.2.1)
 rcases hl.2.2.2 with q | ⟨b, o, rfl, hr⟩
 ·omega
 ·refine (copied W H b o (W * H) cap xs w hl.1 hq hb hr).mono fun e w' h => ?_
  exact Ret.to id h (fun x hx => hx) (fun x _ => by rw [← hl.1]; rfl) (fun x _ => rfl)

theorem new_q (W H : Nat) (s : Int) (w : World) (hok : okP W H) : Calls Try.prog 55 #[.int .i64 ((W : Nat) : Int), .int .i64 ((H : Nat) : Int), .int .u32 s] w (RetE w ((W : Int), (H : Int), tab W (fun _ _ => s) (W * H)) 28) := by
 refine (new_ok W H s w hok).mono fun e w' h => ?_
 exact Ret.to (fun x : Nat => (x, W * H, ([] : List Value))) h (fun x _ => by have hA := hok.2.2.2.2; refine ⟨by simp [tab_len], ?_⟩; show W * H ≤ _; omega) (fun x _ => by simp only [tab_len]) (fun x _ => by simp)

theorem newp (sp s : Int) (k W H : Nat) (w : World) (hk : 1 ≤ k ∧ k ≤ 4) (hok : okP W H) :
  Calls Try.prog 17 #[(.int .i64 sp), (.int .i64 (((k : Nat) : Int))), (.int .i64 (((W : Nat) : Int))), (.int .i64 (((H : Nat) : Int))), (.int .u32 s)] w (Ret w (fun r : Ac => r.Ok ∧ (∀ q ∈ r.qs, q.Ok) ∧ r.ds = newD sp ((k : Nat) : Int) W H s) (fun r => .tuple #[(.agg #[(.int .i64 ((picS (newE sp ((k : Nat) : Int) W H) sp))), (.slice r.ad r.n r.cp)]), .int .i64 (newE sp ((k : Nat) : Int) W H)]) (fun r => r.blks 43 28)) := by
 refine enter (M := None) (L := []) (n := 54) (l := [(0, (.int .i64 sp)), (1, (.int .i64 (((k : Nat) : Int)))), (2, (.int .i64 (((W : Nat) : Int)))), (3, (.int .i64 (((H : Nat) : Int)))), (4, (.int .u32 s))]) Try.func17 rfl rfl (Args.cons rfl (Args.cons rfl (Args.cons rfl (Args.cons rfl (Args.cons rfl (Args.nil _)))))) (Hp.start _ _) ?_
 refine GC.seq (GC.region ?_)
 refine GL.step (Stp.alloc T.zr25 (by decide)) (fun bq1 _ => ?_)
 refine GL.sg rfl (by decide) ?_
 refine GL.nil (GE.thenN (GC.seq (GC.seq (GC.region ?_))))
 refine GL.mv rfl (by decide) ?_
 refine GL.val (v := (.bool false)) (Ex.cast (Ex.lss rfl rfl) (congrArg Value.bool (decide_eq_false (by omega)))) (by decide) ?_
 refine GL.mv rfl (by decide) ?_
 refine GL.stepG (tj := 18) rfl rfl (Ex.wp (v := (.int .i64 (((k : Nat) : Int)))) (Ex.move rfl) (by decide)) (fun _ _ => ?_)
 refine GL.stepG (tj := 18) rfl rfl (Ex.wp (v := (.bool false)) (Ex.cast (Ex.gtr rfl rfl) (congrArg Value.bool (decide_eq_false (by omega)))) (by decide)) (fun _ _ => ?_)
 refine GL.val (v := (.bool false)) (Ex.pickF rfl rfl) (by decide) ?_
 refine GL.nil (GE.thenN ?_)
 refine GC.cond rfl (fun hq2 => by cases hq2) (fun _ => ?_)
 refine GC.skip (GE.thenN (GC.seq (GC.region ?_)))
 refine GL.mv rfl (by decide) ?_
 refine GL.val (v := (.agg #[(.int .i64 sp), (.slice none 0 0)])) (Ex.build (vs := [(0, (.int .i64 sp))]) rfl (by first | rfl | kernel_rfl)) (by decide) ?_
 refine GL.step (Stp.alloc T.zr25 (by decide)) (fun bq3 _ => ?_)
 refine GL.step (Stp.st0 (cs' := [(.int .i64 sp), (.slice none 0 0)]) rfl rfl rfl T.sz25 rfl rfl rfl) (fun _ _ => ?_)
 refine GL.nil (GE.thenN (GC.seq (GC.seq (GC.region ?_))))
 refine GL.mv rfl (by decide) ?_
 refine GL.mv rfl (by decide) ?_
 refine GL.nil (GE.thenN (GC.block ?_))
 refine GC.loop (σ := Ac) (fun a => a.n ≤ k ∧ a.ds = (List.range a.n).map (fun _ => ((W : Int), (H : Int), tab W (fun _ _ => s) (W * H))) ∧ a.Ok ∧ ∀ q ∈ a.qs, q.Ok) (fun a => [(0, (.int .i64 sp)), (1, (.int .i64 (((k : Nat) : Int)))), (10, (.pointer (some ⟨bq1, 0, none⟩))), (11, (.int .i64 0)), (12, (.pointer (some ⟨bq3, 0, none⟩))), (25, (.int .i64 (((k : Nat) : Int)))), (2, (.int .i64 (((W : Nat) : Int)))), (3, (.int .i64 (((H : Nat) : Int)))), (4, (.int .u32 s)), (26, (.int .i64 (((a.n : Nat) : Int))))]) (fun a => (⟨bq3, [(.int .i64 sp), (.slice a.ad a.n a.cp)], 25, true⟩ :: ⟨bq1, [(.int .i64 0), (.slice none 0 0)], 25, true⟩ :: (a.row 43 ++ (a.qs.map (Nq.blk 28) ++ [])))) (fun a => k - a.n) (Ac.no) ⟨Nat.zero_le _, rfl, Or.inl rfl, fun q h => by cases h⟩ ((sub_cons rfl ((sub_cons rfl ((sub_cons rfl ((sub_cons rfl ((sub_cons rfl ((sub_cons rfl ((sub_cons rfl ((sub_cons rfl ((sub_cons rfl ((sub_cons rfl ((sub_nil _)))))))))))))))))))))) (ulC (ulC ulR)) (fun a hp => ?_)
 have hpn := hp.1
 refine GC.seq (GC.region ?_)
 refine GL.val (v := (.bool (decide ((((a.n : Nat) : Int)) < (((k : Nat) : Int)))))) (Ex.lss rfl rfl) (by decide) ?_
 refine GL.nil (GE.thenN (GC.seq ?_))
 refine GC.cond rfl (fun hq4 => ?_) (fun hq4 => ?_)
 ·replace hq4 := of_decide_eq_true hq4
  refine GC.skip (GE.thenN (GC.seq (GC.block (GC.seq (GC.region ?_)))))
  refine GL.mv rfl (by decide) ?_
  refine GL.mv rfl (by decide) ?_
  refine GL.mv rfl (by decide) ?_
  refine GL.step (Stp.callR (σ := Nat × Nat × List Value) (p := fun rz => (((W : Int), (H : Int), tab W (fun _ _ => s) (W * H)).2.2.map u32 ++ rz.2.2).length = rz.2.1 * 1 ∧ rz.2.1 ≤ 9223372036854775807) (v := fun rz => (.tuple #[(.agg #[(.int .i64 (((W : Int), (H : Int), tab W (fun _ _ => s) (W * H)).1)), (.int .i64 (((W : Int), (H : Int), tab W (fun _ _ => s) (W * H)).2.1)), (.slice (some ⟨rz.1, 0, none⟩) (((W : Int), (H : Int), tab W (fun _ _ => s) (W * H)).2.2.length) rz.2.1)]), (.int .i64 0)])) (N := fun rz => [⟨rz.1, ((W : Int), (H : Int), tab W (fun _ _ => s) (W * H)).2.2.map u32 ++ rz.2.2, 28, true⟩]) (vs := [(.int .i64 (((W : Nat) : Int))), (.int .i64 (((H : Nat) : Int))), (.int .u32 s)]) rfl rfl T.own55 (by decide) (fun wc hw => (by exact new_q W H s wc hok))) (fun xq5 hq6 => ?_)
  refine GL.mv rfl (by decide) ?_
  refine GL.val (Ex.extract rfl rfl) (by decide) ?_
  refine GL.val (Ex.extract rfl rfl) (by decide) ?_
  refine GL.step (Stp.alloc T.zr43 (by decide)) (fun bq7 _ => ?_)
  refine GL.step (Stp.st0 (cs' := [(.int .i64 (((W : Int), (H : Int), tab W (fun _ _ => s) (W * H)).1)), (.int .i64 (((W : Int), (H : Int), tab W (fun _ _ => s) (W * H)).2.1)), (.slice (some ⟨xq5.1, 0, none⟩) (((W : Int), (H : Int), tab W (fun _ _ => s) (W * H)).2.2.length) xq5.2.1)]) rfl rfl rfl T.sz43 rfl rfl rfl) (fun _ _ => ?_)
  refine GL.sg rfl (by decide) ?_
  refine GL.nil (GE.thenN (GC.seq (GC.seq (GC.region ?_))))
  refine GL.mv rfl (by decide) ?_
  refine GL.val (v := (.bool false)) (Ex.cast (Ex.neq rfl rfl) rfl) (by decide) ?_
  refine GL.nil (GE.thenN ?_)
  refine GC.cond rfl (fun hq8 => by cases hq8) (fun _ => ?_)
  refine GC.skip (GE.thenN (GC.region ?_))
  refine GL.val (v := (.pointer (some ⟨bq3, 1, none⟩))) (Ex.cast (Ex.fieldAddr rfl Try.underlying25 rfl T.sz23 (by decide)) rfl) (by decide) ?_
  refine GL.val (Ex.load rfl T.ag23 (i := 2) rfl rfl) (by decide) ?_
  refine GL.val (v := (.agg #[(.int .i64 (((W : Int), (H : Int), tab W (fun _ _ => s) (W * H)).1)), (.int .i64 (((W : Int), (H : Int), tab W (fun _ _ => s) (W * H)).2.1)), (.slice (some ⟨xq5.1, 0, none⟩) (((W : Int), (H : Int), tab W (fun _ _ => s) (W * H)).2.2.length) xq5.2.1)])) (Ex.loadA rfl T.ag43 T.sz43 (i := 0) rfl (vs := [(.int .i64 (((W : Int), (H : Int), tab W (fun _ _ => s) (W * H)).1)), (.int .i64 (((W : Int), (H : Int), tab W (fun _ _ => s) (W * H)).2.1)), (.slice (some ⟨xq5.1, 0, none⟩) (((W : Int), (H : Int), tab W (fun _ _ => s) (W * H)).2.2.length) xq5.2.1)]) rfl rfl) (by decide) ?_
  refine GL.step (Stp.buildSlice (cs := [(.int .i64 (((W : Int), (H : Int), tab W (fun _ _ => s) (W * H)).1)), (.int .i64 (((W : Int), (H : Int), tab W (fun _ _ => s) (W * H)).2.1)), (.slice (some ⟨xq5.1, 0, none⟩) (((W : Int), (H : Int), tab W (fun _ _ => s) (W * H)).2.2.length) xq5.2.1)]) (vs := [(0, (.agg #[(.int .i64 (((W : Int), (H : Int), tab W (fun _ _ => s) (W * H)).1)), (.int .i64 (((W : Int), (H : Int), tab W (fun _ _ => s) (W * H)).2.1)), (.slice (some ⟨xq5.1, 0, none⟩) (((W : Int), (H : Int), tab W (fun _ _ => s) (W * H)).2.2.length) xq5.2.1)]))]) Try.underlying23 T.zr43 T.sz43 rfl (by decide) (by decide) (by first | rfl | kernel_rfl) (by decide)) (fun bq9 _ => ?_)
  refine GL.step (Stp.appAc (a := a) (q := (Nq.mk ((W : Int), (H : Int), tab W (fun _ _ => s) (W * H)).1 ((W : Int), (H : Int), tab W (fun _ _ => s) (W * H)).2.1 ((W : Int), (H : Int), tab W (fun _ _ => s) (W * H)).2.2 xq5.1 xq5.2.1 xq5.2.2)) (K := [⟨bq9, [(.int .i64 (((W : Int), (H : Int), tab W (fun _ _ => s) (W * H)).1)), (.int .i64 (((W : Int), (H : Int), tab W (fun _ _ => s) (W * H)).2.1)), (.slice (some ⟨xq5.1, 0, none⟩) (((W : Int), (H : Int), tab W (fun _ _ => s) (W * H)).2.2.length) xq5.2.1)], 43, true⟩, ⟨bq7, [(.int .i64 (((W : Int), (H : Int), tab W (fun _ _ => s) (W * H)).1)), (.int .i64 (((W : Int), (H : Int), tab W (fun _ _ => s) (W * H)).2.1)), (.slice (some ⟨xq5.1, 0, none⟩) (((W : Int), (H : Int), tab W (fun _ _ => s) (W * H)).2.2.length) xq5.2.1)], 43, true⟩, ⟨xq5.1, ((W : Int), (H : Int), tab W (fun _ _ => s) (W * H)).2.2.map u32 ++ xq5.2.2, 28, true⟩, ⟨bq3, [(.int .i64 sp), (.slice a.ad a.n a.cp)], 25, true⟩, ⟨bq1, [(.int .i64 0), (.slice none 0 0)], 25, true⟩]) (R := (a.qs.map (Nq.blk 28) ++ [])) rfl rfl Try.underlying23 T.sz43 T.zr43 rfl T.by43 rfl hp.2.2.1 (fun w hw => hw.rdOf (i := 0) rfl 0) (by omega) (by omega) (by decide)) (fun xq10 hq11 => ?_)
  refine GL.val (v := (.pointer (some ⟨bq3, 1, none⟩))) (Ex.cast (Ex.fieldAddr rfl Try.underlying25 rfl T.sz23 (by decide)) rfl) (by decide) ?_
  refine GL.step (Stp.st3 (cs' := [(.int .i64 sp), (.slice (a.add (Nq.mk ((W : Int), (H : Int), tab W (fun _ _ => s) (W * H)).1 ((W : Int), (H : Int), tab W (fun _ _ => s) (W * H)).2.1 ((W : Int), (H : Int), tab W (fun _ _ => s) (W * H)).2.2 xq5.1 xq5.2.1 xq5.2.2) xq10).ad ((a.add (Nq.mk ((W : Int), (H : Int), tab W (fun _ _ => s) (W * H)).1 ((W : Int), (H : Int), tab W (fun _ _ => s) (W * H)).2.1 ((W : Int), (H : Int), tab W (fun _ _ => s) (W * H)).2.2 xq5.1 xq5.2.1 xq5.2.2) xq10).n) ((a.add (Nq.mk ((W : Int), (H : Int), tab W (fun _ _ => s) (W * H)).1 ((W : Int), (H : Int), tab W (fun _ _ => s) (W * H)).2.1 ((W : Int), (H : Int), tab W (fun _ _ => s) (W * H)).2.2 xq5.1 xq5.2.1 xq5.2.2) xq10).cp))]) rfl rfl rfl T.sz23 rfl rfl rfl) (fun _ _ => ?_)
  refine GL.nil (GE.blockN (GE.thenN ?_))
  refine GC.hp (L2 := (⟨bq3, [(.int .i64 sp), (.slice (a.add (Nq.mk ((W : Int), (H : Int), tab W (fun _ _ => s) (W * H)).1 ((W : Int), (H : Int), tab W (fun _ _ => s) (W * H)).2.1 ((W : Int), (H : Int), tab W (fun _ _ => s) (W * H)).2.2 xq5.1 xq5.2.1 xq5.2.2) xq10).ad ((a.add (Nq.mk ((W : Int), (H : Int), tab W (fun _ _ => s) (W * H)).1 ((W : Int), (H : Int), tab W (fun _ _ => s) (W * H)).2.1 ((W : Int), (H : Int), tab W (fun _ _ => s) (W * H)).2.2 xq5.1 xq5.2.1 xq5.2.2) xq10).n) ((a.add (Nq.mk ((W : Int), (H : Int), tab W (fun _ _ => s) (W * H)).1 ((W : Int), (H : Int), tab W (fun _ _ => s) (W * H)).2.1 ((W : Int), (H : Int), tab W (fun _ _ => s) (W * H)).2.2 xq5.1 xq5.2.1 xq5.2.2) xq10).cp))], 25, true⟩ :: ⟨bq1, [(.int .i64 0), (.slice none 0 0)], 25, true⟩ :: ((a.add (Nq.mk ((W : Int), (H : Int), tab W (fun _ _ => s) (W * H)).1 ((W : Int), (H : Int), tab W (fun _ _ => s) (W * H)).2.1 ((W : Int), (H : Int), tab W (fun _ _ => s) (W * H)).2.2 xq5.1 xq5.2.1 xq5.2.2) xq10).row 43 ++ ((a.add (Nq.mk ((W : Int), (H : Int), tab W (fun _ _ => s) (W * H)).1 ((W : Int), (H : Int), tab W (fun _ _ => s) (W * H)).2.1 ((W : Int), (H : Int), tab W (fun _ _ => s) (W * H)).2.2 xq5.1 xq5.2.1 xq5.2.2) xq10).qs.map (Nq.blk 28) ++ [])))) (fun w h => by rw [Ac.add_map, List.append_assoc]; exact Hp.segsD (A := [[⟨bq9, [(.int .i64 (((W : Int), (H : Int), tab W (fun _ _ => s) (W * H)).1)), (.int .i64 (((W : Int), (H : Int), tab W (fun _ _ => s) (W * H)).2.1)), (.slice (some ⟨xq5.1, 0, none⟩) (((W : Int), (H : Int), tab W (fun _ _ => s) (W * H)).2.2.length) xq5.2.1)], 43, true⟩, ⟨bq7, [(.int .i64 (((W : Int), (H : Int), tab W (fun _ _ => s) (W * H)).1)), (.int .i64 (((W : Int), (H : Int), tab W (fun _ _ => s) (W * H)).2.1)), (.slice (some ⟨xq5.1, 0, none⟩) (((W : Int), (H : Int), tab W (fun _ _ => s) (W * H)).2.2.length) xq5.2.1)], 43, true⟩], [⟨xq5.1, ((W : Int), (H : Int), tab W (fun _ _ => s) (W * H)).2.2.map u32 ++ xq5.2.2, 28, true⟩], [⟨bq3, [(.int .i64 sp), (.slice (a.add (Nq.mk ((W : Int), (H : Int), tab W (fun _ _ => s) (W * H)).1 ((W : Int), (H : Int), tab W (fun _ _ => s) (W * H)).2.1 ((W : Int), (H : Int), tab W (fun _ _ => s) (W * H)).2.2 xq5.1 xq5.2.1 xq5.2.2) xq10).ad ((a.add (Nq.mk ((W : Int), (H : Int), tab W (fun _ _ => s) (W * H)).1 ((W : Int), (H : Int), tab W (fun _ _ => s) (W * H)).2.1 ((W : Int), (H : Int), tab W (fun _ _ => s) (W * H)).2.2 xq5.1 xq5.2.1 xq5.2.2) xq10).n) ((a.add (Nq.mk ((W : Int), (H : Int), tab W (fun _ _ => s) (W * H)).1 ((W : Int), (H : Int), tab W (fun _ _ => s) (W * H)).2.1 ((W : Int), (H : Int), tab W (fun _ _ => s) (W * H)).2.2 xq5.1 xq5.2.1 xq5.2.2) xq10).cp))], 25, true⟩, ⟨bq1, [(.int .i64 0), (.slice none 0 0)], 25, true⟩], ((a.add (Nq.mk ((W : Int), (H : Int), tab W (fun _ _ => s) (W * H)).1 ((W : Int), (H : Int), tab W (fun _ _ => s) (W * H)).2.1 ((W : Int), (H : Int), tab W (fun _ _ => s) (W * H)).2.2 xq5.1 xq5.2.1 xq5.2.2) xq10).row 43), (a.qs.map (Nq.blk 28))]) (idx := [2, 3, 4, 1]) 5 [0] h rfl (by decide) rfl) ?_
  refine GC.region ?_
  refine GL.val (v := (.int .i64 ((((a.add (Nq.mk ((W : Int), (H : Int), tab W (fun _ _ => s) (W * H)).1 ((W : Int), (H : Int), tab W (fun _ _ => s) (W * H)).2.1 ((W : Int), (H : Int), tab W (fun _ _ => s) (W * H)).2.2 xq5.1 xq5.2.1 xq5.2.2) xq10).n : Nat) : Int)))) (Ex.add rfl rfl (Z := (((a.add (Nq.mk ((W : Int), (H : Int), tab W (fun _ _ => s) (W * H)).1 ((W : Int), (H : Int), tab W (fun _ _ => s) (W * H)).2.1 ((W : Int), (H : Int), tab W (fun _ _ => s) (W * H)).2.2 xq5.1 xq5.2.1 xq5.2.2) xq10).n : Nat) : Int)) (by rw [Ac.add_n, w64 (by omega)]; omega)) (by decide) ?_
  refine GL.mv rfl (by decide) ?_
  refine GL.nil (GE.thenN ?_)
  exact Head.mk ((a.add (Nq.mk ((W : Int), (H : Int), tab W (fun _ _ => s) (W * H)).1 ((W : Int), (H : Int), tab W (fun _ _ => s) (W * H)).2.1 ((W : Int), (H : Int), tab W (fun _ _ => s) (W * H)).2.2 xq5.1 xq5.2.1 xq5.2.2) xq10)) ⟨by rw [Ac.add_n]; omega, Ac.ds_step hp.2.1 rfl, hq11, Ac.add_mem hp.2.2.2 hq6⟩ (by rw [Ac.add_n]; omega) ((sub_cons rfl ((sub_cons rfl ((sub_cons rfl ((sub_cons rfl ((sub_cons rfl ((sub_cons rfl ((sub_cons rfl ((sub_cons rfl ((sub_cons rfl ((sub_cons rfl ((sub_nil _)))))))))))))))))))))) (ulC (ulC ulR))
 ·replace hq4 := of_decide_eq_false hq4
  refine GC.exit (GE.thenE (GE.thenE (GE.blockE (GE.thenN (GC.seq (GC.seq (GC.region ?_)))))))
  refine GL.mv rfl (by decide) ?_
  refine GL.mv rfl (by decide) ?_
  refine GL.step (Stp.callR (vs := [(.int .i64 sp), (.int .i64 (((k : Nat) : Int)))]) rfl rfl T.own35 (by decide) (fun wc hw => spaceof sp k wc)) (fun xq12 hq13 => ?_)
  refine GL.sg rfl (by decide) ?_
  refine GL.nil (GE.thenN (GC.seq (GC.region ?_)))
  refine GL.mv rfl (by decide) ?_
  refine GL.val (v := (.bool (decide (((spc sp k)) ≠ 0)))) (Ex.neq rfl rfl) (by decide) ?_
  refine GL.nil (GE.thenN ?_)
  refine GC.cond rfl (fun hq14 => ?_) (fun hq14 => ?_)
  ·replace hq14 := of_decide_eq_true hq14
   have hE2 : spc sp k = 81 := by have := hq14; unfold spc at this ⊢; split <;> simp_all
   have hE1 : newE sp ((k : Nat) : Int) W H = 81 := by rw [newE_mid hk hok]; exact hE2
   have hE0 : newE sp ((k : Nat) : Int) W H ≠ 0 := by rw [hE1]; decide
   refine GC.seq (GC.region ?_)
   refine GL.val (v := (.agg #[(.int .i64 0), (.slice none 0 0)])) (Ex.build (vs := []) rfl (by first | rfl | kernel_rfl)) (by decide) ?_
   refine GL.mv rfl (by decide) ?_
   refine GL.step (Stp.st1 (cs' := [(.int .i64 0), (.slice none 0 0)]) rfl rfl rfl T.sz25 rfl rfl rfl) (fun _ _ => ?_)
   refine GL.sg rfl (by decide) ?_
   refine GL.nil (GE.thenN (GC.ret (GE.thenR ?_)))
   refine GC.ret2 rfl (Rv.cellA rfl T.ag25 T.sz25 (L := _) (i := 1) rfl (vs := [(.int .i64 0), (.slice none 0 0)]) rfl rfl) (Rv.tmp rfl) (fun wN HN => ?_)
   exact HN.ret Ac.no ⟨Or.inl rfl, fun q h => (by cases h), by rw [newD_bad hE0]; rfl⟩ (by first | (rw [hE1]; rfl) | (rw [hE1, hE2]; rfl)) (List.nil_sublist _) rfl
  ·replace hq14 := of_decide_eq_false hq14
   have hE2 : spc sp k = 0 := by have := hq14; unfold spc at this ⊢; split <;> simp_all
   have hE1 : newE sp ((k : Nat) : Int) W H = 0 := by rw [newE_mid hk hok]; exact hE2
   refine GC.skip (GE.thenN (GC.seq (GC.region ?_)))
   refine GL.val (v := (.agg #[(.int .i64 sp), (.slice a.ad a.n a.cp)])) (Ex.loadA rfl T.ag25 T.sz25 (i := 0) rfl (vs := [(.int .i64 sp), (.slice a.ad a.n a.cp)]) rfl rfl) (by decide) ?_
   refine GL.step (Stp.st1 (cs' := [(.int .i64 sp), (.slice a.ad a.n a.cp)]) rfl rfl rfl T.sz25 rfl rfl rfl) (fun _ _ => ?_)
   refine GL.sg rfl (by decide) ?_
   refine GL.nil (GE.thenN (GC.ret ?_))
   refine GC.ret2 rfl (Rv.cellA rfl T.ag25 T.sz25 (L := _) (i := 1) rfl (vs := [(.int .i64 sp), (.slice a.ad a.n a.cp)]) rfl rfl) (Rv.tmp rfl) (fun wN HN => ?_)
   exact HN.ret a ⟨hp.2.2.1, hp.2.2.2, by rw [newD_ok hE1, hp.2.1, show a.n = k by omega]⟩ (by rw [hE1]; rfl) (ulS (ulS ulR)) (Ac.blks_own _ _ _)

theorem newp_k (sp k w_ h s : Int) (w : World) (hk : k < 1 ∨ 4 < k) :
  Calls Try.prog 17 #[(.int .i64 sp), (.int .i64 k), (.int .i64 w_), (.int .i64 h), (.int .u32 s)] w (Ret w (fun _ : Unit => True) (fun _ => .tuple #[(.agg #[(.int .i64 0), (.slice none 0 0)]), .int .i64 80]) (fun _ => [])) := by
 refine enter (M := None) (L := []) (n := 54) (l := [(0, (.int .i64 sp)), (1, (.int .i64 k)), (2, (.int .i64 w_)), (3, (.int .i64 h)), (4, (.int .u32 s))]) Try.func17 rfl rfl (Args.cons rfl (Args.cons rfl (Args.cons rfl (Args.cons rfl (Args.cons rfl (Args.nil _)))))) (Hp.start _ _) ?_
 refine GC.seq (GC.region ?_)
 refine GL.step (Stp.alloc T.zr25 (by decide)) (fun bq1 _ => ?_)
 refine GL.sg rfl (by decide) ?_
 refine GL.nil (GE.thenN (GC.seq (GC.seq (GC.region ?_))))
 refine GL.mv rfl (by decide) ?_
 by_cases hq2 : k < 1
 ·refine GL.val (v := (.bool true)) (Ex.cast (Ex.lss rfl rfl) (congrArg Value.bool (decide_eq_true hq2))) (by decide) ?_
  refine GL.mv rfl (by decide) ?_
  refine GL.skipG (tj := 18) rfl rfl rfl (by decide) ?_
  refine GL.skipG (tj := 18) rfl rfl rfl (by decide) ?_
  refine GL.val (v := (.bool true)) (Ex.pickT rfl rfl) (by decide) ?_
  refine GL.nil (GE.thenN ?_)
  refine GC.cond rfl (fun _ => ?_) (fun hq3 => by cases hq3)
  refine GC.seq (GC.region ?_)
  refine GL.val (v := (.agg #[(.int .i64 0), (.slice none 0 0)])) (Ex.build (vs := []) rfl (by first | rfl | kernel_rfl)) (by decide) ?_
  refine GL.step (Stp.st0 (cs' := [(.int .i64 0), (.slice none 0 0)]) rfl rfl rfl T.sz25 rfl rfl rfl) (fun _ _ => ?_)
  refine GL.sg rfl (by decide) ?_
  refine GL.nil (GE.thenN (GC.ret (GE.thenR ?_)))
  refine GC.ret2 rfl (Rv.cellA rfl T.ag25 T.sz25 (L := _) (i := 0) rfl (vs := [(.int .i64 0), (.slice none 0 0)]) rfl rfl) (Rv.tmp rfl) (fun wN HN => ?_)
  exact HN.ret () trivial rfl (List.nil_sublist _) rfl
 ·refine GL.val (v := (.bool false)) (Ex.cast (Ex.lss rfl rfl) (congrArg Value.bool (decide_eq_false hq2))) (by decide) ?_
  refine GL.mv rfl (by decide) ?_
  refine GL.stepG (tj := 18) rfl rfl (Ex.wp (v := (.int .i64 k)) (Ex.move rfl) (by decide)) (fun _ _ => ?_)
  refine GL.stepG (tj := 18) rfl rfl (Ex.wp (v := (.bool (decide (4 < k)))) (Ex.gtr rfl rfl) (by decide)) (fun _ _ => ?_)
  refine GL.val (v := (.bool (decide (4 < k)))) (Ex.pickF rfl rfl) (by decide) ?_
  refine GL.nil (GE.thenN ?_)
  refine GC.cond rfl (fun hq4 => ?_) (fun hq4 => ?_)
  ·replace hq4 := of_decide_eq_true hq4
   refine GC.seq (GC.region ?_)
   refine GL.val (v := (.agg #[(.int .i64 0), (.slice none 0 0)])) (Ex.build (vs := []) rfl (by first | rfl | kernel_rfl)) (by decide) ?_
   refine GL.step (Stp.st0 (cs' := [(.int .i64 0), (.slice none 0 0)]) rfl rfl rfl T.sz25 rfl rfl rfl) (fun _ _ => ?_)
   refine GL.sg rfl (by decide) ?_
   refine GL.nil (GE.thenN (GC.ret (GE.thenR ?_)))
   refine GC.ret2 rfl (Rv.cellA rfl T.ag25 T.sz25 (L := _) (i := 0) rfl (vs := [(.int .i64 0), (.slice none 0 0)]) rfl rfl) (Rv.tmp rfl) (fun wN HN => ?_)
   exact HN.ret () trivial rfl (List.nil_sublist _) rfl
  ·replace hq4 := of_decide_eq_false hq4
   exfalso; omega

theorem newp_s (sp k w_ h s : Int) (w : World) (hk : 1 ≤ k ∧ k ≤ 4) (hs : sizeB w_ h = false) :
  Calls Try.prog 17 #[(.int .i64 sp), (.int .i64 k), (.int .i64 w_), (.int .i64 h), (.int .u32 s)] w (Ret w (fun _ : Unit => True) (fun _ => .tuple #[(.agg #[(.int .i64 0), (.slice none 0 0)]), .int .i64 50]) (fun _ => [])) := by
 refine enter (M := None) (L := []) (n := 54) (l := [(0, (.int .i64 sp)), (1, (.int .i64 k)), (2, (.int .i64 w_)), (3, (.int .i64 h)), (4, (.int .u32 s))]) Try.func17 rfl rfl (Args.cons rfl (Args.cons rfl (Args.cons rfl (Args.cons rfl (Args.cons rfl (Args.nil _)))))) (Hp.start _ _) ?_
 refine GC.seq (GC.region ?_)
 refine GL.step (Stp.alloc T.zr25 (by decide)) (fun bq1 _ => ?_)
 refine GL.sg rfl (by decide) ?_
 refine GL.nil (GE.thenN (GC.seq (GC.seq (GC.region ?_))))
 refine GL.mv rfl (by decide) ?_
 refine GL.val (v := (.bool false)) (Ex.cast (Ex.lss rfl rfl) (congrArg Value.bool (decide_eq_false (by omega)))) (by decide) ?_
 refine GL.mv rfl (by decide) ?_
 refine GL.stepG (tj := 18) rfl rfl (Ex.wp (v := (.int .i64 k)) (Ex.move rfl) (by decide)) (fun _ _ => ?_)
 refine GL.stepG (tj := 18) rfl rfl (Ex.wp (v := (.bool false)) (Ex.cast (Ex.gtr rfl rfl) (congrArg Value.bool (decide_eq_false (by omega)))) (by decide)) (fun _ _ => ?_)
 refine GL.val (v := (.bool false)) (Ex.pickF rfl rfl) (by decide) ?_
 refine GL.nil (GE.thenN ?_)
 refine GC.cond rfl (fun hq2 => by cases hq2) (fun _ => ?_)
 refine GC.skip (GE.thenN (GC.seq (GC.region ?_)))
 refine GL.mv rfl (by decide) ?_
 refine GL.val (v := (.agg #[(.int .i64 sp), (.slice none 0 0)])) (Ex.build (vs := [(0, (.int .i64 sp))]) rfl (by first | rfl | kernel_rfl)) (by decide) ?_
 refine GL.step (Stp.alloc T.zr25 (by decide)) (fun bq3 _ => ?_)
 refine GL.step (Stp.st0 (cs' := [(.int .i64 sp), (.slice none 0 0)]) rfl rfl rfl T.sz25 rfl rfl rfl) (fun _ _ => ?_)
 refine GL.nil (GE.thenN (GC.seq (GC.seq (GC.region ?_))))
 refine GL.mv rfl (by decide) ?_
 refine GL.mv rfl (by decide) ?_
 refine GL.nil (GE.thenN (GC.block ?_))
 refine GC.unroll 1 ?_
 refine GE.round (GC.seq (GC.region ?_))
 refine GL.val (v := (.bool true)) (Ex.cast (Ex.lss rfl rfl) (congrArg Value.bool (decide_eq_true (by omega)))) (by decide) ?_
 refine GL.nil (GE.thenN (GC.seq ?_))
 refine GC.cond rfl (fun _ => ?_) (fun hq4 => by cases hq4)
 refine GC.skip (GE.thenN (GC.seq (GC.block (GC.seq (GC.region ?_)))))
 refine GL.mv rfl (by decide) ?_
 refine GL.mv rfl (by decide) ?_
 refine GL.mv rfl (by decide) ?_
 refine GL.step (Stp.callR (vs := [(.int .i64 w_), (.int .i64 h), (.int .u32 s)]) rfl rfl T.own55 (by decide) (fun wc hw => new_inv w_ h s wc hs)) (fun xq5 hq6 => ?_)
 refine GL.mv rfl (by decide) ?_
 refine GL.val (Ex.extract rfl rfl) (by decide) ?_
 refine GL.val (Ex.extract rfl rfl) (by decide) ?_
 refine GL.step (Stp.alloc T.zr43 (by decide)) (fun bq7 _ => ?_)
 refine GL.step (Stp.st0 (cs' := [(.int .i64 0), (.int .i64 0), (.slice none 0 0)]) rfl rfl rfl T.sz43 rfl rfl rfl) (fun _ _ => ?_)
 refine GL.sg rfl (by decide) ?_
 refine GL.nil (GE.thenN (GC.seq (GC.seq (GC.region ?_))))
 refine GL.mv rfl (by decide) ?_
 refine GL.val (v := (.bool true)) (Ex.cast (Ex.neq rfl rfl) rfl) (by decide) ?_
 refine GL.nil (GE.thenN ?_)
 refine GC.cond rfl (fun _ => ?_) (fun hq8 => by cases hq8)
 refine GC.seq (GC.region ?_)
 refine GL.val (v := (.agg #[(.int .i64 0), (.slice none 0 0)])) (Ex.build (vs := []) rfl (by first | rfl | kernel_rfl)) (by decide) ?_
 refine GL.mv rfl (by decide) ?_
 refine GL.step (Stp.st2 (cs' := [(.int .i64 0), (.slice none 0 0)]) rfl rfl rfl T.sz25 rfl rfl rfl) (fun _ _ => ?_)
 refine GL.sg rfl (by decide) ?_
 refine GL.nil (GE.thenN (GC.ret (GE.thenR (GE.blockR (GE.thenR (GE.thenR (GE.blockR (GE.thenR ?_))))))))
 refine GC.ret2 rfl (Rv.cellA rfl T.ag25 T.sz25 (L := _) (i := 2) rfl (vs := [(.int .i64 0), (.slice none 0 0)]) rfl rfl) (Rv.tmp rfl) (fun wN HN => ?_)
 exact HN.ret () trivial rfl (List.nil_sublist _) rfl

theorem newp_u (sp k w_ h s : Int) (w : World) : Calls Try.prog 17 #[.int .i64 sp, .int .i64 k, .int .i64 w_, .int .i64 h, .int .u32 s] w (Ret w (fun r : Ac => r.Ok ∧ (∀ q ∈ r.qs, q.Ok) ∧ r.ds = newD sp k w_ h s) (fun r => .tuple #[(.agg #[(.int .i64 ((picS (newE sp k w_ h) sp))), (.slice r.ad r.n r.cp)]), .int .i64 (newE sp k w_ h)]) (fun r => r.blks 43 28)) := by
 by_cases hk : 1 ≤ k ∧ k ≤ 4
 ·by_cases hs : sizeB w_ h = true
  ·have h1 := hs
   simp [sizeB] at h1
   obtain ⟨W, rfl⟩ := Int.eq_ofNat_of_zero_le (show 0 ≤ w_ by omega)
   obtain ⟨H, rfl⟩ := Int.eq_ofNat_of_zero_le (show 0 ≤ h by omega)
   obtain ⟨K, rfl⟩ := Int.eq_ofNat_of_zero_le (show 0 ≤ k by omega)
   exact newp sp s K W H w (by omega) (okP_of hs)
  ·have hs' : sizeB w_ h = false := by cases e : sizeB w_ h with | true => exact absurd e hs | false => rfl
   have hE : newE sp k w_ h = 50 := by unfold newE; rw [if_neg (by omega), if_pos hs']
   refine (newp_s sp k w_ h s w hk hs').mono fun e w' hr => Ret.to (fun _ => Ac.no) hr (fun _ _ => ⟨Or.inl rfl, fun q hq => (by cases hq), by rw [newD_bad (by rw [hE]; decide)]; rfl⟩) (fun _ _ => by rw [hE]; rfl) (fun _ _ => rfl)
 ·have hE : newE sp k w_ h = 80 := by unfold newE; rw [if_pos (by omega)]
  refine (newp_k sp k w_ h s w (by omega)).mono fun e w' hr => Ret.to (fun _ => Ac.no) hr (fun _ _ => ⟨Or.inl rfl, fun q hq => (by cases hq), by rw [newD_bad (by rw [hE]; decide)]; rfl⟩) (fun _ _ => by rw [hE]; rfl) (fun _ _ => rfl)

theorem words_b (b1 o1 b2 o2 n c1 c2 : Nat) (xs : List Int) (w : World) (hx : xs.length = n) (hb : n ≤ 35184372087808) (hr1 : Rd w b1 o1 (xs.map u32)) (hr2 : Rd w b2 o2 (xs.map u32)) :
  Calls Try.prog 64 #[(.slice (some ⟨b1, o1, none⟩) n c1), (.slice (some ⟨b2, o2, none⟩) n c2)] w (Ret w (fun _ : Unit => True) (fun _ => .bool true) (fun _ => [])) := by
 refine enter (M := None) (L := []) (n := 26) (l := [(0, (.slice (some ⟨b1, o1, none⟩) n c1)), (1, (.slice (some ⟨b2, o2, none⟩) n c2))]) Try.func64 rfl rfl (Args.cons rfl (Args.cons rfl (Args.nil _))) (Hp.start _ _) ?_
 refine GC.seq (GC.region ?_)
 refine GL.sg rfl (by decide) ?_
 refine GL.nil (GE.thenN (GC.seq (GC.seq (GC.region ?_))))
 refine GL.mv rfl (by decide) ?_
 refine GL.val (v := (.int .i64 ((n : Int)))) (Ex.len rfl Try.underlying41) (by decide) ?_
 refine GL.mv rfl (by decide) ?_
 refine GL.val (v := (.int .i64 ((n : Int)))) (Ex.len rfl Try.underlying41) (by decide) ?_
 refine GL.val (v := (.bool false)) (Ex.cast (Ex.neq rfl rfl) (congrArg Value.bool (decide_eq_false (by simp)))) (by decide) ?_
 refine GL.nil (GE.thenN ?_)
 refine GC.cond rfl (fun hq1 => by cases hq1) (fun _ => ?_)
 refine GC.skip (GE.thenN (GC.seq (GC.seq (GC.region ?_))))
 refine GL.sg rfl (by decide) ?_
 refine GL.nil (GE.thenN (GC.block ?_))
 refine GC.loop (σ := Nat) (fun i => i ≤ n) (fun i => [(0, (.slice (some ⟨b1, o1, none⟩) n c1)), (1, (.slice (some ⟨b2, o2, none⟩) n c2)), (4, (.bool false)), (5, (.int .i64 (((i : Nat) : Int))))]) (fun i => []) (fun i => n - i) (0) (Nat.zero_le _) ((sub_cons rfl ((sub_cons rfl ((sub_cons rfl ((sub_cons rfl ((sub_nil _)))))))))) ulN (fun i hp => ?_)
 refine GC.seq (GC.seq (GC.region ?_))
 refine GL.mv rfl (by decide) ?_
 refine GL.mv rfl (by decide) ?_
 refine GL.val (v := (.int .i64 ((n : Int)))) (Ex.len rfl Try.underlying41) (by decide) ?_
 refine GL.val (v := (.bool (decide ((((i : Nat) : Int)) < ((n : Int)))))) (Ex.lss rfl rfl) (by decide) ?_
 refine GL.nil (GE.thenN ?_)
 refine GC.cond rfl (fun hq2 => ?_) (fun hq2 => ?_)
 ·replace hq2 := of_decide_eq_true hq2
  refine GC.skip (GE.thenN (GC.seq (GC.block (GC.seq ?_))))
  refine GC.draw [] T.mixed (fuel := 9) rfl rfl ?_
  refine GH.tk 0 (v := (.slice (some ⟨b1, o1, none⟩) n c1)) rfl (by kernel_rfl) (fun _ _ _ h => h) (Ex.move rfl) ulN (by decide) ?_
  refine GH.tk 1 (v := (.int .i64 (((i : Nat) : Int)))) rfl (by kernel_rfl) (fun _ _ _ h => h) (Ex.move rfl) ulN (by decide) ?_
  refine GH.tk 2 (v := (.pointer (some ⟨b1, o1 + i, none⟩))) rfl (by kernel_rfl) (fun _ _ _ h => h) (Ex.cast (Ex.indexAddr rfl rfl Try.underlying41 T.sz28 (by omega) (by omega)) (by simp)) ulN (by decide) ?_
  refine GH.tk 3 (v := (.int .u32 ((xs.getD i 0)))) rfl (by kernel_rfl) (fun _ _ _ h => h) (Ex.loadO rfl T.ag28 (Rd.at hr1 (by omega)) (fun x => x)) ulN (by decide) ?_
  refine GH.tk 4 (v := (.slice (some ⟨b2, o2, none⟩) n c2)) rfl (by kernel_rfl) (fun _ _ _ h => h) (Ex.move rfl) ulN (by decide) ?_
  refine GH.tk 5 (v := (.int .i64 (((i : Nat) : Int)))) rfl (by kernel_rfl) (fun _ _ _ h => h) (Ex.move rfl) ulN (by decide) ?_
  refine GH.tk 6 (v := (.pointer (some ⟨b2, o2 + i, none⟩))) rfl (by kernel_rfl) (fun _ _ _ h => h) (Ex.cast (Ex.indexAddr rfl rfl Try.underlying41 T.sz28 (by omega) (by omega)) (by simp)) ulN (by decide) ?_
  refine GH.tk 7 (v := (.int .u32 ((xs.getD i 0)))) rfl (by kernel_rfl) (fun _ _ _ h => h) (Ex.loadO rfl T.ag28 (Rd.at hr2 (by omega)) (fun x => x)) ulN (by decide) ?_
  refine GH.tk 8 (v := (.bool false)) rfl (by kernel_rfl) (fun _ _ _ h => h) (Ex.cast (Ex.neq rfl rfl) (congrArg Value.bool (decide_eq_false (by simp)))) ulN (by decide) ?_
  refine GH.done (by kernel_rfl) ?_
  refine GE.thenN ?_
  refine GC.cond rfl (fun hq3 => by cases hq3) (fun _ => ?_)
  refine GC.skip (GE.blockN (GE.thenN (GC.region ?_)))
  refine GL.mv rfl (by decide) ?_
  refine GL.val (v := (.int .i64 (((i + 1 : Nat) : Int)))) (Ex.add rfl rfl (Z := ((i + 1 : Nat) : Int)) (by rw [w64 (by omega)]; rfl)) (by decide) ?_
  refine GL.sg rfl (by decide) ?_
  refine GL.nil (GE.thenN ?_)
  exact Head.mk (i + 1) (by omega) (by omega) ((sub_cons rfl ((sub_cons rfl ((sub_cons rfl ((sub_cons rfl ((sub_nil _)))))))))) ulN
 ·replace hq2 := of_decide_eq_false hq2
  refine GC.exit (GE.thenE (GE.thenE (GE.blockE (GE.thenN (GC.seq (GC.region ?_))))))
  refine GL.sg rfl (by decide) ?_
  refine GL.nil (GE.thenN (GC.ret ?_))
  refine GC.ret1 rfl (Rv.tmp rfl) (fun wN HN => ?_)
  exact HN.ret () trivial rfl (List.nil_sublist _) rfl

theorem words_0 (ad1 ad2 : Option Addr) (c1 c2 : Nat) (w : World) :
  Calls Try.prog 64 #[(.slice ad1 0 c1), (.slice ad2 0 c2)] w (Ret w (fun _ : Unit => True) (fun _ => .bool true) (fun _ => [])) := by
 refine enter (M := None) (L := []) (n := 26) (l := [(0, (.slice ad1 0 c1)), (1, (.slice ad2 0 c2))]) Try.func64 rfl rfl (Args.cons rfl (Args.cons rfl (Args.nil _))) (Hp.start _ _) ?_
 refine GC.seq (GC.region ?_)
 refine GL.sg rfl (by decide) ?_
 refine GL.nil (GE.thenN (GC.seq (GC.seq (GC.region ?_))))
 refine GL.mv rfl (by decide) ?_
 refine GL.val (v := (.int .i64 0)) (Ex.len rfl Try.underlying41) (by decide) ?_
 refine GL.mv rfl (by decide) ?_
 refine GL.val (v := (.int .i64 0)) (Ex.len rfl Try.underlying41) (by decide) ?_
 refine GL.val (v := (.bool false)) (Ex.cast (Ex.neq rfl rfl) rfl) (by decide) ?_
 refine GL.nil (GE.thenN ?_)
 refine GC.cond rfl (fun hq1 => by cases hq1) (fun _ => ?_)
 refine GC.skip (GE.thenN (GC.seq (GC.seq (GC.region ?_))))
 refine GL.sg rfl (by decide) ?_
 refine GL.nil (GE.thenN (GC.block ?_))
 refine GC.unroll 1 ?_
 refine GE.round (GC.seq (GC.seq (GC.region ?_)))
 refine GL.mv rfl (by decide) ?_
 refine GL.mv rfl (by decide) ?_
 refine GL.val (v := (.int .i64 0)) (Ex.len rfl Try.underlying41) (by decide) ?_
 refine GL.val (v := (.bool false)) (Ex.cast (Ex.lss rfl rfl) rfl) (by decide) ?_
 refine GL.nil (GE.thenN ?_)
 refine GC.cond rfl (fun hq2 => by cases hq2) (fun _ => ?_)
 refine GC.exit (GE.thenE (GE.thenE (GE.blockE (GE.thenN (GC.seq (GC.region ?_))))))
 refine GL.sg rfl (by decide) ?_
 refine GL.nil (GE.thenN (GC.ret ?_))
 refine GC.ret1 rfl (Rv.tmp rfl) (fun wN HN => ?_)
 exact HN.ret () trivial rfl (List.nil_sublist _) rfl

theorem words (ad1 ad2 : Option Addr) (n c1 c2 : Nat) (xs : List Int) (w : World) (h1 : LsR w ad1 n xs) (h2 : LsR w ad2 n xs) (hb : n ≤ 35184372087808) : Calls Try.prog 64 #[.slice ad1 n c1, .slice ad2 n c2] w (Ret w (fun _ : Unit => True) (fun _ => .bool true) (fun _ => [])) := by
 by_cases h0 : n = 0
 ·subst h0; exact words_0 ad1 ad2 c1 c2 w
 ·obtain ⟨b1, o1, rfl, hr1⟩ := h1.2.resolve_left h0
  obtain ⟨b2, o2, rfl, hr2⟩ := h2.2.resolve_left h0
  exact words_b b1 o1 b2 o2 n c1 c2 xs w h1.1 hb hr1 hr2

theorem plane_eq (W H : Int) (ad1 ad2 : Option Addr) (n c1 c2 : Nat) (xs : List Int) (w : World) (h1 : LsR w ad1 n xs) (h2 : LsR w ad2 n xs) (hb : n ≤ 35184372087808) :
  Calls Try.prog 26 #[(.agg #[(.int .i64 W), (.int .i64 H), (.slice ad1 n c1)]), (.agg #[(.int .i64 W), (.int .i64 H), (.slice ad2 n c2)])] w (Ret w (fun _ : Unit => True) (fun _ => .bool true) (fun _ => [])) := by
 refine enter (M := None) (L := []) (n := 24) (l := [(0, (.agg #[(.int .i64 W), (.int .i64 H), (.slice ad1 n c1)])), (1, (.agg #[(.int .i64 W), (.int .i64 H), (.slice ad2 n c2)]))]) Try.func26 rfl rfl (Args.cons rfl (Args.cons rfl (Args.nil _))) (Hp.start _ _) ?_
 refine GC.seq (GC.region ?_)
 refine GL.step (Stp.box (cs := [(.int .i64 W), (.int .i64 H), (.slice ad1 n c1)]) rfl rfl (by decide)) (fun bq1 _ => ?_)
 refine GL.step (Stp.box (cs := [(.int .i64 W), (.int .i64 H), (.slice ad2 n c2)]) rfl rfl (by decide)) (fun bq2 _ => ?_)
 refine GL.sg rfl (by decide) ?_
 refine GL.nil (GE.thenN (GC.seq (GC.region ?_)))
 refine GL.val (v := (.pointer (some ⟨bq1, 0, none⟩))) (Ex.cast (Ex.fieldAddr rfl Try.underlying43 rfl T.sz3 (by decide)) rfl) (by decide) ?_
 refine GL.val (Ex.load rfl T.ag3 (i := 1) rfl rfl) (by decide) ?_
 refine GL.val (v := (.pointer (some ⟨bq2, 0, none⟩))) (Ex.cast (Ex.fieldAddr rfl Try.underlying43 rfl T.sz3 (by decide)) rfl) (by decide) ?_
 refine GL.val (Ex.load rfl T.ag3 (i := 0) rfl rfl) (by decide) ?_
 refine GL.val (v := (.bool true)) (Ex.cast (Ex.eql rfl rfl) (congrArg Value.bool (decide_eq_true (by simp)))) (by decide) ?_
 refine GL.mv rfl (by decide) ?_
 refine GL.stepG (tj := 10) rfl rfl (Ex.wp (v := (.pointer (some ⟨bq1, 1, none⟩))) (Ex.cast (Ex.fieldAddr rfl Try.underlying43 rfl T.sz3 (by decide)) rfl) (by decide)) (fun _ _ => ?_)
 refine GL.stepG (tj := 10) rfl rfl (Ex.wp (v := (.int .i64 H)) (Ex.load rfl T.ag3 (i := 1) rfl rfl) (by decide)) (fun _ _ => ?_)
 refine GL.stepG (tj := 10) rfl rfl (Ex.wp (v := (.pointer (some ⟨bq2, 1, none⟩))) (Ex.cast (Ex.fieldAddr rfl Try.underlying43 rfl T.sz3 (by decide)) rfl) (by decide)) (fun _ _ => ?_)
 refine GL.stepG (tj := 10) rfl rfl (Ex.wp (v := (.int .i64 H)) (Ex.load rfl T.ag3 (i := 0) rfl rfl) (by decide)) (fun _ _ => ?_)
 refine GL.stepG (tj := 10) rfl rfl (Ex.wp (v := (.bool true)) (Ex.cast (Ex.eql rfl rfl) (congrArg Value.bool (decide_eq_true (by simp)))) (by decide)) (fun _ _ => ?_)
 refine GL.val (v := (.bool true)) (Ex.pickT rfl rfl) (by decide) ?_
 refine GL.mv rfl (by decide) ?_
 refine GL.stepG (tj := 17) rfl rfl (Ex.wp (v := (.pointer (some ⟨bq1, 2, none⟩))) (Ex.cast (Ex.fieldAddr rfl Try.underlying43 rfl T.sz41 (by decide)) rfl) (by decide)) (fun _ _ => ?_)
 refine GL.stepG (tj := 17) rfl rfl (Ex.wp (v := (.slice ad1 n c1)) (Ex.load rfl T.ag41 (i := 1) rfl rfl) (by decide)) (fun _ _ => ?_)
 refine GL.stepG (tj := 17) rfl rfl (Ex.wp (v := (.pointer (some ⟨bq2, 2, none⟩))) (Ex.cast (Ex.fieldAddr rfl Try.underlying43 rfl T.sz41 (by decide)) rfl) (by decide)) (fun _ _ => ?_)
 refine GL.stepG (tj := 17) rfl rfl (Ex.wp (v := (.slice ad2 n c2)) (Ex.load rfl T.ag41 (i := 0) rfl rfl) (by decide)) (fun _ _ => ?_)
 refine GL.stepG (tj := 17) rfl rfl (Stp.callR (vs := [(.slice ad1 n c1), (.slice ad2 n c2)]) rfl rfl T.own64 (by decide) (fun wc hw => words ad1 ad2 n c1 c2 xs wc (h1.later hw.1) (h2.later hw.1) hb)) (fun xq3 hq4 => ?_)
 refine GL.val (v := (.bool true)) (Ex.pickT rfl rfl) (by decide) ?_
 refine GL.sg rfl (by decide) ?_
 refine GL.nil (GE.thenN (GC.ret ?_))
 refine GC.ret1 rfl (Rv.tmp rfl) (fun wN HN => ?_)
 exact HN.ret () trivial rfl (List.nil_sublist _) rfl

theorem plane_eq_p (p q : Pn) (w : World) (hd : p.d = q.d) (h1 : LsR w p.ad p.n p.xs) (h2 : LsR w q.ad q.n q.xs) (hb : p.n ≤ 35184372087808) : Calls Try.prog 26 #[(.agg #[(.int .i64 ((p).W)), (.int .i64 ((p).H)), (.slice (p).ad ((p).n) ((p).cap))]), (.agg #[(.int .i64 ((q).W)), (.int .i64 ((q).H)), (.slice (q).ad ((q).n) ((q).cap))])] w (Ret w (fun _ : Unit => True) (fun _ => .bool true) (fun _ => [])) := by
 obtain ⟨W, H, ad1, n1, c1, xs⟩ := p
 obtain ⟨W2, H2, ad2, n2, c2, ys⟩ := q
 unfold Pn.d at hd
 simp only [Prod.mk.injEq] at hd
 obtain ⟨rfl, rfl, rfl⟩ := hd
 have e : n1 = n2 := h1.1.symm.trans h2.1
 subst e
 exact plane_eq W H ad1 ad2 n1 c1 c2 xs w h1 h2 hb

theorem pic_eq_b (sp : Int) (b1 o1 b2 o2 n c1 c2 : Nat) (ps qs : List Pn) (w : World) (hn : n = ps.length) (hn2 : n = qs.length) (hnb : n ≤ 35184372087808) (hd : ps.map Pn.d = qs.map Pn.d) (hr1 : Rd w b1 o1 (pcs ps)) (hr2 : Rd w b2 o2 (pcs qs)) (h1 : ∀ p ∈ ps, LsR w p.ad p.n p.xs ∧ p.n ≤ 35184372087808) (h2 : ∀ p ∈ qs, LsR w p.ad p.n p.xs ∧ p.n ≤ 35184372087808) :
  Calls Try.prog 19 #[(.agg #[(.int .i64 sp), (.slice (some ⟨b1, o1, none⟩) n c1)]), (.agg #[(.int .i64 sp), (.slice (some ⟨b2, o2, none⟩) n c2)])] w (Ret w (fun _ : Unit => True) (fun _ => .bool true) (fun _ => [])) := by
 refine enter (M := None) (L := []) (n := 39) (l := [(0, (.agg #[(.int .i64 sp), (.slice (some ⟨b1, o1, none⟩) n c1)])), (1, (.agg #[(.int .i64 sp), (.slice (some ⟨b2, o2, none⟩) n c2)]))]) Try.func19 rfl rfl (Args.cons rfl (Args.cons rfl (Args.nil _))) (Hp.start _ _) ?_
 refine GC.seq (GC.region ?_)
 refine GL.step (Stp.box (cs := [(.int .i64 sp), (.slice (some ⟨b1, o1, none⟩) n c1)]) rfl rfl (by decide)) (fun bq1 _ => ?_)
 refine GL.step (Stp.box (cs := [(.int .i64 sp), (.slice (some ⟨b2, o2, none⟩) n c2)]) rfl rfl (by decide)) (fun bq2 _ => ?_)
 refine GL.sg rfl (by decide) ?_
 refine GL.nil (GE.thenN (GC.seq (GC.seq (GC.region ?_))))
 refine GL.val (v := (.pointer (some ⟨bq1, 0, none⟩))) (Ex.cast (Ex.fieldAddr rfl Try.underlying25 rfl T.sz3 (by decide)) rfl) (by decide) ?_
 refine GL.val (Ex.load rfl T.ag3 (i := 1) rfl rfl) (by decide) ?_
 refine GL.val (v := (.pointer (some ⟨bq2, 0, none⟩))) (Ex.cast (Ex.fieldAddr rfl Try.underlying25 rfl T.sz3 (by decide)) rfl) (by decide) ?_
 refine GL.val (Ex.load rfl T.ag3 (i := 0) rfl rfl) (by decide) ?_
 refine GL.val (v := (.bool false)) (Ex.cast (Ex.neq rfl rfl) (congrArg Value.bool (decide_eq_false (by simp)))) (by decide) ?_
 refine GL.mv rfl (by decide) ?_
 refine GL.stepG (tj := 11) rfl rfl (Ex.wp (v := (.pointer (some ⟨bq1, 1, none⟩))) (Ex.cast (Ex.fieldAddr rfl Try.underlying25 rfl T.sz23 (by decide)) rfl) (by decide)) (fun _ _ => ?_)
 refine GL.stepG (tj := 11) rfl rfl (Ex.wp (v := (.slice (some ⟨b1, o1, none⟩) n c1)) (Ex.load rfl T.ag23 (i := 1) rfl rfl) (by decide)) (fun _ _ => ?_)
 refine GL.stepG (tj := 11) rfl rfl (Ex.wp (v := (.int .i64 ((n : Int)))) (Ex.len rfl Try.underlying23) (by decide)) (fun _ _ => ?_)
 refine GL.stepG (tj := 11) rfl rfl (Ex.wp (v := (.pointer (some ⟨bq2, 1, none⟩))) (Ex.cast (Ex.fieldAddr rfl Try.underlying25 rfl T.sz23 (by decide)) rfl) (by decide)) (fun _ _ => ?_)
 refine GL.stepG (tj := 11) rfl rfl (Ex.wp (v := (.slice (some ⟨b2, o2, none⟩) n c2)) (Ex.load rfl T.ag23 (i := 0) rfl rfl) (by decide)) (fun _ _ => ?_)
 refine GL.stepG (tj := 11) rfl rfl (Ex.wp (v := (.int .i64 ((n : Int)))) (Ex.len rfl Try.underlying23) (by decide)) (fun _ _ => ?_)
 refine GL.stepG (tj := 11) rfl rfl (Ex.wp (v := (.bool false)) (Ex.cast (Ex.neq rfl rfl) (congrArg Value.bool (decide_eq_false (by simp)))) (by decide)) (fun _ _ => ?_)
 refine GL.val (v := (.bool false)) (Ex.pickF rfl rfl) (by decide) ?_
 refine GL.nil (GE.thenN ?_)
 refine GC.cond rfl (fun hq3 => by cases hq3) (fun _ => ?_)
 refine GC.skip (GE.thenN (GC.seq (GC.seq (GC.region ?_))))
 refine GL.sg rfl (by decide) ?_
 refine GL.nil (GE.thenN (GC.block ?_))
 refine GC.loop (σ := Nat) (fun i => i ≤ n) (fun i => [(2, (.pointer (some ⟨bq1, 0, none⟩))), (3, (.pointer (some ⟨bq2, 0, none⟩))), (4, (.bool false)), (5, (.int .i64 (((i : Nat) : Int))))]) (fun i => [⟨bq2, [(.int .i64 sp), (.slice (some ⟨b2, o2, none⟩) n c2)], 25, true⟩, ⟨bq1, [(.int .i64 sp), (.slice (some ⟨b1, o1, none⟩) n c1)], 25, true⟩]) (fun i => n - i) (0) (Nat.zero_le _) ((sub_cons rfl ((sub_cons rfl ((sub_cons rfl ((sub_cons rfl ((sub_nil _)))))))))) (ulC (ulC ulN)) (fun i hp => ?_)
 refine GC.seq (GC.seq (GC.region ?_))
 refine GL.mv rfl (by decide) ?_
 refine GL.val (v := (.pointer (some ⟨bq1, 1, none⟩))) (Ex.cast (Ex.fieldAddr rfl Try.underlying25 rfl T.sz23 (by decide)) rfl) (by decide) ?_
 refine GL.val (Ex.load rfl T.ag23 (i := 1) rfl rfl) (by decide) ?_
 refine GL.val (v := (.int .i64 ((n : Int)))) (Ex.len rfl Try.underlying23) (by decide) ?_
 refine GL.val (v := (.bool (decide ((((i : Nat) : Int)) < ((n : Int)))))) (Ex.lss rfl rfl) (by decide) ?_
 refine GL.nil (GE.thenN ?_)
 refine GC.cond rfl (fun hq4 => ?_) (fun hq4 => ?_)
 ·replace hq4 := of_decide_eq_true hq4
  refine GC.skip (GE.thenN (GC.seq (GC.block (GC.seq ?_))))
  refine GC.draw [⟨bq2, [(.int .i64 sp), (.slice (some ⟨b2, o2, none⟩) n c2)], 25, true⟩, ⟨bq1, [(.int .i64 sp), (.slice (some ⟨b1, o1, none⟩) n c1)], 25, true⟩] T.mixed (fuel := 12) rfl rfl ?_
  refine GH.tk 0 (v := (.pointer (some ⟨bq1, 1, none⟩))) rfl (by kernel_rfl) (fun _ _ _ h => h) (Ex.cast (Ex.fieldAddr rfl Try.underlying25 rfl T.sz23 (by decide)) rfl) (ulC (ulC ulN)) (by decide) ?_
  refine GH.tk 1 (v := (.slice (some ⟨b1, o1, none⟩) n c1)) rfl (by kernel_rfl) (fun _ _ _ h => h) (Ex.load rfl T.ag23 (i := 1) rfl rfl) (ulC (ulC ulN)) (by decide) ?_
  refine GH.tk 2 (v := (.int .i64 (((i : Nat) : Int)))) rfl (by kernel_rfl) (fun _ _ _ h => h) (Ex.move rfl) (ulC (ulC ulN)) (by decide) ?_
  refine GH.tk 3 (v := (.pointer (some ⟨b1, o1 + i * 3, none⟩))) rfl (by kernel_rfl) (fun _ _ _ h => h) (Ex.cast (Ex.indexAddr rfl rfl Try.underlying23 T.sz43 (by omega) (by omega)) (by simp)) (ulC (ulC ulN)) (by decide) ?_
  refine GH.tk 4 (v := (.agg #[(.int .i64 ((pAt ps i).W)), (.int .i64 ((pAt ps i).H)), (.slice (pAt ps i).ad ((pAt ps i).n) ((pAt ps i).cap))])) rfl (by kernel_rfl) (fun _ _ _ h => h) (Ex.loadAO rfl T.ag43 T.sz43 (Rd.pl (i := i) hr1 (by omega)) (fun x => x) rfl) (ulC (ulC ulN)) (by decide) ?_
  refine GH.tk 5 (v := (.pointer (some ⟨bq2, 1, none⟩))) rfl (by kernel_rfl) (fun _ _ _ h => h) (Ex.cast (Ex.fieldAddr rfl Try.underlying25 rfl T.sz23 (by decide)) rfl) (ulC (ulC ulN)) (by decide) ?_
  refine GH.tk 6 (v := (.slice (some ⟨b2, o2, none⟩) n c2)) rfl (by kernel_rfl) (fun _ _ _ h => h) (Ex.load rfl T.ag23 (i := 0) rfl rfl) (ulC (ulC ulN)) (by decide) ?_
  refine GH.tk 7 (v := (.int .i64 (((i : Nat) : Int)))) rfl (by kernel_rfl) (fun _ _ _ h => h) (Ex.move rfl) (ulC (ulC ulN)) (by decide) ?_
  refine GH.tk 8 (v := (.pointer (some ⟨b2, o2 + i * 3, none⟩))) rfl (by kernel_rfl) (fun _ _ _ h => h) (Ex.cast (Ex.indexAddr rfl rfl Try.underlying23 T.sz43 (by omega) (by omega)) (by simp)) (ulC (ulC ulN)) (by decide) ?_
  refine GH.tk 9 (v := (.agg #[(.int .i64 ((pAt qs i).W)), (.int .i64 ((pAt qs i).H)), (.slice (pAt qs i).ad ((pAt qs i).n) ((pAt qs i).cap))])) rfl (by kernel_rfl) (fun _ _ _ h => h) (Ex.loadAO rfl T.ag43 T.sz43 (Rd.pl (i := i) hr2 (by omega)) (fun x => x) rfl) (ulC (ulC ulN)) (by decide) ?_
  refine GH.one 10 rfl (by kernel_rfl) (Stp.callR (vs := [(.agg #[(.int .i64 ((pAt ps i).W)), (.int .i64 ((pAt ps i).H)), (.slice (pAt ps i).ad ((pAt ps i).n) ((pAt ps i).cap))]), (.agg #[(.int .i64 ((pAt qs i).W)), (.int .i64 ((pAt qs i).H)), (.slice (pAt qs i).ad ((pAt qs i).n) ((pAt qs i).cap))])]) rfl rfl T.own26 (by decide) (fun wc hw => plane_eq_p (pAt ps i) (pAt qs i) wc (pAt_d hd (by omega)) ((h1 _ (pAt_mem (by omega))).1.later hw.1) ((h2 _ (pAt_mem (by omega))).1.later hw.1) (h1 _ (pAt_mem (by omega))).2)) (fun _ => (ulC (ulC ulN))) (fun xq5 hq6 => ?_)
  refine GH.tk 11 (v := (.bool false)) rfl (by kernel_rfl) (fun _ _ _ h => h) (Ex.cast (Ex.not rfl) rfl) (ulC (ulC ulN)) (by decide) ?_
  refine GH.done (by kernel_rfl) ?_
  refine GE.thenN ?_
  refine GC.cond rfl (fun hq7 => by cases hq7) (fun _ => ?_)
  refine GC.skip (GE.blockN (GE.thenN (GC.region ?_)))
  refine GL.mv rfl (by decide) ?_
  refine GL.val (v := (.int .i64 (((i + 1 : Nat) : Int)))) (Ex.add rfl rfl (Z := ((i + 1 : Nat) : Int)) (by rw [w64 (by omega)]; rfl)) (by decide) ?_
  refine GL.sg rfl (by decide) ?_
  refine GL.nil (GE.thenN ?_)
  exact Head.mk (i + 1) (by omega) (by omega) ((sub_cons rfl ((sub_cons rfl ((sub_cons rfl ((sub_cons rfl ((sub_nil _)))))))))) (ulC (ulC ulN))
 ·replace hq4 := of_decide_eq_false hq4
  refine GC.exit (GE.thenE (GE.thenE (GE.blockE (GE.thenN (GC.seq (GC.region ?_))))))
  refine GL.sg rfl (by decide) ?_
  refine GL.nil (GE.thenN (GC.ret ?_))
  refine GC.ret1 rfl (Rv.tmp rfl) (fun wN HN => ?_)
  exact HN.ret () trivial rfl (List.nil_sublist _) rfl

theorem pic_eq_0 (sp : Int) (ad1 ad2 : Option Addr) (c1 c2 : Nat) (w : World) :
  Calls Try.prog 19 #[(.agg #[(.int .i64 sp), (.slice ad1 0 c1)]), (.agg #[(.int .i64 sp), (.slice ad2 0 c2)])] w (Ret w (fun _ : Unit => True) (fun _ => .bool true) (fun _ => [])) := by
 refine enter (M := None) (L := []) (n := 39) (l := [(0, (.agg #[(.int .i64 sp), (.slice ad1 0 c1)])), (1, (.agg #[(.int .i64 sp), (.slice ad2 0 c2)]))]) Try.func19 rfl rfl (Args.cons rfl (Args.cons rfl (Args.nil _))) (Hp.start _ _) ?_
 refine GC.seq (GC.region ?_)
 refine GL.step (Stp.box (cs := [(.int .i64 sp), (.slice ad1 0 c1)]) rfl rfl (by decide)) (fun bq1 _ => ?_)
 refine GL.step (Stp.box (cs := [(.int .i64 sp), (.slice ad2 0 c2)]) rfl rfl (by decide)) (fun bq2 _ => ?_)
 refine GL.sg rfl (by decide) ?_
 refine GL.nil (GE.thenN (GC.seq (GC.seq (GC.region ?_))))
 refine GL.val (v := (.pointer (some ⟨bq1, 0, none⟩))) (Ex.cast (Ex.fieldAddr rfl Try.underlying25 rfl T.sz3 (by decide)) rfl) (by decide) ?_
 refine GL.val (Ex.load rfl T.ag3 (i := 1) rfl rfl) (by decide) ?_
 refine GL.val (v := (.pointer (some ⟨bq2, 0, none⟩))) (Ex.cast (Ex.fieldAddr rfl Try.underlying25 rfl T.sz3 (by decide)) rfl) (by decide) ?_
 refine GL.val (Ex.load rfl T.ag3 (i := 0) rfl rfl) (by decide) ?_
 refine GL.val (v := (.bool false)) (Ex.cast (Ex.neq rfl rfl) (congrArg Value.bool (decide_eq_false (by simp)))) (by decide) ?_
 refine GL.mv rfl (by decide) ?_
 refine GL.stepG (tj := 11) rfl rfl (Ex.wp (v := (.pointer (some ⟨bq1, 1, none⟩))) (Ex.cast (Ex.fieldAddr rfl Try.underlying25 rfl T.sz23 (by decide)) rfl) (by decide)) (fun _ _ => ?_)
 refine GL.stepG (tj := 11) rfl rfl (Ex.wp (v := (.slice ad1 0 c1)) (Ex.load rfl T.ag23 (i := 1) rfl rfl) (by decide)) (fun _ _ => ?_)
 refine GL.stepG (tj := 11) rfl rfl (Ex.wp (v := (.int .i64 0)) (Ex.len rfl Try.underlying23) (by decide)) (fun _ _ => ?_)
 refine GL.stepG (tj := 11) rfl rfl (Ex.wp (v := (.pointer (some ⟨bq2, 1, none⟩))) (Ex.cast (Ex.fieldAddr rfl Try.underlying25 rfl T.sz23 (by decide)) rfl) (by decide)) (fun _ _ => ?_)
 refine GL.stepG (tj := 11) rfl rfl (Ex.wp (v := (.slice ad2 0 c2)) (Ex.load rfl T.ag23 (i := 0) rfl rfl) (by decide)) (fun _ _ => ?_)
 refine GL.stepG (tj := 11) rfl rfl (Ex.wp (v := (.int .i64 0)) (Ex.len rfl Try.underlying23) (by decide)) (fun _ _ => ?_)
 refine GL.stepG (tj := 11) rfl rfl (Ex.wp (v := (.bool false)) (Ex.cast (Ex.neq rfl rfl) rfl) (by decide)) (fun _ _ => ?_)
 refine GL.val (v := (.bool false)) (Ex.pickF rfl rfl) (by decide) ?_
 refine GL.nil (GE.thenN ?_)
 refine GC.cond rfl (fun hq3 => by cases hq3) (fun _ => ?_)
 refine GC.skip (GE.thenN (GC.seq (GC.seq (GC.region ?_))))
 refine GL.sg rfl (by decide) ?_
 refine GL.nil (GE.thenN (GC.block ?_))
 refine GC.unroll 1 ?_
 refine GE.round (GC.seq (GC.seq (GC.region ?_)))
 refine GL.mv rfl (by decide) ?_
 refine GL.val (v := (.pointer (some ⟨bq1, 1, none⟩))) (Ex.cast (Ex.fieldAddr rfl Try.underlying25 rfl T.sz23 (by decide)) rfl) (by decide) ?_
 refine GL.val (Ex.load rfl T.ag23 (i := 1) rfl rfl) (by decide) ?_
 refine GL.val (v := (.int .i64 0)) (Ex.len rfl Try.underlying23) (by decide) ?_
 refine GL.val (v := (.bool false)) (Ex.cast (Ex.lss rfl rfl) rfl) (by decide) ?_
 refine GL.nil (GE.thenN ?_)
 refine GC.cond rfl (fun hq4 => by cases hq4) (fun _ => ?_)
 refine GC.exit (GE.thenE (GE.thenE (GE.blockE (GE.thenN (GC.seq (GC.region ?_))))))
 refine GL.sg rfl (by decide) ?_
 refine GL.nil (GE.thenN (GC.ret ?_))
 refine GC.ret1 rfl (Rv.tmp rfl) (fun wN HN => ?_)
 exact HN.ret () trivial rfl (List.nil_sublist _) rfl

theorem pic_eq (sp : Int) (ad1 ad2 : Option Addr) (n c1 c2 : Nat) (ps qs : List Pn) (w : World) (hn : n = ps.length) (hnb : n ≤ 35184372087808) (hd : ps.map Pn.d = qs.map Pn.d) (h1 : PnR w ad1 ps) (h2 : PnR w ad2 qs) : Calls Try.prog 19 #[(.agg #[(.int .i64 sp), (.slice ad1 n c1)]), (.agg #[(.int .i64 sp), (.slice ad2 n c2)])] w (Ret w (fun _ : Unit => True) (fun _ => .bool true) (fun _ => [])) := by
 have hl : ps.length = qs.length := by have := congrArg List.length hd; simpa using this
 by_cases h0 : n = 0
 ·subst h0; exact pic_eq_0 sp ad1 ad2 c1 c2 w
 ·obtain ⟨b1, o1, rfl, hr1⟩ := h1.1.resolve_left (fun e => h0 (by rw [hn, e]; rfl))
  obtain ⟨b2, o2, rfl, hr2⟩ := h2.1.resolve_left (fun e => h0 (by rw [hn, hl, e]; rfl))
  exact pic_eq_b sp b1 o1 b2 o2 n c1 c2 ps qs w hn (by omega) hnb hd hr1 hr2 h1.2 h2.2

theorem num (e : Int) (w : World) (he : 0 ≤ e ∧ e ≤ 1000) :
  Calls Try.prog 8 #[(.int .i64 e)] w (Ret w (fun _ : Unit => True) (fun _ => (.int .i64 e)) (fun _ => [])) := by
 refine enter (M := None) (L := []) (n := 4) (l := [(0, (.int .i64 e))]) Try.func8 rfl rfl (Args.cons rfl (Args.nil _)) (Hp.start _ _) ?_
 refine GC.seq (GC.region ?_)
 refine GL.sg rfl (by decide) ?_
 refine GL.nil (GE.thenN (GC.seq (GC.region ?_)))
 refine GL.mv rfl (by decide) ?_
 refine GL.sg rfl (by decide) ?_
 refine GL.nil (GE.thenN (GC.ret ?_))
 refine GC.ret1 rfl (Rv.tmp rfl) (fun wN HN => ?_)
 exact HN.ret () trivial rfl (List.nil_sublist _) rfl

theorem chplane (W H : Int) (b o n cap : Nat) (xs : List Int) (fid : FuncId) (fst caps : Array Value) (f : Int → Int) (w : World) (hx : xs.length = n) (h0 : 0 < n) (hb : n ≤ 35184372087808) (hr : Rd w b o (xs.map u32)) (hf : FnS Try.prog w fid fst caps xs f) :
  Calls Try.prog 79 #[(.agg #[(.func (.func fid) fst caps)]), (.agg #[(.int .i64 W), (.int .i64 H), (.slice (some ⟨b, o, none⟩) n cap)])] w (RetP w (W, H, xs.map f) 28) := by
 refine enter (M := None) (L := []) (n := 35) (l := [(0, (.agg #[(.func (.func fid) fst caps)])), (1, (.agg #[(.int .i64 W), (.int .i64 H), (.slice (some ⟨b, o, none⟩) n cap)]))]) Try.func79 rfl rfl (Args.cons rfl (Args.cons rfl (Args.nil _))) (Hp.start _ _) ?_
 refine GC.seq (GC.region ?_)
 refine GL.step (Stp.box (cs := [(.func (.func fid) fst caps)]) rfl rfl (by decide)) (fun bq1 _ => ?_)
 refine GL.step (Stp.box (cs := [(.int .i64 W), (.int .i64 H), (.slice (some ⟨b, o, none⟩) n cap)]) rfl rfl (by decide)) (fun bq2 _ => ?_)
 refine GL.step (Stp.alloc T.zr43 (by decide)) (fun bq3 _ => ?_)
 refine GL.nil (GE.thenN (GC.seq ?_))
 refine GC.join (σ := Nat × Nat) (fun j => True) (fun j => [(0, (.agg #[(.func (.func fid) fst caps)])), (1, (.agg #[(.int .i64 W), (.int .i64 H), (.slice (some ⟨b, o, none⟩) n cap)])), (2, (.pointer (some ⟨bq1, 0, none⟩))), (3, (.pointer (some ⟨bq2, 0, none⟩))), (4, (.pointer (some ⟨bq3, 0, none⟩))), (5, (.pointer (some ⟨j.1, 0, none⟩)))]) (fun j => [⟨j.1, [(.int .i64 W), (.int .i64 H), (.slice (some ⟨j.2, 0, none⟩) 0 n)], 43, true⟩, ⟨j.2, mpC f xs 0, 28, true⟩, ⟨bq3, [(.int .i64 0), (.int .i64 0), (.slice none 0 0)], 43, true⟩, ⟨bq2, [(.int .i64 W), (.int .i64 H), (.slice (some ⟨b, o, none⟩) n cap)], 43, true⟩, ⟨bq1, [(.func (.func fid) fst caps)], 131, true⟩]) ?_ (fun j8 hj => ?_)
 ·refine GC.drawP [⟨bq3, [(.int .i64 0), (.int .i64 0), (.slice none 0 0)], 43, true⟩, ⟨bq2, [(.int .i64 W), (.int .i64 H), (.slice (some ⟨b, o, none⟩) n cap)], 43, true⟩, ⟨bq1, [(.func (.func fid) fst caps)], 131, true⟩] T.mixed (by kernel_rfl) (by kernel_rfl) (fuel := 10) rfl rfl ?_
  refine GH.tk 0 (v := (.pointer (some ⟨bq2, 0, none⟩))) rfl (by kernel_rfl) (fun _ _ _ h => h) (Ex.cast (Ex.fieldAddr rfl Try.underlying43 rfl T.sz3 (by decide)) rfl) (ulC (ulC (ulC ulN))) (by decide) ?_
  refine GH.tk 1 (v := (.int .i64 W)) rfl (by kernel_rfl) (fun _ _ _ h => h) (Ex.load rfl T.ag3 (i := 1) rfl rfl) (ulC (ulC (ulC ulN))) (by decide) ?_
  refine GH.tk 2 (v := (.pointer (some ⟨bq2, 1, none⟩))) rfl (by kernel_rfl) (fun _ _ _ h => h) (Ex.cast (Ex.fieldAddr rfl Try.underlying43 rfl T.sz3 (by decide)) rfl) (ulC (ulC (ulC ulN))) (by decide) ?_
  refine GH.tk 3 (v := (.int .i64 H)) rfl (by kernel_rfl) (fun _ _ _ h => h) (Ex.load rfl T.ag3 (i := 1) rfl rfl) (ulC (ulC (ulC ulN))) (by decide) ?_
  refine GH.tk 4 (v := (.pointer (some ⟨bq2, 2, none⟩))) rfl (by kernel_rfl) (fun _ _ _ h => h) (Ex.cast (Ex.fieldAddr rfl Try.underlying43 rfl T.sz41 (by decide)) rfl) (ulC (ulC (ulC ulN))) (by decide) ?_
  refine GH.tk 5 (v := (.slice (some ⟨b, o, none⟩) n cap)) rfl (by kernel_rfl) (fun _ _ _ h => h) (Ex.load rfl T.ag41 (i := 1) rfl rfl) (ulC (ulC (ulC ulN))) (by decide) ?_
  refine GH.tk 6 (v := (.int .i64 ((n : Int)))) rfl (by kernel_rfl) (fun _ _ _ h => h) (Ex.len rfl Try.underlying41) (ulC (ulC (ulC ulN))) (by decide) ?_
  refine GH.many (rs := [7, 9]) (by kernel_rfl) (by simp) ?_
  refine GHs.cons rfl (Stp.makeSlice (a1 := 0) (c := n) rfl rfl Try.underlying41 T.zr28 T.sz28 T.by28 rfl (Nat.zero_le _) (by omega) (by omega) (by decide)) (fun _ => (ulS (ulC (ulC (ulC ulN))))) (fun bq9 _ => ?_) ?_
  ·rw [madeCells_one, ← hx, ← mpC_zero f xs, hx]
   refine GH.tk 8 (v := (.agg #[(.int .i64 W), (.int .i64 H), (.slice (some ⟨bq9, 0, none⟩) 0 n)])) rfl (by kernel_rfl) (fun _ _ _ h => h) (Ex.build (vs := [(0, (.int .i64 W)), (1, (.int .i64 H)), (2, (.slice (some ⟨bq9, 0, none⟩) 0 n))]) rfl (by first | rfl | kernel_rfl)) (ulS (ulC (ulC (ulC ulN)))) (by decide) ?_
   refine GH.one 9 rfl (by kernel_rfl) (Stp.alloc T.zr43 (by decide)) (fun _ => (ulS (ulS (ulC (ulC (ulC ulN)))))) (fun bq10 _ => ?_)
   refine GH.done (by kernel_rfl) ?_
   refine GE.thenN ?_
   refine GE.tail rfl (Stp.st0 (cs' := [(.int .i64 W), (.int .i64 H), (.slice (some ⟨bq9, 0, none⟩) 0 n)]) rfl rfl rfl T.sz43 rfl rfl rfl) (fun _ _ => ?_)
   refine GE.thenN ?_
   exact St.mk ((bq10, bq9)) trivial (idx := [0, 1, 2, 3, 4]) ((sub_cons rfl ((sub_cons rfl ((sub_cons rfl ((sub_cons rfl ((sub_cons rfl ((sub_cons rfl ((sub_nil _)))))))))))))) (by decide) rfl
  refine GHs.cons rfl (Stp.alloc T.zr43 (by decide)) (fun _ => (ulS (ulC (ulC (ulC ulN))))) (fun bq11 _ => ?_) ?_
  ·refine GH.one 7 rfl (by kernel_rfl) (Stp.makeSlice (a1 := 0) (c := n) rfl rfl Try.underlying41 T.zr28 T.sz28 T.by28 rfl (Nat.zero_le _) (by omega) (by omega) (by decide)) (fun _ => (ulS (ulS (ulC (ulC (ulC ulN)))))) (fun bq12 _ => ?_)
   rw [madeCells_one, ← hx, ← mpC_zero f xs, hx]
   refine GH.tk 8 (v := (.agg #[(.int .i64 W), (.int .i64 H), (.slice (some ⟨bq12, 0, none⟩) 0 n)])) rfl (by kernel_rfl) (fun _ _ _ h => h) (Ex.build (vs := [(0, (.int .i64 W)), (1, (.int .i64 H)), (2, (.slice (some ⟨bq12, 0, none⟩) 0 n))]) rfl (by first | rfl | kernel_rfl)) (ulS (ulS (ulC (ulC (ulC ulN))))) (by decide) ?_
   refine GH.done (by kernel_rfl) ?_
   refine GE.thenN ?_
   refine GE.tail rfl (Stp.st1 (cs' := [(.int .i64 W), (.int .i64 H), (.slice (some ⟨bq12, 0, none⟩) 0 n)]) rfl rfl rfl T.sz43 rfl rfl rfl) (fun _ _ => ?_)
   refine GE.thenN ?_
   exact St.mk ((bq11, bq12)) trivial (idx := [1, 0, 2, 3, 4]) ((sub_cons rfl ((sub_cons rfl ((sub_cons rfl ((sub_cons rfl ((sub_cons rfl ((sub_cons rfl ((sub_nil _)))))))))))))) (by decide) rfl
  exact GHs.nil
 refine GE.thenN (GC.seq (GC.seq (GC.region ?_)))
 refine GL.val (v := (.pointer (some ⟨bq2, 2, none⟩))) (Ex.cast (Ex.fieldAddr rfl Try.underlying43 rfl T.sz41 (by decide)) rfl) (by decide) ?_
 refine GL.val (Ex.load rfl T.ag41 (i := 3) rfl rfl) (by decide) ?_
 refine GL.val (v := (.int .i64 ((n : Int)))) (Ex.len rfl Try.underlying41) (by decide) ?_
 refine GL.mv rfl (by decide) ?_
 refine GL.nil (GE.thenN (GC.block ?_))
 refine GC.loop (σ := Nat) (fun i => i ≤ n) (fun i => [(2, (.pointer (some ⟨bq1, 0, none⟩))), (3, (.pointer (some ⟨bq2, 0, none⟩))), (4, (.pointer (some ⟨bq3, 0, none⟩))), (5, (.pointer (some ⟨j8.1, 0, none⟩))), (18, (.slice (some ⟨b, o, none⟩) n cap)), (19, (.int .i64 ((n : Int)))), (20, (.int .i64 (((i : Nat) : Int))))]) (fun i => [⟨j8.1, [(.int .i64 W), (.int .i64 H), (.slice (some ⟨j8.2, 0, none⟩) i n)], 43, true⟩, ⟨j8.2, mpC f xs i, 28, true⟩, ⟨bq3, [(.int .i64 0), (.int .i64 0), (.slice none 0 0)], 43, true⟩, ⟨bq2, [(.int .i64 W), (.int .i64 H), (.slice (some ⟨b, o, none⟩) n cap)], 43, true⟩, ⟨bq1, [(.func (.func fid) fst caps)], 131, true⟩]) (fun i => n - i) (0) (Nat.zero_le _) ((sub_cons rfl ((sub_cons rfl ((sub_cons rfl ((sub_cons rfl ((sub_cons rfl ((sub_cons rfl ((sub_cons rfl ((sub_nil _)))))))))))))))) (ulC (ulC (ulC (ulC (ulC ulN))))) (fun i hp => ?_)
 refine GC.seq (GC.region ?_)
 refine GL.val (v := (.bool (decide ((((i : Nat) : Int)) < ((n : Int)))))) (Ex.lss rfl rfl) (by decide) ?_
 refine GL.nil (GE.thenN (GC.seq ?_))
 refine GC.cond rfl (fun hq13 => ?_) (fun hq13 => ?_)
 ·replace hq13 := of_decide_eq_true hq13
  refine GC.skip (GE.thenN (GC.seq (GC.block (GC.seq (GC.region ?_)))))
  refine GL.val (v := (.pointer (some ⟨b, o + i, none⟩))) (Ex.cast (Ex.indexAddr rfl rfl Try.underlying41 T.sz28 (by omega) (by omega)) (by simp)) (by decide) ?_
  refine GL.val (v := (.int .u32 ((xs.getD i 0)))) (Ex.loadO rfl T.ag28 (Rd.at hr (by omega)) (fun x => x)) (by decide) ?_
  refine GL.sg rfl (by decide) ?_
  refine GL.nil (GE.thenN ?_)
  refine GC.join (σ := Unit) (fun j => True) (fun j => [(2, (.pointer (some ⟨bq1, 0, none⟩))), (3, (.pointer (some ⟨bq2, 0, none⟩))), (4, (.pointer (some ⟨bq3, 0, none⟩))), (5, (.pointer (some ⟨j8.1, 0, none⟩))), (7, (.int .u32 ((xs.getD i 0)))), (18, (.slice (some ⟨b, o, none⟩) n cap)), (19, (.int .i64 ((n : Int)))), (20, (.int .i64 (((i : Nat) : Int)))), (21, (.bool (decide ((((i : Nat) : Int)) < ((n : Int)))))), (22, (.pointer (some ⟨b, o + i, none⟩))), (23, (.int .u32 ((xs.getD i 0))))]) (fun j => [⟨j8.1, [(.int .i64 W), (.int .i64 H), (.slice (some ⟨j8.2, 0, none⟩) (i + 1) n)], 43, true⟩, ⟨j8.2, mpC f xs (i + 1), 28, true⟩, ⟨bq3, [(.int .i64 0), (.int .i64 0), (.slice none 0 0)], 43, true⟩, ⟨bq2, [(.int .i64 W), (.int .i64 H), (.slice (some ⟨b, o, none⟩) n cap)], 43, true⟩, ⟨bq1, [(.func (.func fid) fst caps)], 131, true⟩]) ?_ (fun j21 hj => ?_)
  ·refine GC.drawP [⟨bq3, [(.int .i64 0), (.int .i64 0), (.slice none 0 0)], 43, true⟩, ⟨bq2, [(.int .i64 W), (.int .i64 H), (.slice (some ⟨b, o, none⟩) n cap)], 43, true⟩, ⟨bq1, [(.func (.func fid) fst caps)], 131, true⟩] T.mixed (by kernel_rfl) (by kernel_rfl) (fuel := 9) rfl rfl ?_
   refine GH.tk 0 (v := (.pointer (some ⟨j8.1, 2, none⟩))) rfl (by kernel_rfl) (fun _ _ _ h => h) (Ex.cast (Ex.fieldAddr rfl Try.underlying43 rfl T.sz41 (by decide)) rfl) (ulS (ulS (ulC (ulC (ulC ulN))))) (by decide) ?_
   refine GH.tk 2 (v := (.pointer (some ⟨bq1, 0, none⟩))) rfl (by kernel_rfl) (fun _ _ _ h => h) (Ex.cast (Ex.fieldAddr rfl Try.underlying131 rfl T.sz89 (by decide)) rfl) (ulS (ulS (ulC (ulC (ulC ulN))))) (by decide) ?_
   refine GH.tk 3 (v := (.func (.func fid) fst caps)) rfl (by kernel_rfl) (fun _ _ _ h => h) (Ex.load rfl T.ag89 (i := 2) rfl rfl) (ulS (ulS (ulC (ulC (ulC ulN))))) (by decide) ?_
   refine GH.tk 4 (v := (.int .u32 ((xs.getD i 0)))) rfl (by kernel_rfl) (fun _ _ _ h => h) (Ex.move rfl) (ulS (ulS (ulC (ulC (ulC ulN))))) (by decide) ?_
   refine GH.many (rs := [1, 5]) (by kernel_rfl) (by simp) ?_
   refine GHs.cons rfl (Ex.wp (v := (.slice (some ⟨j8.2, 0, none⟩) i n)) (Ex.load rfl T.ag41 (i := 0) rfl rfl) (by decide)) (fun _ => (ulS (ulS (ulC (ulC (ulC ulN)))))) (fun _ _ => ?_) ?_
   ·refine GH.one 5 rfl (by kernel_rfl) (Stp.callRB (vs := [(.int .u32 ((xs.getD i 0)))]) rfl rfl hf.1 (by decide) (fun wc hw => hf.2 _ (getD_mem (by omega)) wc hw.1)) (fun _ => (ulS (ulS (ulC (ulC (ulC ulN)))))) (fun xq22 hq23 => ?_)
    refine GH.one 6 rfl (by kernel_rfl) (Stp.buildSlice (cs := [(.int .u32 ((f (xs.getD i 0))))]) (vs := [(0, (.int .u32 ((f (xs.getD i 0)))))]) Try.underlying41 T.zr28 T.sz28 rfl (by decide) (by decide) (by first | rfl | kernel_rfl) (by decide)) (fun _ => (ulS (ulS (ulS (ulC (ulC (ulC ulN))))))) (fun bq24 _ => ?_)
    refine GH.one 7 rfl (by kernel_rfl) (Stp.appendFits (i := 2) (vs := [.int .u32 (f (xs.getD i 0))]) (L1 := [⟨bq24, [(.int .u32 ((f (xs.getD i 0))))], 28, true⟩, ⟨j8.1, [(.int .i64 W), (.int .i64 H), (.slice (some ⟨j8.2, 0, none⟩) i n)], 43, true⟩, ⟨j8.2, mpC f xs (i + 1), 28, true⟩, ⟨bq3, [(.int .i64 0), (.int .i64 0), (.slice none 0 0)], 43, true⟩, ⟨bq2, [(.int .i64 W), (.int .i64 H), (.slice (some ⟨b, o, none⟩) n cap)], 43, true⟩, ⟨bq1, [(.func (.func fid) fst caps)], 131, true⟩]) rfl rfl Try.underlying41 T.sz28 rfl (fun w hw => hw.rdOf (i := 0) rfl 0) rfl rfl (len' := i + 1) rfl (by omega) (by rw [mpC_len _ _ _ (by omega)]; simp; omega) (by rw [Nat.mul_one, mpC_step _ _ _ (by omega)]; rfl) (by decide)) (fun _ => (ulS (ulS (ulS (ulC (ulC (ulC ulN))))))) (fun _ _ => ?_)
    refine GH.tk 8 (v := (.pointer (some ⟨j8.1, 2, none⟩))) rfl (by kernel_rfl) (fun _ _ _ h => h) (Ex.cast (Ex.fieldAddr rfl Try.underlying43 rfl T.sz41 (by decide)) rfl) (ulS (ulS (ulS (ulC (ulC (ulC ulN)))))) (by decide) ?_
    refine GH.done (by kernel_rfl) ?_
    refine GE.thenN ?_
    refine GE.tail rfl (Stp.st1 (cs' := [(.int .i64 W), (.int .i64 H), (.slice (some ⟨j8.2, 0, none⟩) (i + 1) n)]) rfl rfl rfl T.sz41 rfl rfl rfl) (fun _ _ => ?_)
    refine GE.thenN ?_
    exact St.mk (()) trivial (idx := [1, 2, 3, 4, 5]) ((sub_cons rfl ((sub_cons rfl ((sub_cons rfl ((sub_cons rfl ((sub_cons rfl ((sub_cons rfl ((sub_cons rfl ((sub_cons rfl ((sub_cons rfl ((sub_cons rfl ((sub_cons rfl ((sub_nil _)))))))))))))))))))))))) (by decide) rfl
   refine GHs.cons rfl (Stp.callRB (vs := [(.int .u32 ((xs.getD i 0)))]) rfl rfl hf.1 (by decide) (fun wc hw => hf.2 _ (getD_mem (by omega)) wc hw.1)) (fun _ => (ulS (ulS (ulC (ulC (ulC ulN)))))) (fun xq25 hq26 => ?_) ?_
   ·refine GH.many (rs := [1, 6]) (by kernel_rfl) (by simp) ?_
    refine GHs.cons rfl (Ex.wp (v := (.slice (some ⟨j8.2, 0, none⟩) i n)) (Ex.load rfl T.ag41 (i := 0) rfl rfl) (by decide)) (fun _ => (ulS (ulS (ulC (ulC (ulC ulN)))))) (fun _ _ => ?_) ?_
    ·refine GH.one 6 rfl (by kernel_rfl) (Stp.buildSlice (cs := [(.int .u32 ((f (xs.getD i 0))))]) (vs := [(0, (.int .u32 ((f (xs.getD i 0)))))]) Try.underlying41 T.zr28 T.sz28 rfl (by decide) (by decide) (by first | rfl | kernel_rfl) (by decide)) (fun _ => (ulS (ulS (ulS (ulC (ulC (ulC ulN))))))) (fun bq27 _ => ?_)
     refine GH.one 7 rfl (by kernel_rfl) (Stp.appendFits (i := 2) (vs := [.int .u32 (f (xs.getD i 0))]) (L1 := [⟨bq27, [(.int .u32 ((f (xs.getD i 0))))], 28, true⟩, ⟨j8.1, [(.int .i64 W), (.int .i64 H), (.slice (some ⟨j8.2, 0, none⟩) i n)], 43, true⟩, ⟨j8.2, mpC f xs (i + 1), 28, true⟩, ⟨bq3, [(.int .i64 0), (.int .i64 0), (.slice none 0 0)], 43, true⟩, ⟨bq2, [(.int .i64 W), (.int .i64 H), (.slice (some ⟨b, o, none⟩) n cap)], 43, true⟩, ⟨bq1, [(.func (.func fid) fst caps)], 131, true⟩]) rfl rfl Try.underlying41 T.sz28 rfl (fun w hw => hw.rdOf (i := 0) rfl 0) rfl rfl (len' := i + 1) rfl (by omega) (by rw [mpC_len _ _ _ (by omega)]; simp; omega) (by rw [Nat.mul_one, mpC_step _ _ _ (by omega)]; rfl) (by decide)) (fun _ => (ulS (ulS (ulS (ulC (ulC (ulC ulN))))))) (fun _ _ => ?_)
     refine GH.tk 8 (v := (.pointer (some ⟨j8.1, 2, none⟩))) rfl (by kernel_rfl) (fun _ _ _ h => h) (Ex.cast (Ex.fieldAddr rfl Try.underlying43 rfl T.sz41 (by decide)) rfl) (ulS (ulS (ulS (ulC (ulC (ulC ulN)))))) (by decide) ?_
     refine GH.done (by kernel_rfl) ?_
     refine GE.thenN ?_
     refine GE.tail rfl (Stp.st1 (cs' := [(.int .i64 W), (.int .i64 H), (.slice (some ⟨j8.2, 0, none⟩) (i + 1) n)]) rfl rfl rfl T.sz41 rfl rfl rfl) (fun _ _ => ?_)
     refine GE.thenN ?_
     exact St.mk (()) trivial (idx := [1, 2, 3, 4, 5]) ((sub_cons rfl ((sub_cons rfl ((sub_cons rfl ((sub_cons rfl ((sub_cons rfl ((sub_cons rfl ((sub_cons rfl ((sub_cons rfl ((sub_cons rfl ((sub_cons rfl ((sub_cons rfl ((sub_nil _)))))))))))))))))))))))) (by decide) rfl
    refine GHs.cons rfl (Stp.buildSlice (cs := [(.int .u32 ((f (xs.getD i 0))))]) (vs := [(0, (.int .u32 ((f (xs.getD i 0)))))]) Try.underlying41 T.zr28 T.sz28 rfl (by decide) (by decide) (by first | rfl | kernel_rfl) (by decide)) (fun _ => (ulS (ulS (ulS (ulC (ulC (ulC ulN))))))) (fun bq28 _ => ?_) ?_
    ·refine GH.one 1 rfl (by kernel_rfl) (Ex.wp (v := (.slice (some ⟨j8.2, 0, none⟩) i n)) (Ex.load rfl T.ag41 (i := 1) rfl rfl) (by decide)) (fun _ => (ulS (ulS (ulS (ulC (ulC (ulC ulN))))))) (fun _ _ => ?_)
     refine GH.one 7 rfl (by kernel_rfl) (Stp.appendFits (i := 2) (vs := [.int .u32 (f (xs.getD i 0))]) (L1 := [⟨bq28, [(.int .u32 ((f (xs.getD i 0))))], 28, true⟩, ⟨j8.1, [(.int .i64 W), (.int .i64 H), (.slice (some ⟨j8.2, 0, none⟩) i n)], 43, true⟩, ⟨j8.2, mpC f xs (i + 1), 28, true⟩, ⟨bq3, [(.int .i64 0), (.int .i64 0), (.slice none 0 0)], 43, true⟩, ⟨bq2, [(.int .i64 W), (.int .i64 H), (.slice (some ⟨b, o, none⟩) n cap)], 43, true⟩, ⟨bq1, [(.func (.func fid) fst caps)], 131, true⟩]) rfl rfl Try.underlying41 T.sz28 rfl (fun w hw => hw.rdOf (i := 0) rfl 0) rfl rfl (len' := i + 1) rfl (by omega) (by rw [mpC_len _ _ _ (by omega)]; simp; omega) (by rw [Nat.mul_one, mpC_step _ _ _ (by omega)]; rfl) (by decide)) (fun _ => (ulS (ulS (ulS (ulC (ulC (ulC ulN))))))) (fun _ _ => ?_)
     refine GH.tk 8 (v := (.pointer (some ⟨j8.1, 2, none⟩))) rfl (by kernel_rfl) (fun _ _ _ h => h) (Ex.cast (Ex.fieldAddr rfl Try.underlying43 rfl T.sz41 (by decide)) rfl) (ulS (ulS (ulS (ulC (ulC (ulC ulN)))))) (by decide) ?_
     refine GH.done (by kernel_rfl) ?_
     refine GE.thenN ?_
     refine GE.tail rfl (Stp.st1 (cs' := [(.int .i64 W), (.int .i64 H), (.slice (some ⟨j8.2, 0, none⟩) (i + 1) n)]) rfl rfl rfl T.sz41 rfl rfl rfl) (fun _ _ => ?_)
     refine GE.thenN ?_
     exact St.mk (()) trivial (idx := [1, 2, 3, 4, 5]) ((sub_cons rfl ((sub_cons rfl ((sub_cons rfl ((sub_cons rfl ((sub_cons rfl ((sub_cons rfl ((sub_cons rfl ((sub_cons rfl ((sub_cons rfl ((sub_cons rfl ((sub_cons rfl ((sub_nil _)))))))))))))))))))))))) (by decide) rfl
    exact GHs.nil
   exact GHs.nil
  refine GE.blockN (GE.thenN (GC.region ?_))
  refine GL.val (v := (.int .i64 (((i + 1 : Nat) : Int)))) (Ex.add rfl rfl (Z := ((i + 1 : Nat) : Int)) (by rw [w64 (by omega)]; rfl)) (by decide) ?_
  refine GL.mv rfl (by decide) ?_
  refine GL.nil (GE.thenN ?_)
  exact Head.mk (i + 1) (by omega) (by omega) ((sub_cons rfl ((sub_cons rfl ((sub_cons rfl ((sub_cons rfl ((sub_cons rfl ((sub_cons rfl ((sub_cons rfl ((sub_nil _)))))))))))))))) (ulC (ulC (ulC (ulC (ulC ulN)))))
 ·replace hq13 := of_decide_eq_false hq13
  refine GC.exit (GE.thenE (GE.thenE (GE.blockE (GE.thenN (GC.seq ?_)))))
  rw [show i = n from by omega, ← hx, mpC_full, hx]
  refine GC.region ?_
  refine GL.val (v := (.agg #[(.int .i64 W), (.int .i64 H), (.slice (some ⟨j8.2, 0, none⟩) n n)])) (Ex.loadA rfl T.ag43 T.sz43 (i := 0) rfl (vs := [(.int .i64 W), (.int .i64 H), (.slice (some ⟨j8.2, 0, none⟩) n n)]) rfl rfl) (by decide) ?_
  refine GL.step (Stp.st2 (cs' := [(.int .i64 W), (.int .i64 H), (.slice (some ⟨j8.2, 0, none⟩) n n)]) rfl rfl rfl T.sz43 rfl rfl rfl) (fun _ _ => ?_)
  refine GL.nil (GE.thenN (GC.ret ?_))
  refine GC.ret1 rfl (Rv.cellA rfl T.ag43 T.sz43 (L := _) (i := 2) rfl (vs := [(.int .i64 W), (.int .i64 H), (.slice (some ⟨j8.2, 0, none⟩) n n)]) rfl rfl) (fun wN HN => ?_)
  exact HN.ret (j8.2, n, ([] : List Value)) ⟨by simp [hx], (show n ≤ 9223372036854775807 by omega)⟩ (by simp [hx]) (by rw [List.append_nil]; exact (ulS (ulC (ulS (ulS (ulS ulN)))))) (by rfl)

theorem chplane_p (p : Pn) (W H : Nat) (fid : FuncId) (fst caps : Array Value) (f : Int → Int) (w : World) (hok : okP W H) (h : p.W = (W : Int) ∧ p.H = (H : Int) ∧ p.n = W * H) (hp : p.Ok w) (hf : FnS Try.prog w fid fst caps p.xs f) : Calls Try.prog 79 #[(.agg #[(.func (.func fid) fst caps)]), .agg #[.int .i64 p.W, .int .i64 p.H, .slice p.ad p.n p.cap]] w (RetP w (p.W, p.H, p.xs.map f) 28) := by
 obtain ⟨pw, ph, ad, n, cap, xs⟩ := p
 obtain ⟨h1, h2, h3⟩ := h
 obtain ⟨hl, hb⟩ := hp
 dsimp only at h1 h2 h3 hl hb
 subst h1 h2 h3
 have hq := Nat.mul_pos (show 0 < W from hok.1) (show 0 < H from hok.2.1)
 rcases hl.2.2.2 with q | ⟨b, o, rfl, hr⟩
 ·omega
 ·exact chplane W H b o (W * H) cap xs fid fst caps f w hl.1 hq hb hr hf

theorem map1_all (i W H bn bd : Nat) (k : Int) (p : Pn) (fid : FuncId) (fst caps : Array Value) (f : Int → Int) (w : World) (hh : Has w [⟨bn, [(.int .i64 k)], 3, false⟩, ⟨bd, [(.func (.func 79) #[(.agg #[(.func (.func fid) fst caps)])] #[])], 62, false⟩]) (hok : okP W H) (h : p.W = (W : Int) ∧ p.H = (H : Int) ∧ p.n = W * H) (hp : p.Ok w) (hf : FnS Try.prog w fid fst caps p.xs f) (hk : k = -1) :
  Calls Try.prog 80 #[(.int .i64 (((i : Nat) : Int))), (.agg #[(.int .i64 p.W), (.int .i64 p.H), (.slice p.ad p.n p.cap)]), (.pointer (some ⟨bn, 0, none⟩)), (.pointer (some ⟨bd, 0, none⟩))] w (RetE w (p.W, p.H, p.xs.map f) 28) := by
 refine enter (M := None) (L := [⟨bn, [(.int .i64 k)], 3, false⟩, ⟨bd, [(.func (.func 79) #[(.agg #[(.func (.func fid) fst caps)])] #[])], 62, false⟩]) (n := 20) (l := [(0, (.int .i64 (((i : Nat) : Int)))), (1, (.agg #[(.int .i64 p.W), (.int .i64 p.H), (.slice p.ad p.n p.cap)])), (2, (.pointer (some ⟨bn, 0, none⟩))), (3, (.pointer (some ⟨bd, 0, none⟩)))]) Try.func80 rfl rfl (Args.cons rfl (Args.cons rfl (Args.cons rfl (Args.cons rfl (Args.nil _))))) (Hp.reads hh rfl) ?_
 refine GC.seq (GC.region ?_)
 refine GL.step (Stp.box (cs := [(.int .i64 p.W), (.int .i64 p.H), (.slice p.ad p.n p.cap)]) rfl rfl (by decide)) (fun bq1 _ => ?_)
 refine GL.step (Stp.alloc T.zr43 (by decide)) (fun bq2 _ => ?_)
 refine GL.sg rfl (by decide) ?_
 refine GL.nil (GE.thenN (GC.seq (GC.seq (GC.region ?_))))
 refine GL.val (Ex.load rfl T.ag3 (i := 2) rfl rfl) (by decide) ?_
 refine GL.val (v := (.bool false)) (Ex.cast (Ex.neq rfl rfl) (congrArg Value.bool (decide_eq_false (by exact fun h => h hk)))) (by decide) ?_
 refine GL.mv rfl (by decide) ?_
 refine GL.skipG (tj := 10) rfl rfl rfl (by decide) ?_
 refine GL.skipG (tj := 10) rfl rfl rfl (by decide) ?_
 refine GL.skipG (tj := 10) rfl rfl rfl (by decide) ?_
 refine GL.val (v := (.bool false)) (Ex.pickF rfl rfl) (by decide) ?_
 refine GL.nil (GE.thenN ?_)
 refine GC.cond rfl (fun hq3 => by cases hq3) (fun _ => ?_)
 refine GC.skip (GE.thenN (GC.seq (GC.region ?_)))
 refine GL.val (Ex.load rfl T.ag62 (i := 3) rfl rfl) (by decide) ?_
 refine GL.val (v := (.agg #[(.int .i64 p.W), (.int .i64 p.H), (.slice p.ad p.n p.cap)])) (Ex.loadA rfl T.ag43 T.sz43 (i := 1) rfl (vs := [(.int .i64 p.W), (.int .i64 p.H), (.slice p.ad p.n p.cap)]) rfl rfl) (by decide) ?_
 refine GL.step (Stp.callRB (σ := Nat × Nat × List Value) (p := fun rz => ((p.W, p.H, p.xs.map f).2.2.map u32 ++ rz.2.2).length = rz.2.1 * 1 ∧ rz.2.1 ≤ 9223372036854775807) (v := fun rz => (.agg #[(.int .i64 ((p.W, p.H, p.xs.map f).1)), (.int .i64 ((p.W, p.H, p.xs.map f).2.1)), (.slice (some ⟨rz.1, 0, none⟩) ((p.W, p.H, p.xs.map f).2.2.length) rz.2.1)])) (N := fun rz => [⟨rz.1, (p.W, p.H, p.xs.map f).2.2.map u32 ++ rz.2.2, 28, true⟩]) (vs := [(.agg #[(.int .i64 p.W), (.int .i64 p.H), (.slice p.ad p.n p.cap)])]) rfl rfl T.own79 (by decide) (fun wc hw => (by exact chplane_p p W H fid fst caps f wc hok h (hp.later hw.1) (hf.later hw.1)))) (fun xq4 hq5 => ?_)
 refine GL.step (Stp.st1 (cs' := [(.int .i64 ((p.W, p.H, p.xs.map f).1)), (.int .i64 ((p.W, p.H, p.xs.map f).2.1)), (.slice (some ⟨xq4.1, 0, none⟩) ((p.W, p.H, p.xs.map f).2.2.length) xq4.2.1)]) rfl rfl rfl T.sz43 rfl rfl rfl) (fun _ _ => ?_)
 refine GL.sg rfl (by decide) ?_
 refine GL.nil (GE.thenN (GC.ret ?_))
 refine GC.ret2 rfl (Rv.cellA rfl T.ag43 T.sz43 (L := _) (i := 1) rfl (vs := [(.int .i64 ((p.W, p.H, p.xs.map f).1)), (.int .i64 ((p.W, p.H, p.xs.map f).2.1)), (.slice (some ⟨xq4.1, 0, none⟩) ((p.W, p.H, p.xs.map f).2.2.length) xq4.2.1)]) rfl rfl) (Rv.tmp rfl) (fun wN HN => ?_)
 exact HN.ret xq4 hq5 rfl (ulC (ulS (ulS (ulS (ulS ulN))))) rfl

theorem map_all (sp : Int) (b o n cap : Nat) (ps : List Pn) (W H : Nat) (fid : FuncId) (fst caps : Array Value) (f : Int → Int) (w : World) (hps : Pns w b o ps) (hn : n = ps.length) (hok : OkPic sp ps W H) (hf : ∀ p ∈ ps, FnS Try.prog w fid fst caps p.xs f) :
  Calls Try.prog 46 #[(.agg #[(.int .i64 sp), (.slice (some ⟨b, o, none⟩) n cap)]), (.int .i64 (-1)), (.func (.func fid) fst caps)] w (Ret w (fun r : Ac => r.qs ≠ [] ∧ r.ds = ((List.range n).map (mpG f ((-1)) ps)) ∧ r.Ok ∧ ∀ q ∈ r.qs, q.Ok) (fun r => .tuple #[(.agg #[(.int .i64 sp), (.slice r.ad r.n r.cp)]), .int .i64 0]) (fun r => r.blks 43 28)) := by
 refine enter (M := None) (L := []) (n := 33) (l := [(0, (.agg #[(.int .i64 sp), (.slice (some ⟨b, o, none⟩) n cap)])), (1, (.int .i64 (-1))), (2, (.func (.func fid) fst caps))]) Try.func46 rfl rfl (Args.cons rfl (Args.cons rfl (Args.cons rfl (Args.nil _)))) (Hp.start _ _) ?_
 refine GC.seq (GC.region ?_)
 refine GL.step (Stp.box (cs := [(.int .i64 sp), (.slice (some ⟨b, o, none⟩) n cap)]) rfl rfl (by decide)) (fun bq1 _ => ?_)
 refine GL.step (Stp.box (cs := [(.int .i64 (-1))]) rfl rfl (by decide)) (fun bq2 _ => ?_)
 refine GL.step (Stp.alloc T.zr25 (by decide)) (fun bq3 _ => ?_)
 refine GL.sg rfl (by decide) ?_
 refine GL.nil (GE.thenN (GC.seq (GC.seq (GC.region ?_))))
 refine GL.val (v := (.agg #[(.int .i64 sp), (.slice (some ⟨b, o, none⟩) n cap)])) (Ex.loadA rfl T.ag25 T.sz25 (i := 2) rfl (vs := [(.int .i64 sp), (.slice (some ⟨b, o, none⟩) n cap)]) rfl rfl) (by decide) ?_
 refine GL.step (Stp.callR (σ := Unit) (p := fun rz => True) (v := fun rz => (.int .i64 0)) (N := fun rz => []) (vs := [(.agg #[(.int .i64 sp), (.slice (some ⟨b, o, none⟩) n cap)])]) rfl rfl T.own9 (by decide) (fun wc hw => (by have h := chk_p sp b o n cap ps wc (hps.later hw.1) hn (by have := hok.n4; omega); rw [hok.chk] at h; exact h))) (fun xq4 hq5 => ?_)
 refine GL.sg rfl (by decide) ?_
 refine GL.nil (GE.thenN (GC.seq (GC.region ?_)))
 refine GL.mv rfl (by decide) ?_
 refine GL.val (v := (.bool false)) (Ex.cast (Ex.neq rfl rfl) rfl) (by decide) ?_
 refine GL.nil (GE.thenN ?_)
 refine GC.cond rfl (fun hq6 => by cases hq6) (fun _ => ?_)
 refine GC.skip (GE.thenN (GC.seq (GC.seq (GC.region ?_))))
 refine GL.val (Ex.load rfl T.ag3 (i := 1) rfl rfl) (by decide) ?_
 refine GL.val (v := (.bool false)) (Ex.cast (Ex.neq rfl rfl) rfl) (by decide) ?_
 refine GL.mv rfl (by decide) ?_
 refine GL.skipG (tj := 18) rfl rfl rfl (by decide) ?_
 refine GL.skipG (tj := 18) rfl rfl rfl (by decide) ?_
 refine GL.skipG (tj := 18) rfl rfl rfl (by decide) ?_
 refine GL.skipG (tj := 18) rfl rfl rfl (by decide) ?_
 refine GL.val (v := (.bool false)) (Ex.pickF rfl rfl) (by decide) ?_
 refine GL.nil (GE.thenN ?_)
 refine GC.cond rfl (fun hq7 => by cases hq7) (fun _ => ?_)
 refine GC.skip (GE.thenN (GC.seq (GC.region ?_)))
 refine GL.mv rfl (by decide) ?_
 refine GL.val (v := (.agg #[(.func (.func fid) fst caps)])) (Ex.build (vs := [(0, (.func (.func fid) fst caps))]) rfl (by first | rfl | kernel_rfl)) (by decide) ?_
 refine GL.val (v := (.func (.func 79) #[(.agg #[(.func (.func fid) fst caps)])] #[])) (Ex.funcB (bs := [(.agg #[(.func (.func fid) fst caps)])]) (cs := []) (fun _ hF => hF.evals _ _ rfl) (fun _ hF => hF.evals _ _ rfl)) (by decide) ?_
 refine GL.step (Stp.alloc T.zr62 (by decide)) (fun bq8 _ => ?_)
 refine GL.step (Stp.st0 (cs' := [(.func (.func 79) #[(.agg #[(.func (.func fid) fst caps)])] #[])]) rfl rfl rfl T.sz62 rfl rfl rfl) (fun _ _ => ?_)
 refine GL.nil (GE.thenN (GC.seq (GC.region ?_)))
 refine GL.val (v := (.agg #[(.int .i64 sp), (.slice (some ⟨b, o, none⟩) n cap)])) (Ex.loadA rfl T.ag25 T.sz25 (i := 3) rfl (vs := [(.int .i64 sp), (.slice (some ⟨b, o, none⟩) n cap)]) rfl rfl) (by decide) ?_
 refine GL.val (v := (.func (.func 80) #[] #[(.pointer (some ⟨bq2, 0, none⟩)), (.pointer (some ⟨bq8, 0, none⟩))])) (Ex.func (cs := [(.pointer (some ⟨bq2, 0, none⟩)), (.pointer (some ⟨bq8, 0, none⟩))]) rfl (fun _ hF => hF.evals _ _ rfl)) (by decide) ?_
 refine GL.step (Stp.call (vs := [(.agg #[(.int .i64 sp), (.slice (some ⟨b, o, none⟩) n cap)]), (.func (.func 80) #[] #[(.pointer (some ⟨bq2, 0, none⟩)), (.pointer (some ⟨bq8, 0, none⟩))])]) rfl rfl T.own36 (by decide) (fun wc hw => (Ret.frm (L' := fun x => (⟨bq8, [(.func (.func 79) #[(.agg #[(.func (.func fid) fst caps)])] #[])], 62, true⟩ :: ⟨bq3, [(.int .i64 0), (.slice none 0 0)], 25, true⟩ :: ⟨bq2, [(.int .i64 (-1))], 3, true⟩ :: ⟨bq1, [(.int .i64 sp), (.slice (some ⟨b, o, none⟩) n cap)], 25, true⟩ :: (x.blks 43 28 ++ []))) hw (every_ok sp b o n cap ps W H 80 #[.pointer (some ⟨bq2, 0, none⟩), .pointer (some ⟨bq8, 0, none⟩)] (mpG f ((-1)) ps) wc (hps.later hw.1) hn hok ⟨T.own80, fun i hi w' hk' => by
  have hh := ((Has.cons (hw.hasOf (i := 2) rfl) (Has.cons (hw.hasOf (i := 0) rfl) (Has.nil _)) : Has wc [⟨bq2, [.int .i64 (-1)], 3, false⟩, ⟨bq8, [(.func (.func 79) #[(.agg #[(.func (.func fid) fst caps)])] #[])], 62, false⟩]).later hk')
  rw [show mpG f (-1) ps i = _ from if_pos (Or.inl rfl)]; exact map1_all i W H bq2 bq8 (-1) (pAt ps i) fid fst caps f w' hh hok.ok (hok.at hi) ((hps.ok _ (pAt_mem hi)).later (hw.1.trans hk' (fun _ _ h => h))) ((hf _ (pAt_mem hi)).later (hw.1.trans hk' (fun _ _ h => h))) rfl⟩) (fun x w' _ h => by exact Hp.segsD (A := [x.blks 43 28, [⟨bq8, [(.func (.func 79) #[(.agg #[(.func (.func fid) fst caps)])] #[])], 62, true⟩, ⟨bq3, [(.int .i64 0), (.slice none 0 0)], 25, true⟩, ⟨bq2, [(.int .i64 (-1))], 3, true⟩, ⟨bq1, [(.int .i64 sp), (.slice (some ⟨b, o, none⟩) n cap)], 25, true⟩]]) (idx := [1, 0]) 2 [] h rfl (by decide) rfl)))) (fun xq9 hq10 => ?_)
 refine GL.val (Ex.extract rfl rfl) (by decide) ?_
 refine GL.val (Ex.extract rfl rfl) (by decide) ?_
 refine GL.step (Stp.st1 (cs' := [(.int .i64 sp), (.slice xq9.ad xq9.n xq9.cp)]) rfl rfl rfl T.sz25 rfl rfl rfl) (fun _ _ => ?_)
 refine GL.sg rfl (by decide) ?_
 refine GL.nil (GE.thenN (GC.ret ?_))
 refine GC.ret2 rfl (Rv.cellA rfl T.ag25 T.sz25 (L := _) (i := 1) rfl (vs := [(.int .i64 sp), (.slice xq9.ad xq9.n xq9.cp)]) rfl rfl) (Rv.tmp rfl) (fun wN HN => ?_)
 exact HN.ret xq9 hq10 rfl (by rw [List.append_nil]; exact ((ulS (ulS (ulS (ulS ulR)))))) (Ac.blks_own _ _ _)

theorem affine_at (a b_ s r : Int) (w : World) (hf : ∀ w', Keep None w w' → Calls Try.prog 81 #[.int .u32 s, .int .u32 a, .int .u32 b_] w' (Ret w' (fun _ : Unit => True) (fun _ => .int .u32 r) (fun _ => []))) :
  Calls Try.prog 47 #[(.agg #[(.int .u32 a), (.int .u32 b_)]), (.int .u32 s)] w (Ret w (fun _ : Unit => True) (fun _ => .int .u32 r) (fun _ => [])) := by
 refine enter (M := None) (L := []) (n := 11) (l := [(0, (.agg #[(.int .u32 a), (.int .u32 b_)])), (1, (.int .u32 s))]) Try.func47 rfl rfl (Args.cons rfl (Args.cons rfl (Args.nil _))) (Hp.start _ _) ?_
 refine GC.seq (GC.region ?_)
 refine GL.step (Stp.box (cs := [(.int .u32 a), (.int .u32 b_)]) rfl rfl (by decide)) (fun bq1 _ => ?_)
 refine GL.sg rfl (by decide) ?_
 refine GL.nil (GE.thenN (GC.seq (GC.region ?_)))
 refine GL.mv rfl (by decide) ?_
 refine GL.val (v := (.pointer (some ⟨bq1, 0, none⟩))) (Ex.cast (Ex.fieldAddr rfl Try.underlying91 rfl T.sz28 (by decide)) rfl) (by decide) ?_
 refine GL.val (Ex.load rfl T.ag28 (i := 0) rfl rfl) (by decide) ?_
 refine GL.val (v := (.pointer (some ⟨bq1, 1, none⟩))) (Ex.cast (Ex.fieldAddr rfl Try.underlying91 rfl T.sz28 (by decide)) rfl) (by decide) ?_
 refine GL.val (Ex.load rfl T.ag28 (i := 0) rfl rfl) (by decide) ?_
 refine GL.step (Stp.callR (vs := [(.int .u32 s), (.int .u32 a), (.int .u32 b_)]) rfl rfl T.own81 (by decide) (fun wc hw => hf wc hw.1)) (fun xq2 hq3 => ?_)
 refine GL.sg rfl (by decide) ?_
 refine GL.nil (GE.thenN (GC.ret ?_))
 refine GC.ret1 rfl (Rv.tmp rfl) (fun wN HN => ?_)
 exact HN.ret () trivial rfl (List.nil_sublist _) rfl

theorem affine_all (sp : Int) (b o n cap : Nat) (ps : List Pn) (W H : Nat) (a b_ : Int) (f : Int → Int) (w : World) (hps : Pns w b o ps) (hn : n = ps.length) (hok : OkPic sp ps W H) (hf : ∀ p ∈ ps, ∀ x ∈ p.xs, ∀ w', Keep None w w' → Calls Try.prog 81 #[.int .u32 x, .int .u32 a, .int .u32 b_] w' (Ret w' (fun _ : Unit => True) (fun _ => .int .u32 (f x)) (fun _ => []))) :
  Calls Try.prog 13 #[(.agg #[(.int .i64 sp), (.slice (some ⟨b, o, none⟩) n cap)]), (.int .i64 (-1)), (.int .u32 a), (.int .u32 b_)] w (Ret w (fun r : Ac => r.qs ≠ [] ∧ r.ds = ((List.range n).map (mpG f ((-1)) ps)) ∧ r.Ok ∧ ∀ q ∈ r.qs, q.Ok) (fun r => .tuple #[(.agg #[(.int .i64 sp), (.slice r.ad r.n r.cp)]), .int .i64 0]) (fun r => r.blks 43 28)) := by
 refine enter (M := None) (L := []) (n := 19) (l := [(0, (.agg #[(.int .i64 sp), (.slice (some ⟨b, o, none⟩) n cap)])), (1, (.int .i64 (-1))), (2, (.int .u32 a)), (3, (.int .u32 b_))]) Try.func13 rfl rfl (Args.cons rfl (Args.cons rfl (Args.cons rfl (Args.cons rfl (Args.nil _))))) (Hp.start _ _) ?_
 refine GC.seq (GC.region ?_)
 refine GL.step (Stp.box (cs := [(.int .i64 sp), (.slice (some ⟨b, o, none⟩) n cap)]) rfl rfl (by decide)) (fun bq1 _ => ?_)
 refine GL.step (Stp.alloc T.zr25 (by decide)) (fun bq2 _ => ?_)
 refine GL.sg rfl (by decide) ?_
 refine GL.nil (GE.thenN (GC.seq (GC.region ?_)))
 refine GL.val (v := (.agg #[(.int .i64 sp), (.slice (some ⟨b, o, none⟩) n cap)])) (Ex.loadA rfl T.ag25 T.sz25 (i := 1) rfl (vs := [(.int .i64 sp), (.slice (some ⟨b, o, none⟩) n cap)]) rfl rfl) (by decide) ?_
 refine GL.mv rfl (by decide) ?_
 refine GL.mv rfl (by decide) ?_
 refine GL.mv rfl (by decide) ?_
 refine GL.val (v := (.agg #[(.int .u32 a), (.int .u32 b_)])) (Ex.build (vs := [(0, (.int .u32 a)), (1, (.int .u32 b_))]) rfl (by first | rfl | kernel_rfl)) (by decide) ?_
 refine GL.val (v := (.func (.func 47) #[(.agg #[(.int .u32 a), (.int .u32 b_)])] #[])) (Ex.funcB (bs := [(.agg #[(.int .u32 a), (.int .u32 b_)])]) (cs := []) (fun _ hF => hF.evals _ _ rfl) (fun _ hF => hF.evals _ _ rfl)) (by decide) ?_
 refine GL.step (Stp.call (vs := [(.agg #[(.int .i64 sp), (.slice (some ⟨b, o, none⟩) n cap)]), (.int .i64 (-1)), (.func (.func 47) #[(.agg #[(.int .u32 a), (.int .u32 b_)])] #[])]) rfl rfl T.own46 (by decide) (fun wc hw => (Ret.frm (L' := fun x => (⟨bq2, [(.int .i64 0), (.slice none 0 0)], 25, true⟩ :: ⟨bq1, [(.int .i64 sp), (.slice (some ⟨b, o, none⟩) n cap)], 25, true⟩ :: (x.blks 43 28 ++ []))) hw (map_all sp b o n cap ps W H 47 #[(.agg #[(.int .u32 a), (.int .u32 b_)])] #[] f wc (hps.later hw.1) hn hok (fun p hp => ⟨T.own47, fun x hx w2 h2 => affine_at a b_ x (f x) w2 (fun w3 h3 => hf p hp x hx w3 (hw.1.trans (h2.trans h3 (fun _ _ h => h)) (fun _ _ h => h)))⟩)) (fun x w' _ h => by exact Hp.segsD (A := [x.blks 43 28, [⟨bq2, [(.int .i64 0), (.slice none 0 0)], 25, true⟩, ⟨bq1, [(.int .i64 sp), (.slice (some ⟨b, o, none⟩) n cap)], 25, true⟩]]) (idx := [1, 0]) 2 [] h rfl (by decide) rfl)))) (fun xq3 hq4 => ?_)
 refine GL.val (Ex.extract rfl rfl) (by decide) ?_
 refine GL.val (Ex.extract rfl rfl) (by decide) ?_
 refine GL.step (Stp.st0 (cs' := [(.int .i64 sp), (.slice xq3.ad xq3.n xq3.cp)]) rfl rfl rfl T.sz25 rfl rfl rfl) (fun _ _ => ?_)
 refine GL.sg rfl (by decide) ?_
 refine GL.nil (GE.thenN (GC.ret ?_))
 refine GC.ret2 rfl (Rv.cellA rfl T.ag25 T.sz25 (L := _) (i := 0) rfl (vs := [(.int .i64 sp), (.slice xq3.ad xq3.n xq3.cp)]) rfl rfl) (Rv.tmp rfl) (fun wN HN => ?_)
 exact HN.ret xq3 hq4 rfl (by rw [List.append_nil]; exact ((ulS (ulS ulR)))) (Ac.blks_own _ _ _)

theorem between_at (a b_ s r : Int) (w : World) (hf : ∀ w', Keep None w w' → Calls Try.prog 90 #[.int .u32 s, .int .u32 a, .int .u32 b_] w' (Ret w' (fun _ : Unit => True) (fun _ => .int .u32 r) (fun _ => []))) :
  Calls Try.prog 56 #[(.agg #[(.int .u32 a), (.int .u32 b_)]), (.int .u32 s)] w (Ret w (fun _ : Unit => True) (fun _ => .int .u32 r) (fun _ => [])) := by
 refine enter (M := None) (L := []) (n := 11) (l := [(0, (.agg #[(.int .u32 a), (.int .u32 b_)])), (1, (.int .u32 s))]) Try.func56 rfl rfl (Args.cons rfl (Args.cons rfl (Args.nil _))) (Hp.start _ _) ?_
 refine GC.seq (GC.region ?_)
 refine GL.step (Stp.box (cs := [(.int .u32 a), (.int .u32 b_)]) rfl rfl (by decide)) (fun bq1 _ => ?_)
 refine GL.sg rfl (by decide) ?_
 refine GL.nil (GE.thenN (GC.seq (GC.region ?_)))
 refine GL.mv rfl (by decide) ?_
 refine GL.val (v := (.pointer (some ⟨bq1, 0, none⟩))) (Ex.cast (Ex.fieldAddr rfl Try.underlying103 rfl T.sz28 (by decide)) rfl) (by decide) ?_
 refine GL.val (Ex.load rfl T.ag28 (i := 0) rfl rfl) (by decide) ?_
 refine GL.val (v := (.pointer (some ⟨bq1, 1, none⟩))) (Ex.cast (Ex.fieldAddr rfl Try.underlying103 rfl T.sz28 (by decide)) rfl) (by decide) ?_
 refine GL.val (Ex.load rfl T.ag28 (i := 0) rfl rfl) (by decide) ?_
 refine GL.step (Stp.callR (vs := [(.int .u32 s), (.int .u32 a), (.int .u32 b_)]) rfl rfl T.own90 (by decide) (fun wc hw => hf wc hw.1)) (fun xq2 hq3 => ?_)
 refine GL.sg rfl (by decide) ?_
 refine GL.nil (GE.thenN (GC.ret ?_))
 refine GC.ret1 rfl (Rv.tmp rfl) (fun wN HN => ?_)
 exact HN.ret () trivial rfl (List.nil_sublist _) rfl

theorem between_all (sp : Int) (b o n cap : Nat) (ps : List Pn) (W H : Nat) (a b_ : Int) (f : Int → Int) (w : World) (hps : Pns w b o ps) (hn : n = ps.length) (hok : OkPic sp ps W H) (hf : ∀ p ∈ ps, ∀ x ∈ p.xs, ∀ w', Keep None w w' → Calls Try.prog 90 #[.int .u32 x, .int .u32 a, .int .u32 b_] w' (Ret w' (fun _ : Unit => True) (fun _ => .int .u32 (f x)) (fun _ => []))) :
  Calls Try.prog 18 #[(.agg #[(.int .i64 sp), (.slice (some ⟨b, o, none⟩) n cap)]), (.int .i64 (-1)), (.int .u32 a), (.int .u32 b_)] w (Ret w (fun r : Ac => r.qs ≠ [] ∧ r.ds = ((List.range n).map (mpG f ((-1)) ps)) ∧ r.Ok ∧ ∀ q ∈ r.qs, q.Ok) (fun r => .tuple #[(.agg #[(.int .i64 sp), (.slice r.ad r.n r.cp)]), .int .i64 0]) (fun r => r.blks 43 28)) := by
 refine enter (M := None) (L := []) (n := 19) (l := [(0, (.agg #[(.int .i64 sp), (.slice (some ⟨b, o, none⟩) n cap)])), (1, (.int .i64 (-1))), (2, (.int .u32 a)), (3, (.int .u32 b_))]) Try.func18 rfl rfl (Args.cons rfl (Args.cons rfl (Args.cons rfl (Args.cons rfl (Args.nil _))))) (Hp.start _ _) ?_
 refine GC.seq (GC.region ?_)
 refine GL.step (Stp.box (cs := [(.int .i64 sp), (.slice (some ⟨b, o, none⟩) n cap)]) rfl rfl (by decide)) (fun bq1 _ => ?_)
 refine GL.step (Stp.alloc T.zr25 (by decide)) (fun bq2 _ => ?_)
 refine GL.sg rfl (by decide) ?_
 refine GL.nil (GE.thenN (GC.seq (GC.region ?_)))
 refine GL.val (v := (.agg #[(.int .i64 sp), (.slice (some ⟨b, o, none⟩) n cap)])) (Ex.loadA rfl T.ag25 T.sz25 (i := 1) rfl (vs := [(.int .i64 sp), (.slice (some ⟨b, o, none⟩) n cap)]) rfl rfl) (by decide) ?_
 refine GL.mv rfl (by decide) ?_
 refine GL.mv rfl (by decide) ?_
 refine GL.mv rfl (by decide) ?_
 refine GL.val (v := (.agg #[(.int .u32 a), (.int .u32 b_)])) (Ex.build (vs := [(0, (.int .u32 a)), (1, (.int .u32 b_))]) rfl (by first | rfl | kernel_rfl)) (by decide) ?_
 refine GL.val (v := (.func (.func 56) #[(.agg #[(.int .u32 a), (.int .u32 b_)])] #[])) (Ex.funcB (bs := [(.agg #[(.int .u32 a), (.int .u32 b_)])]) (cs := []) (fun _ hF => hF.evals _ _ rfl) (fun _ hF => hF.evals _ _ rfl)) (by decide) ?_
 refine GL.step (Stp.call (vs := [(.agg #[(.int .i64 sp), (.slice (some ⟨b, o, none⟩) n cap)]), (.int .i64 (-1)), (.func (.func 56) #[(.agg #[(.int .u32 a), (.int .u32 b_)])] #[])]) rfl rfl T.own46 (by decide) (fun wc hw => (Ret.frm (L' := fun x => (⟨bq2, [(.int .i64 0), (.slice none 0 0)], 25, true⟩ :: ⟨bq1, [(.int .i64 sp), (.slice (some ⟨b, o, none⟩) n cap)], 25, true⟩ :: (x.blks 43 28 ++ []))) hw (map_all sp b o n cap ps W H 56 #[(.agg #[(.int .u32 a), (.int .u32 b_)])] #[] f wc (hps.later hw.1) hn hok (fun p hp => ⟨T.own56, fun x hx w2 h2 => between_at a b_ x (f x) w2 (fun w3 h3 => hf p hp x hx w3 (hw.1.trans (h2.trans h3 (fun _ _ h => h)) (fun _ _ h => h)))⟩)) (fun x w' _ h => by exact Hp.segsD (A := [x.blks 43 28, [⟨bq2, [(.int .i64 0), (.slice none 0 0)], 25, true⟩, ⟨bq1, [(.int .i64 sp), (.slice (some ⟨b, o, none⟩) n cap)], 25, true⟩]]) (idx := [1, 0]) 2 [] h rfl (by decide) rfl)))) (fun xq3 hq4 => ?_)
 refine GL.val (Ex.extract rfl rfl) (by decide) ?_
 refine GL.val (Ex.extract rfl rfl) (by decide) ?_
 refine GL.step (Stp.st0 (cs' := [(.int .i64 sp), (.slice xq3.ad xq3.n xq3.cp)]) rfl rfl rfl T.sz25 rfl rfl rfl) (fun _ _ => ?_)
 refine GL.sg rfl (by decide) ?_
 refine GL.nil (GE.thenN (GC.ret ?_))
 refine GC.ret2 rfl (Rv.cellA rfl T.ag25 T.sz25 (L := _) (i := 0) rfl (vs := [(.int .i64 sp), (.slice xq3.ad xq3.n xq3.cp)]) rfl rfl) (Rv.tmp rfl) (fun wN HN => ?_)
 exact HN.ret xq3 hq4 rfl (by rw [List.append_nil]; exact ((ulS (ulS ulR)))) (Ac.blks_own _ _ _)

theorem two1 (i bp bf : Nat) (sp : Int) (b2 o2 nq c2 : Nat) (qs : List Pn) (W H : Int) (b o n cap b4 o4 : Nat) (xs ys : List Int) (fid : FuncId) (f : Int → Int → Int) (w : World) (hh : Has w [⟨bp, [(.int .i64 sp), (.slice (some ⟨b2, o2, none⟩) nq c2)], 25, false⟩, ⟨bf, [(.func (.func fid) #[] #[])], 97, false⟩]) (hx : xs.length = n) (h0 : 0 < n) (hb : n ≤ 35184372087808) (hr : Rd w b o (xs.map u32)) (hqs : Pns w b2 o2 qs) (hi : i < qs.length) (hil : i < nq) (hnq : nq ≤ 4) (had : (pAt qs i).ad = some ⟨b4, o4, none⟩) (hqn : (pAt qs i).n = n) (hy : ys.length = n) (hr4 : Rd w b4 o4 (ys.map u32)) (hf : FnS2 Try.prog w fid xs ys f) :
  Calls Try.prog 53 #[(.int .i64 (((i : Nat) : Int))), (.agg #[(.int .i64 W), (.int .i64 H), (.slice (some ⟨b, o, none⟩) n cap)]), (.pointer (some ⟨bp, 0, none⟩)), (.pointer (some ⟨bf, 0, none⟩))] w (RetE w (W, H, zpX f xs ys) 28) := by
 refine enter (M := None) (L := [⟨bp, [(.int .i64 sp), (.slice (some ⟨b2, o2, none⟩) nq c2)], 25, false⟩, ⟨bf, [(.func (.func fid) #[] #[])], 97, false⟩]) (n := 39) (l := [(0, (.int .i64 (((i : Nat) : Int)))), (1, (.agg #[(.int .i64 W), (.int .i64 H), (.slice (some ⟨b, o, none⟩) n cap)])), (2, (.pointer (some ⟨bp, 0, none⟩))), (3, (.pointer (some ⟨bf, 0, none⟩)))]) Try.func53 rfl rfl (Args.cons rfl (Args.cons rfl (Args.cons rfl (Args.cons rfl (Args.nil _))))) (Hp.reads hh rfl) ?_
 refine GC.seq (GC.region ?_)
 refine GL.step (Stp.box (cs := [(.int .i64 W), (.int .i64 H), (.slice (some ⟨b, o, none⟩) n cap)]) rfl rfl (by decide)) (fun bq1 _ => ?_)
 refine GL.step (Stp.alloc T.zr43 (by decide)) (fun bq2 _ => ?_)
 refine GL.sg rfl (by decide) ?_
 refine GL.nil (GE.thenN (GC.seq (GC.region ?_)))
 refine GL.val (v := (.agg #[(.int .i64 W), (.int .i64 H), (.slice (some ⟨b, o, none⟩) n cap)])) (Ex.loadA rfl T.ag43 T.sz43 (i := 1) rfl (vs := [(.int .i64 W), (.int .i64 H), (.slice (some ⟨b, o, none⟩) n cap)]) rfl rfl) (by decide) ?_
 refine GL.step (Stp.callR (vs := [(.agg #[(.int .i64 W), (.int .i64 H), (.slice (some ⟨b, o, none⟩) n cap)])]) rfl rfl T.own41 (by decide) (fun wc hw => copied W H b o n cap xs wc hx h0 hb (hw.rd hr (fun x => x)))) (fun xq3 hq4 => ?_)
 refine GL.step (Stp.alloc T.zr43 (by decide)) (fun bq5 _ => ?_)
 refine GL.step (Stp.st0 (cs' := [(.int .i64 W), (.int .i64 H), (.slice (some ⟨xq3.1, 0, none⟩) n xq3.2.1)]) rfl rfl rfl T.sz43 rfl rfl rfl) (fun _ _ => ?_)
 refine GL.nil (GE.thenN (GC.seq (GC.seq ?_)))
 refine GC.hp (L2 := [⟨bq5, [(.int .i64 W), (.int .i64 H), (.slice (some ⟨xq3.1, 0, none⟩) n xq3.2.1)], 43, true⟩, ⟨xq3.1, (zpL f xs ys 0).map u32 ++ xq3.2.2, 28, true⟩, ⟨bq2, [(.int .i64 0), (.int .i64 0), (.slice none 0 0)], 43, true⟩, ⟨bq1, [(.int .i64 W), (.int .i64 H), (.slice (some ⟨b, o, none⟩) n cap)], 43, true⟩, ⟨bp, [(.int .i64 sp), (.slice (some ⟨b2, o2, none⟩) nq c2)], 25, false⟩, ⟨bf, [(.func (.func fid) #[] #[])], 97, false⟩]) (fun w h => by rw [zpL_zero]; exact h) ?_
 refine GC.region ?_
 refine GL.val (v := (.pointer (some ⟨bp, 1, none⟩))) (Ex.cast (Ex.fieldAddr rfl Try.underlying25 rfl T.sz23 (by decide)) rfl) (by decide) ?_
 refine GL.val (Ex.load rfl T.ag23 (i := 4) rfl rfl) (by decide) ?_
 refine GL.mv rfl (by decide) ?_
 refine GL.val (v := (.pointer (some ⟨b2, o2 + i * 3, none⟩))) (Ex.cast (Ex.indexAddr rfl rfl Try.underlying23 T.sz43 (by omega) (by omega)) (by simp)) (by decide) ?_
 refine GL.val (v := (.pointer (some ⟨b2, o2 + i * 3 + 2, none⟩))) (Ex.cast (Ex.fieldAddr rfl Try.underlying43 rfl T.sz41 (by decide)) rfl) (by decide) ?_
 refine GL.val (v := (.slice (some ⟨b4, o4, none⟩) n ((pAt qs i).cap))) (Ex.loadO rfl T.ag41 (by have h := Pns.cell (i := i) (j := 2) (v := .slice (pAt qs i).ad (pAt qs i).n (pAt qs i).cap) hqs hi (by decide) rfl; rw [had, hqn] at h; exact h) (fun x => x)) (by decide) ?_
 refine GL.val (v := (.int .i64 ((n : Int)))) (Ex.len rfl Try.underlying41) (by decide) ?_
 refine GL.mv rfl (by decide) ?_
 refine GL.nil (GE.thenN (GC.block ?_))
 refine GC.loop (σ := Nat) (fun k => k ≤ n) (fun k => [(2, (.pointer (some ⟨bp, 0, none⟩))), (3, (.pointer (some ⟨bf, 0, none⟩))), (5, (.pointer (some ⟨bq1, 0, none⟩))), (6, (.pointer (some ⟨bq2, 0, none⟩))), (7, (.int .i64 0)), (8, (.pointer (some ⟨bq5, 0, none⟩))), (18, (.slice (some ⟨b4, o4, none⟩) n ((pAt qs i).cap))), (19, (.int .i64 ((n : Int)))), (20, (.int .i64 (((k : Nat) : Int))))]) (fun k => [⟨bq5, [(.int .i64 W), (.int .i64 H), (.slice (some ⟨xq3.1, 0, none⟩) n xq3.2.1)], 43, true⟩, ⟨xq3.1, (zpL f xs ys k).map u32 ++ xq3.2.2, 28, true⟩, ⟨bq2, [(.int .i64 0), (.int .i64 0), (.slice none 0 0)], 43, true⟩, ⟨bq1, [(.int .i64 W), (.int .i64 H), (.slice (some ⟨b, o, none⟩) n cap)], 43, true⟩, ⟨bp, [(.int .i64 sp), (.slice (some ⟨b2, o2, none⟩) nq c2)], 25, false⟩, ⟨bf, [(.func (.func fid) #[] #[])], 97, false⟩]) (fun k => n - k) (0) (Nat.zero_le _) ((sub_cons rfl ((sub_cons rfl ((sub_cons rfl ((sub_cons rfl ((sub_cons rfl ((sub_cons rfl ((sub_cons rfl ((sub_cons rfl ((sub_cons rfl ((sub_nil _)))))))))))))))))))) (ulC (ulC (ulC (ulC (ulC (ulC ulN)))))) (fun k hp => ?_)
 refine GC.seq (GC.region ?_)
 refine GL.val (v := (.bool (decide ((((k : Nat) : Int)) < ((n : Int)))))) (Ex.lss rfl rfl) (by decide) ?_
 refine GL.nil (GE.thenN (GC.seq ?_))
 refine GC.cond rfl (fun hq6 => ?_) (fun hq6 => ?_)
 ·replace hq6 := of_decide_eq_true hq6
  refine GC.skip (GE.thenN (GC.seq (GC.block (GC.seq (GC.region ?_)))))
  refine GL.mv rfl (by decide) ?_
  refine GL.val (v := (.pointer (some ⟨b4, o4 + k, none⟩))) (Ex.cast (Ex.indexAddr rfl rfl Try.underlying41 T.sz28 (by omega) (by omega)) (by simp)) (by decide) ?_
  refine GL.val (v := (.int .u32 ((ys.getD k 0)))) (Ex.loadO rfl T.ag28 (Rd.at hr4 (by omega)) (fun x => x)) (by decide) ?_
  refine GL.sg rfl (by decide) ?_
  refine GL.sg rfl (by decide) ?_
  refine GL.nil (GE.thenN ?_)
  refine GC.drawP [⟨bq5, [(.int .i64 W), (.int .i64 H), (.slice (some ⟨xq3.1, 0, none⟩) n xq3.2.1)], 43, true⟩, ⟨bq2, [(.int .i64 0), (.int .i64 0), (.slice none 0 0)], 43, true⟩, ⟨bq1, [(.int .i64 W), (.int .i64 H), (.slice (some ⟨b, o, none⟩) n cap)], 43, true⟩, ⟨bp, [(.int .i64 sp), (.slice (some ⟨b2, o2, none⟩) nq c2)], 25, false⟩, ⟨bf, [(.func (.func fid) #[] #[])], 97, false⟩] T.mixed (by kernel_rfl) (by kernel_rfl) (fuel := 12) rfl rfl ?_
  refine GH.tk 0 (v := (.pointer (some ⟨bq5, 2, none⟩))) rfl (by kernel_rfl) (fun _ _ _ h => h) (Ex.cast (Ex.fieldAddr rfl Try.underlying43 rfl T.sz41 (by decide)) rfl) (ulC (ulS (ulC (ulC (ulC (ulC ulN)))))) (by decide) ?_
  refine GH.tk 1 (v := (.slice (some ⟨xq3.1, 0, none⟩) n xq3.2.1)) rfl (by kernel_rfl) (fun _ _ _ h => h) (Ex.load rfl T.ag41 (i := 0) rfl rfl) (ulC (ulS (ulC (ulC (ulC (ulC ulN)))))) (by decide) ?_
  refine GH.tk 2 (v := (.int .i64 (((k : Nat) : Int)))) rfl (by kernel_rfl) (fun _ _ _ h => h) (Ex.move rfl) (ulC (ulS (ulC (ulC (ulC (ulC ulN)))))) (by decide) ?_
  refine GH.tk 3 (v := (.func (.func fid) #[] #[])) rfl (by kernel_rfl) (fun _ _ _ h => h) (Ex.load rfl T.ag97 (i := 4) rfl rfl) (ulC (ulS (ulC (ulC (ulC (ulC ulN)))))) (by decide) ?_
  refine GH.tk 4 (v := (.pointer (some ⟨bq1, 2, none⟩))) rfl (by kernel_rfl) (fun _ _ _ h => h) (Ex.cast (Ex.fieldAddr rfl Try.underlying43 rfl T.sz41 (by decide)) rfl) (ulC (ulS (ulC (ulC (ulC (ulC ulN)))))) (by decide) ?_
  refine GH.tk 5 (v := (.slice (some ⟨b, o, none⟩) n cap)) rfl (by kernel_rfl) (fun _ _ _ h => h) (Ex.load rfl T.ag41 (i := 2) rfl rfl) (ulC (ulS (ulC (ulC (ulC (ulC ulN)))))) (by decide) ?_
  refine GH.tk 6 (v := (.int .i64 (((k : Nat) : Int)))) rfl (by kernel_rfl) (fun _ _ _ h => h) (Ex.move rfl) (ulC (ulS (ulC (ulC (ulC (ulC ulN)))))) (by decide) ?_
  refine GH.tk 7 (v := (.pointer (some ⟨b, o + k, none⟩))) rfl (by kernel_rfl) (fun _ _ _ h => h) (Ex.cast (Ex.indexAddr rfl rfl Try.underlying41 T.sz28 (by omega) (by omega)) (by simp)) (ulC (ulS (ulC (ulC (ulC (ulC ulN)))))) (by decide) ?_
  refine GH.tk 8 (v := (.int .u32 ((xs.getD k 0)))) rfl (by kernel_rfl) (fun _ _ _ h => h) (Ex.loadO rfl T.ag28 (Rd.at hr (by omega)) (fun x => x)) (ulC (ulS (ulC (ulC (ulC (ulC ulN)))))) (by decide) ?_
  refine GH.tk 9 (v := (.int .u32 ((ys.getD k 0)))) rfl (by kernel_rfl) (fun _ _ _ h => h) (Ex.move rfl) (ulC (ulS (ulC (ulC (ulC (ulC ulN)))))) (by decide) ?_
  refine GH.one 10 rfl (by kernel_rfl) (Stp.callR (vs := [(.int .u32 ((xs.getD k 0))), (.int .u32 ((ys.getD k 0)))]) rfl rfl hf.1 (by decide) (fun wc hw => hf.2 _ (getD_mem (by omega)) _ (getD_mem (by omega)) wc hw.1)) (fun _ => (ulC (ulS (ulC (ulC (ulC (ulC ulN))))))) (fun xq7 hq8 => ?_)
  refine GH.tk 11 (v := (.pointer (some ⟨xq3.1, k, none⟩))) rfl (by kernel_rfl) (fun _ _ _ h => h) (Ex.cast (Ex.indexAddr rfl rfl Try.underlying41 T.sz28 (by omega) (by omega)) (by simp)) (ulC (ulS (ulC (ulC (ulC (ulC ulN)))))) (by decide) ?_
  refine GH.done (by kernel_rfl) ?_
  refine GE.thenN ?_
  refine GE.tail rfl (Stp.storeL (i := 1) (cs := (zpL f xs ys k).map u32 ++ xq3.2.2) (vs := [(.int .u32 ((f (xs.getD k 0) (ys.getD k 0))))]) (o := k) (L1 := [⟨bq5, [(.int .i64 W), (.int .i64 H), (.slice (some ⟨xq3.1, 0, none⟩) n xq3.2.1)], 43, true⟩, ⟨xq3.1, (zpL f xs ys (k + 1)).map u32 ++ xq3.2.2, 28, true⟩, ⟨bq2, [(.int .i64 0), (.int .i64 0), (.slice none 0 0)], 43, true⟩, ⟨bq1, [(.int .i64 W), (.int .i64 H), (.slice (some ⟨b, o, none⟩) n cap)], 43, true⟩, ⟨bp, [(.int .i64 sp), (.slice (some ⟨b2, o2, none⟩) nq c2)], 25, false⟩, ⟨bf, [(.func (.func fid) #[] #[])], 97, false⟩]) rfl rfl rfl T.sz28 rfl (Nat.ble_eq_true_of_le (by rw [List.length_append, List.length_map, zpL_len]; simp; omega)) rfl (by rw [set_st _ (by rw [zpL_len]; omega), zpL_step _ _ _ _ (by omega)]; rfl)) (fun _ _ => ?_)
  refine GE.blockN (GE.thenN (GC.region ?_))
  refine GL.val (v := (.int .i64 (((k + 1 : Nat) : Int)))) (Ex.add rfl rfl (Z := ((k + 1 : Nat) : Int)) (by rw [w64 (by omega)]; rfl)) (by decide) ?_
  refine GL.mv rfl (by decide) ?_
  refine GL.nil (GE.thenN ?_)
  exact Head.mk (k + 1) (by omega) (by omega) ((sub_cons rfl ((sub_cons rfl ((sub_cons rfl ((sub_cons rfl ((sub_cons rfl ((sub_cons rfl ((sub_cons rfl ((sub_cons rfl ((sub_cons rfl ((sub_nil _)))))))))))))))))))) (ulC (ulC (ulC (ulC (ulC (ulC ulN))))))
 ·replace hq6 := of_decide_eq_false hq6
  refine GC.exit (GE.thenE (GE.thenE (GE.blockE (GE.thenN (GC.seq ?_)))))
  rw [show k = n from by omega, ← hx, zpL_full, hx]
  refine GC.region ?_
  refine GL.val (v := (.agg #[(.int .i64 W), (.int .i64 H), (.slice (some ⟨xq3.1, 0, none⟩) n xq3.2.1)])) (Ex.loadA rfl T.ag43 T.sz43 (i := 0) rfl (vs := [(.int .i64 W), (.int .i64 H), (.slice (some ⟨xq3.1, 0, none⟩) n xq3.2.1)]) rfl rfl) (by decide) ?_
  refine GL.step (Stp.st2 (cs' := [(.int .i64 W), (.int .i64 H), (.slice (some ⟨xq3.1, 0, none⟩) n xq3.2.1)]) rfl rfl rfl T.sz43 rfl rfl rfl) (fun _ _ => ?_)
  refine GL.sg rfl (by decide) ?_
  refine GL.nil (GE.thenN (GC.ret ?_))
  refine GC.ret2 rfl (Rv.cellA rfl T.ag43 T.sz43 (L := _) (i := 2) rfl (vs := [(.int .i64 W), (.int .i64 H), (.slice (some ⟨xq3.1, 0, none⟩) n xq3.2.1)]) rfl rfl) (Rv.tmp rfl) (fun wN HN => ?_)
  have hzl : (zpX f xs ys).length = n := by simp [zpX, hx]
  exact HN.ret xq3 ⟨by have h1 := hq4.1; simp only [List.length_append, List.length_map] at h1 ⊢; omega, hq4.2⟩ (by rw [hzl]) (ulS (ulC (ulS (ulS (ulS (ulS ulN)))))) rfl

theorem two_f2 (w : World) :
  Calls Try.prog 52 #[(.int .i64 2)] w (Ret w (fun _ : Unit => True) (fun _ => (.func (.func 85) #[] #[])) (fun _ => [])) := by
 refine enter (M := None) (L := []) (n := 14) (l := [(0, (.int .i64 2))]) Try.func52 rfl rfl (Args.cons rfl (Args.nil _)) (Hp.start _ _) ?_
 refine GC.seq (GC.region ?_)
 refine GL.sg rfl (by decide) ?_
 refine GL.nil (GE.thenN (GC.seq (GC.seq (GC.region ?_))))
 refine GL.mv rfl (by decide) ?_
 refine GL.nil (GE.thenN (GC.block (GC.seq (GC.region ?_))))
 refine GL.val (v := (.bool false)) (Ex.cast (Ex.eql rfl rfl) rfl) (by decide) ?_
 refine GL.sg rfl (by decide) ?_
 refine GL.nil (GE.thenN ?_)
 refine GC.cond rfl (fun hq1 => by cases hq1) (fun _ => ?_)
 refine GC.seq (GC.region ?_)
 refine GL.val (v := (.bool true)) (Ex.cast (Ex.eql rfl rfl) rfl) (by decide) ?_
 refine GL.sg rfl (by decide) ?_
 refine GL.nil (GE.thenN ?_)
 refine GC.cond rfl (fun _ => ?_) (fun hq2 => by cases hq2)
 refine GC.seq (GC.region ?_)
 refine GL.sg rfl (by decide) ?_
 refine GL.nil (GE.thenN (GC.ret (GE.blockR (GE.thenR ?_))))
 refine GC.ret1 rfl (Rv.tmp rfl) (fun wN HN => ?_)
 exact HN.ret () trivial rfl (List.nil_sublist _) rfl

theorem two_f4 (w : World) :
  Calls Try.prog 52 #[(.int .i64 4)] w (Ret w (fun _ : Unit => True) (fun _ => (.func (.func 87) #[] #[])) (fun _ => [])) := by
 refine enter (M := None) (L := []) (n := 14) (l := [(0, (.int .i64 4))]) Try.func52 rfl rfl (Args.cons rfl (Args.nil _)) (Hp.start _ _) ?_
 refine GC.seq (GC.region ?_)
 refine GL.sg rfl (by decide) ?_
 refine GL.nil (GE.thenN (GC.seq (GC.seq (GC.region ?_))))
 refine GL.mv rfl (by decide) ?_
 refine GL.nil (GE.thenN (GC.block (GC.seq (GC.region ?_))))
 refine GL.val (v := (.bool false)) (Ex.cast (Ex.eql rfl rfl) rfl) (by decide) ?_
 refine GL.sg rfl (by decide) ?_
 refine GL.nil (GE.thenN ?_)
 refine GC.cond rfl (fun hq1 => by cases hq1) (fun _ => ?_)
 refine GC.seq (GC.region ?_)
 refine GL.val (v := (.bool false)) (Ex.cast (Ex.eql rfl rfl) rfl) (by decide) ?_
 refine GL.sg rfl (by decide) ?_
 refine GL.nil (GE.thenN ?_)
 refine GC.cond rfl (fun hq2 => by cases hq2) (fun _ => ?_)
 refine GC.seq (GC.region ?_)
 refine GL.val (v := (.bool false)) (Ex.cast (Ex.eql rfl rfl) rfl) (by decide) ?_
 refine GL.sg rfl (by decide) ?_
 refine GL.nil (GE.thenN ?_)
 refine GC.cond rfl (fun hq3 => by cases hq3) (fun _ => ?_)
 refine GC.seq (GC.region ?_)
 refine GL.val (v := (.bool true)) (Ex.cast (Ex.eql rfl rfl) rfl) (by decide) ?_
 refine GL.sg rfl (by decide) ?_
 refine GL.nil (GE.thenN ?_)
 refine GC.cond rfl (fun _ => ?_) (fun hq4 => by cases hq4)
 refine GC.seq (GC.region ?_)
 refine GL.sg rfl (by decide) ?_
 refine GL.nil (GE.thenN (GC.ret (GE.blockR (GE.thenR ?_))))
 refine GC.ret1 rfl (Rv.tmp rfl) (fun wN HN => ?_)
 exact HN.ret () trivial rfl (List.nil_sublist _) rfl

theorem two_f5 (w : World) :
  Calls Try.prog 52 #[(.int .i64 5)] w (Ret w (fun _ : Unit => True) (fun _ => (.func (.func 88) #[] #[])) (fun _ => [])) := by
 refine enter (M := None) (L := []) (n := 14) (l := [(0, (.int .i64 5))]) Try.func52 rfl rfl (Args.cons rfl (Args.nil _)) (Hp.start _ _) ?_
 refine GC.seq (GC.region ?_)
 refine GL.sg rfl (by decide) ?_
 refine GL.nil (GE.thenN (GC.seq (GC.seq (GC.region ?_))))
 refine GL.mv rfl (by decide) ?_
 refine GL.nil (GE.thenN (GC.block (GC.seq (GC.region ?_))))
 refine GL.val (v := (.bool false)) (Ex.cast (Ex.eql rfl rfl) rfl) (by decide) ?_
 refine GL.sg rfl (by decide) ?_
 refine GL.nil (GE.thenN ?_)
 refine GC.cond rfl (fun hq1 => by cases hq1) (fun _ => ?_)
 refine GC.seq (GC.region ?_)
 refine GL.val (v := (.bool false)) (Ex.cast (Ex.eql rfl rfl) rfl) (by decide) ?_
 refine GL.sg rfl (by decide) ?_
 refine GL.nil (GE.thenN ?_)
 refine GC.cond rfl (fun hq2 => by cases hq2) (fun _ => ?_)
 refine GC.seq (GC.region ?_)
 refine GL.val (v := (.bool false)) (Ex.cast (Ex.eql rfl rfl) rfl) (by decide) ?_
 refine GL.sg rfl (by decide) ?_
 refine GL.nil (GE.thenN ?_)
 refine GC.cond rfl (fun hq3 => by cases hq3) (fun _ => ?_)
 refine GC.seq (GC.region ?_)
 refine GL.val (v := (.bool false)) (Ex.cast (Ex.eql rfl rfl) rfl) (by decide) ?_
 refine GL.sg rfl (by decide) ?_
 refine GL.nil (GE.thenN ?_)
 refine GC.cond rfl (fun hq4 => by cases hq4) (fun _ => ?_)
 refine GC.seq (GC.region ?_)
 refine GL.val (v := (.bool true)) (Ex.cast (Ex.eql rfl rfl) rfl) (by decide) ?_
 refine GL.sg rfl (by decide) ?_
 refine GL.nil (GE.thenN ?_)
 refine GC.cond rfl (fun _ => ?_) (fun hq5 => by cases hq5)
 refine GC.seq (GC.region ?_)
 refine GL.sg rfl (by decide) ?_
 refine GL.nil (GE.thenN (GC.ret (GE.blockR (GE.thenR ?_))))
 refine GC.ret1 rfl (Rv.tmp rfl) (fun wN HN => ?_)
 exact HN.ret () trivial rfl (List.nil_sublist _) rfl

theorem both_ok (sp : Int) (b o n cap b2 o2 c2 : Nat) (ps qs : List Pn) (W H : Nat) (w : World) (hps : Pns w b o ps) (hn : n = ps.length) (hok : OkPic sp ps W H) (hqs : Pns w b2 o2 qs) (hq2 : n = qs.length) (hok2 : OkPic sp qs W H) :
  Calls Try.prog 51 #[(.agg #[(.int .i64 sp), (.slice (some ⟨b, o, none⟩) n cap)]), (.agg #[(.int .i64 sp), (.slice (some ⟨b2, o2, none⟩) n c2)])] w (Ret w (fun _ : Unit => True) (fun _ => (.int .i64 0)) (fun _ => [])) := by
 refine enter (M := None) (L := []) (n := 13) (l := [(0, (.agg #[(.int .i64 sp), (.slice (some ⟨b, o, none⟩) n cap)])), (1, (.agg #[(.int .i64 sp), (.slice (some ⟨b2, o2, none⟩) n c2)]))]) Try.func51 rfl rfl (Args.cons rfl (Args.cons rfl (Args.nil _))) (Hp.start _ _) ?_
 refine GC.seq (GC.region ?_)
 refine GL.step (Stp.box (cs := [(.int .i64 sp), (.slice (some ⟨b, o, none⟩) n cap)]) rfl rfl (by decide)) (fun bq1 _ => ?_)
 refine GL.step (Stp.box (cs := [(.int .i64 sp), (.slice (some ⟨b2, o2, none⟩) n c2)]) rfl rfl (by decide)) (fun bq2 _ => ?_)
 refine GL.sg rfl (by decide) ?_
 refine GL.nil (GE.thenN (GC.seq (GC.seq (GC.region ?_))))
 refine GL.val (v := (.agg #[(.int .i64 sp), (.slice (some ⟨b, o, none⟩) n cap)])) (Ex.loadA rfl T.ag25 T.sz25 (i := 1) rfl (vs := [(.int .i64 sp), (.slice (some ⟨b, o, none⟩) n cap)]) rfl rfl) (by decide) ?_
 refine GL.step (Stp.callR (σ := Unit) (p := fun rz => True) (v := fun rz => (.int .i64 0)) (N := fun rz => []) (vs := [(.agg #[(.int .i64 sp), (.slice (some ⟨b, o, none⟩) n cap)])]) rfl rfl T.own9 (by decide) (fun wc hw => (by have h := chk_p sp b o n cap ps wc (hps.later hw.1) hn (by have := hok.n4; omega); rw [hok.chk] at h; exact h))) (fun xq3 hq4 => ?_)
 refine GL.sg rfl (by decide) ?_
 refine GL.nil (GE.thenN (GC.seq (GC.region ?_)))
 refine GL.mv rfl (by decide) ?_
 refine GL.val (v := (.bool false)) (Ex.cast (Ex.neq rfl rfl) rfl) (by decide) ?_
 refine GL.nil (GE.thenN ?_)
 refine GC.cond rfl (fun hq5 => by cases hq5) (fun _ => ?_)
 refine GC.skip (GE.thenN (GC.seq (GC.region ?_)))
 refine GL.val (v := (.agg #[(.int .i64 sp), (.slice (some ⟨b2, o2, none⟩) n c2)])) (Ex.loadA rfl T.ag25 T.sz25 (i := 0) rfl (vs := [(.int .i64 sp), (.slice (some ⟨b2, o2, none⟩) n c2)]) rfl rfl) (by decide) ?_
 refine GL.step (Stp.callR (σ := Unit) (p := fun rz => True) (v := fun rz => (.int .i64 0)) (N := fun rz => []) (vs := [(.agg #[(.int .i64 sp), (.slice (some ⟨b2, o2, none⟩) n c2)])]) rfl rfl T.own9 (by decide) (fun wc hw => (by have h := chk_p sp b2 o2 n c2 qs wc (hqs.later hw.1) hq2 (by have := hok.n4; omega); rw [hok2.chk] at h; exact h))) (fun xq6 hq7 => ?_)
 refine GL.sg rfl (by decide) ?_
 refine GL.nil (GE.thenN (GC.ret ?_))
 refine GC.ret1 rfl (Rv.tmp rfl) (fun wN HN => ?_)
 exact HN.ret () trivial rfl (List.nil_sublist _) rfl

theorem two_ok (kind sp : Int) (b o n cap b2 o2 c2 : Nat) (ps qs : List Pn) (W H : Nat) (fid : FuncId) (f : Int → Int → Int) (w : World) (hps : Pns w b o ps) (hn : n = ps.length) (hok : OkPic sp ps W H) (hqs : Pns w b2 o2 qs) (hq2 : n = qs.length) (hok2 : OkPic sp qs W H) (h2 : ∀ w', Calls Try.prog 52 #[.int .i64 kind] w' (Ret w' (fun _ : Unit => True) (fun _ => (.func (.func fid) #[] #[])) (fun _ => []))) (hf : ∀ i, i < n → FnS2 Try.prog w fid (pAt ps i).xs (pAt qs i).xs f) :
  Calls Try.prog 15 #[(.int .i64 kind), (.agg #[(.int .i64 sp), (.slice (some ⟨b, o, none⟩) n cap)]), (.agg #[(.int .i64 sp), (.slice (some ⟨b2, o2, none⟩) n c2)])] w (Ret w (fun r : Ac => r.qs ≠ [] ∧ r.ds = ((List.range n).map (twG f ps qs)) ∧ r.Ok ∧ ∀ q ∈ r.qs, q.Ok) (fun r => .tuple #[(.agg #[(.int .i64 sp), (.slice r.ad r.n r.cp)]), .int .i64 0]) (fun r => r.blks 43 28)) := by
 have hn0 := hok.n0
 have hm0 := hok2.n0
 refine enter (M := None) (L := []) (n := 70) (l := [(0, (.int .i64 kind)), (1, (.agg #[(.int .i64 sp), (.slice (some ⟨b, o, none⟩) n cap)])), (2, (.agg #[(.int .i64 sp), (.slice (some ⟨b2, o2, none⟩) n c2)]))]) Try.func15 rfl rfl (Args.cons rfl (Args.cons rfl (Args.cons rfl (Args.nil _)))) (Hp.start _ _) ?_
 refine GC.seq (GC.region ?_)
 refine GL.step (Stp.box (cs := [(.int .i64 sp), (.slice (some ⟨b, o, none⟩) n cap)]) rfl rfl (by decide)) (fun bq1 _ => ?_)
 refine GL.step (Stp.box (cs := [(.int .i64 sp), (.slice (some ⟨b2, o2, none⟩) n c2)]) rfl rfl (by decide)) (fun bq2 _ => ?_)
 refine GL.step (Stp.alloc T.zr25 (by decide)) (fun bq3 _ => ?_)
 refine GL.sg rfl (by decide) ?_
 refine GL.nil (GE.thenN (GC.seq (GC.seq (GC.region ?_))))
 refine GL.val (v := (.agg #[(.int .i64 sp), (.slice (some ⟨b, o, none⟩) n cap)])) (Ex.loadA rfl T.ag25 T.sz25 (i := 2) rfl (vs := [(.int .i64 sp), (.slice (some ⟨b, o, none⟩) n cap)]) rfl rfl) (by decide) ?_
 refine GL.val (v := (.agg #[(.int .i64 sp), (.slice (some ⟨b2, o2, none⟩) n c2)])) (Ex.loadA rfl T.ag25 T.sz25 (i := 1) rfl (vs := [(.int .i64 sp), (.slice (some ⟨b2, o2, none⟩) n c2)]) rfl rfl) (by decide) ?_
 refine GL.step (Stp.callR (vs := [(.agg #[(.int .i64 sp), (.slice (some ⟨b, o, none⟩) n cap)]), (.agg #[(.int .i64 sp), (.slice (some ⟨b2, o2, none⟩) n c2)])]) rfl rfl T.own51 (by decide) (fun wc hw => both_ok sp b o n cap b2 o2 c2 ps qs W H wc (hps.later hw.1) hn hok (hqs.later hw.1) hq2 hok2)) (fun xq4 hq5 => ?_)
 refine GL.sg rfl (by decide) ?_
 refine GL.nil (GE.thenN (GC.seq (GC.region ?_)))
 refine GL.mv rfl (by decide) ?_
 refine GL.val (v := (.bool false)) (Ex.cast (Ex.neq rfl rfl) rfl) (by decide) ?_
 refine GL.nil (GE.thenN ?_)
 refine GC.cond rfl (fun hq6 => by cases hq6) (fun _ => ?_)
 refine GC.skip (GE.thenN (GC.seq (GC.region ?_)))
 refine GL.mv rfl (by decide) ?_
 refine GL.step (Stp.callR (vs := [(.int .i64 kind)]) rfl rfl T.own52 (by decide) (fun wc hw => h2 wc)) (fun xq7 hq8 => ?_)
 refine GL.step (Stp.alloc T.zr97 (by decide)) (fun bq9 _ => ?_)
 refine GL.step (Stp.st0 (cs' := [(.func (.func fid) #[] #[])]) rfl rfl rfl T.sz97 rfl rfl rfl) (fun _ _ => ?_)
 refine GL.nil (GE.thenN (GC.seq (GC.block (GC.seq (GC.region ?_)))))
 refine GL.val (Ex.load rfl T.ag97 (i := 0) rfl rfl) (by decide) ?_
 refine GL.val (v := (.bool false)) (Ex.eqNilF rfl rfl Try.underlying97) (by decide) ?_
 refine GL.sg rfl (by decide) ?_
 refine GL.nil (GE.thenN ?_)
 refine GC.cond rfl (fun hq10 => by cases hq10) (fun _ => ?_)
 refine GC.seq ?_
 refine GC.draw [⟨bq9, [(.func (.func fid) #[] #[])], 97, true⟩, ⟨bq3, [(.int .i64 0), (.slice none 0 0)], 25, true⟩, ⟨bq2, [(.int .i64 sp), (.slice (some ⟨b2, o2, none⟩) n c2)], 25, true⟩, ⟨bq1, [(.int .i64 sp), (.slice (some ⟨b, o, none⟩) n cap)], 25, true⟩] T.mixed (fuel := 34) rfl rfl ?_
 refine GH.tk 0 (v := (.pointer (some ⟨bq1, 1, none⟩))) rfl (by kernel_rfl) (fun _ _ _ h => h) (Ex.cast (Ex.fieldAddr rfl Try.underlying25 rfl T.sz23 (by decide)) rfl) (ulC (ulC (ulC (ulC ulN)))) (by decide) ?_
 refine GH.tk 1 (v := (.slice (some ⟨b, o, none⟩) n cap)) rfl (by kernel_rfl) (fun _ _ _ h => h) (Ex.load rfl T.ag23 (i := 3) rfl rfl) (ulC (ulC (ulC (ulC ulN)))) (by decide) ?_
 refine GH.tk 2 (v := (.int .i64 ((n : Int)))) rfl (by kernel_rfl) (fun _ _ _ h => h) (Ex.len rfl Try.underlying23) (ulC (ulC (ulC (ulC ulN)))) (by decide) ?_
 refine GH.tk 3 (v := (.pointer (some ⟨bq2, 1, none⟩))) rfl (by kernel_rfl) (fun _ _ _ h => h) (Ex.cast (Ex.fieldAddr rfl Try.underlying25 rfl T.sz23 (by decide)) rfl) (ulC (ulC (ulC (ulC ulN)))) (by decide) ?_
 refine GH.tk 4 (v := (.slice (some ⟨b2, o2, none⟩) n c2)) rfl (by kernel_rfl) (fun _ _ _ h => h) (Ex.load rfl T.ag23 (i := 2) rfl rfl) (ulC (ulC (ulC (ulC ulN)))) (by decide) ?_
 refine GH.tk 5 (v := (.int .i64 ((n : Int)))) rfl (by kernel_rfl) (fun _ _ _ h => h) (Ex.len rfl Try.underlying23) (ulC (ulC (ulC (ulC ulN)))) (by decide) ?_
 refine GH.tk 6 (v := (.bool false)) rfl (by kernel_rfl) (fun _ _ _ h => h) (Ex.cast (Ex.neq rfl rfl) (congrArg Value.bool (decide_eq_false (by exact fun h => h rfl)))) (ulC (ulC (ulC (ulC ulN)))) (by decide) ?_
 refine GH.tk 7 (v := (.bool false)) rfl (by kernel_rfl) (fun _ _ _ h => h) (Ex.move rfl) (ulC (ulC (ulC (ulC ulN)))) (by decide) ?_
 refine GH.takeG 8 (tj := 31) (v := (.pointer (some ⟨bq1, 1, none⟩))) rfl rfl rfl (by kernel_rfl) (by kernel_rfl) (by kernel_rfl) (fun _ _ _ h => h) (Ex.cast (Ex.fieldAddr rfl Try.underlying25 rfl T.sz23 (by decide)) rfl) (ulC (ulC (ulC (ulC ulN)))) (by decide) ?_
 refine GH.takeG 9 (tj := 31) (v := (.slice (some ⟨b, o, none⟩) n cap)) rfl rfl rfl (by kernel_rfl) (by kernel_rfl) (by kernel_rfl) (fun _ _ _ h => h) (Ex.load rfl T.ag23 (i := 3) rfl rfl) (ulC (ulC (ulC (ulC ulN)))) (by decide) ?_
 refine GH.takeG 10 (tj := 31) (v := (.pointer (some ⟨b, o, none⟩))) rfl rfl rfl (by kernel_rfl) (by kernel_rfl) (by kernel_rfl) (fun _ _ _ h => h) (Ex.cast (Ex.indexAddr rfl rfl Try.underlying23 T.sz43 (by omega) (by omega)) rfl) (ulC (ulC (ulC (ulC ulN)))) (by decide) ?_
 refine GH.takeG 11 (tj := 31) (v := (.pointer (some ⟨b, o, none⟩))) rfl rfl rfl (by kernel_rfl) (by kernel_rfl) (by kernel_rfl) (fun _ _ _ h => h) (Ex.cast (Ex.fieldAddr rfl Try.underlying43 rfl T.sz3 (by decide)) rfl) (ulC (ulC (ulC (ulC ulN)))) (by decide) ?_
 refine GH.takeG 12 (tj := 31) (v := (.int .i64 ((pAt ps 0).W))) rfl rfl rfl (by kernel_rfl) (by kernel_rfl) (by kernel_rfl) (fun _ _ _ h => h) (Ex.loadO rfl T.ag3 (Pns.cell (i := 0) (j := 0) hps (by omega) (by decide) rfl) (fun x => x)) (ulC (ulC (ulC (ulC ulN)))) (by decide) ?_
 refine GH.takeG 13 (tj := 31) (v := (.pointer (some ⟨bq2, 1, none⟩))) rfl rfl rfl (by kernel_rfl) (by kernel_rfl) (by kernel_rfl) (fun _ _ _ h => h) (Ex.cast (Ex.fieldAddr rfl Try.underlying25 rfl T.sz23 (by decide)) rfl) (ulC (ulC (ulC (ulC ulN)))) (by decide) ?_
 refine GH.takeG 14 (tj := 31) (v := (.slice (some ⟨b2, o2, none⟩) n c2)) rfl rfl rfl (by kernel_rfl) (by kernel_rfl) (by kernel_rfl) (fun _ _ _ h => h) (Ex.load rfl T.ag23 (i := 2) rfl rfl) (ulC (ulC (ulC (ulC ulN)))) (by decide) ?_
 refine GH.takeG 15 (tj := 31) (v := (.pointer (some ⟨b2, o2, none⟩))) rfl rfl rfl (by kernel_rfl) (by kernel_rfl) (by kernel_rfl) (fun _ _ _ h => h) (Ex.cast (Ex.indexAddr rfl rfl Try.underlying23 T.sz43 (by omega) (by omega)) rfl) (ulC (ulC (ulC (ulC ulN)))) (by decide) ?_
 refine GH.takeG 16 (tj := 31) (v := (.pointer (some ⟨b2, o2, none⟩))) rfl rfl rfl (by kernel_rfl) (by kernel_rfl) (by kernel_rfl) (fun _ _ _ h => h) (Ex.cast (Ex.fieldAddr rfl Try.underlying43 rfl T.sz3 (by decide)) rfl) (ulC (ulC (ulC (ulC ulN)))) (by decide) ?_
 refine GH.takeG 17 (tj := 31) (v := (.int .i64 ((pAt qs 0).W))) rfl rfl rfl (by kernel_rfl) (by kernel_rfl) (by kernel_rfl) (fun _ _ _ h => h) (Ex.loadO rfl T.ag3 (Pns.cell (i := 0) (j := 0) hqs (by omega) (by decide) rfl) (fun x => x)) (ulC (ulC (ulC (ulC ulN)))) (by decide) ?_
 refine GH.takeG 18 (tj := 31) (v := (.bool false)) rfl rfl rfl (by kernel_rfl) (by kernel_rfl) (by kernel_rfl) (fun _ _ _ h => h) (Ex.cast (Ex.neq rfl rfl) (congrArg Value.bool (decide_eq_false (by exact fun h => h (by rw [(hok.at hok.n0).1, (hok2.at hok2.n0).1]))))) (ulC (ulC (ulC (ulC ulN)))) (by decide) ?_
 refine GH.tk 19 (v := (.bool false)) rfl (by kernel_rfl) (fun _ _ _ h => h) (Ex.pickF rfl rfl) (ulC (ulC (ulC (ulC ulN)))) (by decide) ?_
 refine GH.tk 20 (v := (.bool false)) rfl (by kernel_rfl) (fun _ _ _ h => h) (Ex.move rfl) (ulC (ulC (ulC (ulC ulN)))) (by decide) ?_
 refine GH.takeG 21 (tj := 44) (v := (.pointer (some ⟨bq1, 1, none⟩))) rfl rfl rfl (by kernel_rfl) (by kernel_rfl) (by kernel_rfl) (fun _ _ _ h => h) (Ex.cast (Ex.fieldAddr rfl Try.underlying25 rfl T.sz23 (by decide)) rfl) (ulC (ulC (ulC (ulC ulN)))) (by decide) ?_
 refine GH.takeG 22 (tj := 44) (v := (.slice (some ⟨b, o, none⟩) n cap)) rfl rfl rfl (by kernel_rfl) (by kernel_rfl) (by kernel_rfl) (fun _ _ _ h => h) (Ex.load rfl T.ag23 (i := 3) rfl rfl) (ulC (ulC (ulC (ulC ulN)))) (by decide) ?_
 refine GH.takeG 23 (tj := 44) (v := (.pointer (some ⟨b, o, none⟩))) rfl rfl rfl (by kernel_rfl) (by kernel_rfl) (by kernel_rfl) (fun _ _ _ h => h) (Ex.cast (Ex.indexAddr rfl rfl Try.underlying23 T.sz43 (by omega) (by omega)) rfl) (ulC (ulC (ulC (ulC ulN)))) (by decide) ?_
 refine GH.takeG 24 (tj := 44) (v := (.pointer (some ⟨b, o + 1, none⟩))) rfl rfl rfl (by kernel_rfl) (by kernel_rfl) (by kernel_rfl) (fun _ _ _ h => h) (Ex.cast (Ex.fieldAddr rfl Try.underlying43 rfl T.sz3 (by decide)) rfl) (ulC (ulC (ulC (ulC ulN)))) (by decide) ?_
 refine GH.takeG 25 (tj := 44) (v := (.int .i64 ((pAt ps 0).H))) rfl rfl rfl (by kernel_rfl) (by kernel_rfl) (by kernel_rfl) (fun _ _ _ h => h) (Ex.loadO rfl T.ag3 (Pns.cell (i := 0) (j := 1) hps (by omega) (by decide) rfl) (fun x => x)) (ulC (ulC (ulC (ulC ulN)))) (by decide) ?_
 refine GH.takeG 26 (tj := 44) (v := (.pointer (some ⟨bq2, 1, none⟩))) rfl rfl rfl (by kernel_rfl) (by kernel_rfl) (by kernel_rfl) (fun _ _ _ h => h) (Ex.cast (Ex.fieldAddr rfl Try.underlying25 rfl T.sz23 (by decide)) rfl) (ulC (ulC (ulC (ulC ulN)))) (by decide) ?_
 refine GH.takeG 27 (tj := 44) (v := (.slice (some ⟨b2, o2, none⟩) n c2)) rfl rfl rfl (by kernel_rfl) (by kernel_rfl) (by kernel_rfl) (fun _ _ _ h => h) (Ex.load rfl T.ag23 (i := 2) rfl rfl) (ulC (ulC (ulC (ulC ulN)))) (by decide) ?_
 refine GH.takeG 28 (tj := 44) (v := (.pointer (some ⟨b2, o2, none⟩))) rfl rfl rfl (by kernel_rfl) (by kernel_rfl) (by kernel_rfl) (fun _ _ _ h => h) (Ex.cast (Ex.indexAddr rfl rfl Try.underlying23 T.sz43 (by omega) (by omega)) rfl) (ulC (ulC (ulC (ulC ulN)))) (by decide) ?_
 refine GH.takeG 29 (tj := 44) (v := (.pointer (some ⟨b2, o2 + 1, none⟩))) rfl rfl rfl (by kernel_rfl) (by kernel_rfl) (by kernel_rfl) (fun _ _ _ h => h) (Ex.cast (Ex.fieldAddr rfl Try.underlying43 rfl T.sz3 (by decide)) rfl) (ulC (ulC (ulC (ulC ulN)))) (by decide) ?_
 refine GH.takeG 30 (tj := 44) (v := (.int .i64 ((pAt qs 0).H))) rfl rfl rfl (by kernel_rfl) (by kernel_rfl) (by kernel_rfl) (fun _ _ _ h => h) (Ex.loadO rfl T.ag3 (Pns.cell (i := 0) (j := 1) hqs (by omega) (by decide) rfl) (fun x => x)) (ulC (ulC (ulC (ulC ulN)))) (by decide) ?_
 refine GH.takeG 31 (tj := 44) (v := (.bool false)) rfl rfl rfl (by kernel_rfl) (by kernel_rfl) (by kernel_rfl) (fun _ _ _ h => h) (Ex.cast (Ex.neq rfl rfl) (congrArg Value.bool (decide_eq_false (by exact fun h => h (by rw [(hok.at hok.n0).2.1, (hok2.at hok2.n0).2.1]))))) (ulC (ulC (ulC (ulC ulN)))) (by decide) ?_
 refine GH.tk 32 (v := (.bool false)) rfl (by kernel_rfl) (fun _ _ _ h => h) (Ex.pickF rfl rfl) (ulC (ulC (ulC (ulC ulN)))) (by decide) ?_
 refine GH.tk 33 (v := (.bool false)) rfl (by kernel_rfl) (fun _ _ _ h => h) (Ex.assign rfl) (ulC (ulC (ulC (ulC ulN)))) (by decide) ?_
 refine GH.done (by kernel_rfl) ?_
 refine GE.thenN ?_
 refine GC.cond rfl (fun hq11 => by cases hq11) (fun _ => ?_)
 refine GC.seq (GC.region ?_)
 refine GL.val (v := (.pointer (some ⟨bq1, 0, none⟩))) (Ex.cast (Ex.fieldAddr rfl Try.underlying25 rfl T.sz3 (by decide)) rfl) (by decide) ?_
 refine GL.val (Ex.load rfl T.ag3 (i := 3) rfl rfl) (by decide) ?_
 refine GL.val (v := (.pointer (some ⟨bq2, 0, none⟩))) (Ex.cast (Ex.fieldAddr rfl Try.underlying25 rfl T.sz3 (by decide)) rfl) (by decide) ?_
 refine GL.val (Ex.load rfl T.ag3 (i := 2) rfl rfl) (by decide) ?_
 refine GL.val (v := (.bool false)) (Ex.cast (Ex.neq rfl rfl) (congrArg Value.bool (decide_eq_false (by exact fun h => h rfl)))) (by decide) ?_
 refine GL.sg rfl (by decide) ?_
 refine GL.nil (GE.thenN ?_)
 refine GC.cond rfl (fun hq12 => by cases hq12) (fun _ => ?_)
 refine GC.skip (GE.blockN (GE.thenN (GC.seq (GC.region ?_))))
 refine GL.val (v := (.agg #[(.int .i64 sp), (.slice (some ⟨b, o, none⟩) n cap)])) (Ex.loadA rfl T.ag25 T.sz25 (i := 3) rfl (vs := [(.int .i64 sp), (.slice (some ⟨b, o, none⟩) n cap)]) rfl rfl) (by decide) ?_
 refine GL.val (v := (.func (.func 53) #[] #[(.pointer (some ⟨bq2, 0, none⟩)), (.pointer (some ⟨bq9, 0, none⟩))])) (Ex.func (cs := [(.pointer (some ⟨bq2, 0, none⟩)), (.pointer (some ⟨bq9, 0, none⟩))]) rfl (fun _ hF => hF.evals _ _ rfl)) (by decide) ?_
 refine GL.step (Stp.call (vs := [(.agg #[(.int .i64 sp), (.slice (some ⟨b, o, none⟩) n cap)]), (.func (.func 53) #[] #[(.pointer (some ⟨bq2, 0, none⟩)), (.pointer (some ⟨bq9, 0, none⟩))])]) rfl rfl T.own36 (by decide) (fun wc hw => (Ret.frm (L' := fun x => (⟨bq9, [(.func (.func fid) #[] #[])], 97, true⟩ :: ⟨bq3, [(.int .i64 0), (.slice none 0 0)], 25, true⟩ :: ⟨bq2, [(.int .i64 sp), (.slice (some ⟨b2, o2, none⟩) n c2)], 25, true⟩ :: ⟨bq1, [(.int .i64 sp), (.slice (some ⟨b, o, none⟩) n cap)], 25, true⟩ :: (x.blks 43 28 ++ []))) hw (every_ok sp b o n cap ps W H 53 #[.pointer (some ⟨bq2, 0, none⟩), .pointer (some ⟨bq9, 0, none⟩)] (twG f ps qs) wc (hps.later hw.1) hn hok ⟨T.own53, fun i hi w' hk' => by
  have hh := ((Has.cons (hw.hasOf (i := 2) rfl) (Has.cons (hw.hasOf (i := 0) rfl) (Has.nil _)) : Has wc [⟨bq2, [(.int .i64 sp), (.slice (some ⟨b2, o2, none⟩) n c2)], 25, false⟩, ⟨bq9, [(.func (.func fid) #[] #[])], 97, false⟩]).later hk')
  have hi2 : i < qs.length := by omega
  have hq0 := Nat.mul_pos (show 0 < W from hok.ok.1) (show 0 < H from hok.ok.2.1)
  have hA := hok.ok.2.2.2.2
  obtain ⟨b', o', e1, e2, e3⟩ := hok.samp (hps.later (hw.1.trans hk' (fun _ _ h => h))) hi
  obtain ⟨b4, o4, e4, e5, e6⟩ := hok2.samp (hqs.later (hw.1.trans hk' (fun _ _ h => h))) hi2
  rw [e1, (hok.at hi).2.2]
  exact two1 i bq2 bq9 sp b2 o2 n c2 qs (pAt ps i).W (pAt ps i).H b' o' (W * H) (pAt ps i).cap b4 o4 (pAt ps i).xs (pAt qs i).xs fid f w' hh e2 hq0 (by omega) e3 (hqs.later (hw.1.trans hk' (fun _ _ h => h))) hi2 (by omega) (by have := hok.n4; omega) e4 (hok2.at hi2).2.2 e5 e6 ((hf i (by omega)).later (hw.1.trans hk' (fun _ _ h => h)))⟩) (fun x w' _ h => by exact Hp.segsD (A := [x.blks 43 28, [⟨bq9, [(.func (.func fid) #[] #[])], 97, true⟩, ⟨bq3, [(.int .i64 0), (.slice none 0 0)], 25, true⟩, ⟨bq2, [(.int .i64 sp), (.slice (some ⟨b2, o2, none⟩) n c2)], 25, true⟩, ⟨bq1, [(.int .i64 sp), (.slice (some ⟨b, o, none⟩) n cap)], 25, true⟩]]) (idx := [1, 0]) 2 [] h rfl (by decide) rfl)))) (fun xq13 hq14 => ?_)
 refine GL.val (Ex.extract rfl rfl) (by decide) ?_
 refine GL.val (Ex.extract rfl rfl) (by decide) ?_
 refine GL.step (Stp.st1 (cs' := [(.int .i64 sp), (.slice xq13.ad xq13.n xq13.cp)]) rfl rfl rfl T.sz25 rfl rfl rfl) (fun _ _ => ?_)
 refine GL.sg rfl (by decide) ?_
 refine GL.nil (GE.thenN (GC.ret ?_))
 refine GC.ret2 rfl (Rv.cellA rfl T.ag25 T.sz25 (L := _) (i := 1) rfl (vs := [(.int .i64 sp), (.slice xq13.ad xq13.n xq13.cp)]) rfl rfl) (Rv.tmp rfl) (fun wN HN => ?_)
 exact HN.ret xq13 hq14 rfl (by rw [List.append_nil]; exact ((ulS (ulS (ulS (ulS ulR)))))) (Ac.blks_own _ _ _)

theorem triples1 (i W H : Nat) (p : Pn) (w : World) (hok : okP W H) (h : p.W = (W : Int) ∧ p.H = (H : Int) ∧ p.n = W * H) (hp : p.Ok w) :
  Calls Try.prog 77 #[(.int .i64 (((i : Nat) : Int))), (.agg #[(.int .i64 p.W), (.int .i64 p.H), (.slice p.ad p.n p.cap)])] w (RetE w p.d 28) := by
 refine enter (M := None) (L := []) (n := 8) (l := [(0, (.int .i64 (((i : Nat) : Int)))), (1, (.agg #[(.int .i64 p.W), (.int .i64 p.H), (.slice p.ad p.n p.cap)]))]) Try.func77 rfl rfl (Args.cons rfl (Args.cons rfl (Args.nil _))) (Hp.start _ _) ?_
 refine GC.seq (GC.region ?_)
 refine GL.step (Stp.box (cs := [(.int .i64 p.W), (.int .i64 p.H), (.slice p.ad p.n p.cap)]) rfl rfl (by decide)) (fun bq1 _ => ?_)
 refine GL.step (Stp.alloc T.zr43 (by decide)) (fun bq2 _ => ?_)
 refine GL.sg rfl (by decide) ?_
 refine GL.nil (GE.thenN (GC.seq (GC.region ?_)))
 refine GL.val (v := (.agg #[(.int .i64 p.W), (.int .i64 p.H), (.slice p.ad p.n p.cap)])) (Ex.loadA rfl T.ag43 T.sz43 (i := 1) rfl (vs := [(.int .i64 p.W), (.int .i64 p.H), (.slice p.ad p.n p.cap)]) rfl rfl) (by decide) ?_
 refine GL.step (Stp.callR (σ := Nat × Nat × List Value) (p := fun rz => (p.d.2.2.map u32 ++ rz.2.2).length = rz.2.1 * 1 ∧ rz.2.1 ≤ 9223372036854775807) (v := fun rz => (.agg #[(.int .i64 p.d.1), (.int .i64 p.d.2.1), (.slice (some ⟨rz.1, 0, none⟩) p.d.2.2.length rz.2.1)])) (N := fun rz => [⟨rz.1, p.d.2.2.map u32 ++ rz.2.2, 28, true⟩]) (vs := [(.agg #[(.int .i64 p.W), (.int .i64 p.H), (.slice p.ad p.n p.cap)])]) rfl rfl T.own41 (by decide) (fun wc hw => (by exact copied_p p W H wc hok h (hp.later hw.1)))) (fun xq3 hq4 => ?_)
 refine GL.step (Stp.st1 (cs' := [(.int .i64 p.d.1), (.int .i64 p.d.2.1), (.slice (some ⟨xq3.1, 0, none⟩) p.d.2.2.length xq3.2.1)]) rfl rfl rfl T.sz43 rfl rfl rfl) (fun _ _ => ?_)
 refine GL.sg rfl (by decide) ?_
 refine GL.nil (GE.thenN (GC.ret ?_))
 refine GC.ret2 rfl (Rv.cellA rfl T.ag43 T.sz43 (L := _) (i := 1) rfl (vs := [(.int .i64 p.d.1), (.int .i64 p.d.2.1), (.slice (some ⟨xq3.1, 0, none⟩) p.d.2.2.length xq3.2.1)]) rfl rfl) (Rv.tmp rfl) (fun wN HN => ?_)
 exact HN.ret xq3 hq4 rfl (ulC (ulS (ulS ulN))) rfl

end Go.Proofs.Ytiikkhbmhojbaaa.C
