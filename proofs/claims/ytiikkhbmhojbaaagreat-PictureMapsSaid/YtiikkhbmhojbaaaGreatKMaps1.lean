/- PictureMaps: what its code does, walked. -/
import Derived.Test.YtiikkhbmhojbaaaGreatT
import Derived.Test.YtiikkhbmhojbaaaGreatOp
import Derived.Test.YtiikkhbmhojbaaaGreatMp
namespace Go.Proofs.YtiikkhbmhojbaaaGreat.C
open Go Go.RowKit Sx
set_option linter.unusedVariables false
set_option maxRecDepth 100000
set_option maxHeartbeats 1000000
theorem size (pw ph : Int) (w : World) :
  Calls Tryz.prog 118 #[(.int .i64 pw), (.int .i64 ph)] w (Ret w (fun _ : Unit => True) (fun _ => .bool (sizeB pw ph)) (fun _ => [])) := by
 refine enter (M := None) (L := []) (n := 25) (l := [(0, (.int .i64 pw)), (1, (.int .i64 ph))]) Tryz.func118 rfl rfl (Args.cons rfl (Args.cons rfl (Args.nil _))) (Hp.start _ _) ?_
 refine GC.seq (GC.region ?_)
 refine GL.sg rfl (by decide) ?_
 refine GL.nil (GE.thenN (GC.seq (GC.region ?_)))
 refine GL.mv rfl (by decide) ?_
 by_cases hq1 : 1 ≤ pw
 ·refine GL.val (v := (.bool true)) (Ex.cast (Ex.geq rfl rfl) (congrArg Value.bool (decide_eq_true hq1))) (by decide) ?_
  refine GL.mv rfl (by decide) ?_
  refine GL.stepG (tj := 7) rfl rfl (Ex.wp (v := (.int .i64 ph)) (Ex.move rfl) (by decide)) (fun _ _ => ?_)
  by_cases hq2 : 1 ≤ ph
  ·refine GL.stepG (tj := 7) rfl rfl (Ex.wp (v := (.bool true)) (Ex.cast (Ex.geq rfl rfl) (congrArg Value.bool (decide_eq_true hq2))) (by decide)) (fun _ _ => ?_)
   refine GL.val (v := (.bool true)) (Ex.pickT rfl rfl) (by decide) ?_
   refine GL.mv rfl (by decide) ?_
   refine GL.stepG (tj := 11) rfl rfl (Ex.wp (v := (.int .i64 pw)) (Ex.move rfl) (by decide)) (fun _ _ => ?_)
   by_cases hq3 : pw ≤ 1024
   ·refine GL.stepG (tj := 11) rfl rfl (Ex.wp (v := (.bool true)) (Ex.cast (Ex.leq rfl rfl) (congrArg Value.bool (decide_eq_true hq3))) (by decide)) (fun _ _ => ?_)
    refine GL.val (v := (.bool true)) (Ex.pickT rfl rfl) (by decide) ?_
    refine GL.mv rfl (by decide) ?_
    refine GL.stepG (tj := 15) rfl rfl (Ex.wp (v := (.int .i64 ph)) (Ex.move rfl) (by decide)) (fun _ _ => ?_)
    by_cases hq4 : ph ≤ 1024
    ·have hm := mul_bd (w := pw) (h := ph) (by omega) (by omega) (by omega) (by omega)
     refine GL.stepG (tj := 15) rfl rfl (Ex.wp (v := (.bool true)) (Ex.cast (Ex.leq rfl rfl) (congrArg Value.bool (decide_eq_true hq4))) (by decide)) (fun _ _ => ?_)
     refine GL.val (v := (.bool true)) (Ex.pickT rfl rfl) (by decide) ?_
     refine GL.mv rfl (by decide) ?_
     refine GL.stepG (tj := 19) rfl rfl (Ex.wp (v := (.int .i64 pw)) (Ex.move rfl) (by decide)) (fun _ _ => ?_)
     refine GL.stepG (tj := 19) rfl rfl (Ex.wp (v := (.int .i64 ph)) (Ex.move rfl) (by decide)) (fun _ _ => ?_)
     refine GL.stepG (tj := 19) rfl rfl (Ex.wp (v := (.int .i64 (pw * ph))) (Ex.mul rfl rfl (Z := pw * ph) (w64 (by omega))) (by decide)) (fun _ _ => ?_)
     refine GL.stepG (tj := 19) rfl rfl (Ex.wp (v := (.bool (decide ((pw * ph) ≤ 65536)))) (Ex.leq rfl rfl) (by decide)) (fun _ _ => ?_)
     refine GL.val (v := (.bool (decide ((pw * ph) ≤ 65536)))) (Ex.pickT rfl rfl) (by decide) ?_
     refine GL.sg rfl (by decide) ?_
     refine GL.nil (GE.thenN (GC.ret ?_))
     refine GC.ret1 rfl (Rv.tmp rfl) (fun wN HN => ?_)
     exact HN.ret () trivial (by simp only [sizeB]; congr 1; apply decide_eq_decide.2; omega) (List.nil_sublist _) rfl
    ·refine GL.stepG (tj := 15) rfl rfl (Ex.wp (v := (.bool false)) (Ex.cast (Ex.leq rfl rfl) (congrArg Value.bool (decide_eq_false hq4))) (by decide)) (fun _ _ => ?_)
     refine GL.val (v := (.bool false)) (Ex.pickT rfl rfl) (by decide) ?_
     refine GL.mv rfl (by decide) ?_
     refine GL.skipG (tj := 19) rfl rfl rfl (by decide) ?_
     refine GL.skipG (tj := 19) rfl rfl rfl (by decide) ?_
     refine GL.skipG (tj := 19) rfl rfl rfl (by decide) ?_
     refine GL.skipG (tj := 19) rfl rfl rfl (by decide) ?_
     refine GL.val (v := (.bool false)) (Ex.pickF rfl rfl) (by decide) ?_
     refine GL.sg rfl (by decide) ?_
     refine GL.nil (GE.thenN (GC.ret ?_))
     refine GC.ret1 rfl (Rv.tmp rfl) (fun wN HN => ?_)
     exact HN.ret () trivial (by simp only [sizeB]; rw [decide_eq_false (by omega)]) (List.nil_sublist _) rfl
   ·refine GL.stepG (tj := 11) rfl rfl (Ex.wp (v := (.bool false)) (Ex.cast (Ex.leq rfl rfl) (congrArg Value.bool (decide_eq_false hq3))) (by decide)) (fun _ _ => ?_)
    refine GL.val (v := (.bool false)) (Ex.pickT rfl rfl) (by decide) ?_
    refine GL.mv rfl (by decide) ?_
    refine GL.skipG (tj := 15) rfl rfl rfl (by decide) ?_
    refine GL.skipG (tj := 15) rfl rfl rfl (by decide) ?_
    refine GL.val (v := (.bool false)) (Ex.pickF rfl rfl) (by decide) ?_
    refine GL.mv rfl (by decide) ?_
    refine GL.skipG (tj := 19) rfl rfl rfl (by decide) ?_
    refine GL.skipG (tj := 19) rfl rfl rfl (by decide) ?_
    refine GL.skipG (tj := 19) rfl rfl rfl (by decide) ?_
    refine GL.skipG (tj := 19) rfl rfl rfl (by decide) ?_
    refine GL.val (v := (.bool false)) (Ex.pickF rfl rfl) (by decide) ?_
    refine GL.sg rfl (by decide) ?_
    refine GL.nil (GE.thenN (GC.ret ?_))
    refine GC.ret1 rfl (Rv.tmp rfl) (fun wN HN => ?_)
    exact HN.ret () trivial (by simp only [sizeB]; rw [decide_eq_false (by omega)]) (List.nil_sublist _) rfl
  ·refine GL.stepG (tj := 7) rfl rfl (Ex.wp (v := (.bool false)) (Ex.cast (Ex.geq rfl rfl) (congrArg Value.bool (decide_eq_false hq2))) (by decide)) (fun _ _ => ?_)
   refine GL.val (v := (.bool false)) (Ex.pickT rfl rfl) (by decide) ?_
   refine GL.mv rfl (by decide) ?_
   refine GL.skipG (tj := 11) rfl rfl rfl (by decide) ?_
   refine GL.skipG (tj := 11) rfl rfl rfl (by decide) ?_
   refine GL.val (v := (.bool false)) (Ex.pickF rfl rfl) (by decide) ?_
   refine GL.mv rfl (by decide) ?_
   refine GL.skipG (tj := 15) rfl rfl rfl (by decide) ?_
   refine GL.skipG (tj := 15) rfl rfl rfl (by decide) ?_
   refine GL.val (v := (.bool false)) (Ex.pickF rfl rfl) (by decide) ?_
   refine GL.mv rfl (by decide) ?_
   refine GL.skipG (tj := 19) rfl rfl rfl (by decide) ?_
   refine GL.skipG (tj := 19) rfl rfl rfl (by decide) ?_
   refine GL.skipG (tj := 19) rfl rfl rfl (by decide) ?_
   refine GL.skipG (tj := 19) rfl rfl rfl (by decide) ?_
   refine GL.val (v := (.bool false)) (Ex.pickF rfl rfl) (by decide) ?_
   refine GL.sg rfl (by decide) ?_
   refine GL.nil (GE.thenN (GC.ret ?_))
   refine GC.ret1 rfl (Rv.tmp rfl) (fun wN HN => ?_)
   exact HN.ret () trivial (by simp only [sizeB]; rw [decide_eq_false (by omega)]) (List.nil_sublist _) rfl
 ·refine GL.val (v := (.bool false)) (Ex.cast (Ex.geq rfl rfl) (congrArg Value.bool (decide_eq_false hq1))) (by decide) ?_
  refine GL.mv rfl (by decide) ?_
  refine GL.skipG (tj := 7) rfl rfl rfl (by decide) ?_
  refine GL.skipG (tj := 7) rfl rfl rfl (by decide) ?_
  refine GL.val (v := (.bool false)) (Ex.pickF rfl rfl) (by decide) ?_
  refine GL.mv rfl (by decide) ?_
  refine GL.skipG (tj := 11) rfl rfl rfl (by decide) ?_
  refine GL.skipG (tj := 11) rfl rfl rfl (by decide) ?_
  refine GL.val (v := (.bool false)) (Ex.pickF rfl rfl) (by decide) ?_
  refine GL.mv rfl (by decide) ?_
  refine GL.skipG (tj := 15) rfl rfl rfl (by decide) ?_
  refine GL.skipG (tj := 15) rfl rfl rfl (by decide) ?_
  refine GL.val (v := (.bool false)) (Ex.pickF rfl rfl) (by decide) ?_
  refine GL.mv rfl (by decide) ?_
  refine GL.skipG (tj := 19) rfl rfl rfl (by decide) ?_
  refine GL.skipG (tj := 19) rfl rfl rfl (by decide) ?_
  refine GL.skipG (tj := 19) rfl rfl rfl (by decide) ?_
  refine GL.skipG (tj := 19) rfl rfl rfl (by decide) ?_
  refine GL.val (v := (.bool false)) (Ex.pickF rfl rfl) (by decide) ?_
  refine GL.sg rfl (by decide) ?_
  refine GL.nil (GE.thenN (GC.ret ?_))
  refine GC.ret1 rfl (Rv.tmp rfl) (fun wN HN => ?_)
  exact HN.ret () trivial (by simp only [sizeB]; rw [decide_eq_false (by omega)]) (List.nil_sublist _) rfl

theorem check (W H : Int) (ad : Option Addr) (n cap : Nat) (w : World) :
  Calls Tryz.prog 77 #[(.agg #[(.int .i64 W), (.int .i64 H), (.slice ad n cap)])] w (Ret w (fun _ : Unit => True) (fun _ => .int .i64 (chk W H n)) (fun _ => [])) := by
 refine enter (M := None) (L := []) (n := 20) (l := [(0, (.agg #[(.int .i64 W), (.int .i64 H), (.slice ad n cap)]))]) Tryz.func77 rfl rfl (Args.cons rfl (Args.nil _)) (Hp.start _ _) ?_
 refine GC.seq (GC.region ?_)
 refine GL.step (Stp.box (cs := [(.int .i64 W), (.int .i64 H), (.slice ad n cap)]) rfl rfl (by decide)) (fun bq1 _ => ?_)
 refine GL.sg rfl (by decide) ?_
 refine GL.nil (GE.thenN (GC.seq (GC.block (GC.seq (GC.region ?_)))))
 refine GL.val (v := (.pointer (some ⟨bq1, 0, none⟩))) (Ex.cast (Ex.fieldAddr rfl Tryz.underlying75 rfl T.sz3 (by decide)) rfl) (by decide) ?_
 refine GL.val (Ex.load rfl T.ag3 (i := 0) rfl rfl) (by decide) ?_
 refine GL.val (v := (.pointer (some ⟨bq1, 1, none⟩))) (Ex.cast (Ex.fieldAddr rfl Tryz.underlying75 rfl T.sz3 (by decide)) rfl) (by decide) ?_
 refine GL.val (Ex.load rfl T.ag3 (i := 0) rfl rfl) (by decide) ?_
 refine GL.step (Stp.callR (vs := [(.int .i64 W), (.int .i64 H)]) rfl rfl T.own118 (by decide) (fun wc hw => size W H wc)) (fun xq2 hq3 => ?_)
 refine GL.val (v := (.bool (!(sizeB W H)))) (Ex.not rfl) (by decide) ?_
 refine GL.sg rfl (by decide) ?_
 refine GL.nil (GE.thenN ?_)
 refine GC.cond rfl (fun hq4 => ?_) (fun hq4 => ?_)
 ·have hs : sizeB W H = false := by simpa using hq4
  refine GC.seq (GC.region ?_)
  refine GL.sg rfl (by decide) ?_
  refine GL.nil (GE.thenN (GC.ret (GE.blockR (GE.thenR ?_))))
  refine GC.ret1 rfl (Rv.tmp rfl) (fun wN HN => ?_)
  exact HN.ret () trivial (by simp [chk, *]) (List.nil_sublist _) rfl
 ·have hs : sizeB W H = true := by simpa using hq4
  refine GC.seq ?_
  have hm := sizeB_mul hs
  refine GC.region ?_
  refine GL.val (v := (.pointer (some ⟨bq1, 2, none⟩))) (Ex.cast (Ex.fieldAddr rfl Tryz.underlying75 rfl T.sz53 (by decide)) rfl) (by decide) ?_
  refine GL.val (Ex.load rfl T.ag53 (i := 0) rfl rfl) (by decide) ?_
  refine GL.val (v := (.int .i64 ((n : Int)))) (Ex.len rfl Tryz.underlying53) (by decide) ?_
  refine GL.val (v := (.pointer (some ⟨bq1, 0, none⟩))) (Ex.cast (Ex.fieldAddr rfl Tryz.underlying75 rfl T.sz3 (by decide)) rfl) (by decide) ?_
  refine GL.val (Ex.load rfl T.ag3 (i := 0) rfl rfl) (by decide) ?_
  refine GL.val (v := (.pointer (some ⟨bq1, 1, none⟩))) (Ex.cast (Ex.fieldAddr rfl Tryz.underlying75 rfl T.sz3 (by decide)) rfl) (by decide) ?_
  refine GL.val (Ex.load rfl T.ag3 (i := 0) rfl rfl) (by decide) ?_
  refine GL.val (v := (.int .i64 (W * H))) (Ex.mul rfl rfl (Z := W * H) (w64 (by omega))) (by decide) ?_
  refine GL.val (v := (.bool (decide (((n : Int)) ≠ (W * H))))) (Ex.neq rfl rfl) (by decide) ?_
  refine GL.sg rfl (by decide) ?_
  refine GL.nil (GE.thenN ?_)
  refine GC.cond rfl (fun hq5 => ?_) (fun hq5 => ?_)
  ·replace hq5 := of_decide_eq_true hq5
   refine GC.seq (GC.region ?_)
   refine GL.sg rfl (by decide) ?_
   refine GL.nil (GE.thenN (GC.ret (GE.blockR (GE.thenR ?_))))
   refine GC.ret1 rfl (Rv.tmp rfl) (fun wN HN => ?_)
   exact HN.ret () trivial (by simp [chk, *]) (List.nil_sublist _) rfl
  ·replace hq5 := of_decide_eq_false hq5
   refine GC.skip (GE.blockN (GE.thenN (GC.seq (GC.region ?_))))
   refine GL.sg rfl (by decide) ?_
   refine GL.nil (GE.thenN (GC.ret ?_))
   refine GC.ret1 rfl (Rv.tmp rfl) (fun wN HN => ?_)
   exact HN.ret () trivial (by simp [chk, *]) (List.nil_sublist _) rfl

theorem ref_size (pw ph : Int) (w : World) :
  Calls Tryz.prog 122 #[(.int .i64 pw), (.int .i64 ph)] w (Ret w (fun _ : Unit => True) (fun _ => .bool (sizeB pw ph)) (fun _ => [])) := by
 refine enter (M := None) (L := []) (n := 25) (l := [(0, (.int .i64 pw)), (1, (.int .i64 ph))]) Tryz.func122 rfl rfl (Args.cons rfl (Args.cons rfl (Args.nil _))) (Hp.start _ _) ?_
 refine GC.seq (GC.region ?_)
 refine GL.sg rfl (by decide) ?_
 refine GL.nil (GE.thenN (GC.seq (GC.region ?_)))
 refine GL.mv rfl (by decide) ?_
 by_cases hq1 : 1 ≤ pw
 ·refine GL.val (v := (.bool true)) (Ex.cast (Ex.geq rfl rfl) (congrArg Value.bool (decide_eq_true hq1))) (by decide) ?_
  refine GL.mv rfl (by decide) ?_
  refine GL.stepG (tj := 7) rfl rfl (Ex.wp (v := (.int .i64 pw)) (Ex.move rfl) (by decide)) (fun _ _ => ?_)
  by_cases hq2 : pw ≤ 1024
  ·refine GL.stepG (tj := 7) rfl rfl (Ex.wp (v := (.bool true)) (Ex.cast (Ex.leq rfl rfl) (congrArg Value.bool (decide_eq_true hq2))) (by decide)) (fun _ _ => ?_)
   refine GL.val (v := (.bool true)) (Ex.pickT rfl rfl) (by decide) ?_
   refine GL.mv rfl (by decide) ?_
   refine GL.stepG (tj := 11) rfl rfl (Ex.wp (v := (.int .i64 ph)) (Ex.move rfl) (by decide)) (fun _ _ => ?_)
   by_cases hq3 : 1 ≤ ph
   ·refine GL.stepG (tj := 11) rfl rfl (Ex.wp (v := (.bool true)) (Ex.cast (Ex.geq rfl rfl) (congrArg Value.bool (decide_eq_true hq3))) (by decide)) (fun _ _ => ?_)
    refine GL.val (v := (.bool true)) (Ex.pickT rfl rfl) (by decide) ?_
    refine GL.mv rfl (by decide) ?_
    refine GL.stepG (tj := 15) rfl rfl (Ex.wp (v := (.int .i64 ph)) (Ex.move rfl) (by decide)) (fun _ _ => ?_)
    by_cases hq4 : ph ≤ 1024
    ·have hm := mul_bd (w := pw) (h := ph) (by omega) (by omega) (by omega) (by omega)
     refine GL.stepG (tj := 15) rfl rfl (Ex.wp (v := (.bool true)) (Ex.cast (Ex.leq rfl rfl) (congrArg Value.bool (decide_eq_true hq4))) (by decide)) (fun _ _ => ?_)
     refine GL.val (v := (.bool true)) (Ex.pickT rfl rfl) (by decide) ?_
     refine GL.mv rfl (by decide) ?_
     refine GL.stepG (tj := 19) rfl rfl (Ex.wp (v := (.int .i64 pw)) (Ex.move rfl) (by decide)) (fun _ _ => ?_)
     refine GL.stepG (tj := 19) rfl rfl (Ex.wp (v := (.int .i64 ph)) (Ex.move rfl) (by decide)) (fun _ _ => ?_)
     refine GL.stepG (tj := 19) rfl rfl (Ex.wp (v := (.int .i64 (pw * ph))) (Ex.mul rfl rfl (Z := pw * ph) (w64 (by omega))) (by decide)) (fun _ _ => ?_)
     refine GL.stepG (tj := 19) rfl rfl (Ex.wp (v := (.bool (decide ((pw * ph) ≤ 65536)))) (Ex.leq rfl rfl) (by decide)) (fun _ _ => ?_)
     refine GL.val (v := (.bool (decide ((pw * ph) ≤ 65536)))) (Ex.pickT rfl rfl) (by decide) ?_
     refine GL.sg rfl (by decide) ?_
     refine GL.nil (GE.thenN (GC.ret ?_))
     refine GC.ret1 rfl (Rv.tmp rfl) (fun wN HN => ?_)
     exact HN.ret () trivial (by simp only [sizeB]; congr 1; apply decide_eq_decide.2; omega) (List.nil_sublist _) rfl
    ·refine GL.stepG (tj := 15) rfl rfl (Ex.wp (v := (.bool false)) (Ex.cast (Ex.leq rfl rfl) (congrArg Value.bool (decide_eq_false hq4))) (by decide)) (fun _ _ => ?_)
     refine GL.val (v := (.bool false)) (Ex.pickT rfl rfl) (by decide) ?_
     refine GL.mv rfl (by decide) ?_
     refine GL.skipG (tj := 19) rfl rfl rfl (by decide) ?_
     refine GL.skipG (tj := 19) rfl rfl rfl (by decide) ?_
     refine GL.skipG (tj := 19) rfl rfl rfl (by decide) ?_
     refine GL.skipG (tj := 19) rfl rfl rfl (by decide) ?_
     refine GL.val (v := (.bool false)) (Ex.pickF rfl rfl) (by decide) ?_
     refine GL.sg rfl (by decide) ?_
     refine GL.nil (GE.thenN (GC.ret ?_))
     refine GC.ret1 rfl (Rv.tmp rfl) (fun wN HN => ?_)
     exact HN.ret () trivial (by simp only [sizeB]; rw [decide_eq_false (by omega)]) (List.nil_sublist _) rfl
   ·refine GL.stepG (tj := 11) rfl rfl (Ex.wp (v := (.bool false)) (Ex.cast (Ex.geq rfl rfl) (congrArg Value.bool (decide_eq_false hq3))) (by decide)) (fun _ _ => ?_)
    refine GL.val (v := (.bool false)) (Ex.pickT rfl rfl) (by decide) ?_
    refine GL.mv rfl (by decide) ?_
    refine GL.skipG (tj := 15) rfl rfl rfl (by decide) ?_
    refine GL.skipG (tj := 15) rfl rfl rfl (by decide) ?_
    refine GL.val (v := (.bool false)) (Ex.pickF rfl rfl) (by decide) ?_
    refine GL.mv rfl (by decide) ?_
    refine GL.skipG (tj := 19) rfl rfl rfl (by decide) ?_
    refine GL.skipG (tj := 19) rfl rfl rfl (by decide) ?_
    refine GL.skipG (tj := 19) rfl rfl rfl (by decide) ?_
    refine GL.skipG (tj := 19) rfl rfl rfl (by decide) ?_
    refine GL.val (v := (.bool false)) (Ex.pickF rfl rfl) (by decide) ?_
    refine GL.sg rfl (by decide) ?_
    refine GL.nil (GE.thenN (GC.ret ?_))
    refine GC.ret1 rfl (Rv.tmp rfl) (fun wN HN => ?_)
    exact HN.ret () trivial (by simp only [sizeB]; rw [decide_eq_false (by omega)]) (List.nil_sublist _) rfl
  ·refine GL.stepG (tj := 7) rfl rfl (Ex.wp (v := (.bool false)) (Ex.cast (Ex.leq rfl rfl) (congrArg Value.bool (decide_eq_false hq2))) (by decide)) (fun _ _ => ?_)
   refine GL.val (v := (.bool false)) (Ex.pickT rfl rfl) (by decide) ?_
   refine GL.mv rfl (by decide) ?_
   refine GL.skipG (tj := 11) rfl rfl rfl (by decide) ?_
   refine GL.skipG (tj := 11) rfl rfl rfl (by decide) ?_
   refine GL.val (v := (.bool false)) (Ex.pickF rfl rfl) (by decide) ?_
   refine GL.mv rfl (by decide) ?_
   refine GL.skipG (tj := 15) rfl rfl rfl (by decide) ?_
   refine GL.skipG (tj := 15) rfl rfl rfl (by decide) ?_
   refine GL.val (v := (.bool false)) (Ex.pickF rfl rfl) (by decide) ?_
   refine GL.mv rfl (by decide) ?_
   refine GL.skipG (tj := 19) rfl rfl rfl (by decide) ?_
   refine GL.skipG (tj := 19) rfl rfl rfl (by decide) ?_
   refine GL.skipG (tj := 19) rfl rfl rfl (by decide) ?_
   refine GL.skipG (tj := 19) rfl rfl rfl (by decide) ?_
   refine GL.val (v := (.bool false)) (Ex.pickF rfl rfl) (by decide) ?_
   refine GL.sg rfl (by decide) ?_
   refine GL.nil (GE.thenN (GC.ret ?_))
   refine GC.ret1 rfl (Rv.tmp rfl) (fun wN HN => ?_)
   exact HN.ret () trivial (by simp only [sizeB]; rw [decide_eq_false (by omega)]) (List.nil_sublist _) rfl
 ·refine GL.val (v := (.bool false)) (Ex.cast (Ex.geq rfl rfl) (congrArg Value.bool (decide_eq_false hq1))) (by decide) ?_
  refine GL.mv rfl (by decide) ?_
  refine GL.skipG (tj := 7) rfl rfl rfl (by decide) ?_
  refine GL.skipG (tj := 7) rfl rfl rfl (by decide) ?_
  refine GL.val (v := (.bool false)) (Ex.pickF rfl rfl) (by decide) ?_
  refine GL.mv rfl (by decide) ?_
  refine GL.skipG (tj := 11) rfl rfl rfl (by decide) ?_
  refine GL.skipG (tj := 11) rfl rfl rfl (by decide) ?_
  refine GL.val (v := (.bool false)) (Ex.pickF rfl rfl) (by decide) ?_
  refine GL.mv rfl (by decide) ?_
  refine GL.skipG (tj := 15) rfl rfl rfl (by decide) ?_
  refine GL.skipG (tj := 15) rfl rfl rfl (by decide) ?_
  refine GL.val (v := (.bool false)) (Ex.pickF rfl rfl) (by decide) ?_
  refine GL.mv rfl (by decide) ?_
  refine GL.skipG (tj := 19) rfl rfl rfl (by decide) ?_
  refine GL.skipG (tj := 19) rfl rfl rfl (by decide) ?_
  refine GL.skipG (tj := 19) rfl rfl rfl (by decide) ?_
  refine GL.skipG (tj := 19) rfl rfl rfl (by decide) ?_
  refine GL.val (v := (.bool false)) (Ex.pickF rfl rfl) (by decide) ?_
  refine GL.sg rfl (by decide) ?_
  refine GL.nil (GE.thenN (GC.ret ?_))
  refine GC.ret1 rfl (Rv.tmp rfl) (fun wN HN => ?_)
  exact HN.ret () trivial (by simp only [sizeB]; rw [decide_eq_false (by omega)]) (List.nil_sublist _) rfl

theorem ref_check (W H : Int) (ad : Option Addr) (n cap : Nat) (w : World) :
  Calls Tryz.prog 81 #[(.agg #[(.int .i64 W), (.int .i64 H), (.slice ad n cap)])] w (Ret w (fun _ : Unit => True) (fun _ => .int .i64 (chk W H n)) (fun _ => [])) := by
 refine enter (M := None) (L := []) (n := 18) (l := [(0, (.agg #[(.int .i64 W), (.int .i64 H), (.slice ad n cap)]))]) Tryz.func81 rfl rfl (Args.cons rfl (Args.nil _)) (Hp.start _ _) ?_
 refine GC.seq (GC.region ?_)
 refine GL.step (Stp.box (cs := [(.int .i64 W), (.int .i64 H), (.slice ad n cap)]) rfl rfl (by decide)) (fun bq1 _ => ?_)
 refine GL.sg rfl (by decide) ?_
 refine GL.nil (GE.thenN (GC.seq (GC.seq (GC.region ?_))))
 refine GL.val (v := (.pointer (some ⟨bq1, 0, none⟩))) (Ex.cast (Ex.fieldAddr rfl Tryz.underlying75 rfl T.sz3 (by decide)) rfl) (by decide) ?_
 refine GL.val (Ex.load rfl T.ag3 (i := 0) rfl rfl) (by decide) ?_
 refine GL.val (v := (.pointer (some ⟨bq1, 1, none⟩))) (Ex.cast (Ex.fieldAddr rfl Tryz.underlying75 rfl T.sz3 (by decide)) rfl) (by decide) ?_
 refine GL.val (Ex.load rfl T.ag3 (i := 0) rfl rfl) (by decide) ?_
 refine GL.step (Stp.callR (vs := [(.int .i64 W), (.int .i64 H)]) rfl rfl T.own122 (by decide) (fun wc hw => ref_size W H wc)) (fun xq2 hq3 => ?_)
 refine GL.val (v := (.bool (!(sizeB W H)))) (Ex.not rfl) (by decide) ?_
 refine GL.nil (GE.thenN ?_)
 refine GC.cond rfl (fun hq4 => ?_) (fun hq4 => ?_)
 ·have hs : sizeB W H = false := by simpa using hq4
  refine GC.seq (GC.region ?_)
  refine GL.sg rfl (by decide) ?_
  refine GL.nil (GE.thenN (GC.ret (GE.thenR ?_)))
  refine GC.ret1 rfl (Rv.tmp rfl) (fun wN HN => ?_)
  exact HN.ret () trivial (by simp [chk, *]) (List.nil_sublist _) rfl
 ·have hs : sizeB W H = true := by simpa using hq4
  refine GC.skip (GE.thenN (GC.seq (GC.seq ?_)))
  have hm := sizeB_mul hs
  refine GC.region ?_
  refine GL.val (v := (.pointer (some ⟨bq1, 2, none⟩))) (Ex.cast (Ex.fieldAddr rfl Tryz.underlying75 rfl T.sz53 (by decide)) rfl) (by decide) ?_
  refine GL.val (Ex.load rfl T.ag53 (i := 0) rfl rfl) (by decide) ?_
  refine GL.val (v := (.int .i64 ((n : Int)))) (Ex.len rfl Tryz.underlying53) (by decide) ?_
  refine GL.val (v := (.pointer (some ⟨bq1, 0, none⟩))) (Ex.cast (Ex.fieldAddr rfl Tryz.underlying75 rfl T.sz3 (by decide)) rfl) (by decide) ?_
  refine GL.val (Ex.load rfl T.ag3 (i := 0) rfl rfl) (by decide) ?_
  refine GL.val (v := (.pointer (some ⟨bq1, 1, none⟩))) (Ex.cast (Ex.fieldAddr rfl Tryz.underlying75 rfl T.sz3 (by decide)) rfl) (by decide) ?_
  refine GL.val (Ex.load rfl T.ag3 (i := 0) rfl rfl) (by decide) ?_
  refine GL.val (v := (.int .i64 (W * H))) (Ex.mul rfl rfl (Z := W * H) (w64 (by omega))) (by decide) ?_
  refine GL.val (v := (.bool (decide (((n : Int)) ≠ (W * H))))) (Ex.neq rfl rfl) (by decide) ?_
  refine GL.nil (GE.thenN ?_)
  refine GC.cond rfl (fun hq5 => ?_) (fun hq5 => ?_)
  ·replace hq5 := of_decide_eq_true hq5
   refine GC.seq (GC.region ?_)
   refine GL.sg rfl (by decide) ?_
   refine GL.nil (GE.thenN (GC.ret (GE.thenR ?_)))
   refine GC.ret1 rfl (Rv.tmp rfl) (fun wN HN => ?_)
   exact HN.ret () trivial (by simp [chk, *]) (List.nil_sublist _) rfl
  ·replace hq5 := of_decide_eq_false hq5
   refine GC.skip (GE.thenN (GC.seq (GC.region ?_)))
   refine GL.sg rfl (by decide) ?_
   refine GL.nil (GE.thenN (GC.ret ?_))
   refine GC.ret1 rfl (Rv.tmp rfl) (fun wN HN => ?_)
   exact HN.ret () trivial (by simp [chk, *]) (List.nil_sublist _) rfl

theorem made (W H : Nat) (fid : FuncId) (caps : Array Value) (g : Nat → Nat → Int) (w : World) (hf : Fn2 Tryz.prog w fid caps W H g) (hW : W ≤ 1024) (hH : H ≤ 1024) (hWH : W * H ≤ 65536) :
  Calls Tryz.prog 80 #[(.agg #[(.int .i64 ((W : Int))), (.int .i64 ((H : Int))), (.func (.func fid) #[] caps)])] w (Ret w (fun _ : Nat => True) (fun b => .agg #[.int .i64 W, .int .i64 H, .slice (some ⟨b, 0, none⟩) (W * H) (W * H)]) (fun b => [⟨b, (tab W g (W * H)).map u32, 52, true⟩])) := by
 refine enter (M := None) (L := []) (n := 40) (l := [(0, (.agg #[(.int .i64 ((W : Int))), (.int .i64 ((H : Int))), (.func (.func fid) #[] caps)]))]) Tryz.func80 rfl rfl (Args.cons rfl (Args.nil _)) (Hp.start _ _) ?_
 refine GC.seq (GC.region ?_)
 refine GL.step (Stp.box (cs := [(.int .i64 ((W : Int))), (.int .i64 ((H : Int))), (.func (.func fid) #[] caps)]) rfl rfl (by decide)) (fun bq1 _ => ?_)
 refine GL.step (Stp.alloc T.zr75 (by decide)) (fun bq2 _ => ?_)
 refine GL.nil (GE.thenN (GC.seq ?_))
 refine GC.drawP [⟨bq2, [(.int .i64 0), (.int .i64 0), (.slice none 0 0)], 75, true⟩, ⟨bq1, [(.int .i64 ((W : Int))), (.int .i64 ((H : Int))), (.func (.func fid) #[] caps)], 125, true⟩] T.mixed (by kernel_rfl) (by kernel_rfl) (fuel := 12) rfl rfl ?_
 refine GH.tk 0 (v := (.pointer (some ⟨bq1, 0, none⟩))) rfl (by kernel_rfl) (fun _ _ _ h => h) (Ex.cast (Ex.fieldAddr rfl Tryz.underlying125 rfl T.sz3 (by decide)) rfl) (ulC (ulC ulN)) (by decide) ?_
 refine GH.tk 1 (v := (.int .i64 ((W : Int)))) rfl (by kernel_rfl) (fun _ _ _ h => h) (Ex.load rfl T.ag3 (i := 1) rfl rfl) (ulC (ulC ulN)) (by decide) ?_
 refine GH.tk 2 (v := (.pointer (some ⟨bq1, 1, none⟩))) rfl (by kernel_rfl) (fun _ _ _ h => h) (Ex.cast (Ex.fieldAddr rfl Tryz.underlying125 rfl T.sz3 (by decide)) rfl) (ulC (ulC ulN)) (by decide) ?_
 refine GH.tk 3 (v := (.int .i64 ((H : Int)))) rfl (by kernel_rfl) (fun _ _ _ h => h) (Ex.load rfl T.ag3 (i := 1) rfl rfl) (ulC (ulC ulN)) (by decide) ?_
 refine GH.tk 4 (v := (.pointer (some ⟨bq1, 0, none⟩))) rfl (by kernel_rfl) (fun _ _ _ h => h) (Ex.cast (Ex.fieldAddr rfl Tryz.underlying125 rfl T.sz3 (by decide)) rfl) (ulC (ulC ulN)) (by decide) ?_
 refine GH.tk 5 (v := (.int .i64 ((W : Int)))) rfl (by kernel_rfl) (fun _ _ _ h => h) (Ex.load rfl T.ag3 (i := 1) rfl rfl) (ulC (ulC ulN)) (by decide) ?_
 refine GH.tk 6 (v := (.pointer (some ⟨bq1, 1, none⟩))) rfl (by kernel_rfl) (fun _ _ _ h => h) (Ex.cast (Ex.fieldAddr rfl Tryz.underlying125 rfl T.sz3 (by decide)) rfl) (ulC (ulC ulN)) (by decide) ?_
 refine GH.tk 7 (v := (.int .i64 ((H : Int)))) rfl (by kernel_rfl) (fun _ _ _ h => h) (Ex.load rfl T.ag3 (i := 1) rfl rfl) (ulC (ulC ulN)) (by decide) ?_
 refine GH.tk 8 (v := (.int .i64 (((W * H : Nat) : Int)))) rfl (by kernel_rfl) (fun _ _ _ h => h) (Ex.mul rfl rfl (Z := ((W * H : Nat) : Int)) (by rw [w64 (by have := Int.natCast_mul W H; omega)]; exact (Int.natCast_mul W H).symm)) (ulC (ulC ulN)) (by decide) ?_
 refine GH.many (rs := [9, 11]) (by kernel_rfl) (by simp) ?_
 refine GHs.cons rfl (Stp.makeSlice (a1 := 0) (c := W * H) rfl rfl Tryz.underlying53 T.zr52 T.sz52 T.by52 rfl (by omega) (by omega) (by omega) (by decide)) (fun _ => (ulS (ulC (ulC ulN)))) (fun bq3 _ => ?_) ?_
 ·refine GH.tk 10 (v := (.agg #[(.int .i64 ((W : Int))), (.int .i64 ((H : Int))), (.slice (some ⟨bq3, 0, none⟩) 0 (W * H))])) rfl (by kernel_rfl) (fun _ _ _ h => h) (Ex.build (vs := [(0, (.int .i64 ((W : Int)))), (1, (.int .i64 ((H : Int)))), (2, (.slice (some ⟨bq3, 0, none⟩) 0 (W * H)))]) rfl (by first | rfl | kernel_rfl)) (ulS (ulC (ulC ulN))) (by decide) ?_
  refine GH.one 11 rfl (by kernel_rfl) (Stp.alloc T.zr75 (by decide)) (fun _ => (ulS (ulS (ulC (ulC ulN))))) (fun bq4 _ => ?_)
  refine GH.done (by kernel_rfl) ?_
  refine GE.thenN ?_
  refine GE.tail rfl (Stp.st0 (cs' := [(.int .i64 ((W : Int))), (.int .i64 ((H : Int))), (.slice (some ⟨bq3, 0, none⟩) 0 (W * H))]) rfl rfl rfl T.sz75 rfl rfl rfl) (fun _ _ => ?_)
  refine GE.thenN (GC.seq (GC.seq ?_))
  rw [madeCells_one, ← cur_zero W g (W * H)]
  refine GC.region ?_
  refine GL.val (v := (.pointer (some ⟨bq1, 1, none⟩))) (Ex.cast (Ex.fieldAddr rfl Tryz.underlying125 rfl T.sz3 (by decide)) rfl) (by decide) ?_
  refine GL.val (Ex.load rfl T.ag3 (i := 3) rfl rfl) (by decide) ?_
  refine GL.mv rfl (by decide) ?_
  refine GL.nil (GE.thenN (GC.block ?_))
  refine GC.loop (σ := Nat) (fun y => y ≤ H) (fun y => [(1, (.pointer (some ⟨bq1, 0, none⟩))), (2, (.pointer (some ⟨bq2, 0, none⟩))), (3, (.pointer (some ⟨bq4, 0, none⟩))), (18, (.int .i64 ((H : Int)))), (19, (.int .i64 (((y : Nat) : Int))))]) (fun y => [⟨bq4, [(.int .i64 ((W : Int))), (.int .i64 ((H : Int))), (.slice (some ⟨bq3, 0, none⟩) (W * y) (W * H))], 75, true⟩, ⟨bq3, cur W g (W * H) (W * y), 52, true⟩, ⟨bq2, [(.int .i64 0), (.int .i64 0), (.slice none 0 0)], 75, true⟩, ⟨bq1, [(.int .i64 ((W : Int))), (.int .i64 ((H : Int))), (.func (.func fid) #[] caps)], 125, true⟩]) (fun y => H - y) (0) (Nat.zero_le _) ((sub_cons rfl ((sub_cons rfl ((sub_cons rfl ((sub_cons rfl ((sub_cons rfl ((sub_nil _)))))))))))) (ulC (ulC (ulC (ulC ulN)))) (fun y hp => ?_)
  refine GC.seq (GC.region ?_)
  refine GL.val (v := (.bool (decide ((((y : Nat) : Int)) < ((H : Int)))))) (Ex.lss rfl rfl) (by decide) ?_
  refine GL.nil (GE.thenN (GC.seq ?_))
  refine GC.cond rfl (fun hq5 => ?_) (fun hq5 => ?_)
  ·replace hq5 := of_decide_eq_true hq5
   refine GC.skip (GE.thenN (GC.seq (GC.block (GC.seq (GC.region ?_)))))
   refine GL.mv rfl (by decide) ?_
   refine GL.sg rfl (by decide) ?_
   refine GL.nil (GE.thenN (GC.seq (GC.region ?_)))
   refine GL.val (v := (.pointer (some ⟨bq1, 0, none⟩))) (Ex.cast (Ex.fieldAddr rfl Tryz.underlying125 rfl T.sz3 (by decide)) rfl) (by decide) ?_
   refine GL.val (Ex.load rfl T.ag3 (i := 3) rfl rfl) (by decide) ?_
   refine GL.mv rfl (by decide) ?_
   refine GL.nil (GE.thenN (GC.block ?_))
   refine GC.loop (σ := Nat) (fun x => x ≤ W) (fun x => [(1, (.pointer (some ⟨bq1, 0, none⟩))), (2, (.pointer (some ⟨bq2, 0, none⟩))), (3, (.pointer (some ⟨bq4, 0, none⟩))), (18, (.int .i64 ((H : Int)))), (19, (.int .i64 (((y : Nat) : Int)))), (4, (.int .i64 (((y : Nat) : Int)))), (23, (.int .i64 ((W : Int)))), (24, (.int .i64 (((x : Nat) : Int))))]) (fun x => [⟨bq4, [(.int .i64 ((W : Int))), (.int .i64 ((H : Int))), (.slice (some ⟨bq3, 0, none⟩) (W * y + x) (W * H))], 75, true⟩, ⟨bq3, cur W g (W * H) (W * y + x), 52, true⟩, ⟨bq2, [(.int .i64 0), (.int .i64 0), (.slice none 0 0)], 75, true⟩, ⟨bq1, [(.int .i64 ((W : Int))), (.int .i64 ((H : Int))), (.func (.func fid) #[] caps)], 125, true⟩]) (fun x => W - x) (0) (Nat.zero_le _) ((sub_cons rfl ((sub_cons rfl ((sub_cons rfl ((sub_cons rfl ((sub_cons rfl ((sub_cons rfl ((sub_cons rfl ((sub_cons rfl ((sub_nil _)))))))))))))))))) (ulC (ulC (ulC (ulC ulN)))) (fun x hp => ?_)
   refine GC.seq (GC.region ?_)
   refine GL.val (v := (.bool (decide ((((x : Nat) : Int)) < ((W : Int)))))) (Ex.lss rfl rfl) (by decide) ?_
   refine GL.nil (GE.thenN (GC.seq ?_))
   refine GC.cond rfl (fun hq6 => ?_) (fun hq6 => ?_)
   ·replace hq6 := of_decide_eq_true hq6
    have hxy := place_lt (H := H) (by omega : x < W) (by omega : y < H)
    have hp := at_place (W := W) (y := y) (by omega : x < W)
    have hap := cur_app W g (W * H) (W * y + x) (g x y) hxy (by rw [hp.1, hp.2])
    rw [Nat.add_assoc] at hap
    refine GC.skip (GE.thenN (GC.seq (GC.block (GC.seq (GC.region ?_)))))
    refine GL.mv rfl (by decide) ?_
    refine GL.sg rfl (by decide) ?_
    refine GL.nil (GE.thenN ?_)
    refine GC.drawP [⟨bq4, [(.int .i64 ((W : Int))), (.int .i64 ((H : Int))), (.slice (some ⟨bq3, 0, none⟩) (W * y + x) (W * H))], 75, true⟩, ⟨bq2, [(.int .i64 0), (.int .i64 0), (.slice none 0 0)], 75, true⟩, ⟨bq1, [(.int .i64 ((W : Int))), (.int .i64 ((H : Int))), (.func (.func fid) #[] caps)], 125, true⟩] T.mixed (by kernel_rfl) (by kernel_rfl) (fuel := 10) rfl rfl ?_
    refine GH.tk 0 (v := (.pointer (some ⟨bq4, 2, none⟩))) rfl (by kernel_rfl) (fun _ _ _ h => h) (Ex.cast (Ex.fieldAddr rfl Tryz.underlying75 rfl T.sz53 (by decide)) rfl) (ulC (ulS (ulC (ulC ulN)))) (by decide) ?_
    refine GH.tk 1 (v := (.slice (some ⟨bq3, 0, none⟩) (W * y + x) (W * H))) rfl (by kernel_rfl) (fun _ _ _ h => h) (Ex.load rfl T.ag53 (i := 0) rfl rfl) (ulC (ulS (ulC (ulC ulN)))) (by decide) ?_
    refine GH.tk 2 (v := (.pointer (some ⟨bq1, 2, none⟩))) rfl (by kernel_rfl) (fun _ _ _ h => h) (Ex.cast (Ex.fieldAddr rfl Tryz.underlying125 rfl T.sz122 (by decide)) rfl) (ulC (ulS (ulC (ulC ulN)))) (by decide) ?_
    refine GH.tk 3 (v := (.func (.func fid) #[] caps)) rfl (by kernel_rfl) (fun _ _ _ h => h) (Ex.load rfl T.ag122 (i := 2) rfl rfl) (ulC (ulS (ulC (ulC ulN)))) (by decide) ?_
    refine GH.tk 4 (v := (.int .i64 (((x : Nat) : Int)))) rfl (by kernel_rfl) (fun _ _ _ h => h) (Ex.move rfl) (ulC (ulS (ulC (ulC ulN)))) (by decide) ?_
    refine GH.tk 5 (v := (.int .i64 (((y : Nat) : Int)))) rfl (by kernel_rfl) (fun _ _ _ h => h) (Ex.move rfl) (ulC (ulS (ulC (ulC ulN)))) (by decide) ?_
    refine GH.one 6 rfl (by kernel_rfl) (Stp.callR (vs := [(.int .i64 (((x : Nat) : Int))), (.int .i64 (((y : Nat) : Int)))]) rfl rfl hf.1 (by decide) (fun wc hw => hf.2 x y (by omega) (by omega) wc hw.1)) (fun _ => (ulC (ulS (ulC (ulC ulN))))) (fun xq7 hq8 => ?_)
    refine GH.one 7 rfl (by kernel_rfl) (Stp.buildSlice (cs := [(.int .u32 ((g x y)))]) (vs := [(0, (.int .u32 ((g x y))))]) Tryz.underlying53 T.zr52 T.sz52 rfl (by decide) (by decide) (by first | rfl | kernel_rfl) (by decide)) (fun _ => (ulS (ulC (ulS (ulC (ulC ulN)))))) (fun bq9 _ => ?_)
    refine GH.one 8 rfl (by kernel_rfl) (Stp.appendFits (i := 2) (vs := [.int .u32 (g x y)]) (L1 := [⟨bq9, [(.int .u32 ((g x y)))], 52, true⟩, ⟨bq4, [(.int .i64 ((W : Int))), (.int .i64 ((H : Int))), (.slice (some ⟨bq3, 0, none⟩) (W * y + x) (W * H))], 75, true⟩, ⟨bq3, cur W g (W * H) (W * y + (x + 1)), 52, true⟩, ⟨bq2, [(.int .i64 0), (.int .i64 0), (.slice none 0 0)], 75, true⟩, ⟨bq1, [(.int .i64 ((W : Int))), (.int .i64 ((H : Int))), (.func (.func fid) #[] caps)], 125, true⟩]) rfl rfl Tryz.underlying53 T.sz52 rfl (fun w hw => hw.rdOf (i := 0) rfl 0) rfl rfl (len' := W * y + (x + 1)) rfl (by omega) (by rw [cur_len _ _ _ _ (by omega)]; simp; omega) (by rw [hap]; rfl) (by decide)) (fun _ => (ulS (ulC (ulS (ulC (ulC ulN)))))) (fun _ _ => ?_)
    refine GH.tk 9 (v := (.pointer (some ⟨bq4, 2, none⟩))) rfl (by kernel_rfl) (fun _ _ _ h => h) (Ex.cast (Ex.fieldAddr rfl Tryz.underlying75 rfl T.sz53 (by decide)) rfl) (ulS (ulC (ulS (ulC (ulC ulN))))) (by decide) ?_
    refine GH.done (by kernel_rfl) ?_
    refine GE.thenN ?_
    refine GE.tail rfl (Stp.st1 (cs' := [(.int .i64 ((W : Int))), (.int .i64 ((H : Int))), (.slice (some ⟨bq3, 0, none⟩) (W * y + (x + 1)) (W * H))]) rfl rfl rfl T.sz53 rfl rfl rfl) (fun _ _ => ?_)
    refine GE.blockN (GE.thenN (GC.region ?_))
    refine GL.val (v := (.int .i64 (((x + 1 : Nat) : Int)))) (Ex.add rfl rfl (Z := ((x + 1 : Nat) : Int)) (w64 (by omega))) (by decide) ?_
    refine GL.mv rfl (by decide) ?_
    refine GL.nil (GE.thenN ?_)
    exact Head.mk (x + 1) (by omega) (by omega) ((sub_cons rfl ((sub_cons rfl ((sub_cons rfl ((sub_cons rfl ((sub_cons rfl ((sub_cons rfl ((sub_cons rfl ((sub_cons rfl ((sub_nil _)))))))))))))))))) (ulS (ulC (ulC (ulC (ulC ulN)))))
   ·replace hq6 := of_decide_eq_false hq6
    have ex : W = x := by omega
    have e2 : W * y + x = W * (y + 1) := by rw [← ex]; rfl
    rw [e2]
    refine GC.exit (GE.thenE (GE.thenE (GE.blockE (GE.blockN (GE.thenN (GC.region ?_))))))
    refine GL.val (v := (.int .i64 (((y + 1 : Nat) : Int)))) (Ex.add rfl rfl (Z := ((y + 1 : Nat) : Int)) (w64 (by omega))) (by decide) ?_
    refine GL.mv rfl (by decide) ?_
    refine GL.nil (GE.thenN ?_)
    exact Head.mk (y + 1) (by omega) (by omega) ((sub_cons rfl ((sub_cons rfl ((sub_cons rfl ((sub_cons rfl ((sub_cons rfl ((sub_nil _)))))))))))) (ulC (ulC (ulC (ulC ulN))))
  ·replace hq5 := of_decide_eq_false hq5
   refine GC.exit (GE.thenE (GE.thenE (GE.blockE (GE.thenN (GC.seq (GC.region ?_))))))
   refine GL.val (v := (.agg #[(.int .i64 ((W : Int))), (.int .i64 ((H : Int))), (.slice (some ⟨bq3, 0, none⟩) (W * y) (W * H))])) (Ex.loadA rfl T.ag75 T.sz75 (i := 0) rfl (vs := [(.int .i64 ((W : Int))), (.int .i64 ((H : Int))), (.slice (some ⟨bq3, 0, none⟩) (W * y) (W * H))]) rfl rfl) (by decide) ?_
   refine GL.step (Stp.st2 (cs' := [(.int .i64 ((W : Int))), (.int .i64 ((H : Int))), (.slice (some ⟨bq3, 0, none⟩) (W * y) (W * H))]) rfl rfl rfl T.sz75 rfl rfl rfl) (fun _ _ => ?_)
   refine GL.nil (GE.thenN (GC.ret ?_))
   refine GC.ret1 rfl (Rv.cellA rfl T.ag75 T.sz75 (L := _) (i := 2) rfl (vs := [(.int .i64 ((W : Int))), (.int .i64 ((H : Int))), (.slice (some ⟨bq3, 0, none⟩) (W * y) (W * H))]) rfl rfl) (fun wN HN => ?_)
   have ey : H = y := by omega
   have e3 : W * y = W * H := by rw [ey]
   rw [e3, cur_full] at HN
   exact HN.ret bq3 trivial (by rw [e3]) (ulS (ulC (ulS (ulS ulN)))) rfl
 refine GHs.cons rfl (Stp.alloc T.zr75 (by decide)) (fun _ => (ulS (ulC (ulC ulN)))) (fun bq10 _ => ?_) ?_
 ·refine GH.one 9 rfl (by kernel_rfl) (Stp.makeSlice (a1 := 0) (c := W * H) rfl rfl Tryz.underlying53 T.zr52 T.sz52 T.by52 rfl (by omega) (by omega) (by omega) (by decide)) (fun _ => (ulS (ulS (ulC (ulC ulN))))) (fun bq11 _ => ?_)
  refine GH.tk 10 (v := (.agg #[(.int .i64 ((W : Int))), (.int .i64 ((H : Int))), (.slice (some ⟨bq11, 0, none⟩) 0 (W * H))])) rfl (by kernel_rfl) (fun _ _ _ h => h) (Ex.build (vs := [(0, (.int .i64 ((W : Int)))), (1, (.int .i64 ((H : Int)))), (2, (.slice (some ⟨bq11, 0, none⟩) 0 (W * H)))]) rfl (by first | rfl | kernel_rfl)) (ulS (ulS (ulC (ulC ulN)))) (by decide) ?_
  refine GH.done (by kernel_rfl) ?_
  refine GE.thenN ?_
  refine GE.tail rfl (Stp.st1 (cs' := [(.int .i64 ((W : Int))), (.int .i64 ((H : Int))), (.slice (some ⟨bq11, 0, none⟩) 0 (W * H))]) rfl rfl rfl T.sz75 rfl rfl rfl) (fun _ _ => ?_)
  refine GE.thenN (GC.seq (GC.seq ?_))
  rw [madeCells_one, ← cur_zero W g (W * H)]
  refine GC.region ?_
  refine GL.val (v := (.pointer (some ⟨bq1, 1, none⟩))) (Ex.cast (Ex.fieldAddr rfl Tryz.underlying125 rfl T.sz3 (by decide)) rfl) (by decide) ?_
  refine GL.val (Ex.load rfl T.ag3 (i := 3) rfl rfl) (by decide) ?_
  refine GL.mv rfl (by decide) ?_
  refine GL.nil (GE.thenN (GC.block ?_))
  refine GC.loop (σ := Nat) (fun y => y ≤ H) (fun y => [(1, (.pointer (some ⟨bq1, 0, none⟩))), (2, (.pointer (some ⟨bq2, 0, none⟩))), (3, (.pointer (some ⟨bq10, 0, none⟩))), (18, (.int .i64 ((H : Int)))), (19, (.int .i64 (((y : Nat) : Int))))]) (fun y => [⟨bq11, cur W g (W * H) (W * y), 52, true⟩, ⟨bq10, [(.int .i64 ((W : Int))), (.int .i64 ((H : Int))), (.slice (some ⟨bq11, 0, none⟩) (W * y) (W * H))], 75, true⟩, ⟨bq2, [(.int .i64 0), (.int .i64 0), (.slice none 0 0)], 75, true⟩, ⟨bq1, [(.int .i64 ((W : Int))), (.int .i64 ((H : Int))), (.func (.func fid) #[] caps)], 125, true⟩]) (fun y => H - y) (0) (Nat.zero_le _) ((sub_cons rfl ((sub_cons rfl ((sub_cons rfl ((sub_cons rfl ((sub_cons rfl ((sub_nil _)))))))))))) (ulC (ulC (ulC (ulC ulN)))) (fun y hp => ?_)
  refine GC.seq (GC.region ?_)
  refine GL.val (v := (.bool (decide ((((y : Nat) : Int)) < ((H : Int)))))) (Ex.lss rfl rfl) (by decide) ?_
  refine GL.nil (GE.thenN (GC.seq ?_))
  refine GC.cond rfl (fun hq12 => ?_) (fun hq12 => ?_)
  ·replace hq12 := of_decide_eq_true hq12
   refine GC.skip (GE.thenN (GC.seq (GC.block (GC.seq (GC.region ?_)))))
   refine GL.mv rfl (by decide) ?_
   refine GL.sg rfl (by decide) ?_
   refine GL.nil (GE.thenN (GC.seq (GC.region ?_)))
   refine GL.val (v := (.pointer (some ⟨bq1, 0, none⟩))) (Ex.cast (Ex.fieldAddr rfl Tryz.underlying125 rfl T.sz3 (by decide)) rfl) (by decide) ?_
   refine GL.val (Ex.load rfl T.ag3 (i := 3) rfl rfl) (by decide) ?_
   refine GL.mv rfl (by decide) ?_
   refine GL.nil (GE.thenN (GC.block ?_))
   refine GC.loop (σ := Nat) (fun x => x ≤ W) (fun x => [(1, (.pointer (some ⟨bq1, 0, none⟩))), (2, (.pointer (some ⟨bq2, 0, none⟩))), (3, (.pointer (some ⟨bq10, 0, none⟩))), (18, (.int .i64 ((H : Int)))), (19, (.int .i64 (((y : Nat) : Int)))), (4, (.int .i64 (((y : Nat) : Int)))), (23, (.int .i64 ((W : Int)))), (24, (.int .i64 (((x : Nat) : Int))))]) (fun x => [⟨bq11, cur W g (W * H) (W * y + x), 52, true⟩, ⟨bq10, [(.int .i64 ((W : Int))), (.int .i64 ((H : Int))), (.slice (some ⟨bq11, 0, none⟩) (W * y + x) (W * H))], 75, true⟩, ⟨bq2, [(.int .i64 0), (.int .i64 0), (.slice none 0 0)], 75, true⟩, ⟨bq1, [(.int .i64 ((W : Int))), (.int .i64 ((H : Int))), (.func (.func fid) #[] caps)], 125, true⟩]) (fun x => W - x) (0) (Nat.zero_le _) ((sub_cons rfl ((sub_cons rfl ((sub_cons rfl ((sub_cons rfl ((sub_cons rfl ((sub_cons rfl ((sub_cons rfl ((sub_cons rfl ((sub_nil _)))))))))))))))))) (ulC (ulC (ulC (ulC ulN)))) (fun x hp => ?_)
   refine GC.seq (GC.region ?_)
   refine GL.val (v := (.bool (decide ((((x : Nat) : Int)) < ((W : Int)))))) (Ex.lss rfl rfl) (by decide) ?_
   refine GL.nil (GE.thenN (GC.seq ?_))
   refine GC.cond rfl (fun hq13 => ?_) (fun hq13 => ?_)
   ·replace hq13 := of_decide_eq_true hq13
    have hxy := place_lt (H := H) (by omega : x < W) (by omega : y < H)
    have hp := at_place (W := W) (y := y) (by omega : x < W)
    have hap := cur_app W g (W * H) (W * y + x) (g x y) hxy (by rw [hp.1, hp.2])
    rw [Nat.add_assoc] at hap
    refine GC.skip (GE.thenN (GC.seq (GC.block (GC.seq (GC.region ?_)))))
    refine GL.mv rfl (by decide) ?_
    refine GL.sg rfl (by decide) ?_
    refine GL.nil (GE.thenN ?_)
    refine GC.drawP [⟨bq10, [(.int .i64 ((W : Int))), (.int .i64 ((H : Int))), (.slice (some ⟨bq11, 0, none⟩) (W * y + x) (W * H))], 75, true⟩, ⟨bq2, [(.int .i64 0), (.int .i64 0), (.slice none 0 0)], 75, true⟩, ⟨bq1, [(.int .i64 ((W : Int))), (.int .i64 ((H : Int))), (.func (.func fid) #[] caps)], 125, true⟩] T.mixed (by kernel_rfl) (by kernel_rfl) (fuel := 10) rfl rfl ?_
    refine GH.tk 0 (v := (.pointer (some ⟨bq10, 2, none⟩))) rfl (by kernel_rfl) (fun _ _ _ h => h) (Ex.cast (Ex.fieldAddr rfl Tryz.underlying75 rfl T.sz53 (by decide)) rfl) (ulS (ulC (ulC (ulC ulN)))) (by decide) ?_
    refine GH.tk 1 (v := (.slice (some ⟨bq11, 0, none⟩) (W * y + x) (W * H))) rfl (by kernel_rfl) (fun _ _ _ h => h) (Ex.load rfl T.ag53 (i := 0) rfl rfl) (ulS (ulC (ulC (ulC ulN)))) (by decide) ?_
    refine GH.tk 2 (v := (.pointer (some ⟨bq1, 2, none⟩))) rfl (by kernel_rfl) (fun _ _ _ h => h) (Ex.cast (Ex.fieldAddr rfl Tryz.underlying125 rfl T.sz122 (by decide)) rfl) (ulS (ulC (ulC (ulC ulN)))) (by decide) ?_
    refine GH.tk 3 (v := (.func (.func fid) #[] caps)) rfl (by kernel_rfl) (fun _ _ _ h => h) (Ex.load rfl T.ag122 (i := 2) rfl rfl) (ulS (ulC (ulC (ulC ulN)))) (by decide) ?_
    refine GH.tk 4 (v := (.int .i64 (((x : Nat) : Int)))) rfl (by kernel_rfl) (fun _ _ _ h => h) (Ex.move rfl) (ulS (ulC (ulC (ulC ulN)))) (by decide) ?_
    refine GH.tk 5 (v := (.int .i64 (((y : Nat) : Int)))) rfl (by kernel_rfl) (fun _ _ _ h => h) (Ex.move rfl) (ulS (ulC (ulC (ulC ulN)))) (by decide) ?_
    refine GH.one 6 rfl (by kernel_rfl) (Stp.callR (vs := [(.int .i64 (((x : Nat) : Int))), (.int .i64 (((y : Nat) : Int)))]) rfl rfl hf.1 (by decide) (fun wc hw => hf.2 x y (by omega) (by omega) wc hw.1)) (fun _ => (ulS (ulC (ulC (ulC ulN))))) (fun xq14 hq15 => ?_)
    refine GH.one 7 rfl (by kernel_rfl) (Stp.buildSlice (cs := [(.int .u32 ((g x y)))]) (vs := [(0, (.int .u32 ((g x y))))]) Tryz.underlying53 T.zr52 T.sz52 rfl (by decide) (by decide) (by first | rfl | kernel_rfl) (by decide)) (fun _ => (ulS (ulS (ulC (ulC (ulC ulN)))))) (fun bq16 _ => ?_)
    refine GH.one 8 rfl (by kernel_rfl) (Stp.appendFits (i := 1) (vs := [.int .u32 (g x y)]) (L1 := [⟨bq16, [(.int .u32 ((g x y)))], 52, true⟩, ⟨bq11, cur W g (W * H) (W * y + (x + 1)), 52, true⟩, ⟨bq10, [(.int .i64 ((W : Int))), (.int .i64 ((H : Int))), (.slice (some ⟨bq11, 0, none⟩) (W * y + x) (W * H))], 75, true⟩, ⟨bq2, [(.int .i64 0), (.int .i64 0), (.slice none 0 0)], 75, true⟩, ⟨bq1, [(.int .i64 ((W : Int))), (.int .i64 ((H : Int))), (.func (.func fid) #[] caps)], 125, true⟩]) rfl rfl Tryz.underlying53 T.sz52 rfl (fun w hw => hw.rdOf (i := 0) rfl 0) rfl rfl (len' := W * y + (x + 1)) rfl (by omega) (by rw [cur_len _ _ _ _ (by omega)]; simp; omega) (by rw [hap]; rfl) (by decide)) (fun _ => (ulS (ulS (ulC (ulC (ulC ulN)))))) (fun _ _ => ?_)
    refine GH.tk 9 (v := (.pointer (some ⟨bq10, 2, none⟩))) rfl (by kernel_rfl) (fun _ _ _ h => h) (Ex.cast (Ex.fieldAddr rfl Tryz.underlying75 rfl T.sz53 (by decide)) rfl) (ulS (ulS (ulC (ulC (ulC ulN))))) (by decide) ?_
    refine GH.done (by kernel_rfl) ?_
    refine GE.thenN ?_
    refine GE.tail rfl (Stp.st2 (cs' := [(.int .i64 ((W : Int))), (.int .i64 ((H : Int))), (.slice (some ⟨bq11, 0, none⟩) (W * y + (x + 1)) (W * H))]) rfl rfl rfl T.sz53 rfl rfl rfl) (fun _ _ => ?_)
    refine GE.blockN (GE.thenN (GC.region ?_))
    refine GL.val (v := (.int .i64 (((x + 1 : Nat) : Int)))) (Ex.add rfl rfl (Z := ((x + 1 : Nat) : Int)) (w64 (by omega))) (by decide) ?_
    refine GL.mv rfl (by decide) ?_
    refine GL.nil (GE.thenN ?_)
    exact Head.mk (x + 1) (by omega) (by omega) ((sub_cons rfl ((sub_cons rfl ((sub_cons rfl ((sub_cons rfl ((sub_cons rfl ((sub_cons rfl ((sub_cons rfl ((sub_cons rfl ((sub_nil _)))))))))))))))))) (ulS (ulC (ulC (ulC (ulC ulN)))))
   ·replace hq13 := of_decide_eq_false hq13
    have ex : W = x := by omega
    have e2 : W * y + x = W * (y + 1) := by rw [← ex]; rfl
    rw [e2]
    refine GC.exit (GE.thenE (GE.thenE (GE.blockE (GE.blockN (GE.thenN (GC.region ?_))))))
    refine GL.val (v := (.int .i64 (((y + 1 : Nat) : Int)))) (Ex.add rfl rfl (Z := ((y + 1 : Nat) : Int)) (w64 (by omega))) (by decide) ?_
    refine GL.mv rfl (by decide) ?_
    refine GL.nil (GE.thenN ?_)
    exact Head.mk (y + 1) (by omega) (by omega) ((sub_cons rfl ((sub_cons rfl ((sub_cons rfl ((sub_cons rfl ((sub_cons rfl ((sub_nil _)))))))))))) (ulC (ulC (ulC (ulC ulN))))
  ·replace hq12 := of_decide_eq_false hq12
   refine GC.exit (GE.thenE (GE.thenE (GE.blockE (GE.thenN (GC.seq (GC.region ?_))))))
   refine GL.val (v := (.agg #[(.int .i64 ((W : Int))), (.int .i64 ((H : Int))), (.slice (some ⟨bq11, 0, none⟩) (W * y) (W * H))])) (Ex.loadA rfl T.ag75 T.sz75 (i := 1) rfl (vs := [(.int .i64 ((W : Int))), (.int .i64 ((H : Int))), (.slice (some ⟨bq11, 0, none⟩) (W * y) (W * H))]) rfl rfl) (by decide) ?_
   refine GL.step (Stp.st2 (cs' := [(.int .i64 ((W : Int))), (.int .i64 ((H : Int))), (.slice (some ⟨bq11, 0, none⟩) (W * y) (W * H))]) rfl rfl rfl T.sz75 rfl rfl rfl) (fun _ _ => ?_)
   refine GL.nil (GE.thenN (GC.ret ?_))
   refine GC.ret1 rfl (Rv.cellA rfl T.ag75 T.sz75 (L := _) (i := 2) rfl (vs := [(.int .i64 ((W : Int))), (.int .i64 ((H : Int))), (.slice (some ⟨bq11, 0, none⟩) (W * y) (W * H))]) rfl rfl) (fun wN HN => ?_)
   have ey : H = y := by omega
   have e3 : W * y = W * H := by rw [ey]
   rw [e3, cur_full] at HN
   exact HN.ret bq11 trivial (by rw [e3]) (ulC (ulS (ulS (ulS ulN)))) rfl
 exact GHs.nil

theorem newC (x y bs : Nat) (s : Int) (w : World) (h1 : w.heap[bs]? = some (.cells #[(.int .u32 s)] 52 (0, 0))) :
  Calls Tryz.prog 119 #[(.int .i64 ((x : Int))), (.int .i64 ((y : Int))), (.pointer (some ⟨bs, 0, none⟩))] w (Ret w (fun _ : Unit => True) (fun _ => .int .u32 s) (fun _ => [])) := by
 refine enter (M := None) (L := [⟨bs, [(.int .u32 s)], 52, false⟩]) (n := 7) (l := [(0, (.int .i64 ((x : Int)))), (1, (.int .i64 ((y : Int)))), (2, (.pointer (some ⟨bs, 0, none⟩)))]) Tryz.func119 rfl rfl (Args.cons rfl (Args.cons rfl (Args.cons rfl (Args.nil _)))) (Hp.reads (Has.cons h1 (Has.nil _)) rfl) ?_
 refine GC.seq (GC.region ?_)
 refine GL.sg rfl (by decide) ?_
 refine GL.nil (GE.thenN (GC.seq (GC.region ?_)))
 refine GL.val (Ex.load rfl T.ag52 (i := 0) rfl rfl) (by decide) ?_
 refine GL.sg rfl (by decide) ?_
 refine GL.nil (GE.thenN (GC.ret ?_))
 refine GC.ret1 rfl (Rv.tmp rfl) (fun wN HN => ?_)
 exact HN.ret () trivial (by first | rfl | (congr 1; done)) (List.nil_sublist _) rfl

theorem new_ok (W H : Nat) (s : Int) (w : World) (hok : okP W H) :
  Calls Tryz.prog 74 #[(.int .i64 (((W : Nat) : Int))), (.int .i64 (((H : Nat) : Int))), (.int .u32 s)] w (Ret w (fun _ : Nat => True) (fun r => .tuple #[(.agg #[(.int .i64 (((W : Nat) : Int))), (.int .i64 (((H : Nat) : Int))), (.slice (some ⟨r, 0, none⟩) (W * H) (W * H))]), .int .i64 0]) (fun r => [⟨r, (tab W (fun _ _ => s) (W * H)).map u32, 52, true⟩])) := by
 refine enter (M := None) (L := []) (n := 18) (l := [(0, (.int .i64 (((W : Nat) : Int)))), (1, (.int .i64 (((H : Nat) : Int)))), (2, (.int .u32 s))]) Tryz.func74 rfl rfl (Args.cons rfl (Args.cons rfl (Args.cons rfl (Args.nil _)))) (Hp.start _ _) ?_
 refine GC.seq (GC.region ?_)
 refine GL.step (Stp.box (cs := [(.int .u32 s)]) rfl rfl (by decide)) (fun bq1 _ => ?_)
 refine GL.step (Stp.alloc T.zr75 (by decide)) (fun bq2 _ => ?_)
 refine GL.sg rfl (by decide) ?_
 refine GL.nil (GE.thenN (GC.seq (GC.seq (GC.region ?_))))
 refine GL.mv rfl (by decide) ?_
 refine GL.mv rfl (by decide) ?_
 refine GL.step (Stp.callR (vs := [(.int .i64 (((W : Nat) : Int))), (.int .i64 (((H : Nat) : Int)))]) rfl rfl T.own118 (by decide) (fun wc hw => size (((W : Nat) : Int)) (((H : Nat) : Int)) wc)) (fun xq3 hq4 => ?_)
 refine GL.val (v := (.bool (!(sizeB (((W : Nat) : Int)) (((H : Nat) : Int)))))) (Ex.not rfl) (by decide) ?_
 refine GL.nil (GE.thenN ?_)
 refine GC.cond rfl (fun hq5 => ?_) (fun hq5 => ?_)
 ·exfalso; rw [sizeB_ok hok] at hq5; cases hq5
 ·refine GC.skip (GE.thenN (GC.seq (GC.region ?_)))
  refine GL.mv rfl (by decide) ?_
  refine GL.mv rfl (by decide) ?_
  refine GL.val (v := (.func (.func 119) #[] #[(.pointer (some ⟨bq1, 0, none⟩))])) (Ex.func (cs := [(.pointer (some ⟨bq1, 0, none⟩))]) rfl (fun _ hF => hF.evals _ _ rfl)) (by decide) ?_
  refine GL.val (v := (.agg #[(.int .i64 (((W : Nat) : Int))), (.int .i64 (((H : Nat) : Int))), (.func (.func 119) #[] #[(.pointer (some ⟨bq1, 0, none⟩))])])) (Ex.build (vs := [(0, (.int .i64 (((W : Nat) : Int)))), (1, (.int .i64 (((H : Nat) : Int)))), (2, (.func (.func 119) #[] #[(.pointer (some ⟨bq1, 0, none⟩))]))]) rfl (by first | rfl | kernel_rfl)) (by decide) ?_
  refine GL.step (Stp.callR (vs := [(.agg #[(.int .i64 (((W : Nat) : Int))), (.int .i64 (((H : Nat) : Int))), (.func (.func 119) #[] #[(.pointer (some ⟨bq1, 0, none⟩))])])]) rfl rfl T.own80 (by decide) (fun wc hw => made (W) (H) (119) (#[(.pointer (some ⟨bq1, 0, none⟩))]) (fun _ _ => s) wc ⟨T.own119, fun x y _ _ w3 hk3 => newC x y bq1 s w3 ((Has.cons (o := true) (hw.get (i := 1) rfl) (Has.nil _)).later hk3 _ List.mem_cons_self)⟩ hok.2.2.1 hok.2.2.2.1 hok.2.2.2.2)) (fun xq6 hq7 => ?_)
  refine GL.step (Stp.st1 (cs' := [(.int .i64 (((W : Nat) : Int))), (.int .i64 (((H : Nat) : Int))), (.slice (some ⟨xq6, 0, none⟩) ((W) * (H)) ((W) * (H)))]) rfl rfl rfl T.sz75 rfl rfl rfl) (fun _ _ => ?_)
  refine GL.sg rfl (by decide) ?_
  refine GL.nil (GE.thenN (GC.ret ?_))
  refine GC.ret2 rfl (Rv.cellA rfl T.ag75 T.sz75 (L := _) (i := 1) rfl (vs := [(.int .i64 (((W : Nat) : Int))), (.int .i64 (((H : Nat) : Int))), (.slice (some ⟨xq6, 0, none⟩) ((W) * (H)) ((W) * (H)))]) rfl rfl) (Rv.tmp rfl) (fun wN HN => ?_)
  exact HN.ret (xq6) trivial rfl (ulC (ulS (ulS ulN))) rfl

theorem new_inv (W H s : Int) (w : World) (hs : sizeB W H = false) :
  Calls Tryz.prog 74 #[(.int .i64 W), (.int .i64 H), (.int .u32 s)] w (Ret w (fun _ : Unit => True) (fun _ => .tuple #[(.agg #[(.int .i64 0), (.int .i64 0), (.slice none 0 0)]), .int .i64 50]) (fun _ => [])) := by
 refine enter (M := None) (L := []) (n := 18) (l := [(0, (.int .i64 W)), (1, (.int .i64 H)), (2, (.int .u32 s))]) Tryz.func74 rfl rfl (Args.cons rfl (Args.cons rfl (Args.cons rfl (Args.nil _)))) (Hp.start _ _) ?_
 refine GC.seq (GC.region ?_)
 refine GL.step (Stp.box (cs := [(.int .u32 s)]) rfl rfl (by decide)) (fun bq1 _ => ?_)
 refine GL.step (Stp.alloc T.zr75 (by decide)) (fun bq2 _ => ?_)
 refine GL.sg rfl (by decide) ?_
 refine GL.nil (GE.thenN (GC.seq (GC.seq (GC.region ?_))))
 refine GL.mv rfl (by decide) ?_
 refine GL.mv rfl (by decide) ?_
 refine GL.step (Stp.callR (vs := [(.int .i64 W), (.int .i64 H)]) rfl rfl T.own118 (by decide) (fun wc hw => size W H wc)) (fun xq3 hq4 => ?_)
 refine GL.val (v := (.bool (!(sizeB W H)))) (Ex.not rfl) (by decide) ?_
 refine GL.nil (GE.thenN ?_)
 refine GC.cond rfl (fun hq5 => ?_) (fun hq5 => ?_)
 ·refine GC.seq (GC.region ?_)
  refine GL.val (v := (.agg #[(.int .i64 0), (.int .i64 0), (.slice none 0 0)])) (Ex.build (vs := []) rfl (by first | rfl | kernel_rfl)) (by decide) ?_
  refine GL.step (Stp.st0 (cs' := [(.int .i64 0), (.int .i64 0), (.slice none 0 0)]) rfl rfl rfl T.sz75 rfl rfl rfl) (fun _ _ => ?_)
  refine GL.sg rfl (by decide) ?_
  refine GL.nil (GE.thenN (GC.ret (GE.thenR ?_)))
  refine GC.ret2 rfl (Rv.cellA rfl T.ag75 T.sz75 (L := _) (i := 0) rfl (vs := [(.int .i64 0), (.int .i64 0), (.slice none 0 0)]) rfl rfl) (Rv.tmp rfl) (fun wN HN => ?_)
  exact HN.ret () trivial (by first | rfl | (congr 1; done)) (List.nil_sublist _) rfl
 ·exfalso; rw [hs] at hq5; cases hq5

theorem ref_blank (W H : Nat) (w : World) (hA : W * H ≤ 65536) :
  Calls Tryz.prog 83 #[(.int .i64 (((W : Nat) : Int))), (.int .i64 (((H : Nat) : Int)))] w (Ret w (fun _ : Nat => True) (fun r => (.agg #[(.int .i64 (((W : Nat) : Int))), (.int .i64 (((H : Nat) : Int))), (.slice (some ⟨r, 0, none⟩) (W * H) (W * H))])) (fun r => [⟨r, List.replicate (W * H) (.int .u32 0), 52, true⟩])) := by
 refine enter (M := None) (L := []) (n := 12) (l := [(0, (.int .i64 (((W : Nat) : Int)))), (1, (.int .i64 (((H : Nat) : Int))))]) Tryz.func83 rfl rfl (Args.cons rfl (Args.cons rfl (Args.nil _))) (Hp.start _ _) ?_
 refine GC.seq (GC.region ?_)
 refine GL.step (Stp.alloc T.zr75 (by decide)) (fun bq1 _ => ?_)
 refine GL.nil (GE.thenN (GC.seq (GC.region ?_)))
 refine GL.mv rfl (by decide) ?_
 refine GL.mv rfl (by decide) ?_
 refine GL.mv rfl (by decide) ?_
 refine GL.mv rfl (by decide) ?_
 refine GL.val (v := (.int .i64 (((W * H : Nat) : Int)))) (Ex.mul rfl rfl (Z := ((W * H : Nat) : Int)) (mulN (by omega))) (by decide) ?_
 refine GL.step (Stp.makeSlice (a1 := W * H) (c := W * H) rfl rfl Tryz.underlying53 T.zr52 T.sz52 T.by52 rfl (Nat.le_refl _) (by omega) (by omega) (by decide)) (fun bq2 _ => ?_)
 rw [madeCells_one]
 refine GL.val (v := (.agg #[(.int .i64 (((W : Nat) : Int))), (.int .i64 (((H : Nat) : Int))), (.slice (some ⟨bq2, 0, none⟩) (W * H) (W * H))])) (Ex.build (vs := [(0, (.int .i64 (((W : Nat) : Int)))), (1, (.int .i64 (((H : Nat) : Int)))), (2, (.slice (some ⟨bq2, 0, none⟩) (W * H) (W * H)))]) rfl (by first | rfl | kernel_rfl)) (by decide) ?_
 refine GL.step (Stp.st1 (cs' := [(.int .i64 (((W : Nat) : Int))), (.int .i64 (((H : Nat) : Int))), (.slice (some ⟨bq2, 0, none⟩) (W * H) (W * H))]) rfl rfl rfl T.sz75 rfl rfl rfl) (fun _ _ => ?_)
 refine GL.nil (GE.thenN (GC.ret ?_))
 refine GC.ret1 rfl (Rv.cellA rfl T.ag75 T.sz75 (L := _) (i := 1) rfl (vs := [(.int .i64 (((W : Nat) : Int))), (.int .i64 (((H : Nat) : Int))), (.slice (some ⟨bq2, 0, none⟩) (W * H) (W * H))]) rfl rfl) (fun wN HN => ?_)
 exact HN.ret bq2 trivial rfl (ulC (ulS ulN)) rfl

theorem ref_copy (W H n cap b o : Nat) (xs : List Int) (w : World) (hok : okP W H) (hn : n = W * H) (hx : xs.length = n) (hr : Rd w b o (xs.map u32)) :
  Calls Tryz.prog 85 #[(.agg #[(.int .i64 (((W : Nat) : Int))), (.int .i64 (((H : Nat) : Int))), (.slice (some ⟨b, o, none⟩) n cap)])] w (Ret w (fun _ : Nat => True) (fun r => (.agg #[(.int .i64 (((W : Nat) : Int))), (.int .i64 (((H : Nat) : Int))), (.slice (some ⟨r, 0, none⟩) (W * H) (W * H))])) (fun r => [⟨r, xs.map u32, 52, true⟩])) := by
 have hA := hok.2.2.2.2
 refine enter (M := None) (L := []) (n := 15) (l := [(0, (.agg #[(.int .i64 (((W : Nat) : Int))), (.int .i64 (((H : Nat) : Int))), (.slice (some ⟨b, o, none⟩) n cap)]))]) Tryz.func85 rfl rfl (Args.cons rfl (Args.nil _)) (Hp.start _ _) ?_
 refine GC.seq (GC.region ?_)
 refine GL.step (Stp.box (cs := [(.int .i64 (((W : Nat) : Int))), (.int .i64 (((H : Nat) : Int))), (.slice (some ⟨b, o, none⟩) n cap)]) rfl rfl (by decide)) (fun bq1 _ => ?_)
 refine GL.step (Stp.alloc T.zr75 (by decide)) (fun bq2 _ => ?_)
 refine GL.nil (GE.thenN (GC.seq (GC.region ?_)))
 refine GL.val (v := (.pointer (some ⟨bq1, 0, none⟩))) (Ex.cast (Ex.fieldAddr rfl Tryz.underlying75 rfl T.sz3 (by decide)) rfl) (by decide) ?_
 refine GL.val (Ex.load rfl T.ag3 (i := 1) rfl rfl) (by decide) ?_
 refine GL.val (v := (.pointer (some ⟨bq1, 1, none⟩))) (Ex.cast (Ex.fieldAddr rfl Tryz.underlying75 rfl T.sz3 (by decide)) rfl) (by decide) ?_
 refine GL.val (Ex.load rfl T.ag3 (i := 1) rfl rfl) (by decide) ?_
 refine GL.step (Stp.callR (vs := [(.int .i64 (((W : Nat) : Int))), (.int .i64 (((H : Nat) : Int)))]) rfl rfl T.own83 (by decide) (fun wc hw => ref_blank W H wc (by first | omega | (rw [Nat.mul_comm]; omega)))) (fun xq3 hq4 => ?_)
 refine GL.step (Stp.alloc T.zr75 (by decide)) (fun bq5 _ => ?_)
 refine GL.step (Stp.st0 (cs' := [(.int .i64 (((W : Nat) : Int))), (.int .i64 (((H : Nat) : Int))), (.slice (some ⟨xq3, 0, none⟩) (W * H) (W * H))]) rfl rfl rfl T.sz75 rfl rfl rfl) (fun _ _ => ?_)
 refine GL.nil (GE.thenN (GC.seq (GC.region ?_)))
 refine GL.val (v := (.pointer (some ⟨bq5, 2, none⟩))) (Ex.cast (Ex.fieldAddr rfl Tryz.underlying75 rfl T.sz53 (by decide)) rfl) (by decide) ?_
 refine GL.val (Ex.load rfl T.ag53 (i := 0) rfl rfl) (by decide) ?_
 refine GL.val (v := (.pointer (some ⟨bq1, 2, none⟩))) (Ex.cast (Ex.fieldAddr rfl Tryz.underlying75 rfl T.sz53 (by decide)) rfl) (by decide) ?_
 refine GL.val (Ex.load rfl T.ag53 (i := 3) rfl rfl) (by decide) ?_
 refine GL.step (Stp.copyO (i := 1) (vs := xs.map u32) (L1 := [⟨bq5, [(.int .i64 (((W : Nat) : Int))), (.int .i64 (((H : Nat) : Int))), (.slice (some ⟨xq3, 0, none⟩) (W * H) (W * H))], 75, true⟩, ⟨xq3, xs.map u32, 52, true⟩, ⟨bq2, [(.int .i64 0), (.int .i64 0), (.slice none 0 0)], 75, true⟩, ⟨bq1, [(.int .i64 (((W : Nat) : Int))), (.int .i64 (((H : Nat) : Int))), (.slice (some ⟨b, o, none⟩) n cap)], 75, true⟩]) rfl rfl Tryz.underlying53 T.sz52 rfl (Or.inr ⟨b, o, rfl, fun wz hz => hz.rd hr (fun x => x)⟩) (by simpa using hx) (by omega) (by simp; omega) (u32_one xs) (by simp [splice, hx, hn]) (by decide)) (fun _ _ => ?_)
 refine GL.nil (GE.thenN (GC.seq (GC.region ?_)))
 refine GL.val (v := (.agg #[(.int .i64 (((W : Nat) : Int))), (.int .i64 (((H : Nat) : Int))), (.slice (some ⟨xq3, 0, none⟩) (W * H) (W * H))])) (Ex.loadA rfl T.ag75 T.sz75 (i := 0) rfl (vs := [(.int .i64 (((W : Nat) : Int))), (.int .i64 (((H : Nat) : Int))), (.slice (some ⟨xq3, 0, none⟩) (W * H) (W * H))]) rfl rfl) (by decide) ?_
 refine GL.step (Stp.st2 (cs' := [(.int .i64 (((W : Nat) : Int))), (.int .i64 (((H : Nat) : Int))), (.slice (some ⟨xq3, 0, none⟩) (W * H) (W * H))]) rfl rfl rfl T.sz75 rfl rfl rfl) (fun _ _ => ?_)
 refine GL.nil (GE.thenN (GC.ret ?_))
 refine GC.ret1 rfl (Rv.cellA rfl T.ag75 T.sz75 (L := _) (i := 2) rfl (vs := [(.int .i64 (((W : Nat) : Int))), (.int .i64 (((H : Nat) : Int))), (.slice (some ⟨xq3, 0, none⟩) (W * H) (W * H))]) rfl rfl) (fun wN HN => ?_)
 exact HN.ret xq3 trivial rfl (ulS (ulC (ulS (ulS ulN)))) rfl

theorem spaceof (sp : Int) (n : Nat) (w : World) :
  Calls Tryz.prog 75 #[(.int .i64 sp), (.int .i64 (((n : Nat) : Int)))] w (Ret w (fun _ : Unit => True) (fun _ => (.int .i64 ((spc sp n)))) (fun _ => [])) := by
 refine enter (M := None) (L := []) (n := 19) (l := [(0, (.int .i64 sp)), (1, (.int .i64 (((n : Nat) : Int))))]) Tryz.func75 rfl rfl (Args.cons rfl (Args.cons rfl (Args.nil _))) (Hp.start _ _) ?_
 refine GC.seq (GC.region ?_)
 refine GL.sg rfl (by decide) ?_
 refine GL.nil (GE.thenN (GC.seq (GC.seq (GC.region ?_))))
 refine GL.mv rfl (by decide) ?_
 by_cases hq1 : sp < 0
 ·refine GL.val (v := (.bool true)) (Ex.cast (Ex.lss rfl rfl) (congrArg Value.bool (decide_eq_true hq1))) (by decide) ?_
  refine GL.mv rfl (by decide) ?_
  refine GL.skipG (tj := 7) rfl rfl rfl (by decide) ?_
  refine GL.skipG (tj := 7) rfl rfl rfl (by decide) ?_
  refine GL.val (v := (.bool true)) (Ex.pickT rfl rfl) (by decide) ?_
  refine GL.mv rfl (by decide) ?_
  refine GL.skipG (tj := 11) rfl rfl rfl (by decide) ?_
  refine GL.skipG (tj := 11) rfl rfl rfl (by decide) ?_
  refine GL.skipG (tj := 11) rfl rfl rfl (by decide) ?_
  refine GL.skipU (tj := 14) rfl rfl (by decide) ?_
  refine GL.skipU (tj := 14) rfl rfl (by decide) ?_
  refine GL.skipG (tj := 11) rfl rfl rfl (by decide) ?_
  refine GL.val (v := (.bool true)) (Ex.pickT rfl rfl) (by decide) ?_
  refine GL.nil (GE.thenN ?_)
  refine GC.cond rfl (fun _ => ?_) (fun hq2 => by cases hq2)
  refine GC.seq (GC.region ?_)
  refine GL.sg rfl (by decide) ?_
  refine GL.nil (GE.thenN (GC.ret (GE.thenR ?_)))
  refine GC.ret1 rfl (Rv.tmp rfl) (fun wN HN => ?_)
  exact HN.ret () trivial (congrArg (Value.int .i64) (by unfold spc; first | rw [if_pos (by omega)] | rw [if_neg (by omega)])) (List.nil_sublist _) rfl
 ·refine GL.val (v := (.bool false)) (Ex.cast (Ex.lss rfl rfl) (congrArg Value.bool (decide_eq_false hq1))) (by decide) ?_
  refine GL.mv rfl (by decide) ?_
  refine GL.stepG (tj := 7) rfl rfl (Ex.wp (v := (.int .i64 sp)) (Ex.move rfl) (by decide)) (fun _ _ => ?_)
  by_cases hq3 : 4 < sp
  ·refine GL.stepG (tj := 7) rfl rfl (Ex.wp (v := (.bool true)) (Ex.cast (Ex.gtr rfl rfl) (congrArg Value.bool (decide_eq_true hq3))) (by decide)) (fun _ _ => ?_)
   refine GL.val (v := (.bool true)) (Ex.pickF rfl rfl) (by decide) ?_
   refine GL.mv rfl (by decide) ?_
   refine GL.skipG (tj := 11) rfl rfl rfl (by decide) ?_
   refine GL.skipG (tj := 11) rfl rfl rfl (by decide) ?_
   refine GL.skipG (tj := 11) rfl rfl rfl (by decide) ?_
   refine GL.skipU (tj := 14) rfl rfl (by decide) ?_
   refine GL.skipU (tj := 14) rfl rfl (by decide) ?_
   refine GL.skipG (tj := 11) rfl rfl rfl (by decide) ?_
   refine GL.val (v := (.bool true)) (Ex.pickT rfl rfl) (by decide) ?_
   refine GL.nil (GE.thenN ?_)
   refine GC.cond rfl (fun _ => ?_) (fun hq4 => by cases hq4)
   refine GC.seq (GC.region ?_)
   refine GL.sg rfl (by decide) ?_
   refine GL.nil (GE.thenN (GC.ret (GE.thenR ?_)))
   refine GC.ret1 rfl (Rv.tmp rfl) (fun wN HN => ?_)
   exact HN.ret () trivial (congrArg (Value.int .i64) (by unfold spc; first | rw [if_pos (by omega)] | rw [if_neg (by omega)])) (List.nil_sublist _) rfl
  ·refine GL.stepG (tj := 7) rfl rfl (Ex.wp (v := (.bool false)) (Ex.cast (Ex.gtr rfl rfl) (congrArg Value.bool (decide_eq_false hq3))) (by decide)) (fun _ _ => ?_)
   refine GL.val (v := (.bool false)) (Ex.pickF rfl rfl) (by decide) ?_
   refine GL.mv rfl (by decide) ?_
   refine GL.stepG (tj := 11) rfl rfl (Ex.wp (v := (.int .i64 sp)) (Ex.move rfl) (by decide)) (fun _ _ => ?_)
   by_cases hq5 : sp ≠ 0
   ·refine GL.stepG (tj := 11) rfl rfl (Ex.wp (v := (.bool true)) (Ex.cast (Ex.neq rfl rfl) (congrArg Value.bool (decide_eq_true hq5))) (by decide)) (fun _ _ => ?_)
    refine GL.stepG (tj := 11) rfl rfl (Ex.wp (v := (.bool true)) (Ex.move rfl) (by decide)) (fun _ _ => ?_)
    refine GL.stepG (tj := 14) rfl rfl (Ex.wp (v := (.int .i64 (((n : Nat) : Int)))) (Ex.move rfl) (by decide)) (fun _ _ => ?_)
    refine GL.stepG (tj := 14) rfl rfl (Ex.wp (v := (.bool (decide ((((n : Nat) : Int)) < 3)))) (Ex.lss rfl rfl) (by decide)) (fun _ _ => ?_)
    refine GL.stepG (tj := 11) rfl rfl (Ex.wp (v := (.bool (decide ((((n : Nat) : Int)) < 3)))) (Ex.pickT rfl rfl) (by decide)) (fun _ _ => ?_)
    refine GL.val (v := (.bool (decide ((((n : Nat) : Int)) < 3)))) (Ex.pickF rfl rfl) (by decide) ?_
    refine GL.nil (GE.thenN ?_)
    refine GC.cond rfl (fun hq6 => ?_) (fun hq6 => ?_)
    ·replace hq6 := of_decide_eq_true hq6
     refine GC.seq (GC.region ?_)
     refine GL.sg rfl (by decide) ?_
     refine GL.nil (GE.thenN (GC.ret (GE.thenR ?_)))
     refine GC.ret1 rfl (Rv.tmp rfl) (fun wN HN => ?_)
     exact HN.ret () trivial (congrArg (Value.int .i64) (by unfold spc; first | rw [if_pos (by omega)] | rw [if_neg (by omega)])) (List.nil_sublist _) rfl
    ·replace hq6 := of_decide_eq_false hq6
     refine GC.skip (GE.thenN (GC.seq (GC.region ?_)))
     refine GL.sg rfl (by decide) ?_
     refine GL.nil (GE.thenN (GC.ret ?_))
     refine GC.ret1 rfl (Rv.tmp rfl) (fun wN HN => ?_)
     exact HN.ret () trivial (congrArg (Value.int .i64) (by unfold spc; first | rw [if_pos (by omega)] | rw [if_neg (by omega)])) (List.nil_sublist _) rfl
   ·refine GL.stepG (tj := 11) rfl rfl (Ex.wp (v := (.bool false)) (Ex.cast (Ex.neq rfl rfl) (congrArg Value.bool (decide_eq_false hq5))) (by decide)) (fun _ _ => ?_)
    refine GL.stepG (tj := 11) rfl rfl (Ex.wp (v := (.bool false)) (Ex.move rfl) (by decide)) (fun _ _ => ?_)
    refine GL.skipG (tj := 14) rfl rfl rfl (by decide) ?_
    refine GL.skipG (tj := 14) rfl rfl rfl (by decide) ?_
    refine GL.stepG (tj := 11) rfl rfl (Ex.wp (v := (.bool false)) (Ex.pickF rfl rfl) (by decide)) (fun _ _ => ?_)
    refine GL.val (v := (.bool false)) (Ex.pickF rfl rfl) (by decide) ?_
    refine GL.nil (GE.thenN ?_)
    refine GC.cond rfl (fun hq7 => by cases hq7) (fun _ => ?_)
    refine GC.skip (GE.thenN (GC.seq (GC.region ?_)))
    refine GL.sg rfl (by decide) ?_
    refine GL.nil (GE.thenN (GC.ret ?_))
    refine GC.ret1 rfl (Rv.tmp rfl) (fun wN HN => ?_)
    exact HN.ret () trivial (congrArg (Value.int .i64) (by unfold spc; first | rw [if_pos (by omega)] | rw [if_neg (by omega)])) (List.nil_sublist _) rfl

theorem ref_spaced (sp : Int) (n : Nat) (w : World) (hn : n ≤ 4) :
  Calls Tryz.prog 82 #[(.int .i64 sp), (.int .i64 (((n : Nat) : Int)))] w (Ret w (fun _ : Unit => True) (fun _ => (.bool (decide (spc sp n = 0)))) (fun _ => [])) := by
 refine enter (M := None) (L := []) (n := 23) (l := [(0, (.int .i64 sp)), (1, (.int .i64 (((n : Nat) : Int))))]) Tryz.func82 rfl rfl (Args.cons rfl (Args.cons rfl (Args.nil _))) (Hp.start _ _) ?_
 refine GC.seq (GC.region ?_)
 refine GL.sg rfl (by decide) ?_
 refine GL.nil (GE.thenN (GC.seq (GC.region ?_)))
 refine GL.mv rfl (by decide) ?_
 by_cases hq1 : 0 ≤ sp
 ·refine GL.val (v := (.bool true)) (Ex.cast (Ex.geq rfl rfl) (congrArg Value.bool (decide_eq_true hq1))) (by decide) ?_
  refine GL.mv rfl (by decide) ?_
  refine GL.stepG (tj := 7) rfl rfl (Ex.wp (v := (.int .i64 sp)) (Ex.move rfl) (by decide)) (fun _ _ => ?_)
  by_cases hq2 : sp ≤ 4
  ·refine GL.stepG (tj := 7) rfl rfl (Ex.wp (v := (.bool true)) (Ex.cast (Ex.leq rfl rfl) (congrArg Value.bool (decide_eq_true hq2))) (by decide)) (fun _ _ => ?_)
   refine GL.val (v := (.bool true)) (Ex.pickT rfl rfl) (by decide) ?_
   refine GL.mv rfl (by decide) ?_
   refine GL.stepG (tj := 11) rfl rfl (Ex.wp (v := (.int .i64 sp)) (Ex.move rfl) (by decide)) (fun _ _ => ?_)
   by_cases hq3 : sp = 0
   ·refine GL.stepG (tj := 11) rfl rfl (Ex.wp (v := (.bool true)) (Ex.cast (Ex.eql rfl rfl) (congrArg Value.bool (decide_eq_true hq3))) (by decide)) (fun _ _ => ?_)
    refine GL.stepG (tj := 11) rfl rfl (Ex.wp (v := (.bool true)) (Ex.move rfl) (by decide)) (fun _ _ => ?_)
    refine GL.skipG (tj := 14) rfl rfl rfl (by decide) ?_
    refine GL.skipG (tj := 14) rfl rfl rfl (by decide) ?_
    refine GL.stepG (tj := 11) rfl rfl (Ex.wp (v := (.bool true)) (Ex.pickT rfl rfl) (by decide)) (fun _ _ => ?_)
    refine GL.stepG (tj := 11) rfl rfl (Ex.wp (v := (.bool true)) (Ex.move rfl) (by decide)) (fun _ _ => ?_)
    refine GL.skipG (tj := 18) rfl rfl rfl (by decide) ?_
    refine GL.skipG (tj := 18) rfl rfl rfl (by decide) ?_
    refine GL.stepG (tj := 11) rfl rfl (Ex.wp (v := (.bool true)) (Ex.pickT rfl rfl) (by decide)) (fun _ _ => ?_)
    refine GL.val (v := (.bool true)) (Ex.pickT rfl rfl) (by decide) ?_
    refine GL.sg rfl (by decide) ?_
    refine GL.nil (GE.thenN (GC.ret ?_))
    refine GC.ret1 rfl (Rv.tmp rfl) (fun wN HN => ?_)
    exact HN.ret () trivial (congrArg Value.bool ((decide_eq_true (by unfold spc; rw [if_neg (by omega)])).symm)) (List.nil_sublist _) rfl
   ·refine GL.stepG (tj := 11) rfl rfl (Ex.wp (v := (.bool false)) (Ex.cast (Ex.eql rfl rfl) (congrArg Value.bool (decide_eq_false hq3))) (by decide)) (fun _ _ => ?_)
    refine GL.stepG (tj := 11) rfl rfl (Ex.wp (v := (.bool false)) (Ex.move rfl) (by decide)) (fun _ _ => ?_)
    refine GL.stepG (tj := 14) rfl rfl (Ex.wp (v := (.int .i64 (((n : Nat) : Int)))) (Ex.move rfl) (by decide)) (fun _ _ => ?_)
    by_cases hq4 : (((n : Nat) : Int)) = 3
    ·refine GL.stepG (tj := 14) rfl rfl (Ex.wp (v := (.bool true)) (Ex.cast (Ex.eql rfl rfl) (congrArg Value.bool (decide_eq_true hq4))) (by decide)) (fun _ _ => ?_)
     refine GL.stepG (tj := 11) rfl rfl (Ex.wp (v := (.bool true)) (Ex.pickF rfl rfl) (by decide)) (fun _ _ => ?_)
     refine GL.stepG (tj := 11) rfl rfl (Ex.wp (v := (.bool true)) (Ex.move rfl) (by decide)) (fun _ _ => ?_)
     refine GL.skipG (tj := 18) rfl rfl rfl (by decide) ?_
     refine GL.skipG (tj := 18) rfl rfl rfl (by decide) ?_
     refine GL.stepG (tj := 11) rfl rfl (Ex.wp (v := (.bool true)) (Ex.pickT rfl rfl) (by decide)) (fun _ _ => ?_)
     refine GL.val (v := (.bool true)) (Ex.pickT rfl rfl) (by decide) ?_
     refine GL.sg rfl (by decide) ?_
     refine GL.nil (GE.thenN (GC.ret ?_))
     refine GC.ret1 rfl (Rv.tmp rfl) (fun wN HN => ?_)
     exact HN.ret () trivial (congrArg Value.bool ((decide_eq_true (by unfold spc; rw [if_neg (by omega)])).symm)) (List.nil_sublist _) rfl
    ·refine GL.stepG (tj := 14) rfl rfl (Ex.wp (v := (.bool false)) (Ex.cast (Ex.eql rfl rfl) (congrArg Value.bool (decide_eq_false hq4))) (by decide)) (fun _ _ => ?_)
     refine GL.stepG (tj := 11) rfl rfl (Ex.wp (v := (.bool false)) (Ex.pickF rfl rfl) (by decide)) (fun _ _ => ?_)
     refine GL.stepG (tj := 11) rfl rfl (Ex.wp (v := (.bool false)) (Ex.move rfl) (by decide)) (fun _ _ => ?_)
     refine GL.stepG (tj := 18) rfl rfl (Ex.wp (v := (.int .i64 (((n : Nat) : Int)))) (Ex.move rfl) (by decide)) (fun _ _ => ?_)
     refine GL.stepG (tj := 18) rfl rfl (Ex.wp (v := (.bool (decide ((((n : Nat) : Int)) = 4)))) (Ex.eql rfl rfl) (by decide)) (fun _ _ => ?_)
     refine GL.stepG (tj := 11) rfl rfl (Ex.wp (v := (.bool (decide ((((n : Nat) : Int)) = 4)))) (Ex.pickF rfl rfl) (by decide)) (fun _ _ => ?_)
     refine GL.val (v := (.bool (decide ((((n : Nat) : Int)) = 4)))) (Ex.pickT rfl rfl) (by decide) ?_
     refine GL.sg rfl (by decide) ?_
     refine GL.nil (GE.thenN (GC.ret ?_))
     refine GC.ret1 rfl (Rv.tmp rfl) (fun wN HN => ?_)
     exact HN.ret () trivial (congrArg Value.bool (decide_eq_decide.2 (by unfold spc; split <;> omega))) (List.nil_sublist _) rfl
  ·refine GL.stepG (tj := 7) rfl rfl (Ex.wp (v := (.bool false)) (Ex.cast (Ex.leq rfl rfl) (congrArg Value.bool (decide_eq_false hq2))) (by decide)) (fun _ _ => ?_)
   refine GL.val (v := (.bool false)) (Ex.pickT rfl rfl) (by decide) ?_
   refine GL.mv rfl (by decide) ?_
   refine GL.skipG (tj := 11) rfl rfl rfl (by decide) ?_
   refine GL.skipG (tj := 11) rfl rfl rfl (by decide) ?_
   refine GL.skipG (tj := 11) rfl rfl rfl (by decide) ?_
   refine GL.skipU (tj := 14) rfl rfl (by decide) ?_
   refine GL.skipU (tj := 14) rfl rfl (by decide) ?_
   refine GL.skipG (tj := 11) rfl rfl rfl (by decide) ?_
   refine GL.skipG (tj := 11) rfl rfl rfl (by decide) ?_
   refine GL.skipU (tj := 18) rfl rfl (by decide) ?_
   refine GL.skipU (tj := 18) rfl rfl (by decide) ?_
   refine GL.skipG (tj := 11) rfl rfl rfl (by decide) ?_
   refine GL.val (v := (.bool false)) (Ex.pickF rfl rfl) (by decide) ?_
   refine GL.sg rfl (by decide) ?_
   refine GL.nil (GE.thenN (GC.ret ?_))
   refine GC.ret1 rfl (Rv.tmp rfl) (fun wN HN => ?_)
   exact HN.ret () trivial (congrArg Value.bool ((decide_eq_false (by unfold spc; rw [if_pos (by omega)]; decide)).symm)) (List.nil_sublist _) rfl
 ·refine GL.val (v := (.bool false)) (Ex.cast (Ex.geq rfl rfl) (congrArg Value.bool (decide_eq_false hq1))) (by decide) ?_
  refine GL.mv rfl (by decide) ?_
  refine GL.skipG (tj := 7) rfl rfl rfl (by decide) ?_
  refine GL.skipG (tj := 7) rfl rfl rfl (by decide) ?_
  refine GL.val (v := (.bool false)) (Ex.pickF rfl rfl) (by decide) ?_
  refine GL.mv rfl (by decide) ?_
  refine GL.skipG (tj := 11) rfl rfl rfl (by decide) ?_
  refine GL.skipG (tj := 11) rfl rfl rfl (by decide) ?_
  refine GL.skipG (tj := 11) rfl rfl rfl (by decide) ?_
  refine GL.skipU (tj := 14) rfl rfl (by decide) ?_
  refine GL.skipU (tj := 14) rfl rfl (by decide) ?_
  refine GL.skipG (tj := 11) rfl rfl rfl (by decide) ?_
  refine GL.skipG (tj := 11) rfl rfl rfl (by decide) ?_
  refine GL.skipU (tj := 18) rfl rfl (by decide) ?_
  refine GL.skipU (tj := 18) rfl rfl (by decide) ?_
  refine GL.skipG (tj := 11) rfl rfl rfl (by decide) ?_
  refine GL.val (v := (.bool false)) (Ex.pickF rfl rfl) (by decide) ?_
  refine GL.sg rfl (by decide) ?_
  refine GL.nil (GE.thenN (GC.ret ?_))
  refine GC.ret1 rfl (Rv.tmp rfl) (fun wN HN => ?_)
  exact HN.ret () trivial (congrArg Value.bool ((decide_eq_false (by unfold spc; rw [if_pos (by omega)]; decide)).symm)) (List.nil_sublist _) rfl

theorem chk_p (sp : Int) (b o n cap : Nat) (ps : List Pn) (w : World) (hps : Pns w b o ps) (hn : n = ps.length) (hnb : n ≤ 35184372087808) :
  Calls Tryz.prog 48 #[(.agg #[(.int .i64 sp), (.slice (some ⟨b, o, none⟩) n cap)])] w (Ret w (fun _ : Unit => True) (fun _ => (.int .i64 ((chkP sp ps)))) (fun _ => [])) := by
 refine enter (M := None) (L := []) (n := 63) (l := [(0, (.agg #[(.int .i64 sp), (.slice (some ⟨b, o, none⟩) n cap)]))]) Tryz.func48 rfl rfl (Args.cons rfl (Args.nil _)) (Hp.start _ _) ?_
 refine GC.seq (GC.region ?_)
 refine GL.step (Stp.box (cs := [(.int .i64 sp), (.slice (some ⟨b, o, none⟩) n cap)]) rfl rfl (by decide)) (fun bq1 _ => ?_)
 refine GL.sg rfl (by decide) ?_
 refine GL.nil (GE.thenN (GC.seq (GC.seq (GC.region ?_))))
 refine GL.val (v := (.pointer (some ⟨bq1, 1, none⟩))) (Ex.cast (Ex.fieldAddr rfl Tryz.underlying24 rfl T.sz22 (by decide)) rfl) (by decide) ?_
 refine GL.val (Ex.load rfl T.ag22 (i := 0) rfl rfl) (by decide) ?_
 refine GL.val (v := (.int .i64 ((n : Int)))) (Ex.len rfl Tryz.underlying22) (by decide) ?_
 by_cases hq2 : ((n : Int)) = 0
 ·refine GL.val (v := (.bool true)) (Ex.cast (Ex.eql rfl rfl) (congrArg Value.bool (decide_eq_true hq2))) (by decide) ?_
  refine GL.mv rfl (by decide) ?_
  refine GL.skipG (tj := 12) rfl rfl rfl (by decide) ?_
  refine GL.skipG (tj := 12) rfl rfl rfl (by decide) ?_
  refine GL.skipG (tj := 12) rfl rfl rfl (by decide) ?_
  refine GL.skipG (tj := 12) rfl rfl rfl (by decide) ?_
  refine GL.val (v := (.bool true)) (Ex.pickT rfl rfl) (by decide) ?_
  refine GL.nil (GE.thenN ?_)
  refine GC.cond rfl (fun _ => ?_) (fun hq3 => by cases hq3)
  refine GC.seq (GC.region ?_)
  refine GL.sg rfl (by decide) ?_
  refine GL.nil (GE.thenN (GC.ret (GE.thenR ?_)))
  refine GC.ret1 rfl (Rv.tmp rfl) (fun wN HN => ?_)
  exact HN.ret () trivial (congrArg (Value.int .i64) (by unfold chkP; rw [if_pos (by omega)])) (List.nil_sublist _) rfl
 ·refine GL.val (v := (.bool false)) (Ex.cast (Ex.eql rfl rfl) (congrArg Value.bool (decide_eq_false hq2))) (by decide) ?_
  refine GL.mv rfl (by decide) ?_
  refine GL.stepG (tj := 12) rfl rfl (Ex.wp (v := (.pointer (some ⟨bq1, 1, none⟩))) (Ex.cast (Ex.fieldAddr rfl Tryz.underlying24 rfl T.sz22 (by decide)) rfl) (by decide)) (fun _ _ => ?_)
  refine GL.stepG (tj := 12) rfl rfl (Ex.wp (v := (.slice (some ⟨b, o, none⟩) n cap)) (Ex.load rfl T.ag22 (i := 0) rfl rfl) (by decide)) (fun _ _ => ?_)
  refine GL.stepG (tj := 12) rfl rfl (Ex.wp (v := (.int .i64 ((n : Int)))) (Ex.len rfl Tryz.underlying22) (by decide)) (fun _ _ => ?_)
  refine GL.stepG (tj := 12) rfl rfl (Ex.wp (v := (.bool (decide (4 < ((n : Int)))))) (Ex.gtr rfl rfl) (by decide)) (fun _ _ => ?_)
  refine GL.val (v := (.bool (decide (4 < ((n : Int)))))) (Ex.pickF rfl rfl) (by decide) ?_
  refine GL.nil (GE.thenN ?_)
  refine GC.cond rfl (fun hq4 => ?_) (fun hq4 => ?_)
  ·replace hq4 := of_decide_eq_true hq4
   refine GC.seq (GC.region ?_)
   refine GL.sg rfl (by decide) ?_
   refine GL.nil (GE.thenN (GC.ret (GE.thenR ?_)))
   refine GC.ret1 rfl (Rv.tmp rfl) (fun wN HN => ?_)
   exact HN.ret () trivial (congrArg (Value.int .i64) (by unfold chkP; rw [if_pos (by omega)])) (List.nil_sublist _) rfl
  ·replace hq4 := of_decide_eq_false hq4
   refine GC.skip (GE.thenN (GC.seq (GC.seq (GC.region ?_))))
   refine GL.val (v := (.pointer (some ⟨bq1, 1, none⟩))) (Ex.cast (Ex.fieldAddr rfl Tryz.underlying24 rfl T.sz22 (by decide)) rfl) (by decide) ?_
   refine GL.val (Ex.load rfl T.ag22 (i := 0) rfl rfl) (by decide) ?_
   refine GL.val (v := (.int .i64 ((n : Int)))) (Ex.len rfl Tryz.underlying22) (by decide) ?_
   refine GL.mv rfl (by decide) ?_
   refine GL.nil (GE.thenN (GC.block ?_))
   refine GC.loop (σ := Nat) (fun i => i ≤ n ∧ ∀ j, j < i → (pAt ps j).chk = 0) (fun i => [(1, (.pointer (some ⟨bq1, 0, none⟩))), (2, (.int .i64 0)), (19, (.slice (some ⟨b, o, none⟩) n cap)), (20, (.int .i64 ((n : Int)))), (21, (.int .i64 (((i : Nat) : Int))))]) (fun i => [⟨bq1, [(.int .i64 sp), (.slice (some ⟨b, o, none⟩) n cap)], 24, true⟩]) (fun i => n - i) (0) ⟨Nat.zero_le _, fun j hj => absurd hj (Nat.not_lt_zero _)⟩ ((sub_cons rfl ((sub_cons rfl ((sub_cons rfl ((sub_cons rfl ((sub_cons rfl ((sub_nil _)))))))))))) (ulC ulN) (fun i hp => ?_)
   have hpi := hp.1
   refine GC.seq (GC.region ?_)
   refine GL.val (v := (.bool (decide ((((i : Nat) : Int)) < ((n : Int)))))) (Ex.lss rfl rfl) (by decide) ?_
   refine GL.nil (GE.thenN (GC.seq ?_))
   refine GC.cond rfl (fun hq5 => ?_) (fun hq5 => ?_)
   ·replace hq5 := of_decide_eq_true hq5
    refine GC.skip (GE.thenN (GC.seq (GC.block (GC.seq (GC.region ?_)))))
    refine GL.val (v := (.pointer (some ⟨b, o + i * 3, none⟩))) (Ex.cast (Ex.indexAddr rfl rfl Tryz.underlying22 T.sz75 (by omega) (by omega)) (by simp)) (by decide) ?_
    refine GL.val (v := (.agg #[(.int .i64 ((pAt ps i).W)), (.int .i64 ((pAt ps i).H)), (.slice (pAt ps i).ad ((pAt ps i).n) ((pAt ps i).cap))])) (Ex.loadAO rfl T.ag75 T.sz75 (Pns.ld (i := i) hps (by omega)) (fun x => x) rfl) (by decide) ?_
    refine GL.step (Stp.alloc T.zr75 (by decide)) (fun bq6 _ => ?_)
    refine GL.step (Stp.st0 (cs' := [(.int .i64 ((pAt ps i).W)), (.int .i64 ((pAt ps i).H)), (.slice (pAt ps i).ad ((pAt ps i).n) ((pAt ps i).cap))]) rfl rfl rfl T.sz75 rfl rfl rfl) (fun _ _ => ?_)
    refine GL.nil (GE.thenN (GC.seq (GC.region ?_)))
    refine GL.val (v := (.agg #[(.int .i64 ((pAt ps i).W)), (.int .i64 ((pAt ps i).H)), (.slice (pAt ps i).ad ((pAt ps i).n) ((pAt ps i).cap))])) (Ex.loadA rfl T.ag75 T.sz75 (i := 0) rfl (vs := [(.int .i64 ((pAt ps i).W)), (.int .i64 ((pAt ps i).H)), (.slice (pAt ps i).ad ((pAt ps i).n) ((pAt ps i).cap))]) rfl rfl) (by decide) ?_
    refine GL.step (Stp.callR (vs := [(.agg #[(.int .i64 ((pAt ps i).W)), (.int .i64 ((pAt ps i).H)), (.slice (pAt ps i).ad ((pAt ps i).n) ((pAt ps i).cap))])]) rfl rfl T.own77 (by decide) (fun wc hw => check ((pAt ps i).W) ((pAt ps i).H) ((pAt ps i).ad) ((pAt ps i).n) ((pAt ps i).cap) wc)) (fun xq7 hq8 => ?_)
    refine GL.sg rfl (by decide) ?_
    refine GL.nil (GE.thenN (GC.seq (GC.region ?_)))
    refine GL.mv rfl (by decide) ?_
    refine GL.val (v := (.bool (decide ((chk ((pAt ps i).W) ((pAt ps i).H) ((pAt ps i).n)) ≠ 0)))) (Ex.neq rfl rfl) (by decide) ?_
    refine GL.nil (GE.thenN ?_)
    refine GC.cond rfl (fun hq9 => ?_) (fun hq9 => ?_)
    ·replace hq9 := of_decide_eq_true hq9
     have hE : (pAt ps i).chk ≠ 0 := hq9
     refine GC.seq (GC.region ?_)
     refine GL.mv rfl (by decide) ?_
     refine GL.sg rfl (by decide) ?_
     refine GL.nil (GE.thenN (GC.ret (GE.blockR (GE.thenR (GE.thenR (GE.blockR (GE.thenR ?_)))))))
     refine GC.ret1 rfl (Rv.tmp rfl) (fun wN HN => ?_)
     exact HN.ret () trivial (congrArg (Value.int .i64) (by unfold chkP; rw [if_neg (by omega), chkL_at (by omega) hp.2 hE, if_pos hE]; rfl)) (List.nil_sublist _) rfl
    ·replace hq9 := of_decide_eq_false hq9
     have hE : ¬ (pAt ps i).chk ≠ 0 := hq9
     refine GC.skip (GE.blockN (GE.thenN (GC.region ?_)))
     refine GL.val (v := (.int .i64 (((i + 1 : Nat) : Int)))) (Ex.add rfl rfl (Z := ((i + 1 : Nat) : Int)) (by rw [w64 (by omega)]; rfl)) (by decide) ?_
     refine GL.mv rfl (by decide) ?_
     refine GL.nil (GE.thenN ?_)
     exact Head.mk (i + 1) ⟨by omega, below_succ hp.2 (Classical.not_not.1 hE)⟩ (by omega) ((sub_cons rfl ((sub_cons rfl ((sub_cons rfl ((sub_cons rfl ((sub_cons rfl ((sub_nil _)))))))))))) (ulS (ulC ulN))
   ·replace hq5 := of_decide_eq_false hq5
    have hL : chkL ps = 0 := chkL_zero fun j hj => hp.2 j (by omega)
    refine GC.exit (GE.thenE (GE.thenE (GE.blockE (GE.thenN (GC.seq (GC.seq (GC.region ?_)))))))
    refine GL.val (v := (.pointer (some ⟨bq1, 1, none⟩))) (Ex.cast (Ex.fieldAddr rfl Tryz.underlying24 rfl T.sz22 (by decide)) rfl) (by decide) ?_
    refine GL.val (Ex.load rfl T.ag22 (i := 0) rfl rfl) (by decide) ?_
    refine GL.val (v := (.int .i64 ((n : Int)))) (Ex.len rfl Tryz.underlying22) (by decide) ?_
    refine GL.mv rfl (by decide) ?_
    refine GL.nil (GE.thenN (GC.block ?_))
    refine GC.loop (σ := Nat) (fun k => k ≤ n ∧ ∀ j, j < k → (pAt ps j).W = (pAt ps 0).W ∧ (pAt ps j).H = (pAt ps 0).H) (fun k => [(1, (.pointer (some ⟨bq1, 0, none⟩))), (2, (.int .i64 0)), (32, (.slice (some ⟨b, o, none⟩) n cap)), (33, (.int .i64 ((n : Int)))), (34, (.int .i64 (((k : Nat) : Int))))]) (fun k => [⟨bq1, [(.int .i64 sp), (.slice (some ⟨b, o, none⟩) n cap)], 24, true⟩]) (fun k => n - k) (0) ⟨Nat.zero_le _, fun j hj => absurd hj (Nat.not_lt_zero _)⟩ ((sub_cons rfl ((sub_cons rfl ((sub_cons rfl ((sub_cons rfl ((sub_cons rfl ((sub_nil _)))))))))))) (ulC ulN) (fun k hp => ?_)
    have hpi := hp.1
    refine GC.seq (GC.region ?_)
    refine GL.val (v := (.bool (decide ((((k : Nat) : Int)) < ((n : Int)))))) (Ex.lss rfl rfl) (by decide) ?_
    refine GL.nil (GE.thenN (GC.seq ?_))
    refine GC.cond rfl (fun hq10 => ?_) (fun hq10 => ?_)
    ·replace hq10 := of_decide_eq_true hq10
     refine GC.skip (GE.thenN (GC.seq (GC.block (GC.seq (GC.region ?_)))))
     refine GL.val (v := (.pointer (some ⟨b, o + k * 3, none⟩))) (Ex.cast (Ex.indexAddr rfl rfl Tryz.underlying22 T.sz75 (by omega) (by omega)) (by simp)) (by decide) ?_
     refine GL.val (v := (.agg #[(.int .i64 ((pAt ps k).W)), (.int .i64 ((pAt ps k).H)), (.slice (pAt ps k).ad ((pAt ps k).n) ((pAt ps k).cap))])) (Ex.loadAO rfl T.ag75 T.sz75 (Pns.ld (i := k) hps (by omega)) (fun x => x) rfl) (by decide) ?_
     refine GL.step (Stp.alloc T.zr75 (by decide)) (fun bq11 _ => ?_)
     refine GL.step (Stp.st0 (cs' := [(.int .i64 ((pAt ps k).W)), (.int .i64 ((pAt ps k).H)), (.slice (pAt ps k).ad ((pAt ps k).n) ((pAt ps k).cap))]) rfl rfl rfl T.sz75 rfl rfl rfl) (fun _ _ => ?_)
     refine GL.nil (GE.thenN (GC.seq ?_))
     by_cases hW : (pAt ps k).W = (pAt ps 0).W
     ·refine GC.draw [⟨bq11, [(.int .i64 ((pAt ps k).W)), (.int .i64 ((pAt ps k).H)), (.slice (pAt ps k).ad ((pAt ps k).n) ((pAt ps k).cap))], 75, true⟩, ⟨bq1, [(.int .i64 sp), (.slice (some ⟨b, o, none⟩) n cap)], 24, true⟩] T.mixed (fuel := 18) rfl rfl ?_
      refine GH.tk 0 (v := (.pointer (some ⟨bq11, 0, none⟩))) rfl (by kernel_rfl) (fun _ _ _ h => h) (Ex.cast (Ex.fieldAddr rfl Tryz.underlying75 rfl T.sz3 (by decide)) rfl) (ulC (ulC ulN)) (by decide) ?_
      refine GH.tk 1 (v := (.int .i64 ((pAt ps k).W))) rfl (by kernel_rfl) (fun _ _ _ h => h) (Ex.load rfl T.ag3 (i := 0) rfl rfl) (ulC (ulC ulN)) (by decide) ?_
      refine GH.tk 2 (v := (.pointer (some ⟨bq1, 1, none⟩))) rfl (by kernel_rfl) (fun _ _ _ h => h) (Ex.cast (Ex.fieldAddr rfl Tryz.underlying24 rfl T.sz22 (by decide)) rfl) (ulC (ulC ulN)) (by decide) ?_
      refine GH.tk 3 (v := (.slice (some ⟨b, o, none⟩) n cap)) rfl (by kernel_rfl) (fun _ _ _ h => h) (Ex.load rfl T.ag22 (i := 1) rfl rfl) (ulC (ulC ulN)) (by decide) ?_
      refine GH.tk 4 (v := (.pointer (some ⟨b, o, none⟩))) rfl (by kernel_rfl) (fun _ _ _ h => h) (Ex.cast (Ex.indexAddr rfl rfl Tryz.underlying22 T.sz75 (by omega) (by omega)) rfl) (ulC (ulC ulN)) (by decide) ?_
      refine GH.tk 5 (v := (.pointer (some ⟨b, o, none⟩))) rfl (by kernel_rfl) (fun _ _ _ h => h) (Ex.cast (Ex.fieldAddr rfl Tryz.underlying75 rfl T.sz3 (by decide)) rfl) (ulC (ulC ulN)) (by decide) ?_
      refine GH.tk 6 (v := (.int .i64 ((pAt ps 0).W))) rfl (by kernel_rfl) (fun _ _ _ h => h) (Ex.loadO rfl T.ag3 (Pns.cell (i := 0) (j := 0) hps (by omega) (by decide) rfl) (fun x => x)) (ulC (ulC ulN)) (by decide) ?_
      refine GH.tk 7 (v := (.bool false)) rfl (by kernel_rfl) (fun _ _ _ h => h) (Ex.cast (Ex.neq rfl rfl) (congrArg Value.bool (decide_eq_false (by exact fun h => h hW)))) (ulC (ulC ulN)) (by decide) ?_
      refine GH.tk 8 (v := (.bool false)) rfl (by kernel_rfl) (fun _ _ _ h => h) (Ex.move rfl) (ulC (ulC ulN)) (by decide) ?_
      refine GH.takeG 9 (tj := 46) (v := (.pointer (some ⟨bq11, 1, none⟩))) rfl rfl rfl (by kernel_rfl) (by kernel_rfl) (by kernel_rfl) (fun _ _ _ h => h) (Ex.cast (Ex.fieldAddr rfl Tryz.underlying75 rfl T.sz3 (by decide)) rfl) (ulC (ulC ulN)) (by decide) ?_
      refine GH.takeG 10 (tj := 46) (v := (.int .i64 ((pAt ps k).H))) rfl rfl rfl (by kernel_rfl) (by kernel_rfl) (by kernel_rfl) (fun _ _ _ h => h) (Ex.load rfl T.ag3 (i := 0) rfl rfl) (ulC (ulC ulN)) (by decide) ?_
      refine GH.takeG 11 (tj := 46) (v := (.pointer (some ⟨bq1, 1, none⟩))) rfl rfl rfl (by kernel_rfl) (by kernel_rfl) (by kernel_rfl) (fun _ _ _ h => h) (Ex.cast (Ex.fieldAddr rfl Tryz.underlying24 rfl T.sz22 (by decide)) rfl) (ulC (ulC ulN)) (by decide) ?_
      refine GH.takeG 12 (tj := 46) (v := (.slice (some ⟨b, o, none⟩) n cap)) rfl rfl rfl (by kernel_rfl) (by kernel_rfl) (by kernel_rfl) (fun _ _ _ h => h) (Ex.load rfl T.ag22 (i := 1) rfl rfl) (ulC (ulC ulN)) (by decide) ?_
      refine GH.takeG 13 (tj := 46) (v := (.pointer (some ⟨b, o, none⟩))) rfl rfl rfl (by kernel_rfl) (by kernel_rfl) (by kernel_rfl) (fun _ _ _ h => h) (Ex.cast (Ex.indexAddr rfl rfl Tryz.underlying22 T.sz75 (by omega) (by omega)) rfl) (ulC (ulC ulN)) (by decide) ?_
      refine GH.takeG 14 (tj := 46) (v := (.pointer (some ⟨b, o + 1, none⟩))) rfl rfl rfl (by kernel_rfl) (by kernel_rfl) (by kernel_rfl) (fun _ _ _ h => h) (Ex.cast (Ex.fieldAddr rfl Tryz.underlying75 rfl T.sz3 (by decide)) rfl) (ulC (ulC ulN)) (by decide) ?_
      refine GH.takeG 15 (tj := 46) (v := (.int .i64 ((pAt ps 0).H))) rfl rfl rfl (by kernel_rfl) (by kernel_rfl) (by kernel_rfl) (fun _ _ _ h => h) (Ex.loadO rfl T.ag3 (Pns.cell (i := 0) (j := 1) hps (by omega) (by decide) rfl) (fun x => x)) (ulC (ulC ulN)) (by decide) ?_
      refine GH.takeG 16 (tj := 46) (v := (.bool (decide (((pAt ps k).H) ≠ ((pAt ps 0).H))))) rfl rfl rfl (by kernel_rfl) (by kernel_rfl) (by kernel_rfl) (fun _ _ _ h => h) (Ex.neq rfl rfl) (ulC (ulC ulN)) (by decide) ?_
      refine GH.tk 17 (v := (.bool (decide (((pAt ps k).H) ≠ ((pAt ps 0).H))))) rfl (by kernel_rfl) (fun _ _ _ h => h) (Ex.pickF rfl rfl) (ulC (ulC ulN)) (by decide) ?_
      refine GH.done (by kernel_rfl) ?_
      refine GE.thenN ?_
      refine GC.cond rfl (fun hq12 => ?_) (fun hq12 => ?_)
      ·replace hq12 := of_decide_eq_true hq12
       have hH := hq12
       refine GC.seq (GC.region ?_)
       refine GL.sg rfl (by decide) ?_
       refine GL.nil (GE.thenN (GC.ret (GE.blockR (GE.thenR (GE.thenR (GE.blockR (GE.thenR ?_)))))))
       refine GC.ret1 rfl (Rv.tmp rfl) (fun wN HN => ?_)
       exact HN.ret () trivial (congrArg (Value.int .i64) (by unfold chkP; rw [if_neg (by omega), if_neg (by rw [hL]; simp), if_pos (alike_not (i := k) (by omega) (Or.inr hH))])) (List.nil_sublist _) rfl
      ·replace hq12 := of_decide_eq_false hq12
       have hH := hq12
       refine GC.skip (GE.blockN (GE.thenN (GC.region ?_)))
       refine GL.val (v := (.int .i64 (((k + 1 : Nat) : Int)))) (Ex.add rfl rfl (Z := ((k + 1 : Nat) : Int)) (by rw [w64 (by omega)]; rfl)) (by decide) ?_
       refine GL.mv rfl (by decide) ?_
       refine GL.nil (GE.thenN ?_)
       exact Head.mk (k + 1) ⟨by omega, below_succ hp.2 ⟨hW, Classical.not_not.1 hH⟩⟩ (by omega) ((sub_cons rfl ((sub_cons rfl ((sub_cons rfl ((sub_cons rfl ((sub_cons rfl ((sub_nil _)))))))))))) (ulS (ulC ulN))
     ·refine GC.draw [⟨bq11, [(.int .i64 ((pAt ps k).W)), (.int .i64 ((pAt ps k).H)), (.slice (pAt ps k).ad ((pAt ps k).n) ((pAt ps k).cap))], 75, true⟩, ⟨bq1, [(.int .i64 sp), (.slice (some ⟨b, o, none⟩) n cap)], 24, true⟩] T.mixed (fuel := 18) rfl rfl ?_
      refine GH.tk 0 (v := (.pointer (some ⟨bq11, 0, none⟩))) rfl (by kernel_rfl) (fun _ _ _ h => h) (Ex.cast (Ex.fieldAddr rfl Tryz.underlying75 rfl T.sz3 (by decide)) rfl) (ulC (ulC ulN)) (by decide) ?_
      refine GH.tk 1 (v := (.int .i64 ((pAt ps k).W))) rfl (by kernel_rfl) (fun _ _ _ h => h) (Ex.load rfl T.ag3 (i := 0) rfl rfl) (ulC (ulC ulN)) (by decide) ?_
      refine GH.tk 2 (v := (.pointer (some ⟨bq1, 1, none⟩))) rfl (by kernel_rfl) (fun _ _ _ h => h) (Ex.cast (Ex.fieldAddr rfl Tryz.underlying24 rfl T.sz22 (by decide)) rfl) (ulC (ulC ulN)) (by decide) ?_
      refine GH.tk 3 (v := (.slice (some ⟨b, o, none⟩) n cap)) rfl (by kernel_rfl) (fun _ _ _ h => h) (Ex.load rfl T.ag22 (i := 1) rfl rfl) (ulC (ulC ulN)) (by decide) ?_
      refine GH.tk 4 (v := (.pointer (some ⟨b, o, none⟩))) rfl (by kernel_rfl) (fun _ _ _ h => h) (Ex.cast (Ex.indexAddr rfl rfl Tryz.underlying22 T.sz75 (by omega) (by omega)) rfl) (ulC (ulC ulN)) (by decide) ?_
      refine GH.tk 5 (v := (.pointer (some ⟨b, o, none⟩))) rfl (by kernel_rfl) (fun _ _ _ h => h) (Ex.cast (Ex.fieldAddr rfl Tryz.underlying75 rfl T.sz3 (by decide)) rfl) (ulC (ulC ulN)) (by decide) ?_
      refine GH.tk 6 (v := (.int .i64 ((pAt ps 0).W))) rfl (by kernel_rfl) (fun _ _ _ h => h) (Ex.loadO rfl T.ag3 (Pns.cell (i := 0) (j := 0) hps (by omega) (by decide) rfl) (fun x => x)) (ulC (ulC ulN)) (by decide) ?_
      refine GH.tk 7 (v := (.bool true)) rfl (by kernel_rfl) (fun _ _ _ h => h) (Ex.cast (Ex.neq rfl rfl) (congrArg Value.bool (decide_eq_true (by exact hW)))) (ulC (ulC ulN)) (by decide) ?_
      refine GH.tk 8 (v := (.bool true)) rfl (by kernel_rfl) (fun _ _ _ h => h) (Ex.move rfl) (ulC (ulC ulN)) (by decide) ?_
      refine GH.skipG 9 (tj := 46) rfl rfl rfl rfl (by kernel_rfl) (by kernel_rfl) (by kernel_rfl) (fun _ _ _ h => h) (ulC (ulC ulN)) (by decide) ?_
      refine GH.skipG 10 (tj := 46) rfl rfl rfl rfl (by kernel_rfl) (by kernel_rfl) (by kernel_rfl) (fun _ _ _ h => h) (ulC (ulC ulN)) (by decide) ?_
      refine GH.skipG 11 (tj := 46) rfl rfl rfl rfl (by kernel_rfl) (by kernel_rfl) (by kernel_rfl) (fun _ _ _ h => h) (ulC (ulC ulN)) (by decide) ?_
      refine GH.skipG 12 (tj := 46) rfl rfl rfl rfl (by kernel_rfl) (by kernel_rfl) (by kernel_rfl) (fun _ _ _ h => h) (ulC (ulC ulN)) (by decide) ?_
      refine GH.skipG 13 (tj := 46) rfl rfl rfl rfl (by kernel_rfl) (by kernel_rfl) (by kernel_rfl) (fun _ _ _ h => h) (ulC (ulC ulN)) (by decide) ?_
      refine GH.skipG 14 (tj := 46) rfl rfl rfl rfl (by kernel_rfl) (by kernel_rfl) (by kernel_rfl) (fun _ _ _ h => h) (ulC (ulC ulN)) (by decide) ?_
      refine GH.skipG 15 (tj := 46) rfl rfl rfl rfl (by kernel_rfl) (by kernel_rfl) (by kernel_rfl) (fun _ _ _ h => h) (ulC (ulC ulN)) (by decide) ?_
      refine GH.skipG 16 (tj := 46) rfl rfl rfl rfl (by kernel_rfl) (by kernel_rfl) (by kernel_rfl) (fun _ _ _ h => h) (ulC (ulC ulN)) (by decide) ?_
      refine GH.tk 17 (v := (.bool true)) rfl (by kernel_rfl) (fun _ _ _ h => h) (Ex.pickT rfl rfl) (ulC (ulC ulN)) (by decide) ?_
      refine GH.done (by kernel_rfl) ?_
      refine GE.thenN ?_
      refine GC.cond rfl (fun _ => ?_) (fun hq13 => by cases hq13)
      refine GC.seq (GC.region ?_)
      refine GL.sg rfl (by decide) ?_
      refine GL.nil (GE.thenN (GC.ret (GE.blockR (GE.thenR (GE.thenR (GE.blockR (GE.thenR ?_)))))))
      refine GC.ret1 rfl (Rv.tmp rfl) (fun wN HN => ?_)
      exact HN.ret () trivial (congrArg (Value.int .i64) (by unfold chkP; rw [if_neg (by omega), if_neg (by rw [hL]; simp), if_pos (alike_not (i := k) (by omega) (Or.inl hW))])) (List.nil_sublist _) rfl
    ·replace hq10 := of_decide_eq_false hq10
     have hA : alike ps = true := alike_of fun j hj => hp.2 j (by omega)
     refine GC.exit (GE.thenE (GE.thenE (GE.blockE (GE.thenN (GC.seq (GC.region ?_))))))
     refine GL.val (v := (.pointer (some ⟨bq1, 0, none⟩))) (Ex.cast (Ex.fieldAddr rfl Tryz.underlying24 rfl T.sz3 (by decide)) rfl) (by decide) ?_
     refine GL.val (Ex.load rfl T.ag3 (i := 0) rfl rfl) (by decide) ?_
     refine GL.val (v := (.pointer (some ⟨bq1, 1, none⟩))) (Ex.cast (Ex.fieldAddr rfl Tryz.underlying24 rfl T.sz22 (by decide)) rfl) (by decide) ?_
     refine GL.val (Ex.load rfl T.ag22 (i := 0) rfl rfl) (by decide) ?_
     refine GL.val (v := (.int .i64 ((n : Int)))) (Ex.len rfl Tryz.underlying22) (by decide) ?_
     refine GL.step (Stp.callR (vs := [(.int .i64 sp), (.int .i64 ((n : Int)))]) rfl rfl T.own75 (by decide) (fun wc hw => spaceof sp n wc)) (fun xq14 hq15 => ?_)
     refine GL.sg rfl (by decide) ?_
     refine GL.nil (GE.thenN (GC.ret ?_))
     refine GC.ret1 rfl (Rv.tmp rfl) (fun wN HN => ?_)
     exact HN.ret () trivial (congrArg (Value.int .i64) (by unfold chkP; rw [if_neg (by omega), if_neg (by rw [hL]; simp), if_neg (by rw [hA]; simp)]; rw [hn])) (List.nil_sublist _) rfl

theorem chk_p0 (sp : Int) (ad : Option Addr) (cap : Nat) (w : World) :
  Calls Tryz.prog 48 #[(.agg #[(.int .i64 sp), (.slice ad 0 cap)])] w (Ret w (fun _ : Unit => True) (fun _ => (.int .i64 80)) (fun _ => [])) := by
 refine enter (M := None) (L := []) (n := 63) (l := [(0, (.agg #[(.int .i64 sp), (.slice ad 0 cap)]))]) Tryz.func48 rfl rfl (Args.cons rfl (Args.nil _)) (Hp.start _ _) ?_
 refine GC.seq (GC.region ?_)
 refine GL.step (Stp.box (cs := [(.int .i64 sp), (.slice ad 0 cap)]) rfl rfl (by decide)) (fun bq1 _ => ?_)
 refine GL.sg rfl (by decide) ?_
 refine GL.nil (GE.thenN (GC.seq (GC.seq (GC.region ?_))))
 refine GL.val (v := (.pointer (some ⟨bq1, 1, none⟩))) (Ex.cast (Ex.fieldAddr rfl Tryz.underlying24 rfl T.sz22 (by decide)) rfl) (by decide) ?_
 refine GL.val (Ex.load rfl T.ag22 (i := 0) rfl rfl) (by decide) ?_
 refine GL.val (v := (.int .i64 0)) (Ex.len rfl Tryz.underlying22) (by decide) ?_
 refine GL.val (v := (.bool true)) (Ex.cast (Ex.eql rfl rfl) rfl) (by decide) ?_
 refine GL.mv rfl (by decide) ?_
 refine GL.skipG (tj := 12) rfl rfl rfl (by decide) ?_
 refine GL.skipG (tj := 12) rfl rfl rfl (by decide) ?_
 refine GL.skipG (tj := 12) rfl rfl rfl (by decide) ?_
 refine GL.skipG (tj := 12) rfl rfl rfl (by decide) ?_
 refine GL.val (v := (.bool true)) (Ex.pickT rfl rfl) (by decide) ?_
 refine GL.nil (GE.thenN ?_)
 refine GC.cond rfl (fun _ => ?_) (fun hq2 => by cases hq2)
 refine GC.seq (GC.region ?_)
 refine GL.sg rfl (by decide) ?_
 refine GL.nil (GE.thenN (GC.ret (GE.thenR ?_)))
 refine GC.ret1 rfl (Rv.tmp rfl) (fun wN HN => ?_)
 exact HN.ret () trivial rfl (List.nil_sublist _) rfl

theorem chk_p_a (sp : Int) (ad : Option Addr) (n cap : Nat) (ps : List Pn) (w : World) (hps : PnsA w ad ps) (hn : n = ps.length) (hnb : n ≤ 35184372087808) : Calls Tryz.prog 48 #[(.agg #[(.int .i64 sp), (.slice ad n cap)])] w (Ret w (fun _ : Unit => True) (fun _ => (.int .i64 ((chkP sp ps)))) (fun _ => [])) := by
 by_cases h0 : 0 < ps.length
 ·obtain ⟨b, o, rfl, h⟩ := hps.at h0
  exact chk_p sp b o n cap ps w h hn hnb
 ·have e : chkP sp ps = 80 := by unfold chkP; rw [if_pos (by omega)]
  rw [e, show n = 0 by omega]; exact chk_p0 sp ad cap w

theorem ref_chk_p (sp : Int) (b o n cap : Nat) (ps : List Pn) (w : World) (hps : Pns w b o ps) (hn : n = ps.length) (hnb : n ≤ 35184372087808) :
  Calls Tryz.prog 39 #[(.agg #[(.int .i64 sp), (.slice (some ⟨b, o, none⟩) n cap)])] w (Ret w (fun _ : Unit => True) (fun _ => (.int .i64 ((chkP sp ps)))) (fun _ => [])) := by
 refine enter (M := None) (L := []) (n := 72) (l := [(0, (.agg #[(.int .i64 sp), (.slice (some ⟨b, o, none⟩) n cap)]))]) Tryz.func39 rfl rfl (Args.cons rfl (Args.nil _)) (Hp.start _ _) ?_
 refine GC.seq (GC.region ?_)
 refine GL.step (Stp.box (cs := [(.int .i64 sp), (.slice (some ⟨b, o, none⟩) n cap)]) rfl rfl (by decide)) (fun bq1 _ => ?_)
 refine GL.sg rfl (by decide) ?_
 refine GL.nil (GE.thenN (GC.seq (GC.seq (GC.region ?_))))
 refine GL.val (v := (.pointer (some ⟨bq1, 1, none⟩))) (Ex.cast (Ex.fieldAddr rfl Tryz.underlying24 rfl T.sz22 (by decide)) rfl) (by decide) ?_
 refine GL.val (Ex.load rfl T.ag22 (i := 0) rfl rfl) (by decide) ?_
 refine GL.val (v := (.int .i64 ((n : Int)))) (Ex.len rfl Tryz.underlying22) (by decide) ?_
 by_cases hq2 : ((n : Int)) = 0
 ·refine GL.val (v := (.bool true)) (Ex.cast (Ex.eql rfl rfl) (congrArg Value.bool (decide_eq_true hq2))) (by decide) ?_
  refine GL.mv rfl (by decide) ?_
  refine GL.skipG (tj := 10) rfl rfl rfl (by decide) ?_
  refine GL.skipG (tj := 10) rfl rfl rfl (by decide) ?_
  refine GL.skipG (tj := 10) rfl rfl rfl (by decide) ?_
  refine GL.skipG (tj := 10) rfl rfl rfl (by decide) ?_
  refine GL.val (v := (.bool true)) (Ex.pickT rfl rfl) (by decide) ?_
  refine GL.nil (GE.thenN ?_)
  refine GC.cond rfl (fun _ => ?_) (fun hq3 => by cases hq3)
  refine GC.seq (GC.region ?_)
  refine GL.sg rfl (by decide) ?_
  refine GL.nil (GE.thenN (GC.ret (GE.thenR ?_)))
  refine GC.ret1 rfl (Rv.tmp rfl) (fun wN HN => ?_)
  exact HN.ret () trivial (congrArg (Value.int .i64) (by unfold chkP; rw [if_pos (by omega)])) (List.nil_sublist _) rfl
 ·refine GL.val (v := (.bool false)) (Ex.cast (Ex.eql rfl rfl) (congrArg Value.bool (decide_eq_false hq2))) (by decide) ?_
  refine GL.mv rfl (by decide) ?_
  refine GL.stepG (tj := 10) rfl rfl (Ex.wp (v := (.pointer (some ⟨bq1, 1, none⟩))) (Ex.cast (Ex.fieldAddr rfl Tryz.underlying24 rfl T.sz22 (by decide)) rfl) (by decide)) (fun _ _ => ?_)
  refine GL.stepG (tj := 10) rfl rfl (Ex.wp (v := (.slice (some ⟨b, o, none⟩) n cap)) (Ex.load rfl T.ag22 (i := 0) rfl rfl) (by decide)) (fun _ _ => ?_)
  refine GL.stepG (tj := 10) rfl rfl (Ex.wp (v := (.int .i64 ((n : Int)))) (Ex.len rfl Tryz.underlying22) (by decide)) (fun _ _ => ?_)
  refine GL.stepG (tj := 10) rfl rfl (Ex.wp (v := (.bool (decide (4 < ((n : Int)))))) (Ex.gtr rfl rfl) (by decide)) (fun _ _ => ?_)
  refine GL.val (v := (.bool (decide (4 < ((n : Int)))))) (Ex.pickF rfl rfl) (by decide) ?_
  refine GL.nil (GE.thenN ?_)
  refine GC.cond rfl (fun hq4 => ?_) (fun hq4 => ?_)
  ·replace hq4 := of_decide_eq_true hq4
   refine GC.seq (GC.region ?_)
   refine GL.sg rfl (by decide) ?_
   refine GL.nil (GE.thenN (GC.ret (GE.thenR ?_)))
   refine GC.ret1 rfl (Rv.tmp rfl) (fun wN HN => ?_)
   exact HN.ret () trivial (congrArg (Value.int .i64) (by unfold chkP; rw [if_pos (by omega)])) (List.nil_sublist _) rfl
  ·replace hq4 := of_decide_eq_false hq4
   refine GC.skip (GE.thenN (GC.seq (GC.seq (GC.region ?_))))
   refine GL.sg rfl (by decide) ?_
   refine GL.nil (GE.thenN (GC.block ?_))
   refine GC.loop (σ := Nat) (fun i => i ≤ n ∧ ∀ j, j < i → (pAt ps j).chk = 0) (fun i => [(1, (.pointer (some ⟨bq1, 0, none⟩))), (2, (.int .i64 0)), (3, (.int .i64 (((i : Nat) : Int))))]) (fun i => [⟨bq1, [(.int .i64 sp), (.slice (some ⟨b, o, none⟩) n cap)], 24, true⟩]) (fun i => n - i) (0) ⟨Nat.zero_le _, fun j hj => absurd hj (Nat.not_lt_zero _)⟩ ((sub_cons rfl ((sub_cons rfl ((sub_cons rfl ((sub_nil _)))))))) (ulC ulN) (fun i hp => ?_)
   have hpi := hp.1
   refine GC.seq (GC.seq (GC.region ?_))
   refine GL.mv rfl (by decide) ?_
   refine GL.val (v := (.pointer (some ⟨bq1, 1, none⟩))) (Ex.cast (Ex.fieldAddr rfl Tryz.underlying24 rfl T.sz22 (by decide)) rfl) (by decide) ?_
   refine GL.val (Ex.load rfl T.ag22 (i := 0) rfl rfl) (by decide) ?_
   refine GL.val (v := (.int .i64 ((n : Int)))) (Ex.len rfl Tryz.underlying22) (by decide) ?_
   refine GL.val (v := (.bool (decide ((((i : Nat) : Int)) < ((n : Int)))))) (Ex.lss rfl rfl) (by decide) ?_
   refine GL.nil (GE.thenN ?_)
   refine GC.cond rfl (fun hq5 => ?_) (fun hq5 => ?_)
   ·replace hq5 := of_decide_eq_true hq5
    refine GC.skip (GE.thenN (GC.seq (GC.block (GC.seq (GC.region ?_)))))
    refine GL.val (v := (.pointer (some ⟨bq1, 1, none⟩))) (Ex.cast (Ex.fieldAddr rfl Tryz.underlying24 rfl T.sz22 (by decide)) rfl) (by decide) ?_
    refine GL.val (Ex.load rfl T.ag22 (i := 0) rfl rfl) (by decide) ?_
    refine GL.mv rfl (by decide) ?_
    refine GL.val (v := (.pointer (some ⟨b, o + i * 3, none⟩))) (Ex.cast (Ex.indexAddr rfl rfl Tryz.underlying22 T.sz75 (by omega) (by omega)) (by simp)) (by decide) ?_
    refine GL.val (v := (.agg #[(.int .i64 ((pAt ps i).W)), (.int .i64 ((pAt ps i).H)), (.slice (pAt ps i).ad ((pAt ps i).n) ((pAt ps i).cap))])) (Ex.loadAO rfl T.ag75 T.sz75 (Pns.ld (i := i) hps (by omega)) (fun x => x) rfl) (by decide) ?_
    refine GL.step (Stp.callR (vs := [(.agg #[(.int .i64 ((pAt ps i).W)), (.int .i64 ((pAt ps i).H)), (.slice (pAt ps i).ad ((pAt ps i).n) ((pAt ps i).cap))])]) rfl rfl T.own81 (by decide) (fun wc hw => ref_check ((pAt ps i).W) ((pAt ps i).H) ((pAt ps i).ad) ((pAt ps i).n) ((pAt ps i).cap) wc)) (fun xq6 hq7 => ?_)
    refine GL.sg rfl (by decide) ?_
    refine GL.nil (GE.thenN (GC.seq (GC.region ?_)))
    refine GL.mv rfl (by decide) ?_
    refine GL.val (v := (.bool (decide ((chk ((pAt ps i).W) ((pAt ps i).H) ((pAt ps i).n)) ≠ 0)))) (Ex.neq rfl rfl) (by decide) ?_
    refine GL.nil (GE.thenN ?_)
    refine GC.cond rfl (fun hq8 => ?_) (fun hq8 => ?_)
    ·replace hq8 := of_decide_eq_true hq8
     have hE : (pAt ps i).chk ≠ 0 := hq8
     refine GC.seq (GC.region ?_)
     refine GL.mv rfl (by decide) ?_
     refine GL.sg rfl (by decide) ?_
     refine GL.nil (GE.thenN (GC.ret (GE.blockR (GE.thenR (GE.thenR (GE.blockR (GE.thenR ?_)))))))
     refine GC.ret1 rfl (Rv.tmp rfl) (fun wN HN => ?_)
     exact HN.ret () trivial (congrArg (Value.int .i64) (by unfold chkP; rw [if_neg (by omega), chkL_at (by omega) hp.2 hE, if_pos hE]; rfl)) (List.nil_sublist _) rfl
    ·replace hq8 := of_decide_eq_false hq8
     have hE : ¬ (pAt ps i).chk ≠ 0 := hq8
     refine GC.skip (GE.blockN (GE.thenN (GC.region ?_)))
     refine GL.mv rfl (by decide) ?_
     refine GL.val (v := (.int .i64 (((i + 1 : Nat) : Int)))) (Ex.add rfl rfl (Z := ((i + 1 : Nat) : Int)) (by rw [w64 (by omega)]; rfl)) (by decide) ?_
     refine GL.sg rfl (by decide) ?_
     refine GL.nil (GE.thenN ?_)
     exact Head.mk (i + 1) ⟨by omega, below_succ hp.2 (Classical.not_not.1 hE)⟩ (by omega) ((sub_cons rfl ((sub_cons rfl ((sub_cons rfl ((sub_nil _)))))))) (ulC ulN)
   ·replace hq5 := of_decide_eq_false hq5
    have hL : chkL ps = 0 := chkL_zero fun j hj => hp.2 j (by omega)
    refine GC.exit (GE.thenE (GE.thenE (GE.blockE (GE.thenN (GC.seq (GC.seq (GC.region ?_)))))))
    refine GL.sg rfl (by decide) ?_
    refine GL.nil (GE.thenN (GC.block ?_))
    refine GC.loop (σ := Nat) (fun k => k ≤ n ∧ ∀ j, j < k → (pAt ps j).W = (pAt ps 0).W ∧ (pAt ps j).H = (pAt ps 0).H) (fun k => [(1, (.pointer (some ⟨bq1, 0, none⟩))), (2, (.int .i64 0)), (5, (.int .i64 (((k : Nat) : Int))))]) (fun k => [⟨bq1, [(.int .i64 sp), (.slice (some ⟨b, o, none⟩) n cap)], 24, true⟩]) (fun k => n - k) (0) ⟨Nat.zero_le _, fun j hj => absurd hj (Nat.not_lt_zero _)⟩ ((sub_cons rfl ((sub_cons rfl ((sub_cons rfl ((sub_nil _)))))))) (ulC ulN) (fun k hp => ?_)
    have hpi := hp.1
    refine GC.seq (GC.seq (GC.region ?_))
    refine GL.mv rfl (by decide) ?_
    refine GL.val (v := (.pointer (some ⟨bq1, 1, none⟩))) (Ex.cast (Ex.fieldAddr rfl Tryz.underlying24 rfl T.sz22 (by decide)) rfl) (by decide) ?_
    refine GL.val (Ex.load rfl T.ag22 (i := 0) rfl rfl) (by decide) ?_
    refine GL.val (v := (.int .i64 ((n : Int)))) (Ex.len rfl Tryz.underlying22) (by decide) ?_
    refine GL.val (v := (.bool (decide ((((k : Nat) : Int)) < ((n : Int)))))) (Ex.lss rfl rfl) (by decide) ?_
    refine GL.nil (GE.thenN ?_)
    refine GC.cond rfl (fun hq9 => ?_) (fun hq9 => ?_)
    ·replace hq9 := of_decide_eq_true hq9
     refine GC.skip (GE.thenN (GC.seq (GC.block (GC.seq ?_))))
     by_cases hW : (pAt ps k).W = (pAt ps 0).W
     ·refine GC.draw [⟨bq1, [(.int .i64 sp), (.slice (some ⟨b, o, none⟩) n cap)], 24, true⟩] T.mixed (fuel := 26) rfl rfl ?_
      refine GH.tk 0 (v := (.pointer (some ⟨bq1, 1, none⟩))) rfl (by kernel_rfl) (fun _ _ _ h => h) (Ex.cast (Ex.fieldAddr rfl Tryz.underlying24 rfl T.sz22 (by decide)) rfl) (ulC ulN) (by decide) ?_
      refine GH.tk 1 (v := (.slice (some ⟨b, o, none⟩) n cap)) rfl (by kernel_rfl) (fun _ _ _ h => h) (Ex.load rfl T.ag22 (i := 0) rfl rfl) (ulC ulN) (by decide) ?_
      refine GH.tk 2 (v := (.int .i64 (((k : Nat) : Int)))) rfl (by kernel_rfl) (fun _ _ _ h => h) (Ex.move rfl) (ulC ulN) (by decide) ?_
      refine GH.tk 3 (v := (.pointer (some ⟨b, o + k * 3, none⟩))) rfl (by kernel_rfl) (fun _ _ _ h => h) (Ex.cast (Ex.indexAddr rfl rfl Tryz.underlying22 T.sz75 (by omega) (by omega)) (by simp)) (ulC ulN) (by decide) ?_
      refine GH.tk 4 (v := (.pointer (some ⟨b, o + k * 3, none⟩))) rfl (by kernel_rfl) (fun _ _ _ h => h) (Ex.cast (Ex.fieldAddr rfl Tryz.underlying75 rfl T.sz3 (by decide)) rfl) (ulC ulN) (by decide) ?_
      refine GH.tk 5 (v := (.int .i64 ((pAt ps k).W))) rfl (by kernel_rfl) (fun _ _ _ h => h) (Ex.loadO rfl T.ag3 (Pns.cell (i := k) (j := 0) hps (by omega) (by decide) rfl) (fun x => x)) (ulC ulN) (by decide) ?_
      refine GH.tk 6 (v := (.pointer (some ⟨bq1, 1, none⟩))) rfl (by kernel_rfl) (fun _ _ _ h => h) (Ex.cast (Ex.fieldAddr rfl Tryz.underlying24 rfl T.sz22 (by decide)) rfl) (ulC ulN) (by decide) ?_
      refine GH.tk 7 (v := (.slice (some ⟨b, o, none⟩) n cap)) rfl (by kernel_rfl) (fun _ _ _ h => h) (Ex.load rfl T.ag22 (i := 0) rfl rfl) (ulC ulN) (by decide) ?_
      refine GH.tk 8 (v := (.pointer (some ⟨b, o, none⟩))) rfl (by kernel_rfl) (fun _ _ _ h => h) (Ex.cast (Ex.indexAddr rfl rfl Tryz.underlying22 T.sz75 (by omega) (by omega)) rfl) (ulC ulN) (by decide) ?_
      refine GH.tk 9 (v := (.pointer (some ⟨b, o, none⟩))) rfl (by kernel_rfl) (fun _ _ _ h => h) (Ex.cast (Ex.fieldAddr rfl Tryz.underlying75 rfl T.sz3 (by decide)) rfl) (ulC ulN) (by decide) ?_
      refine GH.tk 10 (v := (.int .i64 ((pAt ps 0).W))) rfl (by kernel_rfl) (fun _ _ _ h => h) (Ex.loadO rfl T.ag3 (Pns.cell (i := 0) (j := 0) hps (by omega) (by decide) rfl) (fun x => x)) (ulC ulN) (by decide) ?_
      refine GH.tk 11 (v := (.bool false)) rfl (by kernel_rfl) (fun _ _ _ h => h) (Ex.cast (Ex.neq rfl rfl) (congrArg Value.bool (decide_eq_false (by exact fun h => h hW)))) (ulC ulN) (by decide) ?_
      refine GH.tk 12 (v := (.bool false)) rfl (by kernel_rfl) (fun _ _ _ h => h) (Ex.move rfl) (ulC ulN) (by decide) ?_
      refine GH.takeG 13 (tj := 51) (v := (.pointer (some ⟨bq1, 1, none⟩))) rfl rfl rfl (by kernel_rfl) (by kernel_rfl) (by kernel_rfl) (fun _ _ _ h => h) (Ex.cast (Ex.fieldAddr rfl Tryz.underlying24 rfl T.sz22 (by decide)) rfl) (ulC ulN) (by decide) ?_
      refine GH.takeG 14 (tj := 51) (v := (.slice (some ⟨b, o, none⟩) n cap)) rfl rfl rfl (by kernel_rfl) (by kernel_rfl) (by kernel_rfl) (fun _ _ _ h => h) (Ex.load rfl T.ag22 (i := 0) rfl rfl) (ulC ulN) (by decide) ?_
      refine GH.takeG 15 (tj := 51) (v := (.int .i64 (((k : Nat) : Int)))) rfl rfl rfl (by kernel_rfl) (by kernel_rfl) (by kernel_rfl) (fun _ _ _ h => h) (Ex.move rfl) (ulC ulN) (by decide) ?_
      refine GH.takeG 16 (tj := 51) (v := (.pointer (some ⟨b, o + k * 3, none⟩))) rfl rfl rfl (by kernel_rfl) (by kernel_rfl) (by kernel_rfl) (fun _ _ _ h => h) (Ex.cast (Ex.indexAddr rfl rfl Tryz.underlying22 T.sz75 (by omega) (by omega)) (by simp)) (ulC ulN) (by decide) ?_
      refine GH.takeG 17 (tj := 51) (v := (.pointer (some ⟨b, o + k * 3 + 1, none⟩))) rfl rfl rfl (by kernel_rfl) (by kernel_rfl) (by kernel_rfl) (fun _ _ _ h => h) (Ex.cast (Ex.fieldAddr rfl Tryz.underlying75 rfl T.sz3 (by decide)) rfl) (ulC ulN) (by decide) ?_
      refine GH.takeG 18 (tj := 51) (v := (.int .i64 ((pAt ps k).H))) rfl rfl rfl (by kernel_rfl) (by kernel_rfl) (by kernel_rfl) (fun _ _ _ h => h) (Ex.loadO rfl T.ag3 (Pns.cell (i := k) (j := 1) hps (by omega) (by decide) rfl) (fun x => x)) (ulC ulN) (by decide) ?_
      refine GH.takeG 19 (tj := 51) (v := (.pointer (some ⟨bq1, 1, none⟩))) rfl rfl rfl (by kernel_rfl) (by kernel_rfl) (by kernel_rfl) (fun _ _ _ h => h) (Ex.cast (Ex.fieldAddr rfl Tryz.underlying24 rfl T.sz22 (by decide)) rfl) (ulC ulN) (by decide) ?_
      refine GH.takeG 20 (tj := 51) (v := (.slice (some ⟨b, o, none⟩) n cap)) rfl rfl rfl (by kernel_rfl) (by kernel_rfl) (by kernel_rfl) (fun _ _ _ h => h) (Ex.load rfl T.ag22 (i := 0) rfl rfl) (ulC ulN) (by decide) ?_
      refine GH.takeG 21 (tj := 51) (v := (.pointer (some ⟨b, o, none⟩))) rfl rfl rfl (by kernel_rfl) (by kernel_rfl) (by kernel_rfl) (fun _ _ _ h => h) (Ex.cast (Ex.indexAddr rfl rfl Tryz.underlying22 T.sz75 (by omega) (by omega)) rfl) (ulC ulN) (by decide) ?_
      refine GH.takeG 22 (tj := 51) (v := (.pointer (some ⟨b, o + 1, none⟩))) rfl rfl rfl (by kernel_rfl) (by kernel_rfl) (by kernel_rfl) (fun _ _ _ h => h) (Ex.cast (Ex.fieldAddr rfl Tryz.underlying75 rfl T.sz3 (by decide)) rfl) (ulC ulN) (by decide) ?_
      refine GH.takeG 23 (tj := 51) (v := (.int .i64 ((pAt ps 0).H))) rfl rfl rfl (by kernel_rfl) (by kernel_rfl) (by kernel_rfl) (fun _ _ _ h => h) (Ex.loadO rfl T.ag3 (Pns.cell (i := 0) (j := 1) hps (by omega) (by decide) rfl) (fun x => x)) (ulC ulN) (by decide) ?_
      refine GH.takeG 24 (tj := 51) (v := (.bool (decide (((pAt ps k).H) ≠ ((pAt ps 0).H))))) rfl rfl rfl (by kernel_rfl) (by kernel_rfl) (by kernel_rfl) (fun _ _ _ h => h) (Ex.neq rfl rfl) (ulC ulN) (by decide) ?_
      refine GH.tk 25 (v := (.bool (decide (((pAt ps k).H) ≠ ((pAt ps 0).H))))) rfl (by kernel_rfl) (fun _ _ _ h => h) (Ex.pickF rfl rfl) (ulC ulN) (by decide) ?_
      refine GH.done (by kernel_rfl) ?_
      refine GE.thenN ?_
      refine GC.cond rfl (fun hq10 => ?_) (fun hq10 => ?_)
      ·replace hq10 := of_decide_eq_true hq10
       have hH := hq10
       refine GC.seq (GC.region ?_)
       refine GL.sg rfl (by decide) ?_
       refine GL.nil (GE.thenN (GC.ret (GE.blockR (GE.thenR (GE.thenR (GE.blockR (GE.thenR ?_)))))))
       refine GC.ret1 rfl (Rv.tmp rfl) (fun wN HN => ?_)
       exact HN.ret () trivial (congrArg (Value.int .i64) (by unfold chkP; rw [if_neg (by omega), if_neg (by rw [hL]; simp), if_pos (alike_not (i := k) (by omega) (Or.inr hH))])) (List.nil_sublist _) rfl
      ·replace hq10 := of_decide_eq_false hq10
       have hH := hq10
       refine GC.skip (GE.blockN (GE.thenN (GC.region ?_)))
       refine GL.mv rfl (by decide) ?_
       refine GL.val (v := (.int .i64 (((k + 1 : Nat) : Int)))) (Ex.add rfl rfl (Z := ((k + 1 : Nat) : Int)) (by rw [w64 (by omega)]; rfl)) (by decide) ?_
       refine GL.sg rfl (by decide) ?_
       refine GL.nil (GE.thenN ?_)
       exact Head.mk (k + 1) ⟨by omega, below_succ hp.2 ⟨hW, Classical.not_not.1 hH⟩⟩ (by omega) ((sub_cons rfl ((sub_cons rfl ((sub_cons rfl ((sub_nil _)))))))) (ulC ulN)
     ·refine GC.draw [⟨bq1, [(.int .i64 sp), (.slice (some ⟨b, o, none⟩) n cap)], 24, true⟩] T.mixed (fuel := 26) rfl rfl ?_
      refine GH.tk 0 (v := (.pointer (some ⟨bq1, 1, none⟩))) rfl (by kernel_rfl) (fun _ _ _ h => h) (Ex.cast (Ex.fieldAddr rfl Tryz.underlying24 rfl T.sz22 (by decide)) rfl) (ulC ulN) (by decide) ?_
      refine GH.tk 1 (v := (.slice (some ⟨b, o, none⟩) n cap)) rfl (by kernel_rfl) (fun _ _ _ h => h) (Ex.load rfl T.ag22 (i := 0) rfl rfl) (ulC ulN) (by decide) ?_
      refine GH.tk 2 (v := (.int .i64 (((k : Nat) : Int)))) rfl (by kernel_rfl) (fun _ _ _ h => h) (Ex.move rfl) (ulC ulN) (by decide) ?_
      refine GH.tk 3 (v := (.pointer (some ⟨b, o + k * 3, none⟩))) rfl (by kernel_rfl) (fun _ _ _ h => h) (Ex.cast (Ex.indexAddr rfl rfl Tryz.underlying22 T.sz75 (by omega) (by omega)) (by simp)) (ulC ulN) (by decide) ?_
      refine GH.tk 4 (v := (.pointer (some ⟨b, o + k * 3, none⟩))) rfl (by kernel_rfl) (fun _ _ _ h => h) (Ex.cast (Ex.fieldAddr rfl Tryz.underlying75 rfl T.sz3 (by decide)) rfl) (ulC ulN) (by decide) ?_
      refine GH.tk 5 (v := (.int .i64 ((pAt ps k).W))) rfl (by kernel_rfl) (fun _ _ _ h => h) (Ex.loadO rfl T.ag3 (Pns.cell (i := k) (j := 0) hps (by omega) (by decide) rfl) (fun x => x)) (ulC ulN) (by decide) ?_
      refine GH.tk 6 (v := (.pointer (some ⟨bq1, 1, none⟩))) rfl (by kernel_rfl) (fun _ _ _ h => h) (Ex.cast (Ex.fieldAddr rfl Tryz.underlying24 rfl T.sz22 (by decide)) rfl) (ulC ulN) (by decide) ?_
      refine GH.tk 7 (v := (.slice (some ⟨b, o, none⟩) n cap)) rfl (by kernel_rfl) (fun _ _ _ h => h) (Ex.load rfl T.ag22 (i := 0) rfl rfl) (ulC ulN) (by decide) ?_
      refine GH.tk 8 (v := (.pointer (some ⟨b, o, none⟩))) rfl (by kernel_rfl) (fun _ _ _ h => h) (Ex.cast (Ex.indexAddr rfl rfl Tryz.underlying22 T.sz75 (by omega) (by omega)) rfl) (ulC ulN) (by decide) ?_
      refine GH.tk 9 (v := (.pointer (some ⟨b, o, none⟩))) rfl (by kernel_rfl) (fun _ _ _ h => h) (Ex.cast (Ex.fieldAddr rfl Tryz.underlying75 rfl T.sz3 (by decide)) rfl) (ulC ulN) (by decide) ?_
      refine GH.tk 10 (v := (.int .i64 ((pAt ps 0).W))) rfl (by kernel_rfl) (fun _ _ _ h => h) (Ex.loadO rfl T.ag3 (Pns.cell (i := 0) (j := 0) hps (by omega) (by decide) rfl) (fun x => x)) (ulC ulN) (by decide) ?_
      refine GH.tk 11 (v := (.bool true)) rfl (by kernel_rfl) (fun _ _ _ h => h) (Ex.cast (Ex.neq rfl rfl) (congrArg Value.bool (decide_eq_true (by exact hW)))) (ulC ulN) (by decide) ?_
      refine GH.tk 12 (v := (.bool true)) rfl (by kernel_rfl) (fun _ _ _ h => h) (Ex.move rfl) (ulC ulN) (by decide) ?_
      refine GH.skipG 13 (tj := 51) rfl rfl rfl rfl (by kernel_rfl) (by kernel_rfl) (by kernel_rfl) (fun _ _ _ h => h) (ulC ulN) (by decide) ?_
      refine GH.skipG 14 (tj := 51) rfl rfl rfl rfl (by kernel_rfl) (by kernel_rfl) (by kernel_rfl) (fun _ _ _ h => h) (ulC ulN) (by decide) ?_
      refine GH.skipG 15 (tj := 51) rfl rfl rfl rfl (by kernel_rfl) (by kernel_rfl) (by kernel_rfl) (fun _ _ _ h => h) (ulC ulN) (by decide) ?_
      refine GH.skipG 16 (tj := 51) rfl rfl rfl rfl (by kernel_rfl) (by kernel_rfl) (by kernel_rfl) (fun _ _ _ h => h) (ulC ulN) (by decide) ?_
      refine GH.skipG 17 (tj := 51) rfl rfl rfl rfl (by kernel_rfl) (by kernel_rfl) (by kernel_rfl) (fun _ _ _ h => h) (ulC ulN) (by decide) ?_
      refine GH.skipG 18 (tj := 51) rfl rfl rfl rfl (by kernel_rfl) (by kernel_rfl) (by kernel_rfl) (fun _ _ _ h => h) (ulC ulN) (by decide) ?_
      refine GH.skipG 19 (tj := 51) rfl rfl rfl rfl (by kernel_rfl) (by kernel_rfl) (by kernel_rfl) (fun _ _ _ h => h) (ulC ulN) (by decide) ?_
      refine GH.skipG 20 (tj := 51) rfl rfl rfl rfl (by kernel_rfl) (by kernel_rfl) (by kernel_rfl) (fun _ _ _ h => h) (ulC ulN) (by decide) ?_
      refine GH.skipG 21 (tj := 51) rfl rfl rfl rfl (by kernel_rfl) (by kernel_rfl) (by kernel_rfl) (fun _ _ _ h => h) (ulC ulN) (by decide) ?_
      refine GH.skipG 22 (tj := 51) rfl rfl rfl rfl (by kernel_rfl) (by kernel_rfl) (by kernel_rfl) (fun _ _ _ h => h) (ulC ulN) (by decide) ?_
      refine GH.skipG 23 (tj := 51) rfl rfl rfl rfl (by kernel_rfl) (by kernel_rfl) (by kernel_rfl) (fun _ _ _ h => h) (ulC ulN) (by decide) ?_
      refine GH.skipG 24 (tj := 51) rfl rfl rfl rfl (by kernel_rfl) (by kernel_rfl) (by kernel_rfl) (fun _ _ _ h => h) (ulC ulN) (by decide) ?_
      refine GH.tk 25 (v := (.bool true)) rfl (by kernel_rfl) (fun _ _ _ h => h) (Ex.pickT rfl rfl) (ulC ulN) (by decide) ?_
      refine GH.done (by kernel_rfl) ?_
      refine GE.thenN ?_
      refine GC.cond rfl (fun _ => ?_) (fun hq11 => by cases hq11)
      refine GC.seq (GC.region ?_)
      refine GL.sg rfl (by decide) ?_
      refine GL.nil (GE.thenN (GC.ret (GE.blockR (GE.thenR (GE.thenR (GE.blockR (GE.thenR ?_)))))))
      refine GC.ret1 rfl (Rv.tmp rfl) (fun wN HN => ?_)
      exact HN.ret () trivial (congrArg (Value.int .i64) (by unfold chkP; rw [if_neg (by omega), if_neg (by rw [hL]; simp), if_pos (alike_not (i := k) (by omega) (Or.inl hW))])) (List.nil_sublist _) rfl
    ·replace hq9 := of_decide_eq_false hq9
     have hA : alike ps = true := alike_of fun j hj => hp.2 j (by omega)
     refine GC.exit (GE.thenE (GE.thenE (GE.blockE (GE.thenN (GC.seq (GC.seq (GC.region ?_)))))))
     refine GL.val (v := (.pointer (some ⟨bq1, 0, none⟩))) (Ex.cast (Ex.fieldAddr rfl Tryz.underlying24 rfl T.sz3 (by decide)) rfl) (by decide) ?_
     refine GL.val (Ex.load rfl T.ag3 (i := 0) rfl rfl) (by decide) ?_
     refine GL.val (v := (.pointer (some ⟨bq1, 1, none⟩))) (Ex.cast (Ex.fieldAddr rfl Tryz.underlying24 rfl T.sz22 (by decide)) rfl) (by decide) ?_
     refine GL.val (Ex.load rfl T.ag22 (i := 0) rfl rfl) (by decide) ?_
     refine GL.val (v := (.int .i64 ((n : Int)))) (Ex.len rfl Tryz.underlying22) (by decide) ?_
     refine GL.step (Stp.callR (vs := [(.int .i64 sp), (.int .i64 ((n : Int)))]) rfl rfl T.own82 (by decide) (fun wc hw => ref_spaced sp n wc (by omega))) (fun xq12 hq13 => ?_)
     refine GL.val (v := (.bool (!(decide (spc sp n = 0))))) (Ex.not rfl) (by decide) ?_
     refine GL.nil (GE.thenN ?_)
     refine GC.cond rfl (fun hq14 => ?_) (fun hq14 => ?_)
     ·replace hq14 := of_decide_eq_false ((Bool.not_eq_true' _).mp hq14)
      have hSp := hq14
      refine GC.seq (GC.region ?_)
      refine GL.sg rfl (by decide) ?_
      refine GL.nil (GE.thenN (GC.ret (GE.thenR ?_)))
      refine GC.ret1 rfl (Rv.tmp rfl) (fun wN HN => ?_)
      exact HN.ret () trivial (congrArg (Value.int .i64) (by unfold chkP; rw [if_neg (by omega), if_neg (by rw [hL]; simp), if_neg (by rw [hA]; simp)]; rw [← hn]; first | exact (hSp).symm | (unfold spc at hSp ⊢; split at hSp <;> simp_all))) (List.nil_sublist _) rfl
     ·replace hq14 := of_decide_eq_true ((Bool.not_eq_false' _).mp hq14)
      have hSp := hq14
      refine GC.skip (GE.thenN (GC.seq (GC.region ?_)))
      refine GL.sg rfl (by decide) ?_
      refine GL.nil (GE.thenN (GC.ret ?_))
      refine GC.ret1 rfl (Rv.tmp rfl) (fun wN HN => ?_)
      exact HN.ret () trivial (congrArg (Value.int .i64) (by unfold chkP; rw [if_neg (by omega), if_neg (by rw [hL]; simp), if_neg (by rw [hA]; simp)]; rw [← hn]; first | exact (hSp).symm | (unfold spc at hSp ⊢; split at hSp <;> simp_all))) (List.nil_sublist _) rfl

theorem ref_chk_p0 (sp : Int) (ad : Option Addr) (cap : Nat) (w : World) :
  Calls Tryz.prog 39 #[(.agg #[(.int .i64 sp), (.slice ad 0 cap)])] w (Ret w (fun _ : Unit => True) (fun _ => (.int .i64 80)) (fun _ => [])) := by
 refine enter (M := None) (L := []) (n := 72) (l := [(0, (.agg #[(.int .i64 sp), (.slice ad 0 cap)]))]) Tryz.func39 rfl rfl (Args.cons rfl (Args.nil _)) (Hp.start _ _) ?_
 refine GC.seq (GC.region ?_)
 refine GL.step (Stp.box (cs := [(.int .i64 sp), (.slice ad 0 cap)]) rfl rfl (by decide)) (fun bq1 _ => ?_)
 refine GL.sg rfl (by decide) ?_
 refine GL.nil (GE.thenN (GC.seq (GC.seq (GC.region ?_))))
 refine GL.val (v := (.pointer (some ⟨bq1, 1, none⟩))) (Ex.cast (Ex.fieldAddr rfl Tryz.underlying24 rfl T.sz22 (by decide)) rfl) (by decide) ?_
 refine GL.val (Ex.load rfl T.ag22 (i := 0) rfl rfl) (by decide) ?_
 refine GL.val (v := (.int .i64 0)) (Ex.len rfl Tryz.underlying22) (by decide) ?_
 refine GL.val (v := (.bool true)) (Ex.cast (Ex.eql rfl rfl) rfl) (by decide) ?_
 refine GL.mv rfl (by decide) ?_
 refine GL.skipG (tj := 10) rfl rfl rfl (by decide) ?_
 refine GL.skipG (tj := 10) rfl rfl rfl (by decide) ?_
 refine GL.skipG (tj := 10) rfl rfl rfl (by decide) ?_
 refine GL.skipG (tj := 10) rfl rfl rfl (by decide) ?_
 refine GL.val (v := (.bool true)) (Ex.pickT rfl rfl) (by decide) ?_
 refine GL.nil (GE.thenN ?_)
 refine GC.cond rfl (fun _ => ?_) (fun hq2 => by cases hq2)
 refine GC.seq (GC.region ?_)
 refine GL.sg rfl (by decide) ?_
 refine GL.nil (GE.thenN (GC.ret (GE.thenR ?_)))
 refine GC.ret1 rfl (Rv.tmp rfl) (fun wN HN => ?_)
 exact HN.ret () trivial rfl (List.nil_sublist _) rfl

theorem ref_chk_p_a (sp : Int) (ad : Option Addr) (n cap : Nat) (ps : List Pn) (w : World) (hps : PnsA w ad ps) (hn : n = ps.length) (hnb : n ≤ 35184372087808) : Calls Tryz.prog 39 #[(.agg #[(.int .i64 sp), (.slice ad n cap)])] w (Ret w (fun _ : Unit => True) (fun _ => (.int .i64 ((chkP sp ps)))) (fun _ => [])) := by
 by_cases h0 : 0 < ps.length
 ·obtain ⟨b, o, rfl, h⟩ := hps.at h0
  exact ref_chk_p sp b o n cap ps w h hn hnb
 ·have e : chkP sp ps = 80 := by unfold chkP; rw [if_pos (by omega)]
  rw [e, show n = 0 by omega]; exact ref_chk_p0 sp ad cap w

theorem clone (b o n cap : Nat) (xs : List Int) (w : World) (hx : xs.length = n) (h0 : 0 < n) (hb : n ≤ 35184372087808) (hr : Rd w b o (xs.map u32)) :
  Calls Tryz.prog 92 #[(.slice (some ⟨b, o, none⟩) n cap)] w (Ret w (fun r : Nat × Nat × List Value => (xs.map u32 ++ r.2.2).length = r.2.1 * 1 ∧ r.2.1 ≤ 9223372036854775807) (fun r => (.slice (some ⟨r.1, 0, none⟩) n r.2.1)) (fun r => [⟨r.1, xs.map u32 ++ r.2.2, 52, true⟩])) := by
 refine enter (M := None) (L := []) (n := 8) (l := [(0, (.slice (some ⟨b, o, none⟩) n cap))]) Tryz.func92 rfl rfl (Args.cons rfl (Args.nil _)) (Hp.start _ _) ?_
 refine GC.seq (GC.region ?_)
 refine GL.sg rfl (by decide) ?_
 refine GL.nil (GE.thenN (GC.seq (GC.seq (GC.region ?_))))
 refine GL.mv rfl (by decide) ?_
 refine GL.val (v := (.bool false)) (Ex.cast (Ex.eqNilS rfl rfl Tryz.underlying53) rfl) (by decide) ?_
 refine GL.nil (GE.thenN ?_)
 refine GC.cond rfl (fun hq1 => by cases hq1) (fun _ => ?_)
 refine GC.skip (GE.thenN (GC.seq (GC.region ?_)))
 refine GL.step (Stp.buildSlice0 Tryz.underlying53 T.sz52 (by decide)) (fun bq2 _ => ?_)
 refine GL.mv rfl (by decide) ?_
 refine GL.step (Stp.appendOwnB (i := 0) (xs := []) (sp := []) (vs := xs.map u32) (L1 := []) rfl rfl Tryz.underlying53 T.sz52 T.zr52 rfl T.by52 rfl rfl rfl (fun wz hz => hz.rd hr (fun x => x)) (by simpa using hx) (u32_all xs) (by omega) (by omega) rfl (by decide) (by decide)) (fun xq3 hq4 => ?_)
 refine GL.sg rfl (by decide) ?_
 refine GL.nil (GE.thenN (GC.ret ?_))
 refine GC.ret1 rfl (Rv.tmp rfl) (fun wN HN => ?_)
 exact HN.ret xq3 ⟨hq4.1, hq4.2.2⟩ (by rw [Nat.zero_add]) (ulC ulN) rfl

theorem copied (W H : Int) (b o n cap : Nat) (xs : List Int) (w : World) (hx : xs.length = n) (h0 : 0 < n) (hb : n ≤ 35184372087808) (hr : Rd w b o (xs.map u32)) :
  Calls Tryz.prog 51 #[(.agg #[(.int .i64 W), (.int .i64 H), (.slice (some ⟨b, o, none⟩) n cap)])] w (Ret w (fun r : Nat × Nat × List Value => (xs.map u32 ++ r.2.2).length = r.2.1 * 1 ∧ r.2.1 ≤ 9223372036854775807) (fun r => (.agg #[(.int .i64 W), (.int .i64 H), (.slice (some ⟨r.1, 0, none⟩) n r.2.1)])) (fun r => [⟨r.1, xs.map u32 ++ r.2.2, 52, true⟩])) := by
 refine enter (M := None) (L := []) (n := 11) (l := [(0, (.agg #[(.int .i64 W), (.int .i64 H), (.slice (some ⟨b, o, none⟩) n cap)]))]) Tryz.func51 rfl rfl (Args.cons rfl (Args.nil _)) (Hp.start _ _) ?_
 refine GC.seq (GC.region ?_)
 refine GL.step (Stp.box (cs := [(.int .i64 W), (.int .i64 H), (.slice (some ⟨b, o, none⟩) n cap)]) rfl rfl (by decide)) (fun bq1 _ => ?_)
 refine GL.step (Stp.alloc T.zr75 (by decide)) (fun bq2 _ => ?_)
 refine GL.nil (GE.thenN (GC.seq ?_))
 refine GC.drawP [⟨bq2, [(.int .i64 0), (.int .i64 0), (.slice none 0 0)], 75, true⟩, ⟨bq1, [(.int .i64 W), (.int .i64 H), (.slice (some ⟨b, o, none⟩) n cap)], 75, true⟩] T.mixed (by kernel_rfl) (by kernel_rfl) (fuel := 8) rfl rfl ?_
 refine GH.tk 0 (v := (.pointer (some ⟨bq1, 0, none⟩))) rfl (by kernel_rfl) (fun _ _ _ h => h) (Ex.cast (Ex.fieldAddr rfl Tryz.underlying75 rfl T.sz3 (by decide)) rfl) (ulC (ulC ulN)) (by decide) ?_
 refine GH.tk 1 (v := (.int .i64 W)) rfl (by kernel_rfl) (fun _ _ _ h => h) (Ex.load rfl T.ag3 (i := 1) rfl rfl) (ulC (ulC ulN)) (by decide) ?_
 refine GH.tk 2 (v := (.pointer (some ⟨bq1, 1, none⟩))) rfl (by kernel_rfl) (fun _ _ _ h => h) (Ex.cast (Ex.fieldAddr rfl Tryz.underlying75 rfl T.sz3 (by decide)) rfl) (ulC (ulC ulN)) (by decide) ?_
 refine GH.tk 3 (v := (.int .i64 H)) rfl (by kernel_rfl) (fun _ _ _ h => h) (Ex.load rfl T.ag3 (i := 1) rfl rfl) (ulC (ulC ulN)) (by decide) ?_
 refine GH.tk 4 (v := (.pointer (some ⟨bq1, 2, none⟩))) rfl (by kernel_rfl) (fun _ _ _ h => h) (Ex.cast (Ex.fieldAddr rfl Tryz.underlying75 rfl T.sz53 (by decide)) rfl) (ulC (ulC ulN)) (by decide) ?_
 refine GH.tk 5 (v := (.slice (some ⟨b, o, none⟩) n cap)) rfl (by kernel_rfl) (fun _ _ _ h => h) (Ex.load rfl T.ag53 (i := 1) rfl rfl) (ulC (ulC ulN)) (by decide) ?_
 refine GH.one 6 rfl (by kernel_rfl) (Stp.callR (vs := [(.slice (some ⟨b, o, none⟩) n cap)]) rfl rfl T.own92 (by decide) (fun wc hw => clone b o n cap xs wc hx h0 hb (hw.rd hr (fun x => x)))) (fun _ => (ulS (ulC (ulC ulN)))) (fun xq3 hq4 => ?_)
 refine GH.tk 7 (v := (.agg #[(.int .i64 W), (.int .i64 H), (.slice (some ⟨xq3.1, 0, none⟩) n xq3.2.1)])) rfl (by kernel_rfl) (fun _ _ _ h => h) (Ex.build (vs := [(0, (.int .i64 W)), (1, (.int .i64 H)), (2, (.slice (some ⟨xq3.1, 0, none⟩) n xq3.2.1))]) rfl (by first | rfl | kernel_rfl)) (ulS (ulC (ulC ulN))) (by decide) ?_
 refine GH.done (by kernel_rfl) ?_
 refine GE.thenN ?_
 refine GE.tail rfl (Stp.st1 (cs' := [(.int .i64 W), (.int .i64 H), (.slice (some ⟨xq3.1, 0, none⟩) n xq3.2.1)]) rfl rfl rfl T.sz75 rfl rfl rfl) (fun _ _ => ?_)
 refine GE.thenN (GC.ret ?_)
 refine GC.ret1 rfl (Rv.cellA rfl T.ag75 T.sz75 (L := _) (i := 1) rfl (vs := [(.int .i64 W), (.int .i64 H), (.slice (some ⟨xq3.1, 0, none⟩) n xq3.2.1)]) rfl rfl) (fun wN HN => ?_)
 exact HN.ret xq3 hq4 rfl (ulC (ulS (ulS ulN))) rfl

theorem every_ok (sp : Int) (b o n cap : Nat) (ps : List Pn) (W H : Nat) (fid : FuncId) (caps : Array Value) (g : Nat → Int × Int × List Int) (w : World) (hps : Pns w b o ps) (hn : n = ps.length) (hok : OkPic sp ps W H) (hf : FnE Tryz.prog w fid caps ps g 52) :
  Calls Tryz.prog 36 #[(.agg #[(.int .i64 sp), (.slice (some ⟨b, o, none⟩) n cap)]), (.func (.func fid) #[] caps)] w (Ret w (fun r : Ac => r.qs ≠ [] ∧ r.ds = ((List.range n).map g) ∧ r.Ok ∧ ∀ q ∈ r.qs, q.Ok) (fun r => .tuple #[(.agg #[(.int .i64 sp), (.slice r.ad r.n r.cp)]), .int .i64 0]) (fun r => r.blks 75 52)) := by
 refine enter (M := None) (L := []) (n := 48) (l := [(0, (.agg #[(.int .i64 sp), (.slice (some ⟨b, o, none⟩) n cap)])), (1, (.func (.func fid) #[] caps))]) Tryz.func36 rfl rfl (Args.cons rfl (Args.cons rfl (Args.nil _))) (Hp.start _ _) ?_
 refine GC.seq (GC.region ?_)
 refine GL.step (Stp.box (cs := [(.int .i64 sp), (.slice (some ⟨b, o, none⟩) n cap)]) rfl rfl (by decide)) (fun bq1 _ => ?_)
 refine GL.step (Stp.alloc T.zr24 (by decide)) (fun bq2 _ => ?_)
 refine GL.sg rfl (by decide) ?_
 refine GL.nil (GE.thenN (GC.seq (GC.seq (GC.region ?_))))
 refine GL.val (v := (.agg #[(.int .i64 sp), (.slice (some ⟨b, o, none⟩) n cap)])) (Ex.loadA rfl T.ag24 T.sz24 (i := 1) rfl (vs := [(.int .i64 sp), (.slice (some ⟨b, o, none⟩) n cap)]) rfl rfl) (by decide) ?_
 refine GL.step (Stp.callR (σ := Unit) (p := fun rz => True) (v := fun rz => (.int .i64 0)) (N := fun rz => []) (vs := [(.agg #[(.int .i64 sp), (.slice (some ⟨b, o, none⟩) n cap)])]) rfl rfl T.own48 (by decide) (fun wc hw => (by have h := chk_p sp b o n cap ps wc (hps.later hw.1) hn (by have := hok.n4; omega); rw [hok.chk] at h; exact h))) (fun xq3 hq4 => ?_)
 refine GL.sg rfl (by decide) ?_
 refine GL.nil (GE.thenN (GC.seq (GC.region ?_)))
 refine GL.mv rfl (by decide) ?_
 refine GL.val (v := (.bool false)) (Ex.cast (Ex.neq rfl rfl) rfl) (by decide) ?_
 refine GL.nil (GE.thenN ?_)
 refine GC.cond rfl (fun hq5 => by cases hq5) (fun _ => ?_)
 refine GC.skip (GE.thenN (GC.seq (GC.region ?_)))
 refine GL.val (v := (.pointer (some ⟨bq1, 0, none⟩))) (Ex.cast (Ex.fieldAddr rfl Tryz.underlying24 rfl T.sz3 (by decide)) rfl) (by decide) ?_
 refine GL.val (Ex.load rfl T.ag3 (i := 1) rfl rfl) (by decide) ?_
 refine GL.val (v := (.agg #[(.int .i64 sp), (.slice none 0 0)])) (Ex.build (vs := [(0, (.int .i64 sp))]) rfl (by first | rfl | kernel_rfl)) (by decide) ?_
 refine GL.step (Stp.alloc T.zr24 (by decide)) (fun bq6 _ => ?_)
 refine GL.step (Stp.st0 (cs' := [(.int .i64 sp), (.slice none 0 0)]) rfl rfl rfl T.sz24 rfl rfl rfl) (fun _ _ => ?_)
 refine GL.nil (GE.thenN (GC.seq (GC.seq (GC.region ?_))))
 refine GL.val (v := (.pointer (some ⟨bq1, 1, none⟩))) (Ex.cast (Ex.fieldAddr rfl Tryz.underlying24 rfl T.sz22 (by decide)) rfl) (by decide) ?_
 refine GL.val (Ex.load rfl T.ag22 (i := 2) rfl rfl) (by decide) ?_
 refine GL.val (v := (.int .i64 ((n : Int)))) (Ex.len rfl Tryz.underlying22) (by decide) ?_
 refine GL.mv rfl (by decide) ?_
 refine GL.nil (GE.thenN (GC.block ?_))
 refine GC.loop (σ := Ac) (fun a => a.n ≤ n ∧ a.ds = (List.range a.n).map g ∧ a.Ok ∧ ∀ q ∈ a.qs, q.Ok) (fun a => [(1, (.func (.func fid) #[] caps)), (2, (.pointer (some ⟨bq1, 0, none⟩))), (4, (.pointer (some ⟨bq2, 0, none⟩))), (5, (.int .i64 0)), (7, (.pointer (some ⟨bq6, 0, none⟩))), (22, (.slice (some ⟨b, o, none⟩) n cap)), (23, (.int .i64 ((n : Int)))), (24, (.int .i64 (((a.n : Nat) : Int))))]) (fun a => (⟨bq6, [(.int .i64 sp), (.slice a.ad a.n a.cp)], 24, true⟩ :: ⟨bq2, [(.int .i64 0), (.slice none 0 0)], 24, true⟩ :: ⟨bq1, [(.int .i64 sp), (.slice (some ⟨b, o, none⟩) n cap)], 24, true⟩ :: (a.row 75 ++ (a.qs.map (Nq.blk 52) ++ [])))) (fun a => n - a.n) (Ac.no) ⟨Nat.zero_le _, rfl, Or.inl rfl, fun q h => by cases h⟩ ((sub_cons rfl ((sub_cons rfl ((sub_cons rfl ((sub_cons rfl ((sub_cons rfl ((sub_cons rfl ((sub_cons rfl ((sub_cons rfl ((sub_nil _)))))))))))))))))) (ulC (ulC (ulC ulR))) (fun a hp => ?_)
 have hpn := hp.1
 have hp4 := hok.n4
 refine GC.seq (GC.region ?_)
 refine GL.val (v := (.bool (decide ((((a.n : Nat) : Int)) < ((n : Int)))))) (Ex.lss rfl rfl) (by decide) ?_
 refine GL.nil (GE.thenN (GC.seq ?_))
 refine GC.cond rfl (fun hq7 => ?_) (fun hq7 => ?_)
 ·replace hq7 := of_decide_eq_true hq7
  refine GC.skip (GE.thenN (GC.seq (GC.block (GC.seq (GC.region ?_)))))
  refine GL.mv rfl (by decide) ?_
  refine GL.val (v := (.pointer (some ⟨b, o + a.n * 3, none⟩))) (Ex.cast (Ex.indexAddr rfl rfl Tryz.underlying22 T.sz75 (by omega) (by omega)) (by simp)) (by decide) ?_
  refine GL.val (v := (.agg #[(.int .i64 ((pAt ps a.n).W)), (.int .i64 ((pAt ps a.n).H)), (.slice (pAt ps a.n).ad ((pAt ps a.n).n) ((pAt ps a.n).cap))])) (Ex.loadAO rfl T.ag75 T.sz75 (Pns.ld (i := a.n) hps (by omega)) (fun x => x) rfl) (by decide) ?_
  refine GL.step (Stp.alloc T.zr75 (by decide)) (fun bq8 _ => ?_)
  refine GL.sg rfl (by decide) ?_
  refine GL.step (Stp.st0 (cs' := [(.int .i64 ((pAt ps a.n).W)), (.int .i64 ((pAt ps a.n).H)), (.slice (pAt ps a.n).ad ((pAt ps a.n).n) ((pAt ps a.n).cap))]) rfl rfl rfl T.sz75 rfl rfl rfl) (fun _ _ => ?_)
  refine GL.nil (GE.thenN (GC.seq (GC.region ?_)))
  refine GL.mv rfl (by decide) ?_
  refine GL.mv rfl (by decide) ?_
  refine GL.val (v := (.agg #[(.int .i64 ((pAt ps a.n).W)), (.int .i64 ((pAt ps a.n).H)), (.slice (pAt ps a.n).ad ((pAt ps a.n).n) ((pAt ps a.n).cap))])) (Ex.loadA rfl T.ag75 T.sz75 (i := 0) rfl (vs := [(.int .i64 ((pAt ps a.n).W)), (.int .i64 ((pAt ps a.n).H)), (.slice (pAt ps a.n).ad ((pAt ps a.n).n) ((pAt ps a.n).cap))]) rfl rfl) (by decide) ?_
  refine GL.step (Stp.callR (vs := [(.int .i64 (((a.n : Nat) : Int))), (.agg #[(.int .i64 ((pAt ps a.n).W)), (.int .i64 ((pAt ps a.n).H)), (.slice (pAt ps a.n).ad ((pAt ps a.n).n) ((pAt ps a.n).cap))])]) rfl rfl hf.1 (by decide) (fun wc hw => hf.2 a.n (by omega) wc hw.1)) (fun xq9 hq10 => ?_)
  refine GL.mv rfl (by decide) ?_
  refine GL.val (Ex.extract rfl rfl) (by decide) ?_
  refine GL.val (Ex.extract rfl rfl) (by decide) ?_
  refine GL.step (Stp.alloc T.zr75 (by decide)) (fun bq11 _ => ?_)
  refine GL.step (Stp.st0 (cs' := [(.int .i64 ((g a.n).1)), (.int .i64 ((g a.n).2.1)), (.slice (some ⟨xq9.1, 0, none⟩) ((g a.n).2.2.length) xq9.2.1)]) rfl rfl rfl T.sz75 rfl rfl rfl) (fun _ _ => ?_)
  refine GL.sg rfl (by decide) ?_
  refine GL.nil (GE.thenN (GC.seq (GC.seq (GC.region ?_))))
  refine GL.mv rfl (by decide) ?_
  refine GL.val (v := (.bool false)) (Ex.cast (Ex.neq rfl rfl) rfl) (by decide) ?_
  refine GL.nil (GE.thenN ?_)
  refine GC.cond rfl (fun hq12 => by cases hq12) (fun _ => ?_)
  refine GC.skip (GE.thenN (GC.region ?_))
  refine GL.val (v := (.pointer (some ⟨bq6, 1, none⟩))) (Ex.cast (Ex.fieldAddr rfl Tryz.underlying24 rfl T.sz22 (by decide)) rfl) (by decide) ?_
  refine GL.val (Ex.load rfl T.ag22 (i := 3) rfl rfl) (by decide) ?_
  refine GL.val (v := (.agg #[(.int .i64 ((g a.n).1)), (.int .i64 ((g a.n).2.1)), (.slice (some ⟨xq9.1, 0, none⟩) ((g a.n).2.2.length) xq9.2.1)])) (Ex.loadA rfl T.ag75 T.sz75 (i := 0) rfl (vs := [(.int .i64 ((g a.n).1)), (.int .i64 ((g a.n).2.1)), (.slice (some ⟨xq9.1, 0, none⟩) ((g a.n).2.2.length) xq9.2.1)]) rfl rfl) (by decide) ?_
  refine GL.step (Stp.buildSlice (cs := [(.int .i64 ((g a.n).1)), (.int .i64 ((g a.n).2.1)), (.slice (some ⟨xq9.1, 0, none⟩) ((g a.n).2.2.length) xq9.2.1)]) (vs := [(0, (.agg #[(.int .i64 ((g a.n).1)), (.int .i64 ((g a.n).2.1)), (.slice (some ⟨xq9.1, 0, none⟩) ((g a.n).2.2.length) xq9.2.1)]))]) Tryz.underlying22 T.zr75 T.sz75 rfl (by decide) (by decide) (by first | rfl | kernel_rfl) (by decide)) (fun bq13 _ => ?_)
  refine GL.step (Stp.appAc (a := a) (q := (Nq.mk (g a.n).1 (g a.n).2.1 (g a.n).2.2 xq9.1 xq9.2.1 xq9.2.2)) (K := [⟨bq13, [(.int .i64 ((g a.n).1)), (.int .i64 ((g a.n).2.1)), (.slice (some ⟨xq9.1, 0, none⟩) ((g a.n).2.2.length) xq9.2.1)], 75, true⟩, ⟨bq11, [(.int .i64 ((g a.n).1)), (.int .i64 ((g a.n).2.1)), (.slice (some ⟨xq9.1, 0, none⟩) ((g a.n).2.2.length) xq9.2.1)], 75, true⟩, ⟨xq9.1, (g a.n).2.2.map u32 ++ xq9.2.2, 52, true⟩, ⟨bq8, [(.int .i64 ((pAt ps a.n).W)), (.int .i64 ((pAt ps a.n).H)), (.slice (pAt ps a.n).ad ((pAt ps a.n).n) ((pAt ps a.n).cap))], 75, true⟩, ⟨bq6, [(.int .i64 sp), (.slice a.ad a.n a.cp)], 24, true⟩, ⟨bq2, [(.int .i64 0), (.slice none 0 0)], 24, true⟩, ⟨bq1, [(.int .i64 sp), (.slice (some ⟨b, o, none⟩) n cap)], 24, true⟩]) (R := (a.qs.map (Nq.blk 52) ++ [])) rfl rfl Tryz.underlying22 T.sz75 T.zr75 rfl T.by75 rfl hp.2.2.1 (fun w hw => hw.rdOf (i := 0) rfl 0) (by omega) (by omega) (by decide)) (fun xq14 hq15 => ?_)
  refine GL.val (v := (.pointer (some ⟨bq6, 1, none⟩))) (Ex.cast (Ex.fieldAddr rfl Tryz.underlying24 rfl T.sz22 (by decide)) rfl) (by decide) ?_
  refine GL.step (Stp.st4 (cs' := [(.int .i64 sp), (.slice (a.add (Nq.mk (g a.n).1 (g a.n).2.1 (g a.n).2.2 xq9.1 xq9.2.1 xq9.2.2) xq14).ad ((a.add (Nq.mk (g a.n).1 (g a.n).2.1 (g a.n).2.2 xq9.1 xq9.2.1 xq9.2.2) xq14).n) ((a.add (Nq.mk (g a.n).1 (g a.n).2.1 (g a.n).2.2 xq9.1 xq9.2.1 xq9.2.2) xq14).cp))]) rfl rfl rfl T.sz22 rfl rfl rfl) (fun _ _ => ?_)
  refine GL.nil (GE.blockN (GE.thenN ?_))
  refine GC.hp (L2 := (⟨bq6, [(.int .i64 sp), (.slice (a.add (Nq.mk (g a.n).1 (g a.n).2.1 (g a.n).2.2 xq9.1 xq9.2.1 xq9.2.2) xq14).ad ((a.add (Nq.mk (g a.n).1 (g a.n).2.1 (g a.n).2.2 xq9.1 xq9.2.1 xq9.2.2) xq14).n) ((a.add (Nq.mk (g a.n).1 (g a.n).2.1 (g a.n).2.2 xq9.1 xq9.2.1 xq9.2.2) xq14).cp))], 24, true⟩ :: ⟨bq2, [(.int .i64 0), (.slice none 0 0)], 24, true⟩ :: ⟨bq1, [(.int .i64 sp), (.slice (some ⟨b, o, none⟩) n cap)], 24, true⟩ :: ((a.add (Nq.mk (g a.n).1 (g a.n).2.1 (g a.n).2.2 xq9.1 xq9.2.1 xq9.2.2) xq14).row 75 ++ ((a.add (Nq.mk (g a.n).1 (g a.n).2.1 (g a.n).2.2 xq9.1 xq9.2.1 xq9.2.2) xq14).qs.map (Nq.blk 52) ++ [])))) (fun w h => by rw [Ac.add_map, List.append_assoc]; exact Hp.segsD (A := [[⟨bq13, [(.int .i64 ((g a.n).1)), (.int .i64 ((g a.n).2.1)), (.slice (some ⟨xq9.1, 0, none⟩) ((g a.n).2.2.length) xq9.2.1)], 75, true⟩, ⟨bq11, [(.int .i64 ((g a.n).1)), (.int .i64 ((g a.n).2.1)), (.slice (some ⟨xq9.1, 0, none⟩) ((g a.n).2.2.length) xq9.2.1)], 75, true⟩], [⟨xq9.1, (g a.n).2.2.map u32 ++ xq9.2.2, 52, true⟩], [⟨bq8, [(.int .i64 ((pAt ps a.n).W)), (.int .i64 ((pAt ps a.n).H)), (.slice (pAt ps a.n).ad ((pAt ps a.n).n) ((pAt ps a.n).cap))], 75, true⟩], [⟨bq6, [(.int .i64 sp), (.slice (a.add (Nq.mk (g a.n).1 (g a.n).2.1 (g a.n).2.2 xq9.1 xq9.2.1 xq9.2.2) xq14).ad ((a.add (Nq.mk (g a.n).1 (g a.n).2.1 (g a.n).2.2 xq9.1 xq9.2.1 xq9.2.2) xq14).n) ((a.add (Nq.mk (g a.n).1 (g a.n).2.1 (g a.n).2.2 xq9.1 xq9.2.1 xq9.2.2) xq14).cp))], 24, true⟩, ⟨bq2, [(.int .i64 0), (.slice none 0 0)], 24, true⟩, ⟨bq1, [(.int .i64 sp), (.slice (some ⟨b, o, none⟩) n cap)], 24, true⟩], ((a.add (Nq.mk (g a.n).1 (g a.n).2.1 (g a.n).2.2 xq9.1 xq9.2.1 xq9.2.2) xq14).row 75), (a.qs.map (Nq.blk 52))]) (idx := [3, 4, 5, 1]) 6 [0, 2] h rfl (by decide) rfl) ?_
  refine GC.region ?_
  refine GL.val (v := (.int .i64 ((((a.add (Nq.mk (g a.n).1 (g a.n).2.1 (g a.n).2.2 xq9.1 xq9.2.1 xq9.2.2) xq14).n : Nat) : Int)))) (Ex.add rfl rfl (Z := (((a.add (Nq.mk (g a.n).1 (g a.n).2.1 (g a.n).2.2 xq9.1 xq9.2.1 xq9.2.2) xq14).n : Nat) : Int)) (by rw [Ac.add_n, w64 (by omega)]; omega)) (by decide) ?_
  refine GL.mv rfl (by decide) ?_
  refine GL.nil (GE.thenN ?_)
  exact Head.mk ((a.add (Nq.mk (g a.n).1 (g a.n).2.1 (g a.n).2.2 xq9.1 xq9.2.1 xq9.2.2) xq14)) ⟨by rw [Ac.add_n]; omega, Ac.ds_step hp.2.1 rfl, hq15, Ac.add_mem hp.2.2.2 hq10⟩ (by rw [Ac.add_n]; omega) ((sub_cons rfl ((sub_cons rfl ((sub_cons rfl ((sub_cons rfl ((sub_cons rfl ((sub_cons rfl ((sub_cons rfl ((sub_cons rfl ((sub_nil _)))))))))))))))))) (ulC (ulC (ulC ulR)))
 ·replace hq7 := of_decide_eq_false hq7
  refine GC.exit (GE.thenE (GE.thenE (GE.blockE (GE.thenN (GC.seq (GC.region ?_))))))
  refine GL.val (v := (.agg #[(.int .i64 sp), (.slice a.ad a.n a.cp)])) (Ex.loadA rfl T.ag24 T.sz24 (i := 0) rfl (vs := [(.int .i64 sp), (.slice a.ad a.n a.cp)]) rfl rfl) (by decide) ?_
  refine GL.step (Stp.st1 (cs' := [(.int .i64 sp), (.slice a.ad a.n a.cp)]) rfl rfl rfl T.sz24 rfl rfl rfl) (fun _ _ => ?_)
  refine GL.sg rfl (by decide) ?_
  refine GL.nil (GE.thenN (GC.ret ?_))
  refine GC.ret2 rfl (Rv.cellA rfl T.ag24 T.sz24 (L := _) (i := 1) rfl (vs := [(.int .i64 sp), (.slice a.ad a.n a.cp)]) rfl rfl) (Rv.tmp rfl) (fun wN HN => ?_)
  exact HN.ret a ⟨Ac.ne (by have := hok.n0; omega), by rw [hp.2.1, show a.n = n by omega], hp.2.2⟩ rfl (ulS (ulS (ulS ulR))) (Ac.blks_own _ _ _)

theorem copied_p (p : Pn) (W H : Nat) (w : World) (hok : okP W H) (h : p.W = (W : Int) ∧ p.H = (H : Int) ∧ p.n = W * H) (hp : p.Ok w) : Calls Tryz.prog 51 #[.agg #[.int .i64 p.W, .int .i64 p.H, .slice p.ad p.n p.cap]] w (RetP w p.d 52) := by
 obtain ⟨pw, ph, ad, n, cap, xs⟩ := p
 obtain ⟨h1, h2, h3⟩ := h
 obtain ⟨hl, hb⟩ := hp
 dsimp only at h1 h2 h3 hl hb
 subst h1 h2 h3
 have hq := Nat.mul_pos (show 0 < W from hok.1) (show 0 < H from hok.2.1)
 rcases hl.2.2.2 with q | ⟨b, o, rfl, hr⟩
 ·omega
 ·refine (copied W H b o (W * H) cap xs w hl.1 hq hb hr).mono fun e w' h => ?_
  exact Ret.to id h (fun x hx => hx) (fun x _ => by rw [← hl.1]; rfl) (fun x _ => rfl)

theorem ref_copy_p (p : Pn) (W H : Nat) (w : World) (hok : okP W H) (h : p.W = (W : Int) ∧ p.H = (H : Int) ∧ p.n = W * H) (hp : p.Ok w) : Calls Tryz.prog 85 #[.agg #[.int .i64 p.W, .int .i64 p.H, .slice p.ad p.n p.cap]] w (RetP w p.d 52) := by
 obtain ⟨pw, ph, ad, n, cap, xs⟩ := p
 obtain ⟨h1, h2, h3⟩ := h
 obtain ⟨hl, hb⟩ := hp
 dsimp only at h1 h2 h3 hl hb
 subst h1 h2 h3
 have hq := Nat.mul_pos (show 0 < W from hok.1) (show 0 < H from hok.2.1)
 rcases hl.2.2.2 with q | ⟨b, o, rfl, hr⟩
 ·omega
 ·refine (ref_copy W H (W * H) cap b o xs w hok rfl hl.1 hr).mono fun e w' h => ?_
  exact Ret.to (fun x : Nat => (x, W * H, ([] : List Value))) h (fun x _ => by have := hl.1; have hA := hok.2.2.2.2; refine ⟨by simp [Pn.d, this], ?_⟩; show W * H ≤ _; omega) (fun x _ => by rw [show (Pn.d ⟨(W : Int), (H : Int), some ⟨b, o, none⟩, W * H, cap, xs⟩).2.2.length = W * H from hl.1]; rfl) (fun x _ => by simp [Pn.d])

theorem new_q (W H : Nat) (s : Int) (w : World) (hok : okP W H) : Calls Tryz.prog 74 #[.int .i64 ((W : Nat) : Int), .int .i64 ((H : Nat) : Int), .int .u32 s] w (RetE w ((W : Int), (H : Int), tab W (fun _ _ => s) (W * H)) 52) := by
 refine (new_ok W H s w hok).mono fun e w' h => ?_
 exact Ret.to (fun x : Nat => (x, W * H, ([] : List Value))) h (fun x _ => by have hA := hok.2.2.2.2; refine ⟨by simp [tab_len], ?_⟩; show W * H ≤ _; omega) (fun x _ => by simp only [tab_len]) (fun x _ => by simp)

theorem ref_copyp (sp : Int) (b o n cap : Nat) (ps : List Pn) (W H : Nat) (w : World) (hps : Pns w b o ps) (hn : n = ps.length) (hok : OkPic sp ps W H) :
  Calls Tryz.prog 41 #[(.agg #[(.int .i64 sp), (.slice (some ⟨b, o, none⟩) n cap)])] w (Ret w (fun r : Ac => r.qs ≠ [] ∧ r.ds = ((List.range n).map fun i => (pAt ps i).d) ∧ r.Ok ∧ ∀ q ∈ r.qs, q.Ok) (fun r => (.agg #[(.int .i64 sp), (.slice r.ad r.n r.cp)])) (fun r => r.blks 75 52)) := by
 refine enter (M := None) (L := []) (n := 27) (l := [(0, (.agg #[(.int .i64 sp), (.slice (some ⟨b, o, none⟩) n cap)]))]) Tryz.func41 rfl rfl (Args.cons rfl (Args.nil _)) (Hp.start _ _) ?_
 refine GC.seq (GC.region ?_)
 refine GL.step (Stp.box (cs := [(.int .i64 sp), (.slice (some ⟨b, o, none⟩) n cap)]) rfl rfl (by decide)) (fun bq1 _ => ?_)
 refine GL.step (Stp.alloc T.zr24 (by decide)) (fun bq2 _ => ?_)
 refine GL.nil (GE.thenN (GC.seq (GC.region ?_)))
 refine GL.val (v := (.pointer (some ⟨bq1, 0, none⟩))) (Ex.cast (Ex.fieldAddr rfl Tryz.underlying24 rfl T.sz3 (by decide)) rfl) (by decide) ?_
 refine GL.val (Ex.load rfl T.ag3 (i := 1) rfl rfl) (by decide) ?_
 refine GL.val (v := (.agg #[(.int .i64 sp), (.slice none 0 0)])) (Ex.build (vs := [(0, (.int .i64 sp))]) rfl (by first | rfl | kernel_rfl)) (by decide) ?_
 refine GL.step (Stp.alloc T.zr24 (by decide)) (fun bq3 _ => ?_)
 refine GL.step (Stp.st0 (cs' := [(.int .i64 sp), (.slice none 0 0)]) rfl rfl rfl T.sz24 rfl rfl rfl) (fun _ _ => ?_)
 refine GL.nil (GE.thenN (GC.seq (GC.seq (GC.region ?_))))
 refine GL.sg rfl (by decide) ?_
 refine GL.nil (GE.thenN (GC.block ?_))
 refine GC.loop (σ := Ac) (fun a => a.n ≤ n ∧ a.ds = (List.range a.n).map (fun i => (pAt ps i).d) ∧ a.Ok ∧ ∀ q ∈ a.qs, q.Ok) (fun a => [(1, (.pointer (some ⟨bq1, 0, none⟩))), (2, (.pointer (some ⟨bq2, 0, none⟩))), (3, (.pointer (some ⟨bq3, 0, none⟩))), (4, (.int .i64 (((a.n : Nat) : Int))))]) (fun a => (⟨bq3, [(.int .i64 sp), (.slice a.ad a.n a.cp)], 24, true⟩ :: ⟨bq2, [(.int .i64 0), (.slice none 0 0)], 24, true⟩ :: ⟨bq1, [(.int .i64 sp), (.slice (some ⟨b, o, none⟩) n cap)], 24, true⟩ :: (a.row 75 ++ (a.qs.map (Nq.blk 52) ++ [])))) (fun a => n - a.n) (Ac.no) ⟨Nat.zero_le _, rfl, Or.inl rfl, fun q h => by cases h⟩ ((sub_cons rfl ((sub_cons rfl ((sub_cons rfl ((sub_cons rfl ((sub_nil _)))))))))) (ulC (ulC (ulC ulR))) (fun a hp => ?_)
 have hpn := hp.1
 have hp4 := hok.n4
 refine GC.seq (GC.seq (GC.region ?_))
 refine GL.mv rfl (by decide) ?_
 refine GL.val (v := (.pointer (some ⟨bq1, 1, none⟩))) (Ex.cast (Ex.fieldAddr rfl Tryz.underlying24 rfl T.sz22 (by decide)) rfl) (by decide) ?_
 refine GL.val (Ex.load rfl T.ag22 (i := 2) rfl rfl) (by decide) ?_
 refine GL.val (v := (.int .i64 ((n : Int)))) (Ex.len rfl Tryz.underlying22) (by decide) ?_
 refine GL.val (v := (.bool (decide ((((a.n : Nat) : Int)) < ((n : Int)))))) (Ex.lss rfl rfl) (by decide) ?_
 refine GL.nil (GE.thenN ?_)
 refine GC.cond rfl (fun hq4 => ?_) (fun hq4 => ?_)
 ·replace hq4 := of_decide_eq_true hq4
  refine GC.skip (GE.thenN (GC.seq (GC.block ?_)))
  refine GC.drawP [⟨bq2, [(.int .i64 0), (.slice none 0 0)], 24, true⟩, ⟨bq1, [(.int .i64 sp), (.slice (some ⟨b, o, none⟩) n cap)], 24, true⟩] T.mixed (by kernel_rfl) (by kernel_rfl) (fuel := 11) rfl rfl ?_
  refine GH.tk 0 (v := (.pointer (some ⟨bq3, 1, none⟩))) rfl (by kernel_rfl) (fun _ _ _ h => h) (Ex.cast (Ex.fieldAddr rfl Tryz.underlying24 rfl T.sz22 (by decide)) rfl) (ulS (ulC (ulC ulN))) (by decide) ?_
  refine GH.tk 2 (v := (.pointer (some ⟨bq1, 1, none⟩))) rfl (by kernel_rfl) (fun _ _ _ h => h) (Ex.cast (Ex.fieldAddr rfl Tryz.underlying24 rfl T.sz22 (by decide)) rfl) (ulS (ulC (ulC ulN))) (by decide) ?_
  refine GH.tk 3 (v := (.slice (some ⟨b, o, none⟩) n cap)) rfl (by kernel_rfl) (fun _ _ _ h => h) (Ex.load rfl T.ag22 (i := 1) rfl rfl) (ulS (ulC (ulC ulN))) (by decide) ?_
  refine GH.tk 4 (v := (.int .i64 (((a.n : Nat) : Int)))) rfl (by kernel_rfl) (fun _ _ _ h => h) (Ex.move rfl) (ulS (ulC (ulC ulN))) (by decide) ?_
  refine GH.tk 5 (v := (.pointer (some ⟨b, o + a.n * 3, none⟩))) rfl (by kernel_rfl) (fun _ _ _ h => h) (Ex.cast (Ex.indexAddr rfl rfl Tryz.underlying22 T.sz75 (by omega) (by omega)) (by simp)) (ulS (ulC (ulC ulN))) (by decide) ?_
  refine GH.tk 6 (v := (.agg #[(.int .i64 ((pAt ps a.n).W)), (.int .i64 ((pAt ps a.n).H)), (.slice (pAt ps a.n).ad ((pAt ps a.n).n) ((pAt ps a.n).cap))])) rfl (by kernel_rfl) (fun _ _ _ h => h) (Ex.loadAO rfl T.ag75 T.sz75 (Pns.ld (i := a.n) hps (by omega)) (fun x => x) rfl) (ulS (ulC (ulC ulN))) (by decide) ?_
  refine GH.many (rs := [1, 7]) (by kernel_rfl) (by simp) ?_
  refine GHs.cons rfl (Ex.wp (v := (.slice a.ad a.n a.cp)) (Ex.load rfl T.ag22 (i := 0) rfl rfl) (by decide)) (fun _ => (ulS (ulC (ulC ulN)))) (fun _ _ => ?_) ?_
  ·refine GH.one 7 rfl (by kernel_rfl) (Stp.callR (σ := Nat × Nat × List Value) (p := fun rz => ((pAt ps a.n).d.2.2.map u32 ++ rz.2.2).length = rz.2.1 * 1 ∧ rz.2.1 ≤ 9223372036854775807) (v := fun rz => (.agg #[(.int .i64 ((pAt ps a.n).d.1)), (.int .i64 ((pAt ps a.n).d.2.1)), (.slice (some ⟨rz.1, 0, none⟩) ((pAt ps a.n).d.2.2.length) rz.2.1)])) (N := fun rz => [⟨rz.1, (pAt ps a.n).d.2.2.map u32 ++ rz.2.2, 52, true⟩]) (vs := [(.agg #[(.int .i64 ((pAt ps a.n).W)), (.int .i64 ((pAt ps a.n).H)), (.slice (pAt ps a.n).ad ((pAt ps a.n).n) ((pAt ps a.n).cap))])]) rfl rfl T.own85 (by decide) (fun wc hw => (by exact ref_copy_p (pAt ps a.n) W H wc hok.ok (hok.at (by omega)) ((hps.ok _ (pAt_mem (by omega))).later hw.1)))) (fun _ => (ulS (ulS (ulC (ulC ulN))))) (fun xq5 hq6 => ?_)
   refine GH.one 8 rfl (by kernel_rfl) (Stp.buildSlice (cs := [(.int .i64 ((pAt ps a.n).d.1)), (.int .i64 ((pAt ps a.n).d.2.1)), (.slice (some ⟨xq5.1, 0, none⟩) ((pAt ps a.n).d.2.2.length) xq5.2.1)]) (vs := [(0, (.agg #[(.int .i64 ((pAt ps a.n).d.1)), (.int .i64 ((pAt ps a.n).d.2.1)), (.slice (some ⟨xq5.1, 0, none⟩) ((pAt ps a.n).d.2.2.length) xq5.2.1)]))]) Tryz.underlying22 T.zr75 T.sz75 rfl (by decide) (by decide) (by first | rfl | kernel_rfl) (by decide)) (fun _ => (ulS (ulS (ulS (ulC (ulC ulN)))))) (fun bq7 _ => ?_)
   refine GH.one 9 rfl (by kernel_rfl) (Stp.appAc (a := a) (q := (Nq.mk (pAt ps a.n).d.1 (pAt ps a.n).d.2.1 (pAt ps a.n).d.2.2 xq5.1 xq5.2.1 xq5.2.2)) (K := [⟨bq7, [(.int .i64 ((pAt ps a.n).d.1)), (.int .i64 ((pAt ps a.n).d.2.1)), (.slice (some ⟨xq5.1, 0, none⟩) ((pAt ps a.n).d.2.2.length) xq5.2.1)], 75, true⟩, ⟨xq5.1, (pAt ps a.n).d.2.2.map u32 ++ xq5.2.2, 52, true⟩, ⟨bq3, [(.int .i64 sp), (.slice a.ad a.n a.cp)], 24, true⟩, ⟨bq2, [(.int .i64 0), (.slice none 0 0)], 24, true⟩, ⟨bq1, [(.int .i64 sp), (.slice (some ⟨b, o, none⟩) n cap)], 24, true⟩]) (R := (a.qs.map (Nq.blk 52) ++ [])) rfl rfl Tryz.underlying22 T.sz75 T.zr75 rfl T.by75 rfl hp.2.2.1 (fun w hw => hw.rdOf (i := 0) rfl 0) (by omega) (by omega) (by decide)) (fun _ => (ulS (ulS (ulS (ulC (ulC ulN)))))) (fun xq8 hq9 => ?_)
   refine GH.tk 10 (v := (.pointer (some ⟨bq3, 1, none⟩))) rfl (by kernel_rfl) (fun _ _ _ h => h) (Ex.cast (Ex.fieldAddr rfl Tryz.underlying24 rfl T.sz22 (by decide)) rfl) (ulS (ulS (ulS (ulC (ulC ulN))))) (by decide) ?_
   refine GH.done (by kernel_rfl) ?_
   refine GE.thenN ?_
   refine GE.tail rfl (Stp.st2 (cs' := [(.int .i64 sp), (.slice (a.add (Nq.mk (pAt ps a.n).d.1 (pAt ps a.n).d.2.1 (pAt ps a.n).d.2.2 xq5.1 xq5.2.1 xq5.2.2) xq8).ad ((a.add (Nq.mk (pAt ps a.n).d.1 (pAt ps a.n).d.2.1 (pAt ps a.n).d.2.2 xq5.1 xq5.2.1 xq5.2.2) xq8).n) ((a.add (Nq.mk (pAt ps a.n).d.1 (pAt ps a.n).d.2.1 (pAt ps a.n).d.2.2 xq5.1 xq5.2.1 xq5.2.2) xq8).cp))]) rfl rfl rfl T.sz22 rfl rfl rfl) (fun _ _ => ?_)
   refine GE.blockN (GE.thenN ?_)
   refine GC.hp (L2 := (⟨bq3, [(.int .i64 sp), (.slice (a.add (Nq.mk (pAt ps a.n).d.1 (pAt ps a.n).d.2.1 (pAt ps a.n).d.2.2 xq5.1 xq5.2.1 xq5.2.2) xq8).ad ((a.add (Nq.mk (pAt ps a.n).d.1 (pAt ps a.n).d.2.1 (pAt ps a.n).d.2.2 xq5.1 xq5.2.1 xq5.2.2) xq8).n) ((a.add (Nq.mk (pAt ps a.n).d.1 (pAt ps a.n).d.2.1 (pAt ps a.n).d.2.2 xq5.1 xq5.2.1 xq5.2.2) xq8).cp))], 24, true⟩ :: ⟨bq2, [(.int .i64 0), (.slice none 0 0)], 24, true⟩ :: ⟨bq1, [(.int .i64 sp), (.slice (some ⟨b, o, none⟩) n cap)], 24, true⟩ :: ((a.add (Nq.mk (pAt ps a.n).d.1 (pAt ps a.n).d.2.1 (pAt ps a.n).d.2.2 xq5.1 xq5.2.1 xq5.2.2) xq8).row 75 ++ ((a.add (Nq.mk (pAt ps a.n).d.1 (pAt ps a.n).d.2.1 (pAt ps a.n).d.2.2 xq5.1 xq5.2.1 xq5.2.2) xq8).qs.map (Nq.blk 52) ++ [])))) (fun w h => by rw [Ac.add_map, List.append_assoc]; exact Hp.segsD (A := [[⟨bq7, [(.int .i64 ((pAt ps a.n).d.1)), (.int .i64 ((pAt ps a.n).d.2.1)), (.slice (some ⟨xq5.1, 0, none⟩) ((pAt ps a.n).d.2.2.length) xq5.2.1)], 75, true⟩], [⟨xq5.1, (pAt ps a.n).d.2.2.map u32 ++ xq5.2.2, 52, true⟩], [⟨bq3, [(.int .i64 sp), (.slice (a.add (Nq.mk (pAt ps a.n).d.1 (pAt ps a.n).d.2.1 (pAt ps a.n).d.2.2 xq5.1 xq5.2.1 xq5.2.2) xq8).ad ((a.add (Nq.mk (pAt ps a.n).d.1 (pAt ps a.n).d.2.1 (pAt ps a.n).d.2.2 xq5.1 xq5.2.1 xq5.2.2) xq8).n) ((a.add (Nq.mk (pAt ps a.n).d.1 (pAt ps a.n).d.2.1 (pAt ps a.n).d.2.2 xq5.1 xq5.2.1 xq5.2.2) xq8).cp))], 24, true⟩, ⟨bq2, [(.int .i64 0), (.slice none 0 0)], 24, true⟩, ⟨bq1, [(.int .i64 sp), (.slice (some ⟨b, o, none⟩) n cap)], 24, true⟩], ((a.add (Nq.mk (pAt ps a.n).d.1 (pAt ps a.n).d.2.1 (pAt ps a.n).d.2.2 xq5.1 xq5.2.1 xq5.2.2) xq8).row 75), (a.qs.map (Nq.blk 52))]) (idx := [2, 3, 4, 1]) 5 [0] h rfl (by decide) rfl) ?_
   refine GC.region ?_
   refine GL.mv rfl (by decide) ?_
   refine GL.val (v := (.int .i64 ((((a.add (Nq.mk (pAt ps a.n).d.1 (pAt ps a.n).d.2.1 (pAt ps a.n).d.2.2 xq5.1 xq5.2.1 xq5.2.2) xq8).n : Nat) : Int)))) (Ex.add rfl rfl (Z := (((a.add (Nq.mk (pAt ps a.n).d.1 (pAt ps a.n).d.2.1 (pAt ps a.n).d.2.2 xq5.1 xq5.2.1 xq5.2.2) xq8).n : Nat) : Int)) (by rw [Ac.add_n, w64 (by omega)]; omega)) (by decide) ?_
   refine GL.sg rfl (by decide) ?_
   refine GL.nil (GE.thenN ?_)
   exact Head.mk ((a.add (Nq.mk (pAt ps a.n).d.1 (pAt ps a.n).d.2.1 (pAt ps a.n).d.2.2 xq5.1 xq5.2.1 xq5.2.2) xq8)) ⟨by rw [Ac.add_n]; omega, Ac.ds_step hp.2.1 rfl, hq9, Ac.add_mem hp.2.2.2 hq6⟩ (by rw [Ac.add_n]; omega) ((sub_cons rfl ((sub_cons rfl ((sub_cons rfl ((sub_cons rfl ((sub_nil _)))))))))) (ulC (ulC (ulC ulR)))
  refine GHs.cons rfl (Stp.callR (σ := Nat × Nat × List Value) (p := fun rz => ((pAt ps a.n).d.2.2.map u32 ++ rz.2.2).length = rz.2.1 * 1 ∧ rz.2.1 ≤ 9223372036854775807) (v := fun rz => (.agg #[(.int .i64 ((pAt ps a.n).d.1)), (.int .i64 ((pAt ps a.n).d.2.1)), (.slice (some ⟨rz.1, 0, none⟩) ((pAt ps a.n).d.2.2.length) rz.2.1)])) (N := fun rz => [⟨rz.1, (pAt ps a.n).d.2.2.map u32 ++ rz.2.2, 52, true⟩]) (vs := [(.agg #[(.int .i64 ((pAt ps a.n).W)), (.int .i64 ((pAt ps a.n).H)), (.slice (pAt ps a.n).ad ((pAt ps a.n).n) ((pAt ps a.n).cap))])]) rfl rfl T.own85 (by decide) (fun wc hw => (by exact ref_copy_p (pAt ps a.n) W H wc hok.ok (hok.at (by omega)) ((hps.ok _ (pAt_mem (by omega))).later hw.1)))) (fun _ => (ulS (ulS (ulC (ulC ulN))))) (fun xq10 hq11 => ?_) ?_
  ·refine GH.many (rs := [1, 8]) (by kernel_rfl) (by simp) ?_
   refine GHs.cons rfl (Ex.wp (v := (.slice a.ad a.n a.cp)) (Ex.load rfl T.ag22 (i := 1) rfl rfl) (by decide)) (fun _ => (ulS (ulS (ulC (ulC ulN))))) (fun _ _ => ?_) ?_
   ·refine GH.one 8 rfl (by kernel_rfl) (Stp.buildSlice (cs := [(.int .i64 ((pAt ps a.n).d.1)), (.int .i64 ((pAt ps a.n).d.2.1)), (.slice (some ⟨xq10.1, 0, none⟩) ((pAt ps a.n).d.2.2.length) xq10.2.1)]) (vs := [(0, (.agg #[(.int .i64 ((pAt ps a.n).d.1)), (.int .i64 ((pAt ps a.n).d.2.1)), (.slice (some ⟨xq10.1, 0, none⟩) ((pAt ps a.n).d.2.2.length) xq10.2.1)]))]) Tryz.underlying22 T.zr75 T.sz75 rfl (by decide) (by decide) (by first | rfl | kernel_rfl) (by decide)) (fun _ => (ulS (ulS (ulS (ulC (ulC ulN)))))) (fun bq12 _ => ?_)
    refine GH.one 9 rfl (by kernel_rfl) (Stp.appAc (a := a) (q := (Nq.mk (pAt ps a.n).d.1 (pAt ps a.n).d.2.1 (pAt ps a.n).d.2.2 xq10.1 xq10.2.1 xq10.2.2)) (K := [⟨bq12, [(.int .i64 ((pAt ps a.n).d.1)), (.int .i64 ((pAt ps a.n).d.2.1)), (.slice (some ⟨xq10.1, 0, none⟩) ((pAt ps a.n).d.2.2.length) xq10.2.1)], 75, true⟩, ⟨xq10.1, (pAt ps a.n).d.2.2.map u32 ++ xq10.2.2, 52, true⟩, ⟨bq3, [(.int .i64 sp), (.slice a.ad a.n a.cp)], 24, true⟩, ⟨bq2, [(.int .i64 0), (.slice none 0 0)], 24, true⟩, ⟨bq1, [(.int .i64 sp), (.slice (some ⟨b, o, none⟩) n cap)], 24, true⟩]) (R := (a.qs.map (Nq.blk 52) ++ [])) rfl rfl Tryz.underlying22 T.sz75 T.zr75 rfl T.by75 rfl hp.2.2.1 (fun w hw => hw.rdOf (i := 0) rfl 0) (by omega) (by omega) (by decide)) (fun _ => (ulS (ulS (ulS (ulC (ulC ulN)))))) (fun xq13 hq14 => ?_)
    refine GH.tk 10 (v := (.pointer (some ⟨bq3, 1, none⟩))) rfl (by kernel_rfl) (fun _ _ _ h => h) (Ex.cast (Ex.fieldAddr rfl Tryz.underlying24 rfl T.sz22 (by decide)) rfl) (ulS (ulS (ulS (ulC (ulC ulN))))) (by decide) ?_
    refine GH.done (by kernel_rfl) ?_
    refine GE.thenN ?_
    refine GE.tail rfl (Stp.st2 (cs' := [(.int .i64 sp), (.slice (a.add (Nq.mk (pAt ps a.n).d.1 (pAt ps a.n).d.2.1 (pAt ps a.n).d.2.2 xq10.1 xq10.2.1 xq10.2.2) xq13).ad ((a.add (Nq.mk (pAt ps a.n).d.1 (pAt ps a.n).d.2.1 (pAt ps a.n).d.2.2 xq10.1 xq10.2.1 xq10.2.2) xq13).n) ((a.add (Nq.mk (pAt ps a.n).d.1 (pAt ps a.n).d.2.1 (pAt ps a.n).d.2.2 xq10.1 xq10.2.1 xq10.2.2) xq13).cp))]) rfl rfl rfl T.sz22 rfl rfl rfl) (fun _ _ => ?_)
    refine GE.blockN (GE.thenN ?_)
    refine GC.hp (L2 := (⟨bq3, [(.int .i64 sp), (.slice (a.add (Nq.mk (pAt ps a.n).d.1 (pAt ps a.n).d.2.1 (pAt ps a.n).d.2.2 xq10.1 xq10.2.1 xq10.2.2) xq13).ad ((a.add (Nq.mk (pAt ps a.n).d.1 (pAt ps a.n).d.2.1 (pAt ps a.n).d.2.2 xq10.1 xq10.2.1 xq10.2.2) xq13).n) ((a.add (Nq.mk (pAt ps a.n).d.1 (pAt ps a.n).d.2.1 (pAt ps a.n).d.2.2 xq10.1 xq10.2.1 xq10.2.2) xq13).cp))], 24, true⟩ :: ⟨bq2, [(.int .i64 0), (.slice none 0 0)], 24, true⟩ :: ⟨bq1, [(.int .i64 sp), (.slice (some ⟨b, o, none⟩) n cap)], 24, true⟩ :: ((a.add (Nq.mk (pAt ps a.n).d.1 (pAt ps a.n).d.2.1 (pAt ps a.n).d.2.2 xq10.1 xq10.2.1 xq10.2.2) xq13).row 75 ++ ((a.add (Nq.mk (pAt ps a.n).d.1 (pAt ps a.n).d.2.1 (pAt ps a.n).d.2.2 xq10.1 xq10.2.1 xq10.2.2) xq13).qs.map (Nq.blk 52) ++ [])))) (fun w h => by rw [Ac.add_map, List.append_assoc]; exact Hp.segsD (A := [[⟨bq12, [(.int .i64 ((pAt ps a.n).d.1)), (.int .i64 ((pAt ps a.n).d.2.1)), (.slice (some ⟨xq10.1, 0, none⟩) ((pAt ps a.n).d.2.2.length) xq10.2.1)], 75, true⟩], [⟨xq10.1, (pAt ps a.n).d.2.2.map u32 ++ xq10.2.2, 52, true⟩], [⟨bq3, [(.int .i64 sp), (.slice (a.add (Nq.mk (pAt ps a.n).d.1 (pAt ps a.n).d.2.1 (pAt ps a.n).d.2.2 xq10.1 xq10.2.1 xq10.2.2) xq13).ad ((a.add (Nq.mk (pAt ps a.n).d.1 (pAt ps a.n).d.2.1 (pAt ps a.n).d.2.2 xq10.1 xq10.2.1 xq10.2.2) xq13).n) ((a.add (Nq.mk (pAt ps a.n).d.1 (pAt ps a.n).d.2.1 (pAt ps a.n).d.2.2 xq10.1 xq10.2.1 xq10.2.2) xq13).cp))], 24, true⟩, ⟨bq2, [(.int .i64 0), (.slice none 0 0)], 24, true⟩, ⟨bq1, [(.int .i64 sp), (.slice (some ⟨b, o, none⟩) n cap)], 24, true⟩], ((a.add (Nq.mk (pAt ps a.n).d.1 (pAt ps a.n).d.2.1 (pAt ps a.n).d.2.2 xq10.1 xq10.2.1 xq10.2.2) xq13).row 75), (a.qs.map (Nq.blk 52))]) (idx := [2, 3, 4, 1]) 5 [0] h rfl (by decide) rfl) ?_
    refine GC.region ?_
    refine GL.mv rfl (by decide) ?_
    refine GL.val (v := (.int .i64 ((((a.add (Nq.mk (pAt ps a.n).d.1 (pAt ps a.n).d.2.1 (pAt ps a.n).d.2.2 xq10.1 xq10.2.1 xq10.2.2) xq13).n : Nat) : Int)))) (Ex.add rfl rfl (Z := (((a.add (Nq.mk (pAt ps a.n).d.1 (pAt ps a.n).d.2.1 (pAt ps a.n).d.2.2 xq10.1 xq10.2.1 xq10.2.2) xq13).n : Nat) : Int)) (by rw [Ac.add_n, w64 (by omega)]; omega)) (by decide) ?_
    refine GL.sg rfl (by decide) ?_
    refine GL.nil (GE.thenN ?_)
    exact Head.mk ((a.add (Nq.mk (pAt ps a.n).d.1 (pAt ps a.n).d.2.1 (pAt ps a.n).d.2.2 xq10.1 xq10.2.1 xq10.2.2) xq13)) ⟨by rw [Ac.add_n]; omega, Ac.ds_step hp.2.1 rfl, hq14, Ac.add_mem hp.2.2.2 hq11⟩ (by rw [Ac.add_n]; omega) ((sub_cons rfl ((sub_cons rfl ((sub_cons rfl ((sub_cons rfl ((sub_nil _)))))))))) (ulC (ulC (ulC ulR)))
   refine GHs.cons rfl (Stp.buildSlice (cs := [(.int .i64 ((pAt ps a.n).d.1)), (.int .i64 ((pAt ps a.n).d.2.1)), (.slice (some ⟨xq10.1, 0, none⟩) ((pAt ps a.n).d.2.2.length) xq10.2.1)]) (vs := [(0, (.agg #[(.int .i64 ((pAt ps a.n).d.1)), (.int .i64 ((pAt ps a.n).d.2.1)), (.slice (some ⟨xq10.1, 0, none⟩) ((pAt ps a.n).d.2.2.length) xq10.2.1)]))]) Tryz.underlying22 T.zr75 T.sz75 rfl (by decide) (by decide) (by first | rfl | kernel_rfl) (by decide)) (fun _ => (ulS (ulS (ulS (ulC (ulC ulN)))))) (fun bq15 _ => ?_) ?_
   ·refine GH.one 1 rfl (by kernel_rfl) (Ex.wp (v := (.slice a.ad a.n a.cp)) (Ex.load rfl T.ag22 (i := 2) rfl rfl) (by decide)) (fun _ => (ulS (ulS (ulS (ulC (ulC ulN)))))) (fun _ _ => ?_)
    refine GH.one 9 rfl (by kernel_rfl) (Stp.appAc (a := a) (q := (Nq.mk (pAt ps a.n).d.1 (pAt ps a.n).d.2.1 (pAt ps a.n).d.2.2 xq10.1 xq10.2.1 xq10.2.2)) (K := [⟨bq15, [(.int .i64 ((pAt ps a.n).d.1)), (.int .i64 ((pAt ps a.n).d.2.1)), (.slice (some ⟨xq10.1, 0, none⟩) ((pAt ps a.n).d.2.2.length) xq10.2.1)], 75, true⟩, ⟨xq10.1, (pAt ps a.n).d.2.2.map u32 ++ xq10.2.2, 52, true⟩, ⟨bq3, [(.int .i64 sp), (.slice a.ad a.n a.cp)], 24, true⟩, ⟨bq2, [(.int .i64 0), (.slice none 0 0)], 24, true⟩, ⟨bq1, [(.int .i64 sp), (.slice (some ⟨b, o, none⟩) n cap)], 24, true⟩]) (R := (a.qs.map (Nq.blk 52) ++ [])) rfl rfl Tryz.underlying22 T.sz75 T.zr75 rfl T.by75 rfl hp.2.2.1 (fun w hw => hw.rdOf (i := 0) rfl 0) (by omega) (by omega) (by decide)) (fun _ => (ulS (ulS (ulS (ulC (ulC ulN)))))) (fun xq16 hq17 => ?_)
    refine GH.tk 10 (v := (.pointer (some ⟨bq3, 1, none⟩))) rfl (by kernel_rfl) (fun _ _ _ h => h) (Ex.cast (Ex.fieldAddr rfl Tryz.underlying24 rfl T.sz22 (by decide)) rfl) (ulS (ulS (ulS (ulC (ulC ulN))))) (by decide) ?_
    refine GH.done (by kernel_rfl) ?_
    refine GE.thenN ?_
    refine GE.tail rfl (Stp.st2 (cs' := [(.int .i64 sp), (.slice (a.add (Nq.mk (pAt ps a.n).d.1 (pAt ps a.n).d.2.1 (pAt ps a.n).d.2.2 xq10.1 xq10.2.1 xq10.2.2) xq16).ad ((a.add (Nq.mk (pAt ps a.n).d.1 (pAt ps a.n).d.2.1 (pAt ps a.n).d.2.2 xq10.1 xq10.2.1 xq10.2.2) xq16).n) ((a.add (Nq.mk (pAt ps a.n).d.1 (pAt ps a.n).d.2.1 (pAt ps a.n).d.2.2 xq10.1 xq10.2.1 xq10.2.2) xq16).cp))]) rfl rfl rfl T.sz22 rfl rfl rfl) (fun _ _ => ?_)
    refine GE.blockN (GE.thenN ?_)
    refine GC.hp (L2 := (⟨bq3, [(.int .i64 sp), (.slice (a.add (Nq.mk (pAt ps a.n).d.1 (pAt ps a.n).d.2.1 (pAt ps a.n).d.2.2 xq10.1 xq10.2.1 xq10.2.2) xq16).ad ((a.add (Nq.mk (pAt ps a.n).d.1 (pAt ps a.n).d.2.1 (pAt ps a.n).d.2.2 xq10.1 xq10.2.1 xq10.2.2) xq16).n) ((a.add (Nq.mk (pAt ps a.n).d.1 (pAt ps a.n).d.2.1 (pAt ps a.n).d.2.2 xq10.1 xq10.2.1 xq10.2.2) xq16).cp))], 24, true⟩ :: ⟨bq2, [(.int .i64 0), (.slice none 0 0)], 24, true⟩ :: ⟨bq1, [(.int .i64 sp), (.slice (some ⟨b, o, none⟩) n cap)], 24, true⟩ :: ((a.add (Nq.mk (pAt ps a.n).d.1 (pAt ps a.n).d.2.1 (pAt ps a.n).d.2.2 xq10.1 xq10.2.1 xq10.2.2) xq16).row 75 ++ ((a.add (Nq.mk (pAt ps a.n).d.1 (pAt ps a.n).d.2.1 (pAt ps a.n).d.2.2 xq10.1 xq10.2.1 xq10.2.2) xq16).qs.map (Nq.blk 52) ++ [])))) (fun w h => by rw [Ac.add_map, List.append_assoc]; exact Hp.segsD (A := [[⟨bq15, [(.int .i64 ((pAt ps a.n).d.1)), (.int .i64 ((pAt ps a.n).d.2.1)), (.slice (some ⟨xq10.1, 0, none⟩) ((pAt ps a.n).d.2.2.length) xq10.2.1)], 75, true⟩], [⟨xq10.1, (pAt ps a.n).d.2.2.map u32 ++ xq10.2.2, 52, true⟩], [⟨bq3, [(.int .i64 sp), (.slice (a.add (Nq.mk (pAt ps a.n).d.1 (pAt ps a.n).d.2.1 (pAt ps a.n).d.2.2 xq10.1 xq10.2.1 xq10.2.2) xq16).ad ((a.add (Nq.mk (pAt ps a.n).d.1 (pAt ps a.n).d.2.1 (pAt ps a.n).d.2.2 xq10.1 xq10.2.1 xq10.2.2) xq16).n) ((a.add (Nq.mk (pAt ps a.n).d.1 (pAt ps a.n).d.2.1 (pAt ps a.n).d.2.2 xq10.1 xq10.2.1 xq10.2.2) xq16).cp))], 24, true⟩, ⟨bq2, [(.int .i64 0), (.slice none 0 0)], 24, true⟩, ⟨bq1, [(.int .i64 sp), (.slice (some ⟨b, o, none⟩) n cap)], 24, true⟩], ((a.add (Nq.mk (pAt ps a.n).d.1 (pAt ps a.n).d.2.1 (pAt ps a.n).d.2.2 xq10.1 xq10.2.1 xq10.2.2) xq16).row 75), (a.qs.map (Nq.blk 52))]) (idx := [2, 3, 4, 1]) 5 [0] h rfl (by decide) rfl) ?_
    refine GC.region ?_
    refine GL.mv rfl (by decide) ?_
    refine GL.val (v := (.int .i64 ((((a.add (Nq.mk (pAt ps a.n).d.1 (pAt ps a.n).d.2.1 (pAt ps a.n).d.2.2 xq10.1 xq10.2.1 xq10.2.2) xq16).n : Nat) : Int)))) (Ex.add rfl rfl (Z := (((a.add (Nq.mk (pAt ps a.n).d.1 (pAt ps a.n).d.2.1 (pAt ps a.n).d.2.2 xq10.1 xq10.2.1 xq10.2.2) xq16).n : Nat) : Int)) (by rw [Ac.add_n, w64 (by omega)]; omega)) (by decide) ?_
    refine GL.sg rfl (by decide) ?_
    refine GL.nil (GE.thenN ?_)
    exact Head.mk ((a.add (Nq.mk (pAt ps a.n).d.1 (pAt ps a.n).d.2.1 (pAt ps a.n).d.2.2 xq10.1 xq10.2.1 xq10.2.2) xq16)) ⟨by rw [Ac.add_n]; omega, Ac.ds_step hp.2.1 rfl, hq17, Ac.add_mem hp.2.2.2 hq11⟩ (by rw [Ac.add_n]; omega) ((sub_cons rfl ((sub_cons rfl ((sub_cons rfl ((sub_cons rfl ((sub_nil _)))))))))) (ulC (ulC (ulC ulR)))
   exact GHs.nil
  exact GHs.nil
 ·replace hq4 := of_decide_eq_false hq4
  refine GC.exit (GE.thenE (GE.thenE (GE.blockE (GE.thenN (GC.seq (GC.region ?_))))))
  refine GL.val (v := (.agg #[(.int .i64 sp), (.slice a.ad a.n a.cp)])) (Ex.loadA rfl T.ag24 T.sz24 (i := 0) rfl (vs := [(.int .i64 sp), (.slice a.ad a.n a.cp)]) rfl rfl) (by decide) ?_
  refine GL.step (Stp.st1 (cs' := [(.int .i64 sp), (.slice a.ad a.n a.cp)]) rfl rfl rfl T.sz24 rfl rfl rfl) (fun _ _ => ?_)
  refine GL.nil (GE.thenN (GC.ret ?_))
  refine GC.ret1 rfl (Rv.cellA rfl T.ag24 T.sz24 (L := _) (i := 1) rfl (vs := [(.int .i64 sp), (.slice a.ad a.n a.cp)]) rfl rfl) (fun wN HN => ?_)
  exact HN.ret a ⟨Ac.ne (by have := hok.n0; omega), by rw [hp.2.1, show a.n = n by omega], hp.2.2⟩ rfl (ulS (ulS (ulS ulR))) (Ac.blks_own _ _ _)

theorem newp (sp s : Int) (k W H : Nat) (w : World) (hk : 1 ≤ k ∧ k ≤ 4) (hok : okP W H) :
  Calls Tryz.prog 34 #[(.int .i64 sp), (.int .i64 (((k : Nat) : Int))), (.int .i64 (((W : Nat) : Int))), (.int .i64 (((H : Nat) : Int))), (.int .u32 s)] w (Ret w (fun r : Ac => r.Ok ∧ (∀ q ∈ r.qs, q.Ok) ∧ r.ds = newD sp ((k : Nat) : Int) W H s) (fun r => .tuple #[(.agg #[(.int .i64 ((picS (newE sp ((k : Nat) : Int) W H) sp))), (.slice r.ad r.n r.cp)]), .int .i64 (newE sp ((k : Nat) : Int) W H)]) (fun r => r.blks 75 52)) := by
 refine enter (M := None) (L := []) (n := 54) (l := [(0, (.int .i64 sp)), (1, (.int .i64 (((k : Nat) : Int)))), (2, (.int .i64 (((W : Nat) : Int)))), (3, (.int .i64 (((H : Nat) : Int)))), (4, (.int .u32 s))]) Tryz.func34 rfl rfl (Args.cons rfl (Args.cons rfl (Args.cons rfl (Args.cons rfl (Args.cons rfl (Args.nil _)))))) (Hp.start _ _) ?_
 refine GC.seq (GC.region ?_)
 refine GL.step (Stp.alloc T.zr24 (by decide)) (fun bq1 _ => ?_)
 refine GL.sg rfl (by decide) ?_
 refine GL.nil (GE.thenN (GC.seq (GC.seq (GC.region ?_))))
 refine GL.mv rfl (by decide) ?_
 refine GL.val (v := (.bool false)) (Ex.cast (Ex.lss rfl rfl) (congrArg Value.bool (decide_eq_false (by omega)))) (by decide) ?_
 refine GL.mv rfl (by decide) ?_
 refine GL.stepG (tj := 18) rfl rfl (Ex.wp (v := (.int .i64 (((k : Nat) : Int)))) (Ex.move rfl) (by decide)) (fun _ _ => ?_)
 refine GL.stepG (tj := 18) rfl rfl (Ex.wp (v := (.bool false)) (Ex.cast (Ex.gtr rfl rfl) (congrArg Value.bool (decide_eq_false (by omega)))) (by decide)) (fun _ _ => ?_)
 refine GL.val (v := (.bool false)) (Ex.pickF rfl rfl) (by decide) ?_
 refine GL.nil (GE.thenN ?_)
 refine GC.cond rfl (fun hq2 => by cases hq2) (fun _ => ?_)
 refine GC.skip (GE.thenN (GC.seq (GC.region ?_)))
 refine GL.mv rfl (by decide) ?_
 refine GL.val (v := (.agg #[(.int .i64 sp), (.slice none 0 0)])) (Ex.build (vs := [(0, (.int .i64 sp))]) rfl (by first | rfl | kernel_rfl)) (by decide) ?_
 refine GL.step (Stp.alloc T.zr24 (by decide)) (fun bq3 _ => ?_)
 refine GL.step (Stp.st0 (cs' := [(.int .i64 sp), (.slice none 0 0)]) rfl rfl rfl T.sz24 rfl rfl rfl) (fun _ _ => ?_)
 refine GL.nil (GE.thenN (GC.seq (GC.seq (GC.region ?_))))
 refine GL.mv rfl (by decide) ?_
 refine GL.mv rfl (by decide) ?_
 refine GL.nil (GE.thenN (GC.block ?_))
 refine GC.loop (σ := Ac) (fun a => a.n ≤ k ∧ a.ds = (List.range a.n).map (fun _ => ((W : Int), (H : Int), tab W (fun _ _ => s) (W * H))) ∧ a.Ok ∧ ∀ q ∈ a.qs, q.Ok) (fun a => [(0, (.int .i64 sp)), (1, (.int .i64 (((k : Nat) : Int)))), (10, (.pointer (some ⟨bq1, 0, none⟩))), (11, (.int .i64 0)), (12, (.pointer (some ⟨bq3, 0, none⟩))), (25, (.int .i64 (((k : Nat) : Int)))), (2, (.int .i64 (((W : Nat) : Int)))), (3, (.int .i64 (((H : Nat) : Int)))), (4, (.int .u32 s)), (26, (.int .i64 (((a.n : Nat) : Int))))]) (fun a => (⟨bq3, [(.int .i64 sp), (.slice a.ad a.n a.cp)], 24, true⟩ :: ⟨bq1, [(.int .i64 0), (.slice none 0 0)], 24, true⟩ :: (a.row 75 ++ (a.qs.map (Nq.blk 52) ++ [])))) (fun a => k - a.n) (Ac.no) ⟨Nat.zero_le _, rfl, Or.inl rfl, fun q h => by cases h⟩ ((sub_cons rfl ((sub_cons rfl ((sub_cons rfl ((sub_cons rfl ((sub_cons rfl ((sub_cons rfl ((sub_cons rfl ((sub_cons rfl ((sub_cons rfl ((sub_cons rfl ((sub_nil _)))))))))))))))))))))) (ulC (ulC ulR)) (fun a hp => ?_)
 have hpn := hp.1
 refine GC.seq (GC.region ?_)
 refine GL.val (v := (.bool (decide ((((a.n : Nat) : Int)) < (((k : Nat) : Int)))))) (Ex.lss rfl rfl) (by decide) ?_
 refine GL.nil (GE.thenN (GC.seq ?_))
 refine GC.cond rfl (fun hq4 => ?_) (fun hq4 => ?_)
 ·replace hq4 := of_decide_eq_true hq4
  refine GC.skip (GE.thenN (GC.seq (GC.block (GC.seq (GC.region ?_)))))
  refine GL.mv rfl (by decide) ?_
  refine GL.mv rfl (by decide) ?_
  refine GL.mv rfl (by decide) ?_
  refine GL.step (Stp.callR (σ := Nat × Nat × List Value) (p := fun rz => (((W : Int), (H : Int), tab W (fun _ _ => s) (W * H)).2.2.map u32 ++ rz.2.2).length = rz.2.1 * 1 ∧ rz.2.1 ≤ 9223372036854775807) (v := fun rz => (.tuple #[(.agg #[(.int .i64 (((W : Int), (H : Int), tab W (fun _ _ => s) (W * H)).1)), (.int .i64 (((W : Int), (H : Int), tab W (fun _ _ => s) (W * H)).2.1)), (.slice (some ⟨rz.1, 0, none⟩) (((W : Int), (H : Int), tab W (fun _ _ => s) (W * H)).2.2.length) rz.2.1)]), (.int .i64 0)])) (N := fun rz => [⟨rz.1, ((W : Int), (H : Int), tab W (fun _ _ => s) (W * H)).2.2.map u32 ++ rz.2.2, 52, true⟩]) (vs := [(.int .i64 (((W : Nat) : Int))), (.int .i64 (((H : Nat) : Int))), (.int .u32 s)]) rfl rfl T.own74 (by decide) (fun wc hw => (by exact new_q W H s wc hok))) (fun xq5 hq6 => ?_)
  refine GL.mv rfl (by decide) ?_
  refine GL.val (Ex.extract rfl rfl) (by decide) ?_
  refine GL.val (Ex.extract rfl rfl) (by decide) ?_
  refine GL.step (Stp.alloc T.zr75 (by decide)) (fun bq7 _ => ?_)
  refine GL.step (Stp.st0 (cs' := [(.int .i64 (((W : Int), (H : Int), tab W (fun _ _ => s) (W * H)).1)), (.int .i64 (((W : Int), (H : Int), tab W (fun _ _ => s) (W * H)).2.1)), (.slice (some ⟨xq5.1, 0, none⟩) (((W : Int), (H : Int), tab W (fun _ _ => s) (W * H)).2.2.length) xq5.2.1)]) rfl rfl rfl T.sz75 rfl rfl rfl) (fun _ _ => ?_)
  refine GL.sg rfl (by decide) ?_
  refine GL.nil (GE.thenN (GC.seq (GC.seq (GC.region ?_))))
  refine GL.mv rfl (by decide) ?_
  refine GL.val (v := (.bool false)) (Ex.cast (Ex.neq rfl rfl) rfl) (by decide) ?_
  refine GL.nil (GE.thenN ?_)
  refine GC.cond rfl (fun hq8 => by cases hq8) (fun _ => ?_)
  refine GC.skip (GE.thenN (GC.region ?_))
  refine GL.val (v := (.pointer (some ⟨bq3, 1, none⟩))) (Ex.cast (Ex.fieldAddr rfl Tryz.underlying24 rfl T.sz22 (by decide)) rfl) (by decide) ?_
  refine GL.val (Ex.load rfl T.ag22 (i := 2) rfl rfl) (by decide) ?_
  refine GL.val (v := (.agg #[(.int .i64 (((W : Int), (H : Int), tab W (fun _ _ => s) (W * H)).1)), (.int .i64 (((W : Int), (H : Int), tab W (fun _ _ => s) (W * H)).2.1)), (.slice (some ⟨xq5.1, 0, none⟩) (((W : Int), (H : Int), tab W (fun _ _ => s) (W * H)).2.2.length) xq5.2.1)])) (Ex.loadA rfl T.ag75 T.sz75 (i := 0) rfl (vs := [(.int .i64 (((W : Int), (H : Int), tab W (fun _ _ => s) (W * H)).1)), (.int .i64 (((W : Int), (H : Int), tab W (fun _ _ => s) (W * H)).2.1)), (.slice (some ⟨xq5.1, 0, none⟩) (((W : Int), (H : Int), tab W (fun _ _ => s) (W * H)).2.2.length) xq5.2.1)]) rfl rfl) (by decide) ?_
  refine GL.step (Stp.buildSlice (cs := [(.int .i64 (((W : Int), (H : Int), tab W (fun _ _ => s) (W * H)).1)), (.int .i64 (((W : Int), (H : Int), tab W (fun _ _ => s) (W * H)).2.1)), (.slice (some ⟨xq5.1, 0, none⟩) (((W : Int), (H : Int), tab W (fun _ _ => s) (W * H)).2.2.length) xq5.2.1)]) (vs := [(0, (.agg #[(.int .i64 (((W : Int), (H : Int), tab W (fun _ _ => s) (W * H)).1)), (.int .i64 (((W : Int), (H : Int), tab W (fun _ _ => s) (W * H)).2.1)), (.slice (some ⟨xq5.1, 0, none⟩) (((W : Int), (H : Int), tab W (fun _ _ => s) (W * H)).2.2.length) xq5.2.1)]))]) Tryz.underlying22 T.zr75 T.sz75 rfl (by decide) (by decide) (by first | rfl | kernel_rfl) (by decide)) (fun bq9 _ => ?_)
  refine GL.step (Stp.appAc (a := a) (q := (Nq.mk ((W : Int), (H : Int), tab W (fun _ _ => s) (W * H)).1 ((W : Int), (H : Int), tab W (fun _ _ => s) (W * H)).2.1 ((W : Int), (H : Int), tab W (fun _ _ => s) (W * H)).2.2 xq5.1 xq5.2.1 xq5.2.2)) (K := [⟨bq9, [(.int .i64 (((W : Int), (H : Int), tab W (fun _ _ => s) (W * H)).1)), (.int .i64 (((W : Int), (H : Int), tab W (fun _ _ => s) (W * H)).2.1)), (.slice (some ⟨xq5.1, 0, none⟩) (((W : Int), (H : Int), tab W (fun _ _ => s) (W * H)).2.2.length) xq5.2.1)], 75, true⟩, ⟨bq7, [(.int .i64 (((W : Int), (H : Int), tab W (fun _ _ => s) (W * H)).1)), (.int .i64 (((W : Int), (H : Int), tab W (fun _ _ => s) (W * H)).2.1)), (.slice (some ⟨xq5.1, 0, none⟩) (((W : Int), (H : Int), tab W (fun _ _ => s) (W * H)).2.2.length) xq5.2.1)], 75, true⟩, ⟨xq5.1, ((W : Int), (H : Int), tab W (fun _ _ => s) (W * H)).2.2.map u32 ++ xq5.2.2, 52, true⟩, ⟨bq3, [(.int .i64 sp), (.slice a.ad a.n a.cp)], 24, true⟩, ⟨bq1, [(.int .i64 0), (.slice none 0 0)], 24, true⟩]) (R := (a.qs.map (Nq.blk 52) ++ [])) rfl rfl Tryz.underlying22 T.sz75 T.zr75 rfl T.by75 rfl hp.2.2.1 (fun w hw => hw.rdOf (i := 0) rfl 0) (by omega) (by omega) (by decide)) (fun xq10 hq11 => ?_)
  refine GL.val (v := (.pointer (some ⟨bq3, 1, none⟩))) (Ex.cast (Ex.fieldAddr rfl Tryz.underlying24 rfl T.sz22 (by decide)) rfl) (by decide) ?_
  refine GL.step (Stp.st3 (cs' := [(.int .i64 sp), (.slice (a.add (Nq.mk ((W : Int), (H : Int), tab W (fun _ _ => s) (W * H)).1 ((W : Int), (H : Int), tab W (fun _ _ => s) (W * H)).2.1 ((W : Int), (H : Int), tab W (fun _ _ => s) (W * H)).2.2 xq5.1 xq5.2.1 xq5.2.2) xq10).ad ((a.add (Nq.mk ((W : Int), (H : Int), tab W (fun _ _ => s) (W * H)).1 ((W : Int), (H : Int), tab W (fun _ _ => s) (W * H)).2.1 ((W : Int), (H : Int), tab W (fun _ _ => s) (W * H)).2.2 xq5.1 xq5.2.1 xq5.2.2) xq10).n) ((a.add (Nq.mk ((W : Int), (H : Int), tab W (fun _ _ => s) (W * H)).1 ((W : Int), (H : Int), tab W (fun _ _ => s) (W * H)).2.1 ((W : Int), (H : Int), tab W (fun _ _ => s) (W * H)).2.2 xq5.1 xq5.2.1 xq5.2.2) xq10).cp))]) rfl rfl rfl T.sz22 rfl rfl rfl) (fun _ _ => ?_)
  refine GL.nil (GE.blockN (GE.thenN ?_))
  refine GC.hp (L2 := (⟨bq3, [(.int .i64 sp), (.slice (a.add (Nq.mk ((W : Int), (H : Int), tab W (fun _ _ => s) (W * H)).1 ((W : Int), (H : Int), tab W (fun _ _ => s) (W * H)).2.1 ((W : Int), (H : Int), tab W (fun _ _ => s) (W * H)).2.2 xq5.1 xq5.2.1 xq5.2.2) xq10).ad ((a.add (Nq.mk ((W : Int), (H : Int), tab W (fun _ _ => s) (W * H)).1 ((W : Int), (H : Int), tab W (fun _ _ => s) (W * H)).2.1 ((W : Int), (H : Int), tab W (fun _ _ => s) (W * H)).2.2 xq5.1 xq5.2.1 xq5.2.2) xq10).n) ((a.add (Nq.mk ((W : Int), (H : Int), tab W (fun _ _ => s) (W * H)).1 ((W : Int), (H : Int), tab W (fun _ _ => s) (W * H)).2.1 ((W : Int), (H : Int), tab W (fun _ _ => s) (W * H)).2.2 xq5.1 xq5.2.1 xq5.2.2) xq10).cp))], 24, true⟩ :: ⟨bq1, [(.int .i64 0), (.slice none 0 0)], 24, true⟩ :: ((a.add (Nq.mk ((W : Int), (H : Int), tab W (fun _ _ => s) (W * H)).1 ((W : Int), (H : Int), tab W (fun _ _ => s) (W * H)).2.1 ((W : Int), (H : Int), tab W (fun _ _ => s) (W * H)).2.2 xq5.1 xq5.2.1 xq5.2.2) xq10).row 75 ++ ((a.add (Nq.mk ((W : Int), (H : Int), tab W (fun _ _ => s) (W * H)).1 ((W : Int), (H : Int), tab W (fun _ _ => s) (W * H)).2.1 ((W : Int), (H : Int), tab W (fun _ _ => s) (W * H)).2.2 xq5.1 xq5.2.1 xq5.2.2) xq10).qs.map (Nq.blk 52) ++ [])))) (fun w h => by rw [Ac.add_map, List.append_assoc]; exact Hp.segsD (A := [[⟨bq9, [(.int .i64 (((W : Int), (H : Int), tab W (fun _ _ => s) (W * H)).1)), (.int .i64 (((W : Int), (H : Int), tab W (fun _ _ => s) (W * H)).2.1)), (.slice (some ⟨xq5.1, 0, none⟩) (((W : Int), (H : Int), tab W (fun _ _ => s) (W * H)).2.2.length) xq5.2.1)], 75, true⟩, ⟨bq7, [(.int .i64 (((W : Int), (H : Int), tab W (fun _ _ => s) (W * H)).1)), (.int .i64 (((W : Int), (H : Int), tab W (fun _ _ => s) (W * H)).2.1)), (.slice (some ⟨xq5.1, 0, none⟩) (((W : Int), (H : Int), tab W (fun _ _ => s) (W * H)).2.2.length) xq5.2.1)], 75, true⟩], [⟨xq5.1, ((W : Int), (H : Int), tab W (fun _ _ => s) (W * H)).2.2.map u32 ++ xq5.2.2, 52, true⟩], [⟨bq3, [(.int .i64 sp), (.slice (a.add (Nq.mk ((W : Int), (H : Int), tab W (fun _ _ => s) (W * H)).1 ((W : Int), (H : Int), tab W (fun _ _ => s) (W * H)).2.1 ((W : Int), (H : Int), tab W (fun _ _ => s) (W * H)).2.2 xq5.1 xq5.2.1 xq5.2.2) xq10).ad ((a.add (Nq.mk ((W : Int), (H : Int), tab W (fun _ _ => s) (W * H)).1 ((W : Int), (H : Int), tab W (fun _ _ => s) (W * H)).2.1 ((W : Int), (H : Int), tab W (fun _ _ => s) (W * H)).2.2 xq5.1 xq5.2.1 xq5.2.2) xq10).n) ((a.add (Nq.mk ((W : Int), (H : Int), tab W (fun _ _ => s) (W * H)).1 ((W : Int), (H : Int), tab W (fun _ _ => s) (W * H)).2.1 ((W : Int), (H : Int), tab W (fun _ _ => s) (W * H)).2.2 xq5.1 xq5.2.1 xq5.2.2) xq10).cp))], 24, true⟩, ⟨bq1, [(.int .i64 0), (.slice none 0 0)], 24, true⟩], ((a.add (Nq.mk ((W : Int), (H : Int), tab W (fun _ _ => s) (W * H)).1 ((W : Int), (H : Int), tab W (fun _ _ => s) (W * H)).2.1 ((W : Int), (H : Int), tab W (fun _ _ => s) (W * H)).2.2 xq5.1 xq5.2.1 xq5.2.2) xq10).row 75), (a.qs.map (Nq.blk 52))]) (idx := [2, 3, 4, 1]) 5 [0] h rfl (by decide) rfl) ?_
  refine GC.region ?_
  refine GL.val (v := (.int .i64 ((((a.add (Nq.mk ((W : Int), (H : Int), tab W (fun _ _ => s) (W * H)).1 ((W : Int), (H : Int), tab W (fun _ _ => s) (W * H)).2.1 ((W : Int), (H : Int), tab W (fun _ _ => s) (W * H)).2.2 xq5.1 xq5.2.1 xq5.2.2) xq10).n : Nat) : Int)))) (Ex.add rfl rfl (Z := (((a.add (Nq.mk ((W : Int), (H : Int), tab W (fun _ _ => s) (W * H)).1 ((W : Int), (H : Int), tab W (fun _ _ => s) (W * H)).2.1 ((W : Int), (H : Int), tab W (fun _ _ => s) (W * H)).2.2 xq5.1 xq5.2.1 xq5.2.2) xq10).n : Nat) : Int)) (by rw [Ac.add_n, w64 (by omega)]; omega)) (by decide) ?_
  refine GL.mv rfl (by decide) ?_
  refine GL.nil (GE.thenN ?_)
  exact Head.mk ((a.add (Nq.mk ((W : Int), (H : Int), tab W (fun _ _ => s) (W * H)).1 ((W : Int), (H : Int), tab W (fun _ _ => s) (W * H)).2.1 ((W : Int), (H : Int), tab W (fun _ _ => s) (W * H)).2.2 xq5.1 xq5.2.1 xq5.2.2) xq10)) ⟨by rw [Ac.add_n]; omega, Ac.ds_step hp.2.1 rfl, hq11, Ac.add_mem hp.2.2.2 hq6⟩ (by rw [Ac.add_n]; omega) ((sub_cons rfl ((sub_cons rfl ((sub_cons rfl ((sub_cons rfl ((sub_cons rfl ((sub_cons rfl ((sub_cons rfl ((sub_cons rfl ((sub_cons rfl ((sub_cons rfl ((sub_nil _)))))))))))))))))))))) (ulC (ulC ulR))
 ·replace hq4 := of_decide_eq_false hq4
  refine GC.exit (GE.thenE (GE.thenE (GE.blockE (GE.thenN (GC.seq (GC.seq (GC.region ?_)))))))
  refine GL.mv rfl (by decide) ?_
  refine GL.mv rfl (by decide) ?_
  refine GL.step (Stp.callR (vs := [(.int .i64 sp), (.int .i64 (((k : Nat) : Int)))]) rfl rfl T.own75 (by decide) (fun wc hw => spaceof sp k wc)) (fun xq12 hq13 => ?_)
  refine GL.sg rfl (by decide) ?_
  refine GL.nil (GE.thenN (GC.seq (GC.region ?_)))
  refine GL.mv rfl (by decide) ?_
  refine GL.val (v := (.bool (decide (((spc sp k)) ≠ 0)))) (Ex.neq rfl rfl) (by decide) ?_
  refine GL.nil (GE.thenN ?_)
  refine GC.cond rfl (fun hq14 => ?_) (fun hq14 => ?_)
  ·replace hq14 := of_decide_eq_true hq14
   have hE2 : spc sp k = 81 := by have := hq14; unfold spc at this ⊢; split <;> simp_all
   have hE1 : newE sp ((k : Nat) : Int) W H = 81 := by rw [newE_mid hk hok]; exact hE2
   have hE0 : newE sp ((k : Nat) : Int) W H ≠ 0 := by rw [hE1]; decide
   refine GC.seq (GC.region ?_)
   refine GL.val (v := (.agg #[(.int .i64 0), (.slice none 0 0)])) (Ex.build (vs := []) rfl (by first | rfl | kernel_rfl)) (by decide) ?_
   refine GL.mv rfl (by decide) ?_
   refine GL.step (Stp.st1 (cs' := [(.int .i64 0), (.slice none 0 0)]) rfl rfl rfl T.sz24 rfl rfl rfl) (fun _ _ => ?_)
   refine GL.sg rfl (by decide) ?_
   refine GL.nil (GE.thenN (GC.ret (GE.thenR ?_)))
   refine GC.ret2 rfl (Rv.cellA rfl T.ag24 T.sz24 (L := _) (i := 1) rfl (vs := [(.int .i64 0), (.slice none 0 0)]) rfl rfl) (Rv.tmp rfl) (fun wN HN => ?_)
   exact HN.ret Ac.no ⟨Or.inl rfl, fun q h => (by cases h), by rw [newD_bad hE0]; rfl⟩ (by first | (rw [hE1]; rfl) | (rw [hE1, hE2]; rfl)) (List.nil_sublist _) rfl
  ·replace hq14 := of_decide_eq_false hq14
   have hE2 : spc sp k = 0 := by have := hq14; unfold spc at this ⊢; split <;> simp_all
   have hE1 : newE sp ((k : Nat) : Int) W H = 0 := by rw [newE_mid hk hok]; exact hE2
   refine GC.skip (GE.thenN (GC.seq (GC.region ?_)))
   refine GL.val (v := (.agg #[(.int .i64 sp), (.slice a.ad a.n a.cp)])) (Ex.loadA rfl T.ag24 T.sz24 (i := 0) rfl (vs := [(.int .i64 sp), (.slice a.ad a.n a.cp)]) rfl rfl) (by decide) ?_
   refine GL.step (Stp.st1 (cs' := [(.int .i64 sp), (.slice a.ad a.n a.cp)]) rfl rfl rfl T.sz24 rfl rfl rfl) (fun _ _ => ?_)
   refine GL.sg rfl (by decide) ?_
   refine GL.nil (GE.thenN (GC.ret ?_))
   refine GC.ret2 rfl (Rv.cellA rfl T.ag24 T.sz24 (L := _) (i := 1) rfl (vs := [(.int .i64 sp), (.slice a.ad a.n a.cp)]) rfl rfl) (Rv.tmp rfl) (fun wN HN => ?_)
   exact HN.ret a ⟨hp.2.2.1, hp.2.2.2, by rw [newD_ok hE1, hp.2.1, show a.n = k by omega]⟩ (by rw [hE1]; rfl) (ulS (ulS ulR)) (Ac.blks_own _ _ _)

theorem newp_k (sp k w_ h s : Int) (w : World) (hk : k < 1 ∨ 4 < k) :
  Calls Tryz.prog 34 #[(.int .i64 sp), (.int .i64 k), (.int .i64 w_), (.int .i64 h), (.int .u32 s)] w (Ret w (fun _ : Unit => True) (fun _ => .tuple #[(.agg #[(.int .i64 0), (.slice none 0 0)]), .int .i64 80]) (fun _ => [])) := by
 refine enter (M := None) (L := []) (n := 54) (l := [(0, (.int .i64 sp)), (1, (.int .i64 k)), (2, (.int .i64 w_)), (3, (.int .i64 h)), (4, (.int .u32 s))]) Tryz.func34 rfl rfl (Args.cons rfl (Args.cons rfl (Args.cons rfl (Args.cons rfl (Args.cons rfl (Args.nil _)))))) (Hp.start _ _) ?_
 refine GC.seq (GC.region ?_)
 refine GL.step (Stp.alloc T.zr24 (by decide)) (fun bq1 _ => ?_)
 refine GL.sg rfl (by decide) ?_
 refine GL.nil (GE.thenN (GC.seq (GC.seq (GC.region ?_))))
 refine GL.mv rfl (by decide) ?_
 by_cases hq2 : k < 1
 ·refine GL.val (v := (.bool true)) (Ex.cast (Ex.lss rfl rfl) (congrArg Value.bool (decide_eq_true hq2))) (by decide) ?_
  refine GL.mv rfl (by decide) ?_
  refine GL.skipG (tj := 18) rfl rfl rfl (by decide) ?_
  refine GL.skipG (tj := 18) rfl rfl rfl (by decide) ?_
  refine GL.val (v := (.bool true)) (Ex.pickT rfl rfl) (by decide) ?_
  refine GL.nil (GE.thenN ?_)
  refine GC.cond rfl (fun _ => ?_) (fun hq3 => by cases hq3)
  refine GC.seq (GC.region ?_)
  refine GL.val (v := (.agg #[(.int .i64 0), (.slice none 0 0)])) (Ex.build (vs := []) rfl (by first | rfl | kernel_rfl)) (by decide) ?_
  refine GL.step (Stp.st0 (cs' := [(.int .i64 0), (.slice none 0 0)]) rfl rfl rfl T.sz24 rfl rfl rfl) (fun _ _ => ?_)
  refine GL.sg rfl (by decide) ?_
  refine GL.nil (GE.thenN (GC.ret (GE.thenR ?_)))
  refine GC.ret2 rfl (Rv.cellA rfl T.ag24 T.sz24 (L := _) (i := 0) rfl (vs := [(.int .i64 0), (.slice none 0 0)]) rfl rfl) (Rv.tmp rfl) (fun wN HN => ?_)
  exact HN.ret () trivial rfl (List.nil_sublist _) rfl
 ·refine GL.val (v := (.bool false)) (Ex.cast (Ex.lss rfl rfl) (congrArg Value.bool (decide_eq_false hq2))) (by decide) ?_
  refine GL.mv rfl (by decide) ?_
  refine GL.stepG (tj := 18) rfl rfl (Ex.wp (v := (.int .i64 k)) (Ex.move rfl) (by decide)) (fun _ _ => ?_)
  refine GL.stepG (tj := 18) rfl rfl (Ex.wp (v := (.bool (decide (4 < k)))) (Ex.gtr rfl rfl) (by decide)) (fun _ _ => ?_)
  refine GL.val (v := (.bool (decide (4 < k)))) (Ex.pickF rfl rfl) (by decide) ?_
  refine GL.nil (GE.thenN ?_)
  refine GC.cond rfl (fun hq4 => ?_) (fun hq4 => ?_)
  ·replace hq4 := of_decide_eq_true hq4
   refine GC.seq (GC.region ?_)
   refine GL.val (v := (.agg #[(.int .i64 0), (.slice none 0 0)])) (Ex.build (vs := []) rfl (by first | rfl | kernel_rfl)) (by decide) ?_
   refine GL.step (Stp.st0 (cs' := [(.int .i64 0), (.slice none 0 0)]) rfl rfl rfl T.sz24 rfl rfl rfl) (fun _ _ => ?_)
   refine GL.sg rfl (by decide) ?_
   refine GL.nil (GE.thenN (GC.ret (GE.thenR ?_)))
   refine GC.ret2 rfl (Rv.cellA rfl T.ag24 T.sz24 (L := _) (i := 0) rfl (vs := [(.int .i64 0), (.slice none 0 0)]) rfl rfl) (Rv.tmp rfl) (fun wN HN => ?_)
   exact HN.ret () trivial rfl (List.nil_sublist _) rfl
  ·replace hq4 := of_decide_eq_false hq4
   exfalso; omega

theorem newp_s (sp k w_ h s : Int) (w : World) (hk : 1 ≤ k ∧ k ≤ 4) (hs : sizeB w_ h = false) :
  Calls Tryz.prog 34 #[(.int .i64 sp), (.int .i64 k), (.int .i64 w_), (.int .i64 h), (.int .u32 s)] w (Ret w (fun _ : Unit => True) (fun _ => .tuple #[(.agg #[(.int .i64 0), (.slice none 0 0)]), .int .i64 50]) (fun _ => [])) := by
 refine enter (M := None) (L := []) (n := 54) (l := [(0, (.int .i64 sp)), (1, (.int .i64 k)), (2, (.int .i64 w_)), (3, (.int .i64 h)), (4, (.int .u32 s))]) Tryz.func34 rfl rfl (Args.cons rfl (Args.cons rfl (Args.cons rfl (Args.cons rfl (Args.cons rfl (Args.nil _)))))) (Hp.start _ _) ?_
 refine GC.seq (GC.region ?_)
 refine GL.step (Stp.alloc T.zr24 (by decide)) (fun bq1 _ => ?_)
 refine GL.sg rfl (by decide) ?_
 refine GL.nil (GE.thenN (GC.seq (GC.seq (GC.region ?_))))
 refine GL.mv rfl (by decide) ?_
 refine GL.val (v := (.bool false)) (Ex.cast (Ex.lss rfl rfl) (congrArg Value.bool (decide_eq_false (by omega)))) (by decide) ?_
 refine GL.mv rfl (by decide) ?_
 refine GL.stepG (tj := 18) rfl rfl (Ex.wp (v := (.int .i64 k)) (Ex.move rfl) (by decide)) (fun _ _ => ?_)
 refine GL.stepG (tj := 18) rfl rfl (Ex.wp (v := (.bool false)) (Ex.cast (Ex.gtr rfl rfl) (congrArg Value.bool (decide_eq_false (by omega)))) (by decide)) (fun _ _ => ?_)
 refine GL.val (v := (.bool false)) (Ex.pickF rfl rfl) (by decide) ?_
 refine GL.nil (GE.thenN ?_)
 refine GC.cond rfl (fun hq2 => by cases hq2) (fun _ => ?_)
 refine GC.skip (GE.thenN (GC.seq (GC.region ?_)))
 refine GL.mv rfl (by decide) ?_
 refine GL.val (v := (.agg #[(.int .i64 sp), (.slice none 0 0)])) (Ex.build (vs := [(0, (.int .i64 sp))]) rfl (by first | rfl | kernel_rfl)) (by decide) ?_
 refine GL.step (Stp.alloc T.zr24 (by decide)) (fun bq3 _ => ?_)
 refine GL.step (Stp.st0 (cs' := [(.int .i64 sp), (.slice none 0 0)]) rfl rfl rfl T.sz24 rfl rfl rfl) (fun _ _ => ?_)
 refine GL.nil (GE.thenN (GC.seq (GC.seq (GC.region ?_))))
 refine GL.mv rfl (by decide) ?_
 refine GL.mv rfl (by decide) ?_
 refine GL.nil (GE.thenN (GC.block ?_))
 refine GC.unroll 1 ?_
 refine GE.round (GC.seq (GC.region ?_))
 refine GL.val (v := (.bool true)) (Ex.cast (Ex.lss rfl rfl) (congrArg Value.bool (decide_eq_true (by omega)))) (by decide) ?_
 refine GL.nil (GE.thenN (GC.seq ?_))
 refine GC.cond rfl (fun _ => ?_) (fun hq4 => by cases hq4)
 refine GC.skip (GE.thenN (GC.seq (GC.block (GC.seq (GC.region ?_)))))
 refine GL.mv rfl (by decide) ?_
 refine GL.mv rfl (by decide) ?_
 refine GL.mv rfl (by decide) ?_
 refine GL.step (Stp.callR (vs := [(.int .i64 w_), (.int .i64 h), (.int .u32 s)]) rfl rfl T.own74 (by decide) (fun wc hw => new_inv w_ h s wc hs)) (fun xq5 hq6 => ?_)
 refine GL.mv rfl (by decide) ?_
 refine GL.val (Ex.extract rfl rfl) (by decide) ?_
 refine GL.val (Ex.extract rfl rfl) (by decide) ?_
 refine GL.step (Stp.alloc T.zr75 (by decide)) (fun bq7 _ => ?_)
 refine GL.step (Stp.st0 (cs' := [(.int .i64 0), (.int .i64 0), (.slice none 0 0)]) rfl rfl rfl T.sz75 rfl rfl rfl) (fun _ _ => ?_)
 refine GL.sg rfl (by decide) ?_
 refine GL.nil (GE.thenN (GC.seq (GC.seq (GC.region ?_))))
 refine GL.mv rfl (by decide) ?_
 refine GL.val (v := (.bool true)) (Ex.cast (Ex.neq rfl rfl) rfl) (by decide) ?_
 refine GL.nil (GE.thenN ?_)
 refine GC.cond rfl (fun _ => ?_) (fun hq8 => by cases hq8)
 refine GC.seq (GC.region ?_)
 refine GL.val (v := (.agg #[(.int .i64 0), (.slice none 0 0)])) (Ex.build (vs := []) rfl (by first | rfl | kernel_rfl)) (by decide) ?_
 refine GL.mv rfl (by decide) ?_
 refine GL.step (Stp.st2 (cs' := [(.int .i64 0), (.slice none 0 0)]) rfl rfl rfl T.sz24 rfl rfl rfl) (fun _ _ => ?_)
 refine GL.sg rfl (by decide) ?_
 refine GL.nil (GE.thenN (GC.ret (GE.thenR (GE.blockR (GE.thenR (GE.thenR (GE.blockR (GE.thenR ?_))))))))
 refine GC.ret2 rfl (Rv.cellA rfl T.ag24 T.sz24 (L := _) (i := 2) rfl (vs := [(.int .i64 0), (.slice none 0 0)]) rfl rfl) (Rv.tmp rfl) (fun wN HN => ?_)
 exact HN.ret () trivial rfl (List.nil_sublist _) rfl

theorem newp_u (sp k w_ h s : Int) (w : World) : Calls Tryz.prog 34 #[.int .i64 sp, .int .i64 k, .int .i64 w_, .int .i64 h, .int .u32 s] w (Ret w (fun r : Ac => r.Ok ∧ (∀ q ∈ r.qs, q.Ok) ∧ r.ds = newD sp k w_ h s) (fun r => .tuple #[(.agg #[(.int .i64 ((picS (newE sp k w_ h) sp))), (.slice r.ad r.n r.cp)]), .int .i64 (newE sp k w_ h)]) (fun r => r.blks 75 52)) := by
 by_cases hk : 1 ≤ k ∧ k ≤ 4
 ·by_cases hs : sizeB w_ h = true
  ·have h1 := hs
   simp [sizeB] at h1
   obtain ⟨W, rfl⟩ := Int.eq_ofNat_of_zero_le (show 0 ≤ w_ by omega)
   obtain ⟨H, rfl⟩ := Int.eq_ofNat_of_zero_le (show 0 ≤ h by omega)
   obtain ⟨K, rfl⟩ := Int.eq_ofNat_of_zero_le (show 0 ≤ k by omega)
   exact newp sp s K W H w (by omega) (okP_of hs)
  ·have hs' : sizeB w_ h = false := by cases e : sizeB w_ h with | true => exact absurd e hs | false => rfl
   have hE : newE sp k w_ h = 50 := by unfold newE; rw [if_neg (by omega), if_pos hs']
   refine (newp_s sp k w_ h s w hk hs').mono fun e w' hr => Ret.to (fun _ => Ac.no) hr (fun _ _ => ⟨Or.inl rfl, fun q hq => (by cases hq), by rw [newD_bad (by rw [hE]; decide)]; rfl⟩) (fun _ _ => by rw [hE]; rfl) (fun _ _ => rfl)
 ·have hE : newE sp k w_ h = 80 := by unfold newE; rw [if_pos (by omega)]
  refine (newp_k sp k w_ h s w (by omega)).mono fun e w' hr => Ret.to (fun _ => Ac.no) hr (fun _ _ => ⟨Or.inl rfl, fun q hq => (by cases hq), by rw [newD_bad (by rw [hE]; decide)]; rfl⟩) (fun _ _ => by rw [hE]; rfl) (fun _ _ => rfl)

theorem has (sp k : Int) (ad : Option Addr) (n cap : Nat) (w : World) :
  Calls Tryz.prog 56 #[(.agg #[(.int .i64 sp), (.slice ad n cap)]), (.int .i64 k)] w (Ret w (fun _ : Unit => True) (fun _ => (.bool (decide (0 ≤ k ∧ k < ((n : Nat) : Int))))) (fun _ => [])) := by
 refine enter (M := None) (L := []) (n := 14) (l := [(0, (.agg #[(.int .i64 sp), (.slice ad n cap)])), (1, (.int .i64 k))]) Tryz.func56 rfl rfl (Args.cons rfl (Args.cons rfl (Args.nil _))) (Hp.start _ _) ?_
 refine GC.seq (GC.region ?_)
 refine GL.step (Stp.box (cs := [(.int .i64 sp), (.slice ad n cap)]) rfl rfl (by decide)) (fun bq1 _ => ?_)
 refine GL.sg rfl (by decide) ?_
 refine GL.nil (GE.thenN (GC.seq (GC.region ?_)))
 refine GL.mv rfl (by decide) ?_
 by_cases hq2 : 0 ≤ k
 ·refine GL.val (v := (.bool true)) (Ex.cast (Ex.geq rfl rfl) (congrArg Value.bool (decide_eq_true hq2))) (by decide) ?_
  refine GL.mv rfl (by decide) ?_
  refine GL.stepG (tj := 7) rfl rfl (Ex.wp (v := (.int .i64 k)) (Ex.move rfl) (by decide)) (fun _ _ => ?_)
  refine GL.stepG (tj := 7) rfl rfl (Ex.wp (v := (.pointer (some ⟨bq1, 1, none⟩))) (Ex.cast (Ex.fieldAddr rfl Tryz.underlying24 rfl T.sz22 (by decide)) rfl) (by decide)) (fun _ _ => ?_)
  refine GL.stepG (tj := 7) rfl rfl (Ex.wp (v := (.slice ad n cap)) (Ex.load rfl T.ag22 (i := 0) rfl rfl) (by decide)) (fun _ _ => ?_)
  refine GL.stepG (tj := 7) rfl rfl (Ex.wp (v := (.int .i64 ((n : Int)))) (Ex.len rfl Tryz.underlying22) (by decide)) (fun _ _ => ?_)
  refine GL.stepG (tj := 7) rfl rfl (Ex.wp (v := (.bool (decide (k < ((n : Int)))))) (Ex.lss rfl rfl) (by decide)) (fun _ _ => ?_)
  refine GL.val (v := (.bool (decide (k < ((n : Int)))))) (Ex.pickT rfl rfl) (by decide) ?_
  refine GL.sg rfl (by decide) ?_
  refine GL.nil (GE.thenN (GC.ret ?_))
  refine GC.ret1 rfl (Rv.tmp rfl) (fun wN HN => ?_)
  exact HN.ret () trivial (congrArg Value.bool (decide_eq_decide.2 (by omega))) (List.nil_sublist _) rfl
 ·refine GL.val (v := (.bool false)) (Ex.cast (Ex.geq rfl rfl) (congrArg Value.bool (decide_eq_false hq2))) (by decide) ?_
  refine GL.mv rfl (by decide) ?_
  refine GL.skipG (tj := 7) rfl rfl rfl (by decide) ?_
  refine GL.skipG (tj := 7) rfl rfl rfl (by decide) ?_
  refine GL.skipG (tj := 7) rfl rfl rfl (by decide) ?_
  refine GL.skipG (tj := 7) rfl rfl rfl (by decide) ?_
  refine GL.skipG (tj := 7) rfl rfl rfl (by decide) ?_
  refine GL.val (v := (.bool false)) (Ex.pickF rfl rfl) (by decide) ?_
  refine GL.sg rfl (by decide) ?_
  refine GL.nil (GE.thenN (GC.ret ?_))
  refine GC.ret1 rfl (Rv.tmp rfl) (fun wN HN => ?_)
  exact HN.ret () trivial (congrArg Value.bool ((decide_eq_false (by omega)).symm)) (List.nil_sublist _) rfl

theorem words_b (b1 o1 b2 o2 n c1 c2 : Nat) (xs : List Int) (w : World) (hx : xs.length = n) (hb : n ≤ 35184372087808) (hr1 : Rd w b1 o1 (xs.map u32)) (hr2 : Rd w b2 o2 (xs.map u32)) :
  Calls Tryz.prog 22 #[(.slice (some ⟨b1, o1, none⟩) n c1), (.slice (some ⟨b2, o2, none⟩) n c2)] w (Ret w (fun _ : Unit => True) (fun _ => .bool true) (fun _ => [])) := by
 refine enter (M := None) (L := []) (n := 26) (l := [(0, (.slice (some ⟨b1, o1, none⟩) n c1)), (1, (.slice (some ⟨b2, o2, none⟩) n c2))]) Tryz.func22 rfl rfl (Args.cons rfl (Args.cons rfl (Args.nil _))) (Hp.start _ _) ?_
 refine GC.seq (GC.region ?_)
 refine GL.sg rfl (by decide) ?_
 refine GL.nil (GE.thenN (GC.seq (GC.seq (GC.region ?_))))
 refine GL.mv rfl (by decide) ?_
 refine GL.val (v := (.int .i64 ((n : Int)))) (Ex.len rfl Tryz.underlying53) (by decide) ?_
 refine GL.mv rfl (by decide) ?_
 refine GL.val (v := (.int .i64 ((n : Int)))) (Ex.len rfl Tryz.underlying53) (by decide) ?_
 refine GL.val (v := (.bool false)) (Ex.cast (Ex.neq rfl rfl) (congrArg Value.bool (decide_eq_false (by simp)))) (by decide) ?_
 refine GL.nil (GE.thenN ?_)
 refine GC.cond rfl (fun hq1 => by cases hq1) (fun _ => ?_)
 refine GC.skip (GE.thenN (GC.seq (GC.seq (GC.region ?_))))
 refine GL.sg rfl (by decide) ?_
 refine GL.nil (GE.thenN (GC.block ?_))
 refine GC.loop (σ := Nat) (fun i => i ≤ n) (fun i => [(0, (.slice (some ⟨b1, o1, none⟩) n c1)), (1, (.slice (some ⟨b2, o2, none⟩) n c2)), (4, (.bool false)), (5, (.int .i64 (((i : Nat) : Int))))]) (fun i => []) (fun i => n - i) (0) (Nat.zero_le _) ((sub_cons rfl ((sub_cons rfl ((sub_cons rfl ((sub_cons rfl ((sub_nil _)))))))))) ulN (fun i hp => ?_)
 refine GC.seq (GC.seq (GC.region ?_))
 refine GL.mv rfl (by decide) ?_
 refine GL.mv rfl (by decide) ?_
 refine GL.val (v := (.int .i64 ((n : Int)))) (Ex.len rfl Tryz.underlying53) (by decide) ?_
 refine GL.val (v := (.bool (decide ((((i : Nat) : Int)) < ((n : Int)))))) (Ex.lss rfl rfl) (by decide) ?_
 refine GL.nil (GE.thenN ?_)
 refine GC.cond rfl (fun hq2 => ?_) (fun hq2 => ?_)
 ·replace hq2 := of_decide_eq_true hq2
  refine GC.skip (GE.thenN (GC.seq (GC.block (GC.seq ?_))))
  refine GC.draw [] T.mixed (fuel := 9) rfl rfl ?_
  refine GH.tk 0 (v := (.slice (some ⟨b1, o1, none⟩) n c1)) rfl (by kernel_rfl) (fun _ _ _ h => h) (Ex.move rfl) ulN (by decide) ?_
  refine GH.tk 1 (v := (.int .i64 (((i : Nat) : Int)))) rfl (by kernel_rfl) (fun _ _ _ h => h) (Ex.move rfl) ulN (by decide) ?_
  refine GH.tk 2 (v := (.pointer (some ⟨b1, o1 + i, none⟩))) rfl (by kernel_rfl) (fun _ _ _ h => h) (Ex.cast (Ex.indexAddr rfl rfl Tryz.underlying53 T.sz52 (by omega) (by omega)) (by simp)) ulN (by decide) ?_
  refine GH.tk 3 (v := (.int .u32 ((xs.getD i 0)))) rfl (by kernel_rfl) (fun _ _ _ h => h) (Ex.loadO rfl T.ag52 (Rd.at hr1 (by omega)) (fun x => x)) ulN (by decide) ?_
  refine GH.tk 4 (v := (.slice (some ⟨b2, o2, none⟩) n c2)) rfl (by kernel_rfl) (fun _ _ _ h => h) (Ex.move rfl) ulN (by decide) ?_
  refine GH.tk 5 (v := (.int .i64 (((i : Nat) : Int)))) rfl (by kernel_rfl) (fun _ _ _ h => h) (Ex.move rfl) ulN (by decide) ?_
  refine GH.tk 6 (v := (.pointer (some ⟨b2, o2 + i, none⟩))) rfl (by kernel_rfl) (fun _ _ _ h => h) (Ex.cast (Ex.indexAddr rfl rfl Tryz.underlying53 T.sz52 (by omega) (by omega)) (by simp)) ulN (by decide) ?_
  refine GH.tk 7 (v := (.int .u32 ((xs.getD i 0)))) rfl (by kernel_rfl) (fun _ _ _ h => h) (Ex.loadO rfl T.ag52 (Rd.at hr2 (by omega)) (fun x => x)) ulN (by decide) ?_
  refine GH.tk 8 (v := (.bool false)) rfl (by kernel_rfl) (fun _ _ _ h => h) (Ex.cast (Ex.neq rfl rfl) (congrArg Value.bool (decide_eq_false (by simp)))) ulN (by decide) ?_
  refine GH.done (by kernel_rfl) ?_
  refine GE.thenN ?_
  refine GC.cond rfl (fun hq3 => by cases hq3) (fun _ => ?_)
  refine GC.skip (GE.blockN (GE.thenN (GC.region ?_)))
  refine GL.mv rfl (by decide) ?_
  refine GL.val (v := (.int .i64 (((i + 1 : Nat) : Int)))) (Ex.add rfl rfl (Z := ((i + 1 : Nat) : Int)) (by rw [w64 (by omega)]; rfl)) (by decide) ?_
  refine GL.sg rfl (by decide) ?_
  refine GL.nil (GE.thenN ?_)
  exact Head.mk (i + 1) (by omega) (by omega) ((sub_cons rfl ((sub_cons rfl ((sub_cons rfl ((sub_cons rfl ((sub_nil _)))))))))) ulN
 ·replace hq2 := of_decide_eq_false hq2
  refine GC.exit (GE.thenE (GE.thenE (GE.blockE (GE.thenN (GC.seq (GC.region ?_))))))
  refine GL.sg rfl (by decide) ?_
  refine GL.nil (GE.thenN (GC.ret ?_))
  refine GC.ret1 rfl (Rv.tmp rfl) (fun wN HN => ?_)
  exact HN.ret () trivial rfl (List.nil_sublist _) rfl

theorem words_0 (ad1 ad2 : Option Addr) (c1 c2 : Nat) (w : World) :
  Calls Tryz.prog 22 #[(.slice ad1 0 c1), (.slice ad2 0 c2)] w (Ret w (fun _ : Unit => True) (fun _ => .bool true) (fun _ => [])) := by
 refine enter (M := None) (L := []) (n := 26) (l := [(0, (.slice ad1 0 c1)), (1, (.slice ad2 0 c2))]) Tryz.func22 rfl rfl (Args.cons rfl (Args.cons rfl (Args.nil _))) (Hp.start _ _) ?_
 refine GC.seq (GC.region ?_)
 refine GL.sg rfl (by decide) ?_
 refine GL.nil (GE.thenN (GC.seq (GC.seq (GC.region ?_))))
 refine GL.mv rfl (by decide) ?_
 refine GL.val (v := (.int .i64 0)) (Ex.len rfl Tryz.underlying53) (by decide) ?_
 refine GL.mv rfl (by decide) ?_
 refine GL.val (v := (.int .i64 0)) (Ex.len rfl Tryz.underlying53) (by decide) ?_
 refine GL.val (v := (.bool false)) (Ex.cast (Ex.neq rfl rfl) rfl) (by decide) ?_
 refine GL.nil (GE.thenN ?_)
 refine GC.cond rfl (fun hq1 => by cases hq1) (fun _ => ?_)
 refine GC.skip (GE.thenN (GC.seq (GC.seq (GC.region ?_))))
 refine GL.sg rfl (by decide) ?_
 refine GL.nil (GE.thenN (GC.block ?_))
 refine GC.unroll 1 ?_
 refine GE.round (GC.seq (GC.seq (GC.region ?_)))
 refine GL.mv rfl (by decide) ?_
 refine GL.mv rfl (by decide) ?_
 refine GL.val (v := (.int .i64 0)) (Ex.len rfl Tryz.underlying53) (by decide) ?_
 refine GL.val (v := (.bool false)) (Ex.cast (Ex.lss rfl rfl) rfl) (by decide) ?_
 refine GL.nil (GE.thenN ?_)
 refine GC.cond rfl (fun hq2 => by cases hq2) (fun _ => ?_)
 refine GC.exit (GE.thenE (GE.thenE (GE.blockE (GE.thenN (GC.seq (GC.region ?_))))))
 refine GL.sg rfl (by decide) ?_
 refine GL.nil (GE.thenN (GC.ret ?_))
 refine GC.ret1 rfl (Rv.tmp rfl) (fun wN HN => ?_)
 exact HN.ret () trivial rfl (List.nil_sublist _) rfl

theorem words (ad1 ad2 : Option Addr) (n c1 c2 : Nat) (xs : List Int) (w : World) (h1 : LsR w ad1 n xs) (h2 : LsR w ad2 n xs) (hb : n ≤ 35184372087808) : Calls Tryz.prog 22 #[.slice ad1 n c1, .slice ad2 n c2] w (Ret w (fun _ : Unit => True) (fun _ => .bool true) (fun _ => [])) := by
 by_cases h0 : n = 0
 ·subst h0; exact words_0 ad1 ad2 c1 c2 w
 ·obtain ⟨b1, o1, rfl, hr1⟩ := h1.2.resolve_left h0
  obtain ⟨b2, o2, rfl, hr2⟩ := h2.2.resolve_left h0
  exact words_b b1 o1 b2 o2 n c1 c2 xs w h1.1 hb hr1 hr2

theorem plane_eq (W H : Int) (ad1 ad2 : Option Addr) (n c1 c2 : Nat) (xs : List Int) (w : World) (h1 : LsR w ad1 n xs) (h2 : LsR w ad2 n xs) (hb : n ≤ 35184372087808) :
  Calls Tryz.prog 60 #[(.agg #[(.int .i64 W), (.int .i64 H), (.slice ad1 n c1)]), (.agg #[(.int .i64 W), (.int .i64 H), (.slice ad2 n c2)])] w (Ret w (fun _ : Unit => True) (fun _ => .bool true) (fun _ => [])) := by
 refine enter (M := None) (L := []) (n := 24) (l := [(0, (.agg #[(.int .i64 W), (.int .i64 H), (.slice ad1 n c1)])), (1, (.agg #[(.int .i64 W), (.int .i64 H), (.slice ad2 n c2)]))]) Tryz.func60 rfl rfl (Args.cons rfl (Args.cons rfl (Args.nil _))) (Hp.start _ _) ?_
 refine GC.seq (GC.region ?_)
 refine GL.step (Stp.box (cs := [(.int .i64 W), (.int .i64 H), (.slice ad1 n c1)]) rfl rfl (by decide)) (fun bq1 _ => ?_)
 refine GL.step (Stp.box (cs := [(.int .i64 W), (.int .i64 H), (.slice ad2 n c2)]) rfl rfl (by decide)) (fun bq2 _ => ?_)
 refine GL.sg rfl (by decide) ?_
 refine GL.nil (GE.thenN (GC.seq (GC.region ?_)))
 refine GL.val (v := (.pointer (some ⟨bq1, 0, none⟩))) (Ex.cast (Ex.fieldAddr rfl Tryz.underlying75 rfl T.sz3 (by decide)) rfl) (by decide) ?_
 refine GL.val (Ex.load rfl T.ag3 (i := 1) rfl rfl) (by decide) ?_
 refine GL.val (v := (.pointer (some ⟨bq2, 0, none⟩))) (Ex.cast (Ex.fieldAddr rfl Tryz.underlying75 rfl T.sz3 (by decide)) rfl) (by decide) ?_
 refine GL.val (Ex.load rfl T.ag3 (i := 0) rfl rfl) (by decide) ?_
 refine GL.val (v := (.bool true)) (Ex.cast (Ex.eql rfl rfl) (congrArg Value.bool (decide_eq_true (by simp)))) (by decide) ?_
 refine GL.mv rfl (by decide) ?_
 refine GL.stepG (tj := 10) rfl rfl (Ex.wp (v := (.pointer (some ⟨bq1, 1, none⟩))) (Ex.cast (Ex.fieldAddr rfl Tryz.underlying75 rfl T.sz3 (by decide)) rfl) (by decide)) (fun _ _ => ?_)
 refine GL.stepG (tj := 10) rfl rfl (Ex.wp (v := (.int .i64 H)) (Ex.load rfl T.ag3 (i := 1) rfl rfl) (by decide)) (fun _ _ => ?_)
 refine GL.stepG (tj := 10) rfl rfl (Ex.wp (v := (.pointer (some ⟨bq2, 1, none⟩))) (Ex.cast (Ex.fieldAddr rfl Tryz.underlying75 rfl T.sz3 (by decide)) rfl) (by decide)) (fun _ _ => ?_)
 refine GL.stepG (tj := 10) rfl rfl (Ex.wp (v := (.int .i64 H)) (Ex.load rfl T.ag3 (i := 0) rfl rfl) (by decide)) (fun _ _ => ?_)
 refine GL.stepG (tj := 10) rfl rfl (Ex.wp (v := (.bool true)) (Ex.cast (Ex.eql rfl rfl) (congrArg Value.bool (decide_eq_true (by simp)))) (by decide)) (fun _ _ => ?_)
 refine GL.val (v := (.bool true)) (Ex.pickT rfl rfl) (by decide) ?_
 refine GL.mv rfl (by decide) ?_
 refine GL.stepG (tj := 17) rfl rfl (Ex.wp (v := (.pointer (some ⟨bq1, 2, none⟩))) (Ex.cast (Ex.fieldAddr rfl Tryz.underlying75 rfl T.sz53 (by decide)) rfl) (by decide)) (fun _ _ => ?_)
 refine GL.stepG (tj := 17) rfl rfl (Ex.wp (v := (.slice ad1 n c1)) (Ex.load rfl T.ag53 (i := 1) rfl rfl) (by decide)) (fun _ _ => ?_)
 refine GL.stepG (tj := 17) rfl rfl (Ex.wp (v := (.pointer (some ⟨bq2, 2, none⟩))) (Ex.cast (Ex.fieldAddr rfl Tryz.underlying75 rfl T.sz53 (by decide)) rfl) (by decide)) (fun _ _ => ?_)
 refine GL.stepG (tj := 17) rfl rfl (Ex.wp (v := (.slice ad2 n c2)) (Ex.load rfl T.ag53 (i := 0) rfl rfl) (by decide)) (fun _ _ => ?_)
 refine GL.stepG (tj := 17) rfl rfl (Stp.callR (vs := [(.slice ad1 n c1), (.slice ad2 n c2)]) rfl rfl T.own22 (by decide) (fun wc hw => words ad1 ad2 n c1 c2 xs wc (h1.later hw.1) (h2.later hw.1) hb)) (fun xq3 hq4 => ?_)
 refine GL.val (v := (.bool true)) (Ex.pickT rfl rfl) (by decide) ?_
 refine GL.sg rfl (by decide) ?_
 refine GL.nil (GE.thenN (GC.ret ?_))
 refine GC.ret1 rfl (Rv.tmp rfl) (fun wN HN => ?_)
 exact HN.ret () trivial rfl (List.nil_sublist _) rfl

theorem plane_eq_p (p q : Pn) (w : World) (hd : p.d = q.d) (h1 : LsR w p.ad p.n p.xs) (h2 : LsR w q.ad q.n q.xs) (hb : p.n ≤ 35184372087808) : Calls Tryz.prog 60 #[(.agg #[(.int .i64 ((p).W)), (.int .i64 ((p).H)), (.slice (p).ad ((p).n) ((p).cap))]), (.agg #[(.int .i64 ((q).W)), (.int .i64 ((q).H)), (.slice (q).ad ((q).n) ((q).cap))])] w (Ret w (fun _ : Unit => True) (fun _ => .bool true) (fun _ => [])) := by
 obtain ⟨W, H, ad1, n1, c1, xs⟩ := p
 obtain ⟨W2, H2, ad2, n2, c2, ys⟩ := q
 unfold Pn.d at hd
 simp only [Prod.mk.injEq] at hd
 obtain ⟨rfl, rfl, rfl⟩ := hd
 have e : n1 = n2 := h1.1.symm.trans h2.1
 subst e
 exact plane_eq W H ad1 ad2 n1 c1 c2 xs w h1 h2 hb

theorem pic_eq_b (sp : Int) (b1 o1 b2 o2 n c1 c2 : Nat) (ps qs : List Pn) (w : World) (hn : n = ps.length) (hn2 : n = qs.length) (hnb : n ≤ 35184372087808) (hd : ps.map Pn.d = qs.map Pn.d) (hr1 : Rd w b1 o1 (pcs ps)) (hr2 : Rd w b2 o2 (pcs qs)) (h1 : ∀ p ∈ ps, LsR w p.ad p.n p.xs ∧ p.n ≤ 35184372087808) (h2 : ∀ p ∈ qs, LsR w p.ad p.n p.xs ∧ p.n ≤ 35184372087808) :
  Calls Tryz.prog 21 #[(.agg #[(.int .i64 sp), (.slice (some ⟨b1, o1, none⟩) n c1)]), (.agg #[(.int .i64 sp), (.slice (some ⟨b2, o2, none⟩) n c2)])] w (Ret w (fun _ : Unit => True) (fun _ => .bool true) (fun _ => [])) := by
 refine enter (M := None) (L := []) (n := 39) (l := [(0, (.agg #[(.int .i64 sp), (.slice (some ⟨b1, o1, none⟩) n c1)])), (1, (.agg #[(.int .i64 sp), (.slice (some ⟨b2, o2, none⟩) n c2)]))]) Tryz.func21 rfl rfl (Args.cons rfl (Args.cons rfl (Args.nil _))) (Hp.start _ _) ?_
 refine GC.seq (GC.region ?_)
 refine GL.step (Stp.box (cs := [(.int .i64 sp), (.slice (some ⟨b1, o1, none⟩) n c1)]) rfl rfl (by decide)) (fun bq1 _ => ?_)
 refine GL.step (Stp.box (cs := [(.int .i64 sp), (.slice (some ⟨b2, o2, none⟩) n c2)]) rfl rfl (by decide)) (fun bq2 _ => ?_)
 refine GL.sg rfl (by decide) ?_
 refine GL.nil (GE.thenN (GC.seq (GC.seq (GC.region ?_))))
 refine GL.val (v := (.pointer (some ⟨bq1, 0, none⟩))) (Ex.cast (Ex.fieldAddr rfl Tryz.underlying24 rfl T.sz3 (by decide)) rfl) (by decide) ?_
 refine GL.val (Ex.load rfl T.ag3 (i := 1) rfl rfl) (by decide) ?_
 refine GL.val (v := (.pointer (some ⟨bq2, 0, none⟩))) (Ex.cast (Ex.fieldAddr rfl Tryz.underlying24 rfl T.sz3 (by decide)) rfl) (by decide) ?_
 refine GL.val (Ex.load rfl T.ag3 (i := 0) rfl rfl) (by decide) ?_
 refine GL.val (v := (.bool false)) (Ex.cast (Ex.neq rfl rfl) (congrArg Value.bool (decide_eq_false (by simp)))) (by decide) ?_
 refine GL.mv rfl (by decide) ?_
 refine GL.stepG (tj := 11) rfl rfl (Ex.wp (v := (.pointer (some ⟨bq1, 1, none⟩))) (Ex.cast (Ex.fieldAddr rfl Tryz.underlying24 rfl T.sz22 (by decide)) rfl) (by decide)) (fun _ _ => ?_)
 refine GL.stepG (tj := 11) rfl rfl (Ex.wp (v := (.slice (some ⟨b1, o1, none⟩) n c1)) (Ex.load rfl T.ag22 (i := 1) rfl rfl) (by decide)) (fun _ _ => ?_)
 refine GL.stepG (tj := 11) rfl rfl (Ex.wp (v := (.int .i64 ((n : Int)))) (Ex.len rfl Tryz.underlying22) (by decide)) (fun _ _ => ?_)
 refine GL.stepG (tj := 11) rfl rfl (Ex.wp (v := (.pointer (some ⟨bq2, 1, none⟩))) (Ex.cast (Ex.fieldAddr rfl Tryz.underlying24 rfl T.sz22 (by decide)) rfl) (by decide)) (fun _ _ => ?_)
 refine GL.stepG (tj := 11) rfl rfl (Ex.wp (v := (.slice (some ⟨b2, o2, none⟩) n c2)) (Ex.load rfl T.ag22 (i := 0) rfl rfl) (by decide)) (fun _ _ => ?_)
 refine GL.stepG (tj := 11) rfl rfl (Ex.wp (v := (.int .i64 ((n : Int)))) (Ex.len rfl Tryz.underlying22) (by decide)) (fun _ _ => ?_)
 refine GL.stepG (tj := 11) rfl rfl (Ex.wp (v := (.bool false)) (Ex.cast (Ex.neq rfl rfl) (congrArg Value.bool (decide_eq_false (by simp)))) (by decide)) (fun _ _ => ?_)
 refine GL.val (v := (.bool false)) (Ex.pickF rfl rfl) (by decide) ?_
 refine GL.nil (GE.thenN ?_)
 refine GC.cond rfl (fun hq3 => by cases hq3) (fun _ => ?_)
 refine GC.skip (GE.thenN (GC.seq (GC.seq (GC.region ?_))))
 refine GL.sg rfl (by decide) ?_
 refine GL.nil (GE.thenN (GC.block ?_))
 refine GC.loop (σ := Nat) (fun i => i ≤ n) (fun i => [(2, (.pointer (some ⟨bq1, 0, none⟩))), (3, (.pointer (some ⟨bq2, 0, none⟩))), (4, (.bool false)), (5, (.int .i64 (((i : Nat) : Int))))]) (fun i => [⟨bq2, [(.int .i64 sp), (.slice (some ⟨b2, o2, none⟩) n c2)], 24, true⟩, ⟨bq1, [(.int .i64 sp), (.slice (some ⟨b1, o1, none⟩) n c1)], 24, true⟩]) (fun i => n - i) (0) (Nat.zero_le _) ((sub_cons rfl ((sub_cons rfl ((sub_cons rfl ((sub_cons rfl ((sub_nil _)))))))))) (ulC (ulC ulN)) (fun i hp => ?_)
 refine GC.seq (GC.seq (GC.region ?_))
 refine GL.mv rfl (by decide) ?_
 refine GL.val (v := (.pointer (some ⟨bq1, 1, none⟩))) (Ex.cast (Ex.fieldAddr rfl Tryz.underlying24 rfl T.sz22 (by decide)) rfl) (by decide) ?_
 refine GL.val (Ex.load rfl T.ag22 (i := 1) rfl rfl) (by decide) ?_
 refine GL.val (v := (.int .i64 ((n : Int)))) (Ex.len rfl Tryz.underlying22) (by decide) ?_
 refine GL.val (v := (.bool (decide ((((i : Nat) : Int)) < ((n : Int)))))) (Ex.lss rfl rfl) (by decide) ?_
 refine GL.nil (GE.thenN ?_)
 refine GC.cond rfl (fun hq4 => ?_) (fun hq4 => ?_)
 ·replace hq4 := of_decide_eq_true hq4
  refine GC.skip (GE.thenN (GC.seq (GC.block (GC.seq ?_))))
  refine GC.draw [⟨bq2, [(.int .i64 sp), (.slice (some ⟨b2, o2, none⟩) n c2)], 24, true⟩, ⟨bq1, [(.int .i64 sp), (.slice (some ⟨b1, o1, none⟩) n c1)], 24, true⟩] T.mixed (fuel := 12) rfl rfl ?_
  refine GH.tk 0 (v := (.pointer (some ⟨bq1, 1, none⟩))) rfl (by kernel_rfl) (fun _ _ _ h => h) (Ex.cast (Ex.fieldAddr rfl Tryz.underlying24 rfl T.sz22 (by decide)) rfl) (ulC (ulC ulN)) (by decide) ?_
  refine GH.tk 1 (v := (.slice (some ⟨b1, o1, none⟩) n c1)) rfl (by kernel_rfl) (fun _ _ _ h => h) (Ex.load rfl T.ag22 (i := 1) rfl rfl) (ulC (ulC ulN)) (by decide) ?_
  refine GH.tk 2 (v := (.int .i64 (((i : Nat) : Int)))) rfl (by kernel_rfl) (fun _ _ _ h => h) (Ex.move rfl) (ulC (ulC ulN)) (by decide) ?_
  refine GH.tk 3 (v := (.pointer (some ⟨b1, o1 + i * 3, none⟩))) rfl (by kernel_rfl) (fun _ _ _ h => h) (Ex.cast (Ex.indexAddr rfl rfl Tryz.underlying22 T.sz75 (by omega) (by omega)) (by simp)) (ulC (ulC ulN)) (by decide) ?_
  refine GH.tk 4 (v := (.agg #[(.int .i64 ((pAt ps i).W)), (.int .i64 ((pAt ps i).H)), (.slice (pAt ps i).ad ((pAt ps i).n) ((pAt ps i).cap))])) rfl (by kernel_rfl) (fun _ _ _ h => h) (Ex.loadAO rfl T.ag75 T.sz75 (Rd.pl (i := i) hr1 (by omega)) (fun x => x) rfl) (ulC (ulC ulN)) (by decide) ?_
  refine GH.tk 5 (v := (.pointer (some ⟨bq2, 1, none⟩))) rfl (by kernel_rfl) (fun _ _ _ h => h) (Ex.cast (Ex.fieldAddr rfl Tryz.underlying24 rfl T.sz22 (by decide)) rfl) (ulC (ulC ulN)) (by decide) ?_
  refine GH.tk 6 (v := (.slice (some ⟨b2, o2, none⟩) n c2)) rfl (by kernel_rfl) (fun _ _ _ h => h) (Ex.load rfl T.ag22 (i := 0) rfl rfl) (ulC (ulC ulN)) (by decide) ?_
  refine GH.tk 7 (v := (.int .i64 (((i : Nat) : Int)))) rfl (by kernel_rfl) (fun _ _ _ h => h) (Ex.move rfl) (ulC (ulC ulN)) (by decide) ?_
  refine GH.tk 8 (v := (.pointer (some ⟨b2, o2 + i * 3, none⟩))) rfl (by kernel_rfl) (fun _ _ _ h => h) (Ex.cast (Ex.indexAddr rfl rfl Tryz.underlying22 T.sz75 (by omega) (by omega)) (by simp)) (ulC (ulC ulN)) (by decide) ?_
  refine GH.tk 9 (v := (.agg #[(.int .i64 ((pAt qs i).W)), (.int .i64 ((pAt qs i).H)), (.slice (pAt qs i).ad ((pAt qs i).n) ((pAt qs i).cap))])) rfl (by kernel_rfl) (fun _ _ _ h => h) (Ex.loadAO rfl T.ag75 T.sz75 (Rd.pl (i := i) hr2 (by omega)) (fun x => x) rfl) (ulC (ulC ulN)) (by decide) ?_
  refine GH.one 10 rfl (by kernel_rfl) (Stp.callR (vs := [(.agg #[(.int .i64 ((pAt ps i).W)), (.int .i64 ((pAt ps i).H)), (.slice (pAt ps i).ad ((pAt ps i).n) ((pAt ps i).cap))]), (.agg #[(.int .i64 ((pAt qs i).W)), (.int .i64 ((pAt qs i).H)), (.slice (pAt qs i).ad ((pAt qs i).n) ((pAt qs i).cap))])]) rfl rfl T.own60 (by decide) (fun wc hw => plane_eq_p (pAt ps i) (pAt qs i) wc (pAt_d hd (by omega)) ((h1 _ (pAt_mem (by omega))).1.later hw.1) ((h2 _ (pAt_mem (by omega))).1.later hw.1) (h1 _ (pAt_mem (by omega))).2)) (fun _ => (ulC (ulC ulN))) (fun xq5 hq6 => ?_)
  refine GH.tk 11 (v := (.bool false)) rfl (by kernel_rfl) (fun _ _ _ h => h) (Ex.cast (Ex.not rfl) rfl) (ulC (ulC ulN)) (by decide) ?_
  refine GH.done (by kernel_rfl) ?_
  refine GE.thenN ?_
  refine GC.cond rfl (fun hq7 => by cases hq7) (fun _ => ?_)
  refine GC.skip (GE.blockN (GE.thenN (GC.region ?_)))
  refine GL.mv rfl (by decide) ?_
  refine GL.val (v := (.int .i64 (((i + 1 : Nat) : Int)))) (Ex.add rfl rfl (Z := ((i + 1 : Nat) : Int)) (by rw [w64 (by omega)]; rfl)) (by decide) ?_
  refine GL.sg rfl (by decide) ?_
  refine GL.nil (GE.thenN ?_)
  exact Head.mk (i + 1) (by omega) (by omega) ((sub_cons rfl ((sub_cons rfl ((sub_cons rfl ((sub_cons rfl ((sub_nil _)))))))))) (ulC (ulC ulN))
 ·replace hq4 := of_decide_eq_false hq4
  refine GC.exit (GE.thenE (GE.thenE (GE.blockE (GE.thenN (GC.seq (GC.region ?_))))))
  refine GL.sg rfl (by decide) ?_
  refine GL.nil (GE.thenN (GC.ret ?_))
  refine GC.ret1 rfl (Rv.tmp rfl) (fun wN HN => ?_)
  exact HN.ret () trivial rfl (List.nil_sublist _) rfl

theorem pic_eq_0 (sp : Int) (ad1 ad2 : Option Addr) (c1 c2 : Nat) (w : World) :
  Calls Tryz.prog 21 #[(.agg #[(.int .i64 sp), (.slice ad1 0 c1)]), (.agg #[(.int .i64 sp), (.slice ad2 0 c2)])] w (Ret w (fun _ : Unit => True) (fun _ => .bool true) (fun _ => [])) := by
 refine enter (M := None) (L := []) (n := 39) (l := [(0, (.agg #[(.int .i64 sp), (.slice ad1 0 c1)])), (1, (.agg #[(.int .i64 sp), (.slice ad2 0 c2)]))]) Tryz.func21 rfl rfl (Args.cons rfl (Args.cons rfl (Args.nil _))) (Hp.start _ _) ?_
 refine GC.seq (GC.region ?_)
 refine GL.step (Stp.box (cs := [(.int .i64 sp), (.slice ad1 0 c1)]) rfl rfl (by decide)) (fun bq1 _ => ?_)
 refine GL.step (Stp.box (cs := [(.int .i64 sp), (.slice ad2 0 c2)]) rfl rfl (by decide)) (fun bq2 _ => ?_)
 refine GL.sg rfl (by decide) ?_
 refine GL.nil (GE.thenN (GC.seq (GC.seq (GC.region ?_))))
 refine GL.val (v := (.pointer (some ⟨bq1, 0, none⟩))) (Ex.cast (Ex.fieldAddr rfl Tryz.underlying24 rfl T.sz3 (by decide)) rfl) (by decide) ?_
 refine GL.val (Ex.load rfl T.ag3 (i := 1) rfl rfl) (by decide) ?_
 refine GL.val (v := (.pointer (some ⟨bq2, 0, none⟩))) (Ex.cast (Ex.fieldAddr rfl Tryz.underlying24 rfl T.sz3 (by decide)) rfl) (by decide) ?_
 refine GL.val (Ex.load rfl T.ag3 (i := 0) rfl rfl) (by decide) ?_
 refine GL.val (v := (.bool false)) (Ex.cast (Ex.neq rfl rfl) (congrArg Value.bool (decide_eq_false (by simp)))) (by decide) ?_
 refine GL.mv rfl (by decide) ?_
 refine GL.stepG (tj := 11) rfl rfl (Ex.wp (v := (.pointer (some ⟨bq1, 1, none⟩))) (Ex.cast (Ex.fieldAddr rfl Tryz.underlying24 rfl T.sz22 (by decide)) rfl) (by decide)) (fun _ _ => ?_)
 refine GL.stepG (tj := 11) rfl rfl (Ex.wp (v := (.slice ad1 0 c1)) (Ex.load rfl T.ag22 (i := 1) rfl rfl) (by decide)) (fun _ _ => ?_)
 refine GL.stepG (tj := 11) rfl rfl (Ex.wp (v := (.int .i64 0)) (Ex.len rfl Tryz.underlying22) (by decide)) (fun _ _ => ?_)
 refine GL.stepG (tj := 11) rfl rfl (Ex.wp (v := (.pointer (some ⟨bq2, 1, none⟩))) (Ex.cast (Ex.fieldAddr rfl Tryz.underlying24 rfl T.sz22 (by decide)) rfl) (by decide)) (fun _ _ => ?_)
 refine GL.stepG (tj := 11) rfl rfl (Ex.wp (v := (.slice ad2 0 c2)) (Ex.load rfl T.ag22 (i := 0) rfl rfl) (by decide)) (fun _ _ => ?_)
 refine GL.stepG (tj := 11) rfl rfl (Ex.wp (v := (.int .i64 0)) (Ex.len rfl Tryz.underlying22) (by decide)) (fun _ _ => ?_)
 refine GL.stepG (tj := 11) rfl rfl (Ex.wp (v := (.bool false)) (Ex.cast (Ex.neq rfl rfl) rfl) (by decide)) (fun _ _ => ?_)
 refine GL.val (v := (.bool false)) (Ex.pickF rfl rfl) (by decide) ?_
 refine GL.nil (GE.thenN ?_)
 refine GC.cond rfl (fun hq3 => by cases hq3) (fun _ => ?_)
 refine GC.skip (GE.thenN (GC.seq (GC.seq (GC.region ?_))))
 refine GL.sg rfl (by decide) ?_
 refine GL.nil (GE.thenN (GC.block ?_))
 refine GC.unroll 1 ?_
 refine GE.round (GC.seq (GC.seq (GC.region ?_)))
 refine GL.mv rfl (by decide) ?_
 refine GL.val (v := (.pointer (some ⟨bq1, 1, none⟩))) (Ex.cast (Ex.fieldAddr rfl Tryz.underlying24 rfl T.sz22 (by decide)) rfl) (by decide) ?_
 refine GL.val (Ex.load rfl T.ag22 (i := 1) rfl rfl) (by decide) ?_
 refine GL.val (v := (.int .i64 0)) (Ex.len rfl Tryz.underlying22) (by decide) ?_
 refine GL.val (v := (.bool false)) (Ex.cast (Ex.lss rfl rfl) rfl) (by decide) ?_
 refine GL.nil (GE.thenN ?_)
 refine GC.cond rfl (fun hq4 => by cases hq4) (fun _ => ?_)
 refine GC.exit (GE.thenE (GE.thenE (GE.blockE (GE.thenN (GC.seq (GC.region ?_))))))
 refine GL.sg rfl (by decide) ?_
 refine GL.nil (GE.thenN (GC.ret ?_))
 refine GC.ret1 rfl (Rv.tmp rfl) (fun wN HN => ?_)
 exact HN.ret () trivial rfl (List.nil_sublist _) rfl

theorem pic_eq (sp : Int) (ad1 ad2 : Option Addr) (n c1 c2 : Nat) (ps qs : List Pn) (w : World) (hn : n = ps.length) (hnb : n ≤ 35184372087808) (hd : ps.map Pn.d = qs.map Pn.d) (h1 : PnR w ad1 ps) (h2 : PnR w ad2 qs) : Calls Tryz.prog 21 #[(.agg #[(.int .i64 sp), (.slice ad1 n c1)]), (.agg #[(.int .i64 sp), (.slice ad2 n c2)])] w (Ret w (fun _ : Unit => True) (fun _ => .bool true) (fun _ => [])) := by
 have hl : ps.length = qs.length := by have := congrArg List.length hd; simpa using this
 by_cases h0 : n = 0
 ·subst h0; exact pic_eq_0 sp ad1 ad2 c1 c2 w
 ·obtain ⟨b1, o1, rfl, hr1⟩ := h1.1.resolve_left (fun e => h0 (by rw [hn, e]; rfl))
  obtain ⟨b2, o2, rfl, hr2⟩ := h2.1.resolve_left (fun e => h0 (by rw [hn, hl, e]; rfl))
  exact pic_eq_b sp b1 o1 b2 o2 n c1 c2 ps qs w hn (by omega) hnb hd hr1 hr2 h1.2 h2.2

theorem bkmark (m i : Int) (w : World) :
  Calls Tryz.prog 55 #[(.int .i64 m), (.int .i64 i)] w (Ret w (fun _ : Unit => True) (fun _ => .int .i64 (mkI m i)) (fun _ => [])) := by
 refine enter (M := None) (L := []) (n := 13) (l := [(0, (.int .i64 m)), (1, (.int .i64 i))]) Tryz.func55 rfl rfl (Args.cons rfl (Args.cons rfl (Args.nil _))) (Hp.start _ _) ?_
 refine GC.seq (GC.region ?_)
 refine GL.sg rfl (by decide) ?_
 refine GL.nil (GE.thenN (GC.seq (GC.region ?_)))
 refine GL.mv rfl (by decide) ?_
 refine GL.val (v := (.int .i64 (IntKind.i64.wrap (m * 31)))) (Ex.mul rfl rfl (Z := IntKind.i64.wrap (m * 31)) rfl) (by decide) ?_
 refine GL.mv rfl (by decide) ?_
 refine GL.val (v := (.int .i64 (IntKind.i64.wrap (i * 7)))) (Ex.mul rfl rfl (Z := IntKind.i64.wrap (i * 7)) rfl) (by decide) ?_
 refine GL.val (v := (.int .i64 (IntKind.i64.wrap ((IntKind.i64.wrap (m * 31)) + (IntKind.i64.wrap (i * 7)))))) (Ex.add rfl rfl (Z := IntKind.i64.wrap ((IntKind.i64.wrap (m * 31)) + (IntKind.i64.wrap (i * 7)))) rfl) (by decide) ?_
 refine GL.val (v := (.int .i64 (IntKind.i64.wrap ((IntKind.i64.wrap ((IntKind.i64.wrap (m * 31)) + (IntKind.i64.wrap (i * 7)))) + 1)))) (Ex.add rfl rfl (Z := IntKind.i64.wrap ((IntKind.i64.wrap ((IntKind.i64.wrap (m * 31)) + (IntKind.i64.wrap (i * 7)))) + 1)) rfl) (by decide) ?_
 refine GL.val (v := (.int .i64 ((IntKind.i64.wrap ((IntKind.i64.wrap ((IntKind.i64.wrap (m * 31)) + (IntKind.i64.wrap (i * 7)))) + 1)).tmod 250))) (Ex.rem rfl rfl (Z := (IntKind.i64.wrap ((IntKind.i64.wrap ((IntKind.i64.wrap (m * 31)) + (IntKind.i64.wrap (i * 7)))) + 1)).tmod 250) (by decide) rfl) (by decide) ?_
 refine GL.val (v := (.int .i64 (IntKind.i64.wrap (((IntKind.i64.wrap ((IntKind.i64.wrap ((IntKind.i64.wrap (m * 31)) + (IntKind.i64.wrap (i * 7)))) + 1)).tmod 250) + 1)))) (Ex.add rfl rfl (Z := IntKind.i64.wrap (((IntKind.i64.wrap ((IntKind.i64.wrap ((IntKind.i64.wrap (m * 31)) + (IntKind.i64.wrap (i * 7)))) + 1)).tmod 250) + 1)) rfl) (by decide) ?_
 refine GL.sg rfl (by decide) ?_
 refine GL.nil (GE.thenN (GC.ret ?_))
 refine GC.ret1 rfl (Rv.tmp rfl) (fun wN HN => ?_)
 exact HN.ret () trivial rfl (List.nil_sublist _) rfl

end Go.Proofs.YtiikkhbmhojbaaaGreat.C
