/- BlurNothing: what its code does, walked. -/
import Derived.Test.YtjbpdhofhhinhaaKNothing1
namespace Go.Proofs.Ytjbpdhofhhinhaa.C
open Go Go.RowKit Sx
set_option linter.unusedVariables false
set_option maxRecDepth 100000 in
set_option maxHeartbeats 1000000 in
theorem right_p (W H : Int) (ad : Option Addr) (n cap : Nat) (kd r k : Int) (w : World) :
    Calls Try.prog 27 #[(.agg #[(.int .i64 W), (.int .i64 H), (.slice ad n cap)]), (.int .i64 kd), (.int .i64 r), (.int .i64 k)] w (Ret w (fun _ : Unit => True) (fun _ => .bool (Bc.rightB W H n kd r k)) (fun _ => [])) := by
  refine enter (M := None) (L := []) (n := 36) (l := [(0, (.agg #[(.int .i64 W), (.int .i64 H), (.slice ad n cap)])), (1, (.int .i64 kd)), (2, (.int .i64 r)), (3, (.int .i64 k))]) Try.func27 rfl rfl (Args.cons rfl (Args.cons rfl (Args.cons rfl (Args.cons rfl (Args.nil _))))) (Hp.start _ _) ?_
  refine GC.seq ?_
  refine GC.region ?_
  refine GL.step (Stp.box (cs := [(.int .i64 W), (.int .i64 H), (.slice ad n cap)]) rfl rfl (by decide)) (fun bq1 _ => ?_)
  refine GL.val (Ex.assign rfl) (by decide) ?_
  refine GL.nil ?_
  refine GE.thenN ?_
  refine GC.seq ?_
  refine GC.region ?_
  refine GL.val (v := (.agg #[(.int .i64 W), (.int .i64 H), (.slice ad n cap)])) (Ex.loadA rfl T.ag43 T.sz43 (i := 0) rfl (vs := [(.int .i64 W), (.int .i64 H), (.slice ad n cap)]) rfl rfl) (by decide) ?_
  refine GL.step (Stp.callR (vs := [(.agg #[(.int .i64 W), (.int .i64 H), (.slice ad n cap)])]) rfl rfl T.own28 (by decide) (fun wc hw => may W H ad n cap wc)) (fun xq2 hq3 => ?_)
  by_cases hq4 : ((chk W H n)) = 0
  · refine GL.val (v := (.bool true)) (Ex.cast (Ex.eql rfl rfl) (congrArg Value.bool (decide_eq_true hq4))) (by decide) ?_
    refine GL.val (Ex.move rfl) (by decide) ?_
    refine GL.stepG (tj := 12) rfl rfl (Ex.wp (v := (.int .i64 kd)) (Ex.move rfl) (by decide)) (fun _ _ => ?_)
    by_cases hq5 : kd = 1
    · refine GL.stepG (tj := 12) rfl rfl (Ex.wp (v := (.bool true)) (Ex.cast (Ex.eql rfl rfl) (congrArg Value.bool (decide_eq_true hq5))) (by decide)) (fun _ _ => ?_)
      refine GL.stepG (tj := 12) rfl rfl (Ex.wp (v := (.bool true)) (Ex.move rfl) (by decide)) (fun _ _ => ?_)
      refine GL.skipG (tj := 15) rfl rfl rfl (by decide) ?_
      refine GL.skipG (tj := 15) rfl rfl rfl (by decide) ?_
      refine GL.stepG (tj := 12) rfl rfl (Ex.wp (v := (.bool true)) (Ex.pickT rfl rfl) (by decide)) (fun _ _ => ?_)
      refine GL.val (v := (.bool true)) (Ex.pickT rfl rfl) (by decide) ?_
      refine GL.val (Ex.move rfl) (by decide) ?_
      refine GL.stepG (tj := 20) rfl rfl (Ex.wp (v := (.int .i64 r)) (Ex.move rfl) (by decide)) (fun _ _ => ?_)
      by_cases hq6 : 0 ≤ r
      · refine GL.stepG (tj := 20) rfl rfl (Ex.wp (v := (.bool true)) (Ex.cast (Ex.geq rfl rfl) (congrArg Value.bool (decide_eq_true hq6))) (by decide)) (fun _ _ => ?_)
        refine GL.val (v := (.bool true)) (Ex.pickT rfl rfl) (by decide) ?_
        refine GL.val (Ex.move rfl) (by decide) ?_
        refine GL.stepG (tj := 24) rfl rfl (Ex.wp (v := (.int .i64 r)) (Ex.move rfl) (by decide)) (fun _ _ => ?_)
        by_cases hq7 : r ≤ 7
        · refine GL.stepG (tj := 24) rfl rfl (Ex.wp (v := (.bool true)) (Ex.cast (Ex.leq rfl rfl) (congrArg Value.bool (decide_eq_true hq7))) (by decide)) (fun _ _ => ?_)
          refine GL.val (v := (.bool true)) (Ex.pickT rfl rfl) (by decide) ?_
          refine GL.val (Ex.move rfl) (by decide) ?_
          refine GL.stepG (tj := 28) rfl rfl (Ex.wp (v := (.int .i64 k)) (Ex.move rfl) (by decide)) (fun _ _ => ?_)
          by_cases hq8 : 1 ≤ k
          · refine GL.stepG (tj := 28) rfl rfl (Ex.wp (v := (.bool true)) (Ex.cast (Ex.geq rfl rfl) (congrArg Value.bool (decide_eq_true hq8))) (by decide)) (fun _ _ => ?_)
            refine GL.val (v := (.bool true)) (Ex.pickT rfl rfl) (by decide) ?_
            refine GL.val (Ex.move rfl) (by decide) ?_
            refine GL.stepG (tj := 32) rfl rfl (Ex.wp (v := (.int .i64 k)) (Ex.move rfl) (by decide)) (fun _ _ => ?_)
            refine GL.stepG (tj := 32) rfl rfl (Ex.wp (v := (.bool (decide (k ≤ 3)))) (Ex.leq rfl rfl) (by decide)) (fun _ _ => ?_)
            refine GL.val (v := (.bool (decide (k ≤ 3)))) (Ex.pickT rfl rfl) (by decide) ?_
            refine GL.val (Ex.assign rfl) (by decide) ?_
            refine GL.nil ?_
            refine GE.thenN ?_
            refine GC.ret ?_
            refine GC.ret1 rfl (Rv.tmp rfl) (fun wN HN => ?_)
            exact HN.ret () trivial (congrArg Value.bool (by exact decide_eq_decide.2 (by omega))) (List.nil_sublist _) rfl
          · refine GL.stepG (tj := 28) rfl rfl (Ex.wp (v := (.bool false)) (Ex.cast (Ex.geq rfl rfl) (congrArg Value.bool (decide_eq_false hq8))) (by decide)) (fun _ _ => ?_)
            refine GL.val (v := (.bool false)) (Ex.pickT rfl rfl) (by decide) ?_
            refine GL.val (Ex.move rfl) (by decide) ?_
            refine GL.skipG (tj := 32) rfl rfl rfl (by decide) ?_
            refine GL.skipG (tj := 32) rfl rfl rfl (by decide) ?_
            refine GL.val (v := (.bool false)) (Ex.pickF rfl rfl) (by decide) ?_
            refine GL.val (Ex.assign rfl) (by decide) ?_
            refine GL.nil ?_
            refine GE.thenN ?_
            refine GC.ret ?_
            refine GC.ret1 rfl (Rv.tmp rfl) (fun wN HN => ?_)
            exact HN.ret () trivial (congrArg Value.bool (by exact (decide_eq_false (by omega)).symm)) (List.nil_sublist _) rfl
        · refine GL.stepG (tj := 24) rfl rfl (Ex.wp (v := (.bool false)) (Ex.cast (Ex.leq rfl rfl) (congrArg Value.bool (decide_eq_false hq7))) (by decide)) (fun _ _ => ?_)
          refine GL.val (v := (.bool false)) (Ex.pickT rfl rfl) (by decide) ?_
          refine GL.val (Ex.move rfl) (by decide) ?_
          refine GL.skipG (tj := 28) rfl rfl rfl (by decide) ?_
          refine GL.skipG (tj := 28) rfl rfl rfl (by decide) ?_
          refine GL.val (v := (.bool false)) (Ex.pickF rfl rfl) (by decide) ?_
          refine GL.val (Ex.move rfl) (by decide) ?_
          refine GL.skipG (tj := 32) rfl rfl rfl (by decide) ?_
          refine GL.skipG (tj := 32) rfl rfl rfl (by decide) ?_
          refine GL.val (v := (.bool false)) (Ex.pickF rfl rfl) (by decide) ?_
          refine GL.val (Ex.assign rfl) (by decide) ?_
          refine GL.nil ?_
          refine GE.thenN ?_
          refine GC.ret ?_
          refine GC.ret1 rfl (Rv.tmp rfl) (fun wN HN => ?_)
          exact HN.ret () trivial (congrArg Value.bool (by exact (decide_eq_false (by omega)).symm)) (List.nil_sublist _) rfl
      · refine GL.stepG (tj := 20) rfl rfl (Ex.wp (v := (.bool false)) (Ex.cast (Ex.geq rfl rfl) (congrArg Value.bool (decide_eq_false hq6))) (by decide)) (fun _ _ => ?_)
        refine GL.val (v := (.bool false)) (Ex.pickT rfl rfl) (by decide) ?_
        refine GL.val (Ex.move rfl) (by decide) ?_
        refine GL.skipG (tj := 24) rfl rfl rfl (by decide) ?_
        refine GL.skipG (tj := 24) rfl rfl rfl (by decide) ?_
        refine GL.val (v := (.bool false)) (Ex.pickF rfl rfl) (by decide) ?_
        refine GL.val (Ex.move rfl) (by decide) ?_
        refine GL.skipG (tj := 28) rfl rfl rfl (by decide) ?_
        refine GL.skipG (tj := 28) rfl rfl rfl (by decide) ?_
        refine GL.val (v := (.bool false)) (Ex.pickF rfl rfl) (by decide) ?_
        refine GL.val (Ex.move rfl) (by decide) ?_
        refine GL.skipG (tj := 32) rfl rfl rfl (by decide) ?_
        refine GL.skipG (tj := 32) rfl rfl rfl (by decide) ?_
        refine GL.val (v := (.bool false)) (Ex.pickF rfl rfl) (by decide) ?_
        refine GL.val (Ex.assign rfl) (by decide) ?_
        refine GL.nil ?_
        refine GE.thenN ?_
        refine GC.ret ?_
        refine GC.ret1 rfl (Rv.tmp rfl) (fun wN HN => ?_)
        exact HN.ret () trivial (congrArg Value.bool (by exact (decide_eq_false (by omega)).symm)) (List.nil_sublist _) rfl
    · refine GL.stepG (tj := 12) rfl rfl (Ex.wp (v := (.bool false)) (Ex.cast (Ex.eql rfl rfl) (congrArg Value.bool (decide_eq_false hq5))) (by decide)) (fun _ _ => ?_)
      refine GL.stepG (tj := 12) rfl rfl (Ex.wp (v := (.bool false)) (Ex.move rfl) (by decide)) (fun _ _ => ?_)
      refine GL.stepG (tj := 15) rfl rfl (Ex.wp (v := (.int .i64 kd)) (Ex.move rfl) (by decide)) (fun _ _ => ?_)
      by_cases hq9 : kd = 2
      · refine GL.stepG (tj := 15) rfl rfl (Ex.wp (v := (.bool true)) (Ex.cast (Ex.eql rfl rfl) (congrArg Value.bool (decide_eq_true hq9))) (by decide)) (fun _ _ => ?_)
        refine GL.stepG (tj := 12) rfl rfl (Ex.wp (v := (.bool true)) (Ex.pickF rfl rfl) (by decide)) (fun _ _ => ?_)
        refine GL.val (v := (.bool true)) (Ex.pickT rfl rfl) (by decide) ?_
        refine GL.val (Ex.move rfl) (by decide) ?_
        refine GL.stepG (tj := 20) rfl rfl (Ex.wp (v := (.int .i64 r)) (Ex.move rfl) (by decide)) (fun _ _ => ?_)
        by_cases hq10 : 0 ≤ r
        · refine GL.stepG (tj := 20) rfl rfl (Ex.wp (v := (.bool true)) (Ex.cast (Ex.geq rfl rfl) (congrArg Value.bool (decide_eq_true hq10))) (by decide)) (fun _ _ => ?_)
          refine GL.val (v := (.bool true)) (Ex.pickT rfl rfl) (by decide) ?_
          refine GL.val (Ex.move rfl) (by decide) ?_
          refine GL.stepG (tj := 24) rfl rfl (Ex.wp (v := (.int .i64 r)) (Ex.move rfl) (by decide)) (fun _ _ => ?_)
          by_cases hq11 : r ≤ 7
          · refine GL.stepG (tj := 24) rfl rfl (Ex.wp (v := (.bool true)) (Ex.cast (Ex.leq rfl rfl) (congrArg Value.bool (decide_eq_true hq11))) (by decide)) (fun _ _ => ?_)
            refine GL.val (v := (.bool true)) (Ex.pickT rfl rfl) (by decide) ?_
            refine GL.val (Ex.move rfl) (by decide) ?_
            refine GL.stepG (tj := 28) rfl rfl (Ex.wp (v := (.int .i64 k)) (Ex.move rfl) (by decide)) (fun _ _ => ?_)
            by_cases hq12 : 1 ≤ k
            · refine GL.stepG (tj := 28) rfl rfl (Ex.wp (v := (.bool true)) (Ex.cast (Ex.geq rfl rfl) (congrArg Value.bool (decide_eq_true hq12))) (by decide)) (fun _ _ => ?_)
              refine GL.val (v := (.bool true)) (Ex.pickT rfl rfl) (by decide) ?_
              refine GL.val (Ex.move rfl) (by decide) ?_
              refine GL.stepG (tj := 32) rfl rfl (Ex.wp (v := (.int .i64 k)) (Ex.move rfl) (by decide)) (fun _ _ => ?_)
              refine GL.stepG (tj := 32) rfl rfl (Ex.wp (v := (.bool (decide (k ≤ 3)))) (Ex.leq rfl rfl) (by decide)) (fun _ _ => ?_)
              refine GL.val (v := (.bool (decide (k ≤ 3)))) (Ex.pickT rfl rfl) (by decide) ?_
              refine GL.val (Ex.assign rfl) (by decide) ?_
              refine GL.nil ?_
              refine GE.thenN ?_
              refine GC.ret ?_
              refine GC.ret1 rfl (Rv.tmp rfl) (fun wN HN => ?_)
              exact HN.ret () trivial (congrArg Value.bool (by exact decide_eq_decide.2 (by omega))) (List.nil_sublist _) rfl
            · refine GL.stepG (tj := 28) rfl rfl (Ex.wp (v := (.bool false)) (Ex.cast (Ex.geq rfl rfl) (congrArg Value.bool (decide_eq_false hq12))) (by decide)) (fun _ _ => ?_)
              refine GL.val (v := (.bool false)) (Ex.pickT rfl rfl) (by decide) ?_
              refine GL.val (Ex.move rfl) (by decide) ?_
              refine GL.skipG (tj := 32) rfl rfl rfl (by decide) ?_
              refine GL.skipG (tj := 32) rfl rfl rfl (by decide) ?_
              refine GL.val (v := (.bool false)) (Ex.pickF rfl rfl) (by decide) ?_
              refine GL.val (Ex.assign rfl) (by decide) ?_
              refine GL.nil ?_
              refine GE.thenN ?_
              refine GC.ret ?_
              refine GC.ret1 rfl (Rv.tmp rfl) (fun wN HN => ?_)
              exact HN.ret () trivial (congrArg Value.bool (by exact (decide_eq_false (by omega)).symm)) (List.nil_sublist _) rfl
          · refine GL.stepG (tj := 24) rfl rfl (Ex.wp (v := (.bool false)) (Ex.cast (Ex.leq rfl rfl) (congrArg Value.bool (decide_eq_false hq11))) (by decide)) (fun _ _ => ?_)
            refine GL.val (v := (.bool false)) (Ex.pickT rfl rfl) (by decide) ?_
            refine GL.val (Ex.move rfl) (by decide) ?_
            refine GL.skipG (tj := 28) rfl rfl rfl (by decide) ?_
            refine GL.skipG (tj := 28) rfl rfl rfl (by decide) ?_
            refine GL.val (v := (.bool false)) (Ex.pickF rfl rfl) (by decide) ?_
            refine GL.val (Ex.move rfl) (by decide) ?_
            refine GL.skipG (tj := 32) rfl rfl rfl (by decide) ?_
            refine GL.skipG (tj := 32) rfl rfl rfl (by decide) ?_
            refine GL.val (v := (.bool false)) (Ex.pickF rfl rfl) (by decide) ?_
            refine GL.val (Ex.assign rfl) (by decide) ?_
            refine GL.nil ?_
            refine GE.thenN ?_
            refine GC.ret ?_
            refine GC.ret1 rfl (Rv.tmp rfl) (fun wN HN => ?_)
            exact HN.ret () trivial (congrArg Value.bool (by exact (decide_eq_false (by omega)).symm)) (List.nil_sublist _) rfl
        · refine GL.stepG (tj := 20) rfl rfl (Ex.wp (v := (.bool false)) (Ex.cast (Ex.geq rfl rfl) (congrArg Value.bool (decide_eq_false hq10))) (by decide)) (fun _ _ => ?_)
          refine GL.val (v := (.bool false)) (Ex.pickT rfl rfl) (by decide) ?_
          refine GL.val (Ex.move rfl) (by decide) ?_
          refine GL.skipG (tj := 24) rfl rfl rfl (by decide) ?_
          refine GL.skipG (tj := 24) rfl rfl rfl (by decide) ?_
          refine GL.val (v := (.bool false)) (Ex.pickF rfl rfl) (by decide) ?_
          refine GL.val (Ex.move rfl) (by decide) ?_
          refine GL.skipG (tj := 28) rfl rfl rfl (by decide) ?_
          refine GL.skipG (tj := 28) rfl rfl rfl (by decide) ?_
          refine GL.val (v := (.bool false)) (Ex.pickF rfl rfl) (by decide) ?_
          refine GL.val (Ex.move rfl) (by decide) ?_
          refine GL.skipG (tj := 32) rfl rfl rfl (by decide) ?_
          refine GL.skipG (tj := 32) rfl rfl rfl (by decide) ?_
          refine GL.val (v := (.bool false)) (Ex.pickF rfl rfl) (by decide) ?_
          refine GL.val (Ex.assign rfl) (by decide) ?_
          refine GL.nil ?_
          refine GE.thenN ?_
          refine GC.ret ?_
          refine GC.ret1 rfl (Rv.tmp rfl) (fun wN HN => ?_)
          exact HN.ret () trivial (congrArg Value.bool (by exact (decide_eq_false (by omega)).symm)) (List.nil_sublist _) rfl
      · refine GL.stepG (tj := 15) rfl rfl (Ex.wp (v := (.bool false)) (Ex.cast (Ex.eql rfl rfl) (congrArg Value.bool (decide_eq_false hq9))) (by decide)) (fun _ _ => ?_)
        refine GL.stepG (tj := 12) rfl rfl (Ex.wp (v := (.bool false)) (Ex.pickF rfl rfl) (by decide)) (fun _ _ => ?_)
        refine GL.val (v := (.bool false)) (Ex.pickT rfl rfl) (by decide) ?_
        refine GL.val (Ex.move rfl) (by decide) ?_
        refine GL.skipG (tj := 20) rfl rfl rfl (by decide) ?_
        refine GL.skipG (tj := 20) rfl rfl rfl (by decide) ?_
        refine GL.val (v := (.bool false)) (Ex.pickF rfl rfl) (by decide) ?_
        refine GL.val (Ex.move rfl) (by decide) ?_
        refine GL.skipG (tj := 24) rfl rfl rfl (by decide) ?_
        refine GL.skipG (tj := 24) rfl rfl rfl (by decide) ?_
        refine GL.val (v := (.bool false)) (Ex.pickF rfl rfl) (by decide) ?_
        refine GL.val (Ex.move rfl) (by decide) ?_
        refine GL.skipG (tj := 28) rfl rfl rfl (by decide) ?_
        refine GL.skipG (tj := 28) rfl rfl rfl (by decide) ?_
        refine GL.val (v := (.bool false)) (Ex.pickF rfl rfl) (by decide) ?_
        refine GL.val (Ex.move rfl) (by decide) ?_
        refine GL.skipG (tj := 32) rfl rfl rfl (by decide) ?_
        refine GL.skipG (tj := 32) rfl rfl rfl (by decide) ?_
        refine GL.val (v := (.bool false)) (Ex.pickF rfl rfl) (by decide) ?_
        refine GL.val (Ex.assign rfl) (by decide) ?_
        refine GL.nil ?_
        refine GE.thenN ?_
        refine GC.ret ?_
        refine GC.ret1 rfl (Rv.tmp rfl) (fun wN HN => ?_)
        exact HN.ret () trivial (congrArg Value.bool (by exact (decide_eq_false (by omega)).symm)) (List.nil_sublist _) rfl
  · refine GL.val (v := (.bool false)) (Ex.cast (Ex.eql rfl rfl) (congrArg Value.bool (decide_eq_false hq4))) (by decide) ?_
    refine GL.val (Ex.move rfl) (by decide) ?_
    refine GL.skipG (tj := 12) rfl rfl rfl (by decide) ?_
    refine GL.skipG (tj := 12) rfl rfl rfl (by decide) ?_
    refine GL.skipG (tj := 12) rfl rfl rfl (by decide) ?_
    refine GL.skipU (tj := 15) rfl rfl (by decide) ?_
    refine GL.skipU (tj := 15) rfl rfl (by decide) ?_
    refine GL.skipG (tj := 12) rfl rfl rfl (by decide) ?_
    refine GL.val (v := (.bool false)) (Ex.pickF rfl rfl) (by decide) ?_
    refine GL.val (Ex.move rfl) (by decide) ?_
    refine GL.skipG (tj := 20) rfl rfl rfl (by decide) ?_
    refine GL.skipG (tj := 20) rfl rfl rfl (by decide) ?_
    refine GL.val (v := (.bool false)) (Ex.pickF rfl rfl) (by decide) ?_
    refine GL.val (Ex.move rfl) (by decide) ?_
    refine GL.skipG (tj := 24) rfl rfl rfl (by decide) ?_
    refine GL.skipG (tj := 24) rfl rfl rfl (by decide) ?_
    refine GL.val (v := (.bool false)) (Ex.pickF rfl rfl) (by decide) ?_
    refine GL.val (Ex.move rfl) (by decide) ?_
    refine GL.skipG (tj := 28) rfl rfl rfl (by decide) ?_
    refine GL.skipG (tj := 28) rfl rfl rfl (by decide) ?_
    refine GL.val (v := (.bool false)) (Ex.pickF rfl rfl) (by decide) ?_
    refine GL.val (Ex.move rfl) (by decide) ?_
    refine GL.skipG (tj := 32) rfl rfl rfl (by decide) ?_
    refine GL.skipG (tj := 32) rfl rfl rfl (by decide) ?_
    refine GL.val (v := (.bool false)) (Ex.pickF rfl rfl) (by decide) ?_
    refine GL.val (Ex.assign rfl) (by decide) ?_
    refine GL.nil ?_
    refine GE.thenN ?_
    refine GC.ret ?_
    refine GC.ret1 rfl (Rv.tmp rfl) (fun wN HN => ?_)
    exact HN.ret () trivial (congrArg Value.bool (by exact (decide_eq_false (by omega)).symm)) (List.nil_sublist _) rfl

set_option maxRecDepth 100000 in
set_option maxHeartbeats 1000000 in
theorem copy_p (W H n cap b o : Nat) (xs : List Int) (w : World) (hx0 : xs.length = n) (hr : Rd w b o (xs.map u32)) (hn1 : 1 ≤ n ∧ n ≤ 65536) :
    Calls Try.prog 29 #[(.agg #[(.int .i64 (((W : Nat) : Int))), (.int .i64 (((H : Nat) : Int))), (.slice (some ⟨b, o, none⟩) n cap)])] w (Ret w (fun _ : Nat × Nat × List Value => True) (fun x => .agg #[.int .i64 (W : Int), .int .i64 (H : Int), .slice (some ⟨x.1, 0, none⟩) n x.2.1]) (fun x => [⟨x.1, xs.map u32 ++ x.2.2, 63, true⟩])) := by
  refine enter (M := None) (L := []) (n := 11) (l := [(0, (.agg #[(.int .i64 (((W : Nat) : Int))), (.int .i64 (((H : Nat) : Int))), (.slice (some ⟨b, o, none⟩) n cap)]))]) Try.func29 rfl rfl (Args.cons rfl (Args.nil _)) (Hp.start _ _) ?_
  refine GC.seq ?_
  refine GC.region ?_
  refine GL.step (Stp.box (cs := [(.int .i64 (((W : Nat) : Int))), (.int .i64 (((H : Nat) : Int))), (.slice (some ⟨b, o, none⟩) n cap)]) rfl rfl (by decide)) (fun bq1 _ => ?_)
  refine GL.step (Stp.alloc T.zr43 (by decide)) (fun bq2 _ => ?_)
  refine GL.nil ?_
  refine GE.thenN ?_
  refine GC.seq ?_
  refine GC.drawP [⟨bq2, [(.int .i64 0), (.int .i64 0), (.slice none 0 0)], 43, true⟩, ⟨bq1, [(.int .i64 (((W : Nat) : Int))), (.int .i64 (((H : Nat) : Int))), (.slice (some ⟨b, o, none⟩) n cap)], 43, true⟩] T.mixed (by kernel_rfl) (by kernel_rfl) (fuel := 8) rfl rfl ?_
  refine GH.take 0 (v := (.pointer (some ⟨bq1, 0, none⟩))) rfl (by kernel_rfl) (by kernel_rfl) (by kernel_rfl) (fun _ _ _ h => h) (Ex.cast (Ex.fieldAddr rfl Try.underlying43 rfl T.sz3 (by decide)) rfl) (ulC (ulC ulN)) (by decide) ?_
  refine GH.take 1 (v := (.int .i64 (((W : Nat) : Int)))) rfl (by kernel_rfl) (by kernel_rfl) (by kernel_rfl) (fun _ _ _ h => h) (Ex.load rfl T.ag3 (i := 1) rfl rfl) (ulC (ulC ulN)) (by decide) ?_
  refine GH.take 2 (v := (.pointer (some ⟨bq1, 1, none⟩))) rfl (by kernel_rfl) (by kernel_rfl) (by kernel_rfl) (fun _ _ _ h => h) (Ex.cast (Ex.fieldAddr rfl Try.underlying43 rfl T.sz3 (by decide)) rfl) (ulC (ulC ulN)) (by decide) ?_
  refine GH.take 3 (v := (.int .i64 (((H : Nat) : Int)))) rfl (by kernel_rfl) (by kernel_rfl) (by kernel_rfl) (fun _ _ _ h => h) (Ex.load rfl T.ag3 (i := 1) rfl rfl) (ulC (ulC ulN)) (by decide) ?_
  refine GH.take 4 (v := (.pointer (some ⟨bq1, 2, none⟩))) rfl (by kernel_rfl) (by kernel_rfl) (by kernel_rfl) (fun _ _ _ h => h) (Ex.cast (Ex.fieldAddr rfl Try.underlying43 rfl T.sz41 (by decide)) rfl) (ulC (ulC ulN)) (by decide) ?_
  refine GH.take 5 (v := (.slice (some ⟨b, o, none⟩) n cap)) rfl (by kernel_rfl) (by kernel_rfl) (by kernel_rfl) (fun _ _ _ h => h) (Ex.load rfl T.ag41 (i := 1) rfl rfl) (ulC (ulC ulN)) (by decide) ?_
  refine GH.one 6 rfl (by kernel_rfl) (Stp.appendNil (vs := xs.map u32) rfl rfl Try.underlying41 T.sz63 T.zr63 rfl T.by63 (fun wz hz => hz.rd hr (fun x => x)) (by rw [List.length_map, hx0]; omega) (by omega) (by omega) (by omega) (by decide)) (fun _ => (ulS (ulC (ulC ulN)))) (fun xq5 hq6 => ?_)
  refine GH.take 7 (v := (.agg #[(.int .i64 (((W : Nat) : Int))), (.int .i64 (((H : Nat) : Int))), (.slice (some ⟨xq5.1, 0, none⟩) n xq5.2.1)])) rfl (by kernel_rfl) (by kernel_rfl) (by kernel_rfl) (fun _ _ _ h => h) (Ex.build (vs := [(0, (.int .i64 (((W : Nat) : Int)))), (1, (.int .i64 (((H : Nat) : Int)))), (2, (.slice (some ⟨xq5.1, 0, none⟩) n xq5.2.1))]) rfl (by first | rfl | kernel_rfl)) (ulS (ulC (ulC ulN))) (by decide) ?_
  refine GH.done (by kernel_rfl) ?_
  refine GE.thenN ?_
  refine GE.tail rfl (Stp.st1 (cs' := [(.int .i64 (((W : Nat) : Int))), (.int .i64 (((H : Nat) : Int))), (.slice (some ⟨xq5.1, 0, none⟩) n xq5.2.1)]) rfl rfl rfl T.sz43 rfl rfl rfl) (fun _ _ => ?_)
  refine GE.thenN ?_
  refine GC.ret ?_
  refine GC.ret1 rfl (Rv.cellA rfl T.ag43 T.sz43 (L := _) (i := 1) rfl (vs := [(.int .i64 (((W : Nat) : Int))), (.int .i64 (((H : Nat) : Int))), (.slice (some ⟨xq5.1, 0, none⟩) n xq5.2.1)]) rfl rfl) (fun wN HN => ?_)
  exact HN.ret xq5 trivial rfl (ulC (ulS (ulS ulN))) rfl

set_option maxRecDepth 100000 in
set_option maxHeartbeats 1000000 in
theorem moved_p (W H n cap b o : Nat) (xs : List Int) (dx dy : Nat) (w : World) (hok : okP W H) (hn : n = W * H) (hx0 : xs.length = n) (hr : Rd w b o (xs.map u32)) (hdx : dx < W) (hdy : dy < H) :
    Calls Try.prog 32 #[(.agg #[(.int .i64 (((W : Nat) : Int))), (.int .i64 (((H : Nat) : Int))), (.slice (some ⟨b, o, none⟩) n cap)]), (.int .i64 (((dx : Nat) : Int))), (.int .i64 (((dy : Nat) : Int)))] w (Ret w (fun _ : Nat × Nat × List Value => True) (fun x => .agg #[.int .i64 (W : Int), .int .i64 (H : Int), .slice (some ⟨x.1, 0, none⟩) n x.2.1]) (fun x => [⟨x.1, (Bc.mvd xs W H dx dy).map u32 ++ x.2.2, 63, true⟩])) := by
  have hW1 := hok.1
  have hH1 := hok.2.1
  have hW2 := hok.2.2.1
  have hH2 := hok.2.2.2.1
  have hA := hok.2.2.2.2
  refine enter (M := None) (L := []) (n := 54) (l := [(0, (.agg #[(.int .i64 (((W : Nat) : Int))), (.int .i64 (((H : Nat) : Int))), (.slice (some ⟨b, o, none⟩) n cap)])), (1, (.int .i64 (((dx : Nat) : Int)))), (2, (.int .i64 (((dy : Nat) : Int))))]) Try.func32 rfl rfl (Args.cons rfl (Args.cons rfl (Args.cons rfl (Args.nil _)))) (Hp.start _ _) ?_
  refine GC.seq ?_
  refine GC.region ?_
  refine GL.step (Stp.box (cs := [(.int .i64 (((W : Nat) : Int))), (.int .i64 (((H : Nat) : Int))), (.slice (some ⟨b, o, none⟩) n cap)]) rfl rfl (by decide)) (fun bq1 _ => ?_)
  refine GL.step (Stp.alloc T.zr43 (by decide)) (fun bq2 _ => ?_)
  refine GL.nil ?_
  refine GE.thenN ?_
  refine GC.seq ?_
  refine GC.region ?_
  refine GL.val (v := (.agg #[(.int .i64 (((W : Nat) : Int))), (.int .i64 (((H : Nat) : Int))), (.slice (some ⟨b, o, none⟩) n cap)])) (Ex.loadA rfl T.ag43 T.sz43 (i := 1) rfl (vs := [(.int .i64 (((W : Nat) : Int))), (.int .i64 (((H : Nat) : Int))), (.slice (some ⟨b, o, none⟩) n cap)]) rfl rfl) (by decide) ?_
  refine GL.step (Stp.callR (vs := [(.agg #[(.int .i64 (((W : Nat) : Int))), (.int .i64 (((H : Nat) : Int))), (.slice (some ⟨b, o, none⟩) n cap)])]) rfl rfl T.own29 (by decide) (fun wc hw => copy_p W H n cap b o xs wc hx0 (hw.rd hr (fun x => x)) (by have h1 := Nat.mul_pos hok.1 hok.2.1; have h2 := hok.2.2.2.2; omega))) (fun xq3 hq4 => ?_)
  refine GL.step (Stp.alloc T.zr43 (by decide)) (fun bq5 _ => ?_)
  refine GL.step (Stp.st0 (cs' := [(.int .i64 (((W : Nat) : Int))), (.int .i64 (((H : Nat) : Int))), (.slice (some ⟨xq3.1, 0, none⟩) n xq3.2.1)]) rfl rfl rfl T.sz43 rfl rfl rfl) (fun _ _ => ?_)
  refine GL.nil ?_
  refine GE.thenN ?_
  refine GC.seq ?_
  refine GC.seq ?_
  refine GC.sub (L' := [⟨bq5, [(.int .i64 (((W : Nat) : Int))), (.int .i64 (((H : Nat) : Int))), (.slice (some ⟨xq3.1, 0, none⟩) n xq3.2.1)], 43, true⟩, ⟨xq3.1, (Bc.ws (W * H) (Bc.mvf xs W H dx dy (0))).map u32 ++ xq3.2.2, 63, true⟩, ⟨bq2, [(.int .i64 0), (.int .i64 0), (.slice none 0 0)], 43, true⟩, ⟨bq1, [(.int .i64 (((W : Nat) : Int))), (.int .i64 (((H : Nat) : Int))), (.slice (some ⟨b, o, none⟩) n cap)], 43, true⟩]) (fun _ _ h => h) (by rw [Bc.mv_start (hx0.trans hn)]; exact ulR) ?_
  refine GC.region ?_
  refine GL.val (Ex.assign rfl) (by decide) ?_
  refine GL.nil ?_
  refine GE.thenN ?_
  refine GC.block ?_
  refine GC.loop (σ := Nat) (fun y => y ≤ H) (fun y => [(0, (.agg #[(.int .i64 (((W : Nat) : Int))), (.int .i64 (((H : Nat) : Int))), (.slice (some ⟨b, o, none⟩) n cap)])), (1, (.int .i64 (((dx : Nat) : Int)))), (2, (.int .i64 (((dy : Nat) : Int)))), (3, (.pointer (some ⟨bq1, 0, none⟩))), (6, (.pointer (some ⟨bq2, 0, none⟩))), (7, (.pointer (some ⟨bq5, 0, none⟩))), (8, (.int .i64 (((y : Nat) : Int))))]) (fun y => [⟨bq5, [(.int .i64 (((W : Nat) : Int))), (.int .i64 (((H : Nat) : Int))), (.slice (some ⟨xq3.1, 0, none⟩) n xq3.2.1)], 43, true⟩, ⟨xq3.1, (Bc.ws (W * H) (Bc.mvf xs W H dx dy (W * y))).map u32 ++ xq3.2.2, 63, true⟩, ⟨bq2, [(.int .i64 0), (.int .i64 0), (.slice none 0 0)], 43, true⟩, ⟨bq1, [(.int .i64 (((W : Nat) : Int))), (.int .i64 (((H : Nat) : Int))), (.slice (some ⟨b, o, none⟩) n cap)], 43, true⟩]) (fun y => H - y) (0) (Nat.zero_le _) ((sub_cons rfl ((sub_cons rfl ((sub_cons rfl ((sub_cons rfl ((sub_cons rfl ((sub_cons rfl ((sub_cons rfl ((sub_nil _)))))))))))))))) (ulC (ulC (ulC (ulC ulN)))) (fun y hp => ?_)
  refine GC.seq ?_
  refine GC.seq ?_
  refine GC.region ?_
  refine GL.val (Ex.move rfl) (by decide) ?_
  refine GL.val (v := (.pointer (some ⟨bq1, 1, none⟩))) (Ex.cast (Ex.fieldAddr rfl Try.underlying43 rfl T.sz3 (by decide)) rfl) (by decide) ?_
  refine GL.val (Ex.load rfl T.ag3 (i := 3) rfl rfl) (by decide) ?_
  refine GL.val (v := (.bool (decide ((((y : Nat) : Int)) < (((H : Nat) : Int)))))) (Ex.lss rfl rfl) (by decide) ?_
  refine GL.nil ?_
  refine GE.thenN ?_
  refine GC.cond rfl (fun hq6 => ?_) (fun hq6 => ?_)
  · replace hq6 := of_decide_eq_true hq6
    refine GC.skip ?_
    refine GE.thenN ?_
    refine GC.seq ?_
    refine GC.block ?_
    refine GC.seq ?_
    refine GC.region ?_
    refine GL.val (Ex.assign rfl) (by decide) ?_
    refine GL.nil ?_
    refine GE.thenN ?_
    refine GC.block ?_
    refine GC.loop (σ := Nat) (fun x => x ≤ W) (fun x => [(0, (.agg #[(.int .i64 (((W : Nat) : Int))), (.int .i64 (((H : Nat) : Int))), (.slice (some ⟨b, o, none⟩) n cap)])), (1, (.int .i64 (((dx : Nat) : Int)))), (2, (.int .i64 (((dy : Nat) : Int)))), (3, (.pointer (some ⟨bq1, 0, none⟩))), (6, (.pointer (some ⟨bq2, 0, none⟩))), (7, (.pointer (some ⟨bq5, 0, none⟩))), (8, (.int .i64 (((y : Nat) : Int)))), (9, (.int .i64 (((x : Nat) : Int))))]) (fun x => [⟨bq5, [(.int .i64 (((W : Nat) : Int))), (.int .i64 (((H : Nat) : Int))), (.slice (some ⟨xq3.1, 0, none⟩) n xq3.2.1)], 43, true⟩, ⟨xq3.1, (Bc.ws (W * H) (Bc.mvf xs W H dx dy (W * y + x))).map u32 ++ xq3.2.2, 63, true⟩, ⟨bq2, [(.int .i64 0), (.int .i64 0), (.slice none 0 0)], 43, true⟩, ⟨bq1, [(.int .i64 (((W : Nat) : Int))), (.int .i64 (((H : Nat) : Int))), (.slice (some ⟨b, o, none⟩) n cap)], 43, true⟩]) (fun x => W - x) (0) (Nat.zero_le _) ((sub_cons rfl ((sub_cons rfl ((sub_cons rfl ((sub_cons rfl ((sub_cons rfl ((sub_cons rfl ((sub_cons rfl ((sub_cons rfl ((sub_nil _)))))))))))))))))) (ulC (ulC (ulC (ulC ulN)))) (fun x hp => ?_)
    refine GC.seq ?_
    refine GC.seq ?_
    refine GC.region ?_
    refine GL.val (Ex.move rfl) (by decide) ?_
    refine GL.val (v := (.pointer (some ⟨bq1, 0, none⟩))) (Ex.cast (Ex.fieldAddr rfl Try.underlying43 rfl T.sz3 (by decide)) rfl) (by decide) ?_
    refine GL.val (Ex.load rfl T.ag3 (i := 3) rfl rfl) (by decide) ?_
    refine GL.val (v := (.bool (decide ((((x : Nat) : Int)) < (((W : Nat) : Int)))))) (Ex.lss rfl rfl) (by decide) ?_
    refine GL.nil ?_
    refine GE.thenN ?_
    refine GC.cond rfl (fun hq7 => ?_) (fun hq7 => ?_)
    · replace hq7 := of_decide_eq_true hq7
      refine GC.skip ?_
      refine GE.thenN ?_
      refine GC.seq ?_
      refine GC.block ?_
      refine GC.drawP [⟨bq5, [(.int .i64 (((W : Nat) : Int))), (.int .i64 (((H : Nat) : Int))), (.slice (some ⟨xq3.1, 0, none⟩) n xq3.2.1)], 43, true⟩, ⟨bq2, [(.int .i64 0), (.int .i64 0), (.slice none 0 0)], 43, true⟩, ⟨bq1, [(.int .i64 (((W : Nat) : Int))), (.int .i64 (((H : Nat) : Int))), (.slice (some ⟨b, o, none⟩) n cap)], 43, true⟩] T.mixed (by kernel_rfl) (by kernel_rfl) (fuel := 29) rfl rfl ?_
      refine GH.take 0 (v := (.pointer (some ⟨bq5, 2, none⟩))) rfl (by kernel_rfl) (by kernel_rfl) (by kernel_rfl) (fun _ _ _ h => h) (Ex.cast (Ex.fieldAddr rfl Try.underlying43 rfl T.sz41 (by decide)) rfl) (ulC (ulS (ulC (ulC ulN)))) (by decide) ?_
      refine GH.take 1 (v := (.slice (some ⟨xq3.1, 0, none⟩) n xq3.2.1)) rfl (by kernel_rfl) (by kernel_rfl) (by kernel_rfl) (fun _ _ _ h => h) (Ex.load rfl T.ag41 (i := 0) rfl rfl) (ulC (ulS (ulC (ulC ulN)))) (by decide) ?_
      refine GH.take 2 (v := (.int .i64 (((y : Nat) : Int)))) rfl (by kernel_rfl) (by kernel_rfl) (by kernel_rfl) (fun _ _ _ h => h) (Ex.move rfl) (ulC (ulS (ulC (ulC ulN)))) (by decide) ?_
      refine GH.take 3 (v := (.int .i64 (((dy : Nat) : Int)))) rfl (by kernel_rfl) (by kernel_rfl) (by kernel_rfl) (fun _ _ _ h => h) (Ex.move rfl) (ulC (ulS (ulC (ulC ulN)))) (by decide) ?_
      refine GH.take 4 (v := (.int .i64 (((y + dy : Nat) : Int)))) rfl (by kernel_rfl) (by kernel_rfl) (by kernel_rfl) (fun _ _ _ h => h) (Ex.add rfl rfl (Z := ((y + dy : Nat) : Int)) (addN (by omega))) (ulC (ulS (ulC (ulC ulN)))) (by decide) ?_
      refine GH.take 5 (v := (.pointer (some ⟨bq1, 1, none⟩))) rfl (by kernel_rfl) (by kernel_rfl) (by kernel_rfl) (fun _ _ _ h => h) (Ex.cast (Ex.fieldAddr rfl Try.underlying43 rfl T.sz3 (by decide)) rfl) (ulC (ulS (ulC (ulC ulN)))) (by decide) ?_
      refine GH.take 6 (v := (.int .i64 (((H : Nat) : Int)))) rfl (by kernel_rfl) (by kernel_rfl) (by kernel_rfl) (fun _ _ _ h => h) (Ex.load rfl T.ag3 (i := 2) rfl rfl) (ulC (ulS (ulC (ulC ulN)))) (by decide) ?_
      refine GH.take 7 (v := (.int .i64 ((((y + dy) % H : Nat) : Int)))) rfl (by kernel_rfl) (by kernel_rfl) (by kernel_rfl) (fun _ _ _ h => h) (Ex.rem rfl rfl (Z := (((y + dy) % H : Nat) : Int)) (by omega) rfl) (ulC (ulS (ulC (ulC ulN)))) (by decide) ?_
      refine GH.take 8 (v := (.pointer (some ⟨bq1, 0, none⟩))) rfl (by kernel_rfl) (by kernel_rfl) (by kernel_rfl) (fun _ _ _ h => h) (Ex.cast (Ex.fieldAddr rfl Try.underlying43 rfl T.sz3 (by decide)) rfl) (ulC (ulS (ulC (ulC ulN)))) (by decide) ?_
      refine GH.take 9 (v := (.int .i64 (((W : Nat) : Int)))) rfl (by kernel_rfl) (by kernel_rfl) (by kernel_rfl) (fun _ _ _ h => h) (Ex.load rfl T.ag3 (i := 2) rfl rfl) (ulC (ulS (ulC (ulC ulN)))) (by decide) ?_
      refine GH.take 10 (v := (.int .i64 (((W * ((y + dy) % H) : Nat) : Int)))) rfl (by kernel_rfl) (by kernel_rfl) (by kernel_rfl) (fun _ _ _ h => h) (Ex.mul rfl rfl (Z := ((W * ((y + dy) % H) : Nat) : Int)) (mulN' (by have := Nat.mul_le_mul_left W (Nat.le_of_lt (Nat.mod_lt (y + dy) (show 0 < H by omega))); omega))) (ulC (ulS (ulC (ulC ulN)))) (by decide) ?_
      refine GH.take 11 (v := (.int .i64 (((x : Nat) : Int)))) rfl (by kernel_rfl) (by kernel_rfl) (by kernel_rfl) (fun _ _ _ h => h) (Ex.move rfl) (ulC (ulS (ulC (ulC ulN)))) (by decide) ?_
      refine GH.take 12 (v := (.int .i64 (((dx : Nat) : Int)))) rfl (by kernel_rfl) (by kernel_rfl) (by kernel_rfl) (fun _ _ _ h => h) (Ex.move rfl) (ulC (ulS (ulC (ulC ulN)))) (by decide) ?_
      refine GH.take 13 (v := (.int .i64 (((x + dx : Nat) : Int)))) rfl (by kernel_rfl) (by kernel_rfl) (by kernel_rfl) (fun _ _ _ h => h) (Ex.add rfl rfl (Z := ((x + dx : Nat) : Int)) (addN (by omega))) (ulC (ulS (ulC (ulC ulN)))) (by decide) ?_
      refine GH.take 14 (v := (.pointer (some ⟨bq1, 0, none⟩))) rfl (by kernel_rfl) (by kernel_rfl) (by kernel_rfl) (fun _ _ _ h => h) (Ex.cast (Ex.fieldAddr rfl Try.underlying43 rfl T.sz3 (by decide)) rfl) (ulC (ulS (ulC (ulC ulN)))) (by decide) ?_
      refine GH.take 15 (v := (.int .i64 (((W : Nat) : Int)))) rfl (by kernel_rfl) (by kernel_rfl) (by kernel_rfl) (fun _ _ _ h => h) (Ex.load rfl T.ag3 (i := 2) rfl rfl) (ulC (ulS (ulC (ulC ulN)))) (by decide) ?_
      refine GH.take 16 (v := (.int .i64 ((((x + dx) % W : Nat) : Int)))) rfl (by kernel_rfl) (by kernel_rfl) (by kernel_rfl) (fun _ _ _ h => h) (Ex.rem rfl rfl (Z := (((x + dx) % W : Nat) : Int)) (by omega) rfl) (ulC (ulS (ulC (ulC ulN)))) (by decide) ?_
      refine GH.take 17 (v := (.int .i64 (((Bc.tgt W H dx dy x y : Nat) : Int)))) rfl (by kernel_rfl) (by kernel_rfl) (by kernel_rfl) (fun _ _ _ h => h) (Ex.add rfl rfl (Z := ((Bc.tgt W H dx dy x y : Nat) : Int)) (by have := Bc.tgt_lt (W := W) (H := H) (dx := dx) (dy := dy) (by omega : x < W) (by omega : y < H); unfold Bc.tgt at this; exact addN (by omega))) (ulC (ulS (ulC (ulC ulN)))) (by decide) ?_
      refine GH.take 18 (v := (.pointer (some ⟨bq1, 2, none⟩))) rfl (by kernel_rfl) (by kernel_rfl) (by kernel_rfl) (fun _ _ _ h => h) (Ex.cast (Ex.fieldAddr rfl Try.underlying43 rfl T.sz41 (by decide)) rfl) (ulC (ulS (ulC (ulC ulN)))) (by decide) ?_
      refine GH.take 19 (v := (.slice (some ⟨b, o, none⟩) n cap)) rfl (by kernel_rfl) (by kernel_rfl) (by kernel_rfl) (fun _ _ _ h => h) (Ex.load rfl T.ag41 (i := 2) rfl rfl) (ulC (ulS (ulC (ulC ulN)))) (by decide) ?_
      refine GH.take 20 (v := (.int .i64 (((y : Nat) : Int)))) rfl (by kernel_rfl) (by kernel_rfl) (by kernel_rfl) (fun _ _ _ h => h) (Ex.move rfl) (ulC (ulS (ulC (ulC ulN)))) (by decide) ?_
      refine GH.take 21 (v := (.pointer (some ⟨bq1, 0, none⟩))) rfl (by kernel_rfl) (by kernel_rfl) (by kernel_rfl) (fun _ _ _ h => h) (Ex.cast (Ex.fieldAddr rfl Try.underlying43 rfl T.sz3 (by decide)) rfl) (ulC (ulS (ulC (ulC ulN)))) (by decide) ?_
      refine GH.take 22 (v := (.int .i64 (((W : Nat) : Int)))) rfl (by kernel_rfl) (by kernel_rfl) (by kernel_rfl) (fun _ _ _ h => h) (Ex.load rfl T.ag3 (i := 2) rfl rfl) (ulC (ulS (ulC (ulC ulN)))) (by decide) ?_
      refine GH.take 23 (v := (.int .i64 (((W * y : Nat) : Int)))) rfl (by kernel_rfl) (by kernel_rfl) (by kernel_rfl) (fun _ _ _ h => h) (Ex.mul rfl rfl (Z := ((W * y : Nat) : Int)) (mulN' (by have := place_lt (W := W) (H := H) (by omega : x < W) (by omega : y < H); omega))) (ulC (ulS (ulC (ulC ulN)))) (by decide) ?_
      refine GH.take 24 (v := (.int .i64 (((x : Nat) : Int)))) rfl (by kernel_rfl) (by kernel_rfl) (by kernel_rfl) (fun _ _ _ h => h) (Ex.move rfl) (ulC (ulS (ulC (ulC ulN)))) (by decide) ?_
      refine GH.take 25 (v := (.int .i64 (((W * y + x : Nat) : Int)))) rfl (by kernel_rfl) (by kernel_rfl) (by kernel_rfl) (fun _ _ _ h => h) (Ex.add rfl rfl (Z := ((W * y + x : Nat) : Int)) (addN (by have := place_lt (W := W) (H := H) (by omega : x < W) (by omega : y < H); omega))) (ulC (ulS (ulC (ulC ulN)))) (by decide) ?_
      refine GH.take 26 (v := (.pointer (some ⟨b, o + (W * y + x), none⟩))) rfl (by kernel_rfl) (by kernel_rfl) (by kernel_rfl) (fun _ _ _ h => h) (Ex.cast (Ex.indexAddr rfl rfl Try.underlying41 T.sz63 (by omega) (by have := place_lt (W := W) (H := H) (by omega : x < W) (by omega : y < H); omega)) (by simp only [Int.toNat_natCast, Nat.mul_one])) (ulC (ulS (ulC (ulC ulN)))) (by decide) ?_
      refine GH.take 27 (v := (.int .u32 ((smp xs W x y)))) rfl (by kernel_rfl) (by kernel_rfl) (by kernel_rfl) (fun _ _ _ h => h) (Ex.loadO rfl T.ag63 (Rd.at hr (by have := place_lt (W := W) (H := H) (by omega : x < W) (by omega : y < H); omega)) (fun x => x)) (ulC (ulS (ulC (ulC ulN)))) (by decide) ?_
      refine GH.take 28 (v := (.pointer (some ⟨xq3.1, Bc.tgt W H dx dy x y, none⟩))) rfl (by kernel_rfl) (by kernel_rfl) (by kernel_rfl) (fun _ _ _ h => h) (Ex.cast (Ex.indexAddr rfl rfl Try.underlying41 T.sz63 (by omega) (by have := Bc.tgt_lt (W := W) (H := H) (dx := dx) (dy := dy) (by omega : x < W) (by omega : y < H); omega)) (by simp only [Int.toNat_natCast, Nat.mul_one, Nat.zero_add])) (ulC (ulS (ulC (ulC ulN)))) (by decide) ?_
      refine GH.done (by kernel_rfl) ?_
      refine GE.thenN ?_
      refine GE.tail rfl (Stp.storeL (i := 1) (cs := (Bc.ws (W * H) (Bc.mvf xs W H dx dy (W * y + x))).map u32 ++ xq3.2.2) (vs := [(.int .u32 ((smp xs W x y)))]) (o := Bc.tgt W H dx dy x y) (L1 := [⟨bq5, [(.int .i64 (((W : Nat) : Int))), (.int .i64 (((H : Nat) : Int))), (.slice (some ⟨xq3.1, 0, none⟩) n xq3.2.1)], 43, true⟩, ⟨xq3.1, (Bc.ws (W * H) (Bc.mvf xs W H dx dy (W * y + (x + 1)))).map u32 ++ xq3.2.2, 63, true⟩, ⟨bq2, [(.int .i64 0), (.int .i64 0), (.slice none 0 0)], 43, true⟩, ⟨bq1, [(.int .i64 (((W : Nat) : Int))), (.int .i64 (((H : Nat) : Int))), (.slice (some ⟨b, o, none⟩) n cap)], 43, true⟩]) rfl rfl rfl T.sz63 rfl (Nat.ble_eq_true_of_le (by rw [List.length_append, List.length_map, Bc.ws_len]; have := Bc.tgt_lt (W := W) (H := H) (dx := dx) (dy := dy) (by omega : x < W) (by omega : y < H); simp; omega)) rfl (by rw [Bc.set_store _ (by rw [Bc.ws_len]; exact Bc.tgt_lt (by omega) (by omega)), Bc.mv_step (by omega) (by omega) hdx hdy]; rfl)) (fun _ _ => ?_)
      refine GE.blockN ?_
      refine GE.thenN ?_
      refine GC.region ?_
      refine GL.val (Ex.move rfl) (by decide) ?_
      refine GL.val (v := (.int .i64 (((x + 1 : Nat) : Int)))) (Ex.add rfl rfl (Z := ((x + 1 : Nat) : Int)) (addN (b := 1) (by omega))) (by decide) ?_
      refine GL.val (Ex.assign rfl) (by decide) ?_
      refine GL.nil ?_
      refine GE.thenN ?_
      exact Head.mk (x + 1) (by omega) (by omega) ((sub_cons rfl ((sub_cons rfl ((sub_cons rfl ((sub_cons rfl ((sub_cons rfl ((sub_cons rfl ((sub_cons rfl ((sub_cons rfl ((sub_nil _)))))))))))))))))) (ulC (ulC (ulC (ulC ulN))))
    · replace hq7 := of_decide_eq_false hq7
      have ex : W = x := by omega
      have e2 : W * y + x = W * (y + 1) := by rw [← ex]; rfl
      rw [e2]
      refine GC.exit ?_
      refine GE.thenE ?_
      refine GE.thenE ?_
      refine GE.blockE ?_
      refine GE.blockN ?_
      refine GE.thenN ?_
      refine GC.region ?_
      refine GL.val (Ex.move rfl) (by decide) ?_
      refine GL.val (v := (.int .i64 (((y + 1 : Nat) : Int)))) (Ex.add rfl rfl (Z := ((y + 1 : Nat) : Int)) (addN (b := 1) (by omega))) (by decide) ?_
      refine GL.val (Ex.assign rfl) (by decide) ?_
      refine GL.nil ?_
      refine GE.thenN ?_
      exact Head.mk (y + 1) (by omega) (by omega) ((sub_cons rfl ((sub_cons rfl ((sub_cons rfl ((sub_cons rfl ((sub_cons rfl ((sub_cons rfl ((sub_cons rfl ((sub_nil _)))))))))))))))) (ulC (ulC (ulC (ulC ulN))))
  · replace hq6 := of_decide_eq_false hq6
    refine GC.exit ?_
    refine GE.thenE ?_
    refine GE.thenE ?_
    refine GE.blockE ?_
    refine GE.thenN ?_
    refine GC.seq ?_
    refine GC.region ?_
    refine GL.val (v := (.agg #[(.int .i64 (((W : Nat) : Int))), (.int .i64 (((H : Nat) : Int))), (.slice (some ⟨xq3.1, 0, none⟩) n xq3.2.1)])) (Ex.loadA rfl T.ag43 T.sz43 (i := 0) rfl (vs := [(.int .i64 (((W : Nat) : Int))), (.int .i64 (((H : Nat) : Int))), (.slice (some ⟨xq3.1, 0, none⟩) n xq3.2.1)]) rfl rfl) (by decide) ?_
    refine GL.step (Stp.st2 (cs' := [(.int .i64 (((W : Nat) : Int))), (.int .i64 (((H : Nat) : Int))), (.slice (some ⟨xq3.1, 0, none⟩) n xq3.2.1)]) rfl rfl rfl T.sz43 rfl rfl rfl) (fun _ _ => ?_)
    refine GL.nil ?_
    refine GE.thenN ?_
    refine GC.ret ?_
    refine GC.ret1 rfl (Rv.cellA rfl T.ag43 T.sz43 (L := _) (i := 2) rfl (vs := [(.int .i64 (((W : Nat) : Int))), (.int .i64 (((H : Nat) : Int))), (.slice (some ⟨xq3.1, 0, none⟩) n xq3.2.1)]) rfl rfl) (fun wN HN => ?_)
    have ey : H = y := by omega
    have e3 : W * y = W * H := by rw [ey]
    rw [e3, Bc.mv_end hok.1 hok.2.1] at HN
    exact HN.ret xq3 trivial rfl (ulS (ulC (ulS (ulS ulN)))) rfl

set_option maxRecDepth 100000 in
set_option maxHeartbeats 1000000 in
theorem no_ok (W H n cap b o : Nat) (kd k dx dy : Int) (xs : List Int) (w : World) (hok : okP W H) (hn : n = W * H) (hx0 : xs.length = n) (hu : ∀ v ∈ xs, 0 ≤ v ∧ v < 4294967296) (hr : Rd w b o (xs.map u32)) (hk : 1 ≤ k ∧ k ≤ 3) (hkd : kd = 1 ∨ kd = 2) :
    Calls Try.prog 8 #[(.agg #[(.int .i64 (((W : Nat) : Int))), (.int .i64 (((H : Nat) : Int))), (.slice (some ⟨b, o, none⟩) n cap)]), (.int .i64 kd), (.int .i64 k), (.int .i64 dx), (.int .i64 dy)] w (Ret w (fun _ : Unit => True) (fun _ => .bool true) (fun _ => [])) := by
  have hW1 := hok.1
  have hH1 := hok.2.1
  have hW2 := hok.2.2.1
  have hH2 := hok.2.2.2.1
  have hA := hok.2.2.2.2
  have hbu := fun i => Bg.get_bd hu i
  refine enter (M := None) (L := []) (n := 132) (l := [(0, (.agg #[(.int .i64 (((W : Nat) : Int))), (.int .i64 (((H : Nat) : Int))), (.slice (some ⟨b, o, none⟩) n cap)])), (1, (.int .i64 kd)), (2, (.int .i64 k)), (3, (.int .i64 dx)), (4, (.int .i64 dy))]) Try.func8 rfl rfl (Args.cons rfl (Args.cons rfl (Args.cons rfl (Args.cons rfl (Args.cons rfl (Args.nil _)))))) (Hp.start _ _) ?_
  refine GC.seq ?_
  refine GC.region ?_
  refine GL.step (Stp.box (cs := [(.int .i64 (((W : Nat) : Int))), (.int .i64 (((H : Nat) : Int))), (.slice (some ⟨b, o, none⟩) n cap)]) rfl rfl (by decide)) (fun bq1 _ => ?_)
  refine GL.val (Ex.assign rfl) (by decide) ?_
  refine GL.nil ?_
  refine GE.thenN ?_
  refine GC.seq ?_
  refine GC.seq ?_
  refine GC.region ?_
  refine GL.step (Stp.callR (vs := []) rfl rfl T.own12 (by decide) (fun wc hw => known wc)) (fun xq2 hq3 => ?_)
  refine GL.val (v := (.bool false)) (Ex.cast (Ex.not rfl) rfl) (by decide) ?_
  refine GL.nil ?_
  refine GE.thenN ?_
  refine GC.cond rfl (fun hq4 => by cases hq4) (fun _ => ?_)
  refine GC.skip ?_
  refine GE.thenN ?_
  refine GC.seq ?_
  refine GC.seq ?_
  refine GC.region ?_
  refine GL.val (v := (.agg #[(.int .i64 (((W : Nat) : Int))), (.int .i64 (((H : Nat) : Int))), (.slice (some ⟨b, o, none⟩) n cap)])) (Ex.loadA rfl T.ag43 T.sz43 (i := 0) rfl (vs := [(.int .i64 (((W : Nat) : Int))), (.int .i64 (((H : Nat) : Int))), (.slice (some ⟨b, o, none⟩) n cap)]) rfl rfl) (by decide) ?_
  refine GL.val (Ex.move rfl) (by decide) ?_
  refine GL.val (Ex.move rfl) (by decide) ?_
  refine GL.step (Stp.callR (vs := [(.agg #[(.int .i64 (((W : Nat) : Int))), (.int .i64 (((H : Nat) : Int))), (.slice (some ⟨b, o, none⟩) n cap)]), (.int .i64 kd), (.int .i64 0), (.int .i64 k)]) rfl rfl T.own27 (by decide) (fun wc hw => right_p (((W : Nat) : Int)) (((H : Nat) : Int)) (some ⟨b, o, none⟩) n cap kd 0 k wc)) (fun xq5 hq6 => ?_)
  refine GL.val (v := (.bool (!(Bc.rightB (((W : Nat) : Int)) (((H : Nat) : Int)) n kd 0 k)))) (Ex.not rfl) (by decide) ?_
  refine GL.nil ?_
  refine GE.thenN ?_
  refine GC.cond rfl (fun hq7 => by exfalso; rw [show Bc.rightB W H n kd 0 k = true from decide_eq_true ⟨by rw [hn]; exact chk_ok hok, hkd, by decide, by decide, hk⟩] at hq7; cases hq7) (fun _ => ?_)
  refine GC.skip ?_
  refine GE.thenN ?_
  refine GC.seq ?_
  refine GC.region ?_
  refine GL.val (v := (.agg #[(.int .i64 (((W : Nat) : Int))), (.int .i64 (((H : Nat) : Int))), (.slice (some ⟨b, o, none⟩) n cap)])) (Ex.loadA rfl T.ag43 T.sz43 (i := 0) rfl (vs := [(.int .i64 (((W : Nat) : Int))), (.int .i64 (((H : Nat) : Int))), (.slice (some ⟨b, o, none⟩) n cap)]) rfl rfl) (by decide) ?_
  refine GL.val (Ex.move rfl) (by decide) ?_
  refine GL.val (Ex.move rfl) (by decide) ?_
  refine GL.step (Stp.callR (σ := Nat) (p := fun rz => True) (v := fun rz => (.tuple #[(.agg #[(.int .i64 (((W : Nat) : Int))), (.int .i64 (((H : Nat) : Int))), (.slice (some ⟨rz, 0, none⟩) (W * H) (W * H))]), (.int .i64 0)])) (N := fun rz => [⟨rz, (xs.map Bc.md).map u32, 63, true⟩]) (vs := [(.agg #[(.int .i64 (((W : Nat) : Int))), (.int .i64 (((H : Nat) : Int))), (.slice (some ⟨b, o, none⟩) n cap)]), (.int .i64 kd), (.int .i64 0), (.int .i64 k)]) rfl rfl T.own21 (by decide) (fun wc hw => (by have h := blur_ok W H n cap b o k kd 0 xs wc hk hok hn hx0 hu (hw.rd hr (fun x => x)) hkd (by omega); rw [Bc.blr_0 (hx0.trans hn) hu hk hok] at h; exact h))) (fun xq8 hq9 => ?_)
  refine GL.val (Ex.move rfl) (by decide) ?_
  refine GL.val (Ex.extract rfl rfl) (by decide) ?_
  refine GL.val (Ex.extract rfl rfl) (by decide) ?_
  refine GL.step (Stp.alloc T.zr43 (by decide)) (fun bq10 _ => ?_)
  refine GL.step (Stp.st0 (cs' := [(.int .i64 (((W : Nat) : Int))), (.int .i64 (((H : Nat) : Int))), (.slice (some ⟨xq8, 0, none⟩) (W * H) (W * H))]) rfl rfl rfl T.sz43 rfl rfl rfl) (fun _ _ => ?_)
  refine GL.val (Ex.assign rfl) (by decide) ?_
  refine GL.nil ?_
  refine GE.thenN ?_
  refine GC.seq ?_
  refine GC.seq ?_
  refine GC.region ?_
  refine GL.val (Ex.move rfl) (by decide) ?_
  refine GL.step (Stp.callR (vs := [(.int .i64 0)]) rfl rfl T.own15 (by decide) (fun wc hw => num 0 wc)) (fun xq11 hq12 => ?_)
  refine GL.val (v := (.bool false)) (Ex.cast (Ex.neq rfl rfl) rfl) (by decide) ?_
  refine GL.val (Ex.move rfl) (by decide) ?_
  refine GL.stepG (tj := 38) rfl rfl (Ex.wp (v := (.pointer (some ⟨bq10, 2, none⟩))) (Ex.cast (Ex.fieldAddr rfl Try.underlying43 rfl T.sz41 (by decide)) rfl) (by decide)) (fun _ _ => ?_)
  refine GL.stepG (tj := 38) rfl rfl (Ex.wp (v := (.slice (some ⟨xq8, 0, none⟩) (W * H) (W * H))) (Ex.load rfl T.ag41 (i := 0) rfl rfl) (by decide)) (fun _ _ => ?_)
  refine GL.stepG (tj := 38) rfl rfl (Ex.wp (v := (.int .i64 (((W * H) : Int)))) (Ex.len rfl Try.underlying41) (by decide)) (fun _ _ => ?_)
  refine GL.stepG (tj := 38) rfl rfl (Ex.wp (v := (.pointer (some ⟨bq1, 2, none⟩))) (Ex.cast (Ex.fieldAddr rfl Try.underlying43 rfl T.sz41 (by decide)) rfl) (by decide)) (fun _ _ => ?_)
  refine GL.stepG (tj := 38) rfl rfl (Ex.wp (v := (.slice (some ⟨b, o, none⟩) n cap)) (Ex.load rfl T.ag41 (i := 2) rfl rfl) (by decide)) (fun _ _ => ?_)
  refine GL.stepG (tj := 38) rfl rfl (Ex.wp (v := (.int .i64 ((n : Int)))) (Ex.len rfl Try.underlying41) (by decide)) (fun _ _ => ?_)
  refine GL.stepG (tj := 38) rfl rfl (Ex.wp (v := (.bool false)) (Ex.cast (Ex.neq rfl rfl) (congrArg Value.bool (decide_eq_false (by omega)))) (by decide)) (fun _ _ => ?_)
  refine GL.val (v := (.bool false)) (Ex.pickF rfl rfl) (by decide) ?_
  refine GL.nil ?_
  refine GE.thenN ?_
  refine GC.cond rfl (fun hq13 => by cases hq13) (fun _ => ?_)
  refine GC.skip ?_
  refine GE.thenN ?_
  refine GC.seq ?_
  refine GC.seq ?_
  refine GC.region ?_
  refine GL.val (Ex.assign rfl) (by decide) ?_
  refine GL.nil ?_
  refine GE.thenN ?_
  refine GC.block ?_
  refine GC.loop (σ := Nat) (fun i => i ≤ n) (fun i => [(0, (.agg #[(.int .i64 (((W : Nat) : Int))), (.int .i64 (((H : Nat) : Int))), (.slice (some ⟨b, o, none⟩) n cap)])), (1, (.int .i64 kd)), (2, (.int .i64 k)), (3, (.int .i64 dx)), (4, (.int .i64 dy)), (5, (.pointer (some ⟨bq1, 0, none⟩))), (10, (.bool false)), (11, (.pointer (some ⟨bq10, 0, none⟩))), (12, (.int .i64 0)), (13, (.int .i64 (((i : Nat) : Int))))]) (fun i => [⟨bq10, [(.int .i64 (((W : Nat) : Int))), (.int .i64 (((H : Nat) : Int))), (.slice (some ⟨xq8, 0, none⟩) (W * H) (W * H))], 43, true⟩, ⟨xq8, (xs.map Bc.md).map u32, 63, true⟩, ⟨bq1, [(.int .i64 (((W : Nat) : Int))), (.int .i64 (((H : Nat) : Int))), (.slice (some ⟨b, o, none⟩) n cap)], 43, true⟩]) (fun i => n - i) (0) (Nat.zero_le _) ((sub_cons rfl ((sub_cons rfl ((sub_cons rfl ((sub_cons rfl ((sub_cons rfl ((sub_cons rfl ((sub_cons rfl ((sub_cons rfl ((sub_cons rfl ((sub_cons rfl ((sub_nil _)))))))))))))))))))))) (ulC (ulC (ulC ulN))) (fun i hp => ?_)
  have hbi := hbu i
  refine GC.seq ?_
  refine GC.seq ?_
  refine GC.region ?_
  refine GL.val (Ex.move rfl) (by decide) ?_
  refine GL.val (v := (.pointer (some ⟨bq1, 2, none⟩))) (Ex.cast (Ex.fieldAddr rfl Try.underlying43 rfl T.sz41 (by decide)) rfl) (by decide) ?_
  refine GL.val (Ex.load rfl T.ag41 (i := 2) rfl rfl) (by decide) ?_
  refine GL.val (v := (.int .i64 ((n : Int)))) (Ex.len rfl Try.underlying41) (by decide) ?_
  refine GL.val (v := (.bool (decide ((((i : Nat) : Int)) < ((n : Int)))))) (Ex.lss rfl rfl) (by decide) ?_
  refine GL.nil ?_
  refine GE.thenN ?_
  refine GC.cond rfl (fun hq14 => ?_) (fun hq14 => ?_)
  · replace hq14 := of_decide_eq_true hq14
    refine GC.skip ?_
    refine GE.thenN ?_
    refine GC.seq ?_
    refine GC.block ?_
    refine GC.seq ?_
    refine GC.region ?_
    refine GL.val (v := (.pointer (some ⟨bq1, 2, none⟩))) (Ex.cast (Ex.fieldAddr rfl Try.underlying43 rfl T.sz41 (by decide)) rfl) (by decide) ?_
    refine GL.val (Ex.load rfl T.ag41 (i := 2) rfl rfl) (by decide) ?_
    refine GL.val (Ex.move rfl) (by decide) ?_
    refine GL.val (v := (.pointer (some ⟨b, o + i, none⟩))) (Ex.cast (Ex.indexAddr rfl rfl Try.underlying41 T.sz63 (by omega) (by omega)) (by simp)) (by decide) ?_
    refine GL.val (v := (.int .u32 ((xs.getD i 0)))) (Ex.loadO rfl T.ag63 (Rd.at hr (by omega)) (fun x => x)) (by decide) ?_
    refine GL.val (Ex.assign rfl) (by decide) ?_
    refine GL.nil ?_
    refine GE.thenN ?_
    refine GC.seq ?_
    refine GC.seq ?_
    refine GC.region ?_
    refine GL.val (Ex.move rfl) (by decide) ?_
    refine GL.val (v := (.int .u32 (((xs.getD i 0)) / 8388608))) (Ex.quo rfl rfl (Z := ((xs.getD i 0)) / 8388608) (by omega) (quoU32 (by omega) (by omega) (by omega))) (by decide) ?_
    refine GL.val (v := (.int .u32 ((((xs.getD i 0)) / 8388608) % 256))) (Ex.rem rfl rfl (Z := (((xs.getD i 0)) / 8388608) % 256) (by omega) (rem64 (by omega) (by omega))) (by decide) ?_
    by_cases hq15 : ((((xs.getD i 0)) / 8388608) % 256) = 255
    · refine GL.val (v := (.bool true)) (Ex.cast (Ex.eql rfl rfl) (congrArg Value.bool (decide_eq_true hq15))) (by decide) ?_
      refine GL.val (Ex.move rfl) (by decide) ?_
      refine GL.stepG (tj := 63) rfl rfl (Ex.wp (v := (.int .u32 ((xs.getD i 0)))) (Ex.move rfl) (by decide)) (fun _ _ => ?_)
      refine GL.stepG (tj := 63) rfl rfl (Ex.wp (v := (.int .u32 (((xs.getD i 0)) % 8388608))) (Ex.rem rfl rfl (Z := ((xs.getD i 0)) % 8388608) (by omega) (rem64 (by omega) (by omega))) (by decide)) (fun _ _ => ?_)
      refine GL.stepG (tj := 63) rfl rfl (Ex.wp (v := (.bool (decide ((((xs.getD i 0)) % 8388608) ≠ 0)))) (Ex.neq rfl rfl) (by decide)) (fun _ _ => ?_)
      refine GL.val (v := (.bool (decide ((((xs.getD i 0)) % 8388608) ≠ 0)))) (Ex.pickT rfl rfl) (by decide) ?_
      refine GL.nil ?_
      refine GE.thenN ?_
      refine GC.cond rfl (fun hq16 => ?_) (fun hq16 => ?_)
      · replace hq16 := of_decide_eq_true hq16
        refine GC.region ?_
        refine GL.val (Ex.assign rfl) (by decide) ?_
        refine GL.nil ?_
        refine GE.thenN ?_
        refine GC.seq ?_
        refine GC.region ?_
        refine GL.val (v := (.pointer (some ⟨bq10, 2, none⟩))) (Ex.cast (Ex.fieldAddr rfl Try.underlying43 rfl T.sz41 (by decide)) rfl) (by decide) ?_
        refine GL.val (Ex.load rfl T.ag41 (i := 0) rfl rfl) (by decide) ?_
        refine GL.val (Ex.move rfl) (by decide) ?_
        refine GL.val (v := (.pointer (some ⟨xq8, i, none⟩))) (Ex.cast (Ex.indexAddr rfl rfl Try.underlying41 T.sz63 (by omega) (by omega)) (by simp)) (by decide) ?_
        refine GL.val (Ex.load rfl T.ag63 (i := 1) rfl (Bc.cell_at (by rw [List.length_map]; omega))) (by decide) ?_
        refine GL.val (Ex.move rfl) (by decide) ?_
        refine GL.val (v := (.bool false)) (Ex.cast (Ex.neq rfl rfl) (congrArg Value.bool (decide_eq_false (by refine fun h => h ?_; rw [Bc.md_get i (by omega)]; first | exact Bc.md_is (hbu i) (by omega) | exact Bc.md_no (hbu i) (by omega))))) (by decide) ?_
        refine GL.nil ?_
        refine GE.thenN ?_
        refine GC.cond rfl (fun hq17 => by cases hq17) (fun _ => ?_)
        refine GC.skip ?_
        refine GE.blockN ?_
        refine GE.thenN ?_
        refine GC.region ?_
        refine GL.val (Ex.move rfl) (by decide) ?_
        refine GL.val (v := (.int .i64 (((i + 1 : Nat) : Int)))) (Ex.add rfl rfl (Z := ((i + 1 : Nat) : Int)) (addN (b := 1) (by omega))) (by decide) ?_
        refine GL.val (Ex.assign rfl) (by decide) ?_
        refine GL.nil ?_
        refine GE.thenN ?_
        exact Head.mk (i + 1) (by omega) (by omega) ((sub_cons rfl ((sub_cons rfl ((sub_cons rfl ((sub_cons rfl ((sub_cons rfl ((sub_cons rfl ((sub_cons rfl ((sub_cons rfl ((sub_cons rfl ((sub_cons rfl ((sub_nil _)))))))))))))))))))))) (ulC (ulC (ulC ulN)))
      · replace hq16 := of_decide_eq_false hq16
        refine GC.skip ?_
        refine GE.thenN ?_
        refine GC.seq ?_
        refine GC.region ?_
        refine GL.val (v := (.pointer (some ⟨bq10, 2, none⟩))) (Ex.cast (Ex.fieldAddr rfl Try.underlying43 rfl T.sz41 (by decide)) rfl) (by decide) ?_
        refine GL.val (Ex.load rfl T.ag41 (i := 0) rfl rfl) (by decide) ?_
        refine GL.val (Ex.move rfl) (by decide) ?_
        refine GL.val (v := (.pointer (some ⟨xq8, i, none⟩))) (Ex.cast (Ex.indexAddr rfl rfl Try.underlying41 T.sz63 (by omega) (by omega)) (by simp)) (by decide) ?_
        refine GL.val (Ex.load rfl T.ag63 (i := 1) rfl (Bc.cell_at (by rw [List.length_map]; omega))) (by decide) ?_
        refine GL.val (Ex.move rfl) (by decide) ?_
        refine GL.val (v := (.bool false)) (Ex.cast (Ex.neq rfl rfl) (congrArg Value.bool (decide_eq_false (by refine fun h => h ?_; rw [Bc.md_get i (by omega)]; first | exact Bc.md_is (hbu i) (by omega) | exact Bc.md_no (hbu i) (by omega))))) (by decide) ?_
        refine GL.nil ?_
        refine GE.thenN ?_
        refine GC.cond rfl (fun hq18 => by cases hq18) (fun _ => ?_)
        refine GC.skip ?_
        refine GE.blockN ?_
        refine GE.thenN ?_
        refine GC.region ?_
        refine GL.val (Ex.move rfl) (by decide) ?_
        refine GL.val (v := (.int .i64 (((i + 1 : Nat) : Int)))) (Ex.add rfl rfl (Z := ((i + 1 : Nat) : Int)) (addN (b := 1) (by omega))) (by decide) ?_
        refine GL.val (Ex.assign rfl) (by decide) ?_
        refine GL.nil ?_
        refine GE.thenN ?_
        exact Head.mk (i + 1) (by omega) (by omega) ((sub_cons rfl ((sub_cons rfl ((sub_cons rfl ((sub_cons rfl ((sub_cons rfl ((sub_cons rfl ((sub_cons rfl ((sub_cons rfl ((sub_cons rfl ((sub_cons rfl ((sub_nil _)))))))))))))))))))))) (ulC (ulC (ulC ulN)))
    · refine GL.val (v := (.bool false)) (Ex.cast (Ex.eql rfl rfl) (congrArg Value.bool (decide_eq_false hq15))) (by decide) ?_
      refine GL.val (Ex.move rfl) (by decide) ?_
      refine GL.skipG (tj := 63) rfl rfl rfl (by decide) ?_
      refine GL.skipG (tj := 63) rfl rfl rfl (by decide) ?_
      refine GL.skipG (tj := 63) rfl rfl rfl (by decide) ?_
      refine GL.val (v := (.bool false)) (Ex.pickF rfl rfl) (by decide) ?_
      refine GL.nil ?_
      refine GE.thenN ?_
      refine GC.cond rfl (fun hq19 => by cases hq19) (fun _ => ?_)
      refine GC.skip ?_
      refine GE.thenN ?_
      refine GC.seq ?_
      refine GC.region ?_
      refine GL.val (v := (.pointer (some ⟨bq10, 2, none⟩))) (Ex.cast (Ex.fieldAddr rfl Try.underlying43 rfl T.sz41 (by decide)) rfl) (by decide) ?_
      refine GL.val (Ex.load rfl T.ag41 (i := 0) rfl rfl) (by decide) ?_
      refine GL.val (Ex.move rfl) (by decide) ?_
      refine GL.val (v := (.pointer (some ⟨xq8, i, none⟩))) (Ex.cast (Ex.indexAddr rfl rfl Try.underlying41 T.sz63 (by omega) (by omega)) (by simp)) (by decide) ?_
      refine GL.val (Ex.load rfl T.ag63 (i := 1) rfl (Bc.cell_at (by rw [List.length_map]; omega))) (by decide) ?_
      refine GL.val (Ex.move rfl) (by decide) ?_
      refine GL.val (v := (.bool false)) (Ex.cast (Ex.neq rfl rfl) (congrArg Value.bool (decide_eq_false (by refine fun h => h ?_; rw [Bc.md_get i (by omega)]; first | exact Bc.md_is (hbu i) (by omega) | exact Bc.md_no (hbu i) (by omega))))) (by decide) ?_
      refine GL.nil ?_
      refine GE.thenN ?_
      refine GC.cond rfl (fun hq20 => by cases hq20) (fun _ => ?_)
      refine GC.skip ?_
      refine GE.blockN ?_
      refine GE.thenN ?_
      refine GC.region ?_
      refine GL.val (Ex.move rfl) (by decide) ?_
      refine GL.val (v := (.int .i64 (((i + 1 : Nat) : Int)))) (Ex.add rfl rfl (Z := ((i + 1 : Nat) : Int)) (addN (b := 1) (by omega))) (by decide) ?_
      refine GL.val (Ex.assign rfl) (by decide) ?_
      refine GL.nil ?_
      refine GE.thenN ?_
      exact Head.mk (i + 1) (by omega) (by omega) ((sub_cons rfl ((sub_cons rfl ((sub_cons rfl ((sub_cons rfl ((sub_cons rfl ((sub_cons rfl ((sub_cons rfl ((sub_cons rfl ((sub_cons rfl ((sub_cons rfl ((sub_nil _)))))))))))))))))))))) (ulC (ulC (ulC ulN)))
  · replace hq14 := of_decide_eq_false hq14
    refine GC.exit ?_
    refine GE.thenE ?_
    refine GE.thenE ?_
    refine GE.blockE ?_
    refine GE.thenN ?_
    refine GC.seq ?_
    have hb1 := tmod_bd dx (show (1 : Int) ≤ W by omega)
    have hb2 := tmod_bd dy (show (1 : Int) ≤ H by omega)
    have hr1 := rst_bd dx (show (1 : Int) ≤ W by omega)
    have hr2 := rst_bd dy (show (1 : Int) ≤ H by omega)
    have hdx : (rst dx W).toNat < W := by omega
    have hdy : (rst dy H).toNat < H := by omega
    refine GC.drawP [⟨bq10, [(.int .i64 (((W : Nat) : Int))), (.int .i64 (((H : Nat) : Int))), (.slice (some ⟨xq8, 0, none⟩) (W * H) (W * H))], 43, true⟩, ⟨xq8, (xs.map Bc.md).map u32, 63, true⟩, ⟨bq1, [(.int .i64 (((W : Nat) : Int))), (.int .i64 (((H : Nat) : Int))), (.slice (some ⟨b, o, none⟩) n cap)], 43, true⟩] T.mixed (by kernel_rfl) (by kernel_rfl) (fuel := 21) rfl rfl ?_
    refine GH.take 0 (v := (.int .i64 dx)) rfl (by kernel_rfl) (by kernel_rfl) (by kernel_rfl) (fun _ _ _ h => h) (Ex.move rfl) (ulC (ulC (ulC ulN))) (by decide) ?_
    refine GH.take 1 (v := (.pointer (some ⟨bq1, 0, none⟩))) rfl (by kernel_rfl) (by kernel_rfl) (by kernel_rfl) (fun _ _ _ h => h) (Ex.cast (Ex.fieldAddr rfl Try.underlying43 rfl T.sz3 (by decide)) rfl) (ulC (ulC (ulC ulN))) (by decide) ?_
    refine GH.take 2 (v := (.int .i64 (((W : Nat) : Int)))) rfl (by kernel_rfl) (by kernel_rfl) (by kernel_rfl) (fun _ _ _ h => h) (Ex.load rfl T.ag3 (i := 2) rfl rfl) (ulC (ulC (ulC ulN))) (by decide) ?_
    refine GH.take 3 (v := (.int .i64 (dx.tmod W))) rfl (by kernel_rfl) (by kernel_rfl) (by kernel_rfl) (fun _ _ _ h => h) (Ex.rem rfl rfl (Z := dx.tmod W) (by omega) rfl) (ulC (ulC (ulC ulN))) (by decide) ?_
    refine GH.take 4 (v := (.pointer (some ⟨bq1, 0, none⟩))) rfl (by kernel_rfl) (by kernel_rfl) (by kernel_rfl) (fun _ _ _ h => h) (Ex.cast (Ex.fieldAddr rfl Try.underlying43 rfl T.sz3 (by decide)) rfl) (ulC (ulC (ulC ulN))) (by decide) ?_
    refine GH.take 5 (v := (.int .i64 (((W : Nat) : Int)))) rfl (by kernel_rfl) (by kernel_rfl) (by kernel_rfl) (fun _ _ _ h => h) (Ex.load rfl T.ag3 (i := 2) rfl rfl) (ulC (ulC (ulC ulN))) (by decide) ?_
    refine GH.take 6 (v := (.int .i64 ((dx.tmod W) + (((W : Nat) : Int))))) rfl (by kernel_rfl) (by kernel_rfl) (by kernel_rfl) (fun _ _ _ h => h) (Ex.add rfl rfl (Z := (dx.tmod W) + (((W : Nat) : Int))) (w64 (by omega))) (ulC (ulC (ulC ulN))) (by decide) ?_
    refine GH.take 7 (v := (.pointer (some ⟨bq1, 0, none⟩))) rfl (by kernel_rfl) (by kernel_rfl) (by kernel_rfl) (fun _ _ _ h => h) (Ex.cast (Ex.fieldAddr rfl Try.underlying43 rfl T.sz3 (by decide)) rfl) (ulC (ulC (ulC ulN))) (by decide) ?_
    refine GH.take 8 (v := (.int .i64 (((W : Nat) : Int)))) rfl (by kernel_rfl) (by kernel_rfl) (by kernel_rfl) (fun _ _ _ h => h) (Ex.load rfl T.ag3 (i := 2) rfl rfl) (ulC (ulC (ulC ulN))) (by decide) ?_
    refine GH.take 9 (v := (.int .i64 ((((rst dx W).toNat : Nat) : Int)))) rfl (by kernel_rfl) (by kernel_rfl) (by kernel_rfl) (fun _ _ _ h => h) (Ex.rem rfl rfl (Z := (((rst dx W).toNat : Nat) : Int)) (by omega) (by rw [Int.toNat_of_nonneg hr1.1]; rfl)) (ulC (ulC (ulC ulN))) (by decide) ?_
    refine GH.take 10 (v := (.int .i64 dy)) rfl (by kernel_rfl) (by kernel_rfl) (by kernel_rfl) (fun _ _ _ h => h) (Ex.move rfl) (ulC (ulC (ulC ulN))) (by decide) ?_
    refine GH.take 11 (v := (.pointer (some ⟨bq1, 1, none⟩))) rfl (by kernel_rfl) (by kernel_rfl) (by kernel_rfl) (fun _ _ _ h => h) (Ex.cast (Ex.fieldAddr rfl Try.underlying43 rfl T.sz3 (by decide)) rfl) (ulC (ulC (ulC ulN))) (by decide) ?_
    refine GH.take 12 (v := (.int .i64 (((H : Nat) : Int)))) rfl (by kernel_rfl) (by kernel_rfl) (by kernel_rfl) (fun _ _ _ h => h) (Ex.load rfl T.ag3 (i := 2) rfl rfl) (ulC (ulC (ulC ulN))) (by decide) ?_
    refine GH.take 13 (v := (.int .i64 (dy.tmod H))) rfl (by kernel_rfl) (by kernel_rfl) (by kernel_rfl) (fun _ _ _ h => h) (Ex.rem rfl rfl (Z := dy.tmod H) (by omega) rfl) (ulC (ulC (ulC ulN))) (by decide) ?_
    refine GH.take 14 (v := (.pointer (some ⟨bq1, 1, none⟩))) rfl (by kernel_rfl) (by kernel_rfl) (by kernel_rfl) (fun _ _ _ h => h) (Ex.cast (Ex.fieldAddr rfl Try.underlying43 rfl T.sz3 (by decide)) rfl) (ulC (ulC (ulC ulN))) (by decide) ?_
    refine GH.take 15 (v := (.int .i64 (((H : Nat) : Int)))) rfl (by kernel_rfl) (by kernel_rfl) (by kernel_rfl) (fun _ _ _ h => h) (Ex.load rfl T.ag3 (i := 2) rfl rfl) (ulC (ulC (ulC ulN))) (by decide) ?_
    refine GH.take 16 (v := (.int .i64 ((dy.tmod H) + (((H : Nat) : Int))))) rfl (by kernel_rfl) (by kernel_rfl) (by kernel_rfl) (fun _ _ _ h => h) (Ex.add rfl rfl (Z := (dy.tmod H) + (((H : Nat) : Int))) (w64 (by omega))) (ulC (ulC (ulC ulN))) (by decide) ?_
    refine GH.take 17 (v := (.pointer (some ⟨bq1, 1, none⟩))) rfl (by kernel_rfl) (by kernel_rfl) (by kernel_rfl) (fun _ _ _ h => h) (Ex.cast (Ex.fieldAddr rfl Try.underlying43 rfl T.sz3 (by decide)) rfl) (ulC (ulC (ulC ulN))) (by decide) ?_
    refine GH.take 18 (v := (.int .i64 (((H : Nat) : Int)))) rfl (by kernel_rfl) (by kernel_rfl) (by kernel_rfl) (fun _ _ _ h => h) (Ex.load rfl T.ag3 (i := 2) rfl rfl) (ulC (ulC (ulC ulN))) (by decide) ?_
    refine GH.take 19 (v := (.int .i64 ((((rst dy H).toNat : Nat) : Int)))) rfl (by kernel_rfl) (by kernel_rfl) (by kernel_rfl) (fun _ _ _ h => h) (Ex.rem rfl rfl (Z := (((rst dy H).toNat : Nat) : Int)) (by omega) (by rw [Int.toNat_of_nonneg hr2.1]; rfl)) (ulC (ulC (ulC ulN))) (by decide) ?_
    refine GH.take 20 (v := (.int .i64 ((((rst dx W).toNat : Nat) : Int)))) rfl (by kernel_rfl) (by kernel_rfl) (by kernel_rfl) (fun _ _ _ h => h) (Ex.assign rfl) (ulC (ulC (ulC ulN))) (by decide) ?_
    refine GH.done (by kernel_rfl) ?_
    refine GE.thenN ?_
    refine GE.tail rfl (Ex.wp (v := (.int .i64 ((((rst dy H).toNat : Nat) : Int)))) (Ex.assign rfl) (by decide)) (fun _ _ => ?_)
    refine GE.thenN ?_
    refine GC.seq ?_
    refine GC.region ?_
    refine GL.val (v := (.agg #[(.int .i64 (((W : Nat) : Int))), (.int .i64 (((H : Nat) : Int))), (.slice (some ⟨b, o, none⟩) n cap)])) (Ex.loadA rfl T.ag43 T.sz43 (i := 2) rfl (vs := [(.int .i64 (((W : Nat) : Int))), (.int .i64 (((H : Nat) : Int))), (.slice (some ⟨b, o, none⟩) n cap)]) rfl rfl) (by decide) ?_
    refine GL.step (Stp.callR (vs := [(.agg #[(.int .i64 (((W : Nat) : Int))), (.int .i64 (((H : Nat) : Int))), (.slice (some ⟨b, o, none⟩) n cap)]), (.int .i64 3)]) rfl rfl T.own26 (by decide) (fun wc hw => grad_ok W H n cap b o 3 xs wc (by decide) hok hn hx0 hu (hw.rd hr (fun x => x)))) (fun xq21 hq22 => ?_)
    refine GL.val (Ex.move rfl) (by decide) ?_
    refine GL.val (Ex.extract rfl rfl) (by decide) ?_
    refine GL.val (Ex.extract rfl rfl) (by decide) ?_
    refine GL.val (Ex.extract rfl rfl) (by decide) ?_
    refine GL.step (Stp.alloc T.zr43 (by decide)) (fun bq23 _ => ?_)
    refine GL.step (Stp.alloc T.zr43 (by decide)) (fun bq24 _ => ?_)
    refine GL.step (Stp.st1 (cs' := [(.int .i64 (((W : Nat) : Int))), (.int .i64 (((H : Nat) : Int))), (.slice (some ⟨xq21.1, 0, none⟩) (W * H) (W * H))]) rfl rfl rfl T.sz43 rfl rfl rfl) (fun _ _ => ?_)
    refine GL.step (Stp.st0 (cs' := [(.int .i64 (((W : Nat) : Int))), (.int .i64 (((H : Nat) : Int))), (.slice (some ⟨xq21.2, 0, none⟩) (W * H) (W * H))]) rfl rfl rfl T.sz43 rfl rfl rfl) (fun _ _ => ?_)
    refine GL.val (Ex.assign rfl) (by decide) ?_
    refine GL.nil ?_
    refine GE.thenN ?_
    refine GC.seq ?_
    refine GC.region ?_
    refine GL.val (v := (.agg #[(.int .i64 (((W : Nat) : Int))), (.int .i64 (((H : Nat) : Int))), (.slice (some ⟨b, o, none⟩) n cap)])) (Ex.loadA rfl T.ag43 T.sz43 (i := 6) rfl (vs := [(.int .i64 (((W : Nat) : Int))), (.int .i64 (((H : Nat) : Int))), (.slice (some ⟨b, o, none⟩) n cap)]) rfl rfl) (by decide) ?_
    refine GL.val (Ex.move rfl) (by decide) ?_
    refine GL.val (Ex.move rfl) (by decide) ?_
    refine GL.step (Stp.callR (vs := [(.agg #[(.int .i64 (((W : Nat) : Int))), (.int .i64 (((H : Nat) : Int))), (.slice (some ⟨b, o, none⟩) n cap)]), (.int .i64 ((((rst dx W).toNat : Nat) : Int))), (.int .i64 ((((rst dy H).toNat : Nat) : Int)))]) rfl rfl T.own32 (by decide) (fun wc hw => moved_p W H n cap b o xs ((rst dx W).toNat) ((rst dy H).toNat) wc hok hn hx0 (hw.rd hr (fun x => x)) hdx hdy)) (fun xq25 hq26 => ?_)
    refine GL.step (Stp.callR (σ := Nat × Nat) (p := fun rz => True) (v := fun rz => (.tuple #[(.agg #[(.int .i64 (((W : Nat) : Int))), (.int .i64 (((H : Nat) : Int))), (.slice (some ⟨rz.1, 0, none⟩) (W * H) (W * H))]), (.agg #[(.int .i64 (((W : Nat) : Int))), (.int .i64 (((H : Nat) : Int))), (.slice (some ⟨rz.2, 0, none⟩) (W * H) (W * H))]), (.int .i64 0)])) (N := fun rz => [⟨rz.2, (Bc.mvd (tab W (fun x y => Bg.sly xs W H 3 x y) (W * H)) W H (rst dx W).toNat (rst dy H).toNat).map u32, 63, true⟩, ⟨rz.1, (Bc.mvd (tab W (fun x y => Bg.slx xs W 3 x y) (W * H)) W H (rst dx W).toNat (rst dy H).toNat).map u32, 63, true⟩]) (vs := [(.agg #[(.int .i64 (((W : Nat) : Int))), (.int .i64 (((H : Nat) : Int))), (.slice (some ⟨xq25.1, 0, none⟩) n xq25.2.1)]), (.int .i64 3)]) rfl rfl T.own26 (by decide) (fun wc hw => (by have h := grad_ok W H n xq25.2.1 xq25.1 0 3 (Bc.mvd xs W H (rst dx W).toNat (rst dy H).toNat) wc (by decide) hok hn (Bc.mvd_len.trans hn.symm) (Bc.mvd_bd hu) (Bc.pre_rd (hw.rdOf (i := 0) rfl 0)); rw [Bc.slx_mv hok hdx hdy, Bc.sly_mv hok hdx hdy] at h; exact h))) (fun xq27 hq28 => ?_)
    refine GL.val (Ex.move rfl) (by decide) ?_
    refine GL.val (Ex.extract rfl rfl) (by decide) ?_
    refine GL.val (Ex.extract rfl rfl) (by decide) ?_
    refine GL.val (Ex.extract rfl rfl) (by decide) ?_
    refine GL.step (Stp.alloc T.zr43 (by decide)) (fun bq29 _ => ?_)
    refine GL.step (Stp.alloc T.zr43 (by decide)) (fun bq30 _ => ?_)
    refine GL.step (Stp.st1 (cs' := [(.int .i64 (((W : Nat) : Int))), (.int .i64 (((H : Nat) : Int))), (.slice (some ⟨xq27.1, 0, none⟩) (W * H) (W * H))]) rfl rfl rfl T.sz43 rfl rfl rfl) (fun _ _ => ?_)
    refine GL.step (Stp.st0 (cs' := [(.int .i64 (((W : Nat) : Int))), (.int .i64 (((H : Nat) : Int))), (.slice (some ⟨xq27.2, 0, none⟩) (W * H) (W * H))]) rfl rfl rfl T.sz43 rfl rfl rfl) (fun _ _ => ?_)
    refine GL.val (Ex.assign rfl) (by decide) ?_
    refine GL.nil ?_
    refine GE.thenN ?_
    refine GC.seq ?_
    refine GC.drawP [⟨bq30, [(.int .i64 (((W : Nat) : Int))), (.int .i64 (((H : Nat) : Int))), (.slice (some ⟨xq27.2, 0, none⟩) (W * H) (W * H))], 43, true⟩, ⟨bq29, [(.int .i64 (((W : Nat) : Int))), (.int .i64 (((H : Nat) : Int))), (.slice (some ⟨xq27.1, 0, none⟩) (W * H) (W * H))], 43, true⟩, ⟨xq27.2, (Bc.mvd (tab W (fun x y => Bg.sly xs W H 3 x y) (W * H)) W H (rst dx W).toNat (rst dy H).toNat).map u32, 63, true⟩, ⟨xq27.1, (Bc.mvd (tab W (fun x y => Bg.slx xs W 3 x y) (W * H)) W H (rst dx W).toNat (rst dy H).toNat).map u32, 63, true⟩, ⟨xq25.1, (Bc.mvd xs W H ((rst dx W).toNat) ((rst dy H).toNat)).map u32 ++ xq25.2.2, 63, true⟩, ⟨bq24, [(.int .i64 (((W : Nat) : Int))), (.int .i64 (((H : Nat) : Int))), (.slice (some ⟨xq21.2, 0, none⟩) (W * H) (W * H))], 43, true⟩, ⟨bq23, [(.int .i64 (((W : Nat) : Int))), (.int .i64 (((H : Nat) : Int))), (.slice (some ⟨xq21.1, 0, none⟩) (W * H) (W * H))], 43, true⟩, ⟨xq21.2, (tab W (fun x y => Bg.sly xs W H 3 x y) (W * H)).map u32, 63, true⟩, ⟨xq21.1, (tab W (fun x y => Bg.slx xs W 3 x y) (W * H)).map u32, 63, true⟩, ⟨bq10, [(.int .i64 (((W : Nat) : Int))), (.int .i64 (((H : Nat) : Int))), (.slice (some ⟨xq8, 0, none⟩) (W * H) (W * H))], 43, true⟩, ⟨xq8, (xs.map Bc.md).map u32, 63, true⟩, ⟨bq1, [(.int .i64 (((W : Nat) : Int))), (.int .i64 (((H : Nat) : Int))), (.slice (some ⟨b, o, none⟩) n cap)], 43, true⟩] T.mixed (by kernel_rfl) (by kernel_rfl) (fuel := 22) rfl rfl ?_
    refine GH.take 0 (v := (.int .i64 0)) rfl (by kernel_rfl) (by kernel_rfl) (by kernel_rfl) (fun _ _ _ h => h) (Ex.move rfl) (ulC (ulC (ulC (ulC (ulC (ulC (ulC (ulC (ulC (ulC (ulC (ulC ulN)))))))))))) (by decide) ?_
    refine GH.take 2 (v := (.int .i64 0)) rfl (by kernel_rfl) (by kernel_rfl) (by kernel_rfl) (fun _ _ _ h => h) (Ex.move rfl) (ulC (ulC (ulC (ulC (ulC (ulC (ulC (ulC (ulC (ulC (ulC (ulC ulN)))))))))))) (by decide) ?_
    refine GH.one 1 rfl (by kernel_rfl) (Stp.callR (vs := [(.int .i64 0)]) rfl rfl T.own15 (by decide) (fun wc hw => num 0 wc)) (fun _ => (ulC (ulC (ulC (ulC (ulC (ulC (ulC (ulC (ulC (ulC (ulC (ulC ulN))))))))))))) (fun xq43 hq44 => ?_)
    refine GH.one 3 rfl (by kernel_rfl) (Stp.callR (vs := [(.int .i64 0)]) rfl rfl T.own15 (by decide) (fun wc hw => num 0 wc)) (fun _ => (ulC (ulC (ulC (ulC (ulC (ulC (ulC (ulC (ulC (ulC (ulC (ulC ulN))))))))))))) (fun xq45 hq46 => ?_)
    refine GH.take 4 (v := (.int .i64 0)) rfl (by kernel_rfl) (by kernel_rfl) (by kernel_rfl) (fun _ _ _ h => h) (Ex.add rfl rfl (Z := 0) (by decide)) (ulC (ulC (ulC (ulC (ulC (ulC (ulC (ulC (ulC (ulC (ulC (ulC ulN)))))))))))) (by decide) ?_
    refine GH.take 5 (v := (.bool true)) rfl (by kernel_rfl) (by kernel_rfl) (by kernel_rfl) (fun _ _ _ h => h) (Ex.cast (Ex.eql rfl rfl) rfl) (ulC (ulC (ulC (ulC (ulC (ulC (ulC (ulC (ulC (ulC (ulC (ulC ulN)))))))))))) (by decide) ?_
    refine GH.take 6 (v := (.bool true)) rfl (by kernel_rfl) (by kernel_rfl) (by kernel_rfl) (fun _ _ _ h => h) (Ex.move rfl) (ulC (ulC (ulC (ulC (ulC (ulC (ulC (ulC (ulC (ulC (ulC (ulC ulN)))))))))))) (by decide) ?_
    refine GH.takeG 7 (tj := 116) (v := (.agg #[(.int .i64 (((W : Nat) : Int))), (.int .i64 (((H : Nat) : Int))), (.slice (some ⟨xq27.1, 0, none⟩) (W * H) (W * H))])) rfl rfl rfl (by kernel_rfl) (by kernel_rfl) (by kernel_rfl) (fun _ _ _ h => h) (Ex.loadA rfl T.ag43 T.sz43 (i := 1) rfl (vs := [(.int .i64 (((W : Nat) : Int))), (.int .i64 (((H : Nat) : Int))), (.slice (some ⟨xq27.1, 0, none⟩) (W * H) (W * H))]) rfl rfl) (ulC (ulC (ulC (ulC (ulC (ulC (ulC (ulC (ulC (ulC (ulC (ulC ulN)))))))))))) (by decide) ?_
    refine GH.takeG 8 (tj := 116) (v := (.agg #[(.int .i64 (((W : Nat) : Int))), (.int .i64 (((H : Nat) : Int))), (.slice (some ⟨xq21.1, 0, none⟩) (W * H) (W * H))])) rfl rfl rfl (by kernel_rfl) (by kernel_rfl) (by kernel_rfl) (fun _ _ _ h => h) (Ex.loadA rfl T.ag43 T.sz43 (i := 6) rfl (vs := [(.int .i64 (((W : Nat) : Int))), (.int .i64 (((H : Nat) : Int))), (.slice (some ⟨xq21.1, 0, none⟩) (W * H) (W * H))]) rfl rfl) (ulC (ulC (ulC (ulC (ulC (ulC (ulC (ulC (ulC (ulC (ulC (ulC ulN)))))))))))) (by decide) ?_
    refine GH.takeG 9 (tj := 116) (v := (.int .i64 ((((rst dx W).toNat : Nat) : Int)))) rfl rfl rfl (by kernel_rfl) (by kernel_rfl) (by kernel_rfl) (fun _ _ _ h => h) (Ex.move rfl) (ulC (ulC (ulC (ulC (ulC (ulC (ulC (ulC (ulC (ulC (ulC (ulC ulN)))))))))))) (by decide) ?_
    refine GH.takeG 10 (tj := 116) (v := (.int .i64 ((((rst dy H).toNat : Nat) : Int)))) rfl rfl rfl (by kernel_rfl) (by kernel_rfl) (by kernel_rfl) (fun _ _ _ h => h) (Ex.move rfl) (ulC (ulC (ulC (ulC (ulC (ulC (ulC (ulC (ulC (ulC (ulC (ulC ulN)))))))))))) (by decide) ?_
    refine GH.oneG 11 (tj := 116) rfl rfl rfl (by kernel_rfl) (Stp.callR (vs := [(.agg #[(.int .i64 (((W : Nat) : Int))), (.int .i64 (((H : Nat) : Int))), (.slice (some ⟨xq21.1, 0, none⟩) (W * H) (W * H))]), (.int .i64 ((((rst dx W).toNat : Nat) : Int))), (.int .i64 ((((rst dy H).toNat : Nat) : Int)))]) rfl rfl T.own32 (by decide) (fun wc hw => moved_p W H (W * H) (W * H) xq21.1 0 (tab W (fun x y => Bg.slx xs W 3 x y) (W * H)) ((rst dx W).toNat) ((rst dy H).toNat) wc hok rfl (tab_len _ _ _) (hw.rdOf (i := 8) rfl 0) hdx hdy)) (fun _ => (ulS (ulC (ulC (ulC (ulC (ulC (ulC (ulC (ulC (ulC (ulC (ulC (ulC ulN)))))))))))))) (fun xq47 hq48 => ?_)
    refine GH.oneG 12 (tj := 116) rfl rfl rfl (by kernel_rfl) (Stp.callR (vs := [(.agg #[(.int .i64 (((W : Nat) : Int))), (.int .i64 (((H : Nat) : Int))), (.slice (some ⟨xq27.1, 0, none⟩) (W * H) (W * H))]), (.agg #[(.int .i64 (((W : Nat) : Int))), (.int .i64 (((H : Nat) : Int))), (.slice (some ⟨xq47.1, 0, none⟩) (W * H) xq47.2.1)])]) rfl rfl T.own22 (by decide) (fun wc hw => help_eq (((W : Nat) : Int)) (((H : Nat) : Int)) xq27.1 0 xq47.1 0 (W * H) (W * H) xq47.2.1 (Bc.mvd (tab W (fun x y => Bg.slx xs W 3 x y) (W * H)) W H ((rst dx W).toNat) ((rst dy H).toNat)) wc (tab_len _ _ _) (by have h' := hok.2.2.2.2; omega) (hw.rdOf (i := 4) rfl 0) (Bc.pre_rd (hw.rdOf (i := 0) rfl 0)))) (fun _ => (ulS (ulC (ulC (ulC (ulC (ulC (ulC (ulC (ulC (ulC (ulC (ulC (ulC ulN)))))))))))))) (fun xq49 hq50 => ?_)
    refine GH.take 13 (v := (.bool true)) rfl (by kernel_rfl) (by kernel_rfl) (by kernel_rfl) (fun _ _ _ h => h) (Ex.pickT rfl rfl) (ulS (ulC (ulC (ulC (ulC (ulC (ulC (ulC (ulC (ulC (ulC (ulC (ulC ulN))))))))))))) (by decide) ?_
    refine GH.take 14 (v := (.bool true)) rfl (by kernel_rfl) (by kernel_rfl) (by kernel_rfl) (fun _ _ _ h => h) (Ex.move rfl) (ulS (ulC (ulC (ulC (ulC (ulC (ulC (ulC (ulC (ulC (ulC (ulC (ulC ulN))))))))))))) (by decide) ?_
    refine GH.takeG 15 (tj := 124) (v := (.agg #[(.int .i64 (((W : Nat) : Int))), (.int .i64 (((H : Nat) : Int))), (.slice (some ⟨xq27.2, 0, none⟩) (W * H) (W * H))])) rfl rfl rfl (by kernel_rfl) (by kernel_rfl) (by kernel_rfl) (fun _ _ _ h => h) (Ex.loadA rfl T.ag43 T.sz43 (i := 0) rfl (vs := [(.int .i64 (((W : Nat) : Int))), (.int .i64 (((H : Nat) : Int))), (.slice (some ⟨xq27.2, 0, none⟩) (W * H) (W * H))]) rfl rfl) (ulS (ulC (ulC (ulC (ulC (ulC (ulC (ulC (ulC (ulC (ulC (ulC (ulC ulN))))))))))))) (by decide) ?_
    refine GH.takeG 16 (tj := 124) (v := (.agg #[(.int .i64 (((W : Nat) : Int))), (.int .i64 (((H : Nat) : Int))), (.slice (some ⟨xq21.2, 0, none⟩) (W * H) (W * H))])) rfl rfl rfl (by kernel_rfl) (by kernel_rfl) (by kernel_rfl) (fun _ _ _ h => h) (Ex.loadA rfl T.ag43 T.sz43 (i := 5) rfl (vs := [(.int .i64 (((W : Nat) : Int))), (.int .i64 (((H : Nat) : Int))), (.slice (some ⟨xq21.2, 0, none⟩) (W * H) (W * H))]) rfl rfl) (ulS (ulC (ulC (ulC (ulC (ulC (ulC (ulC (ulC (ulC (ulC (ulC (ulC ulN))))))))))))) (by decide) ?_
    refine GH.takeG 17 (tj := 124) (v := (.int .i64 ((((rst dx W).toNat : Nat) : Int)))) rfl rfl rfl (by kernel_rfl) (by kernel_rfl) (by kernel_rfl) (fun _ _ _ h => h) (Ex.move rfl) (ulS (ulC (ulC (ulC (ulC (ulC (ulC (ulC (ulC (ulC (ulC (ulC (ulC ulN))))))))))))) (by decide) ?_
    refine GH.takeG 18 (tj := 124) (v := (.int .i64 ((((rst dy H).toNat : Nat) : Int)))) rfl rfl rfl (by kernel_rfl) (by kernel_rfl) (by kernel_rfl) (fun _ _ _ h => h) (Ex.move rfl) (ulS (ulC (ulC (ulC (ulC (ulC (ulC (ulC (ulC (ulC (ulC (ulC (ulC ulN))))))))))))) (by decide) ?_
    refine GH.oneG 19 (tj := 124) rfl rfl rfl (by kernel_rfl) (Stp.callR (vs := [(.agg #[(.int .i64 (((W : Nat) : Int))), (.int .i64 (((H : Nat) : Int))), (.slice (some ⟨xq21.2, 0, none⟩) (W * H) (W * H))]), (.int .i64 ((((rst dx W).toNat : Nat) : Int))), (.int .i64 ((((rst dy H).toNat : Nat) : Int)))]) rfl rfl T.own32 (by decide) (fun wc hw => moved_p W H (W * H) (W * H) xq21.2 0 (tab W (fun x y => Bg.sly xs W H 3 x y) (W * H)) ((rst dx W).toNat) ((rst dy H).toNat) wc hok rfl (tab_len _ _ _) (hw.rdOf (i := 8) rfl 0) hdx hdy)) (fun _ => (ulS (ulS (ulC (ulC (ulC (ulC (ulC (ulC (ulC (ulC (ulC (ulC (ulC (ulC ulN))))))))))))))) (fun xq51 hq52 => ?_)
    refine GH.oneG 20 (tj := 124) rfl rfl rfl (by kernel_rfl) (Stp.callR (vs := [(.agg #[(.int .i64 (((W : Nat) : Int))), (.int .i64 (((H : Nat) : Int))), (.slice (some ⟨xq27.2, 0, none⟩) (W * H) (W * H))]), (.agg #[(.int .i64 (((W : Nat) : Int))), (.int .i64 (((H : Nat) : Int))), (.slice (some ⟨xq51.1, 0, none⟩) (W * H) xq51.2.1)])]) rfl rfl T.own22 (by decide) (fun wc hw => help_eq (((W : Nat) : Int)) (((H : Nat) : Int)) xq27.2 0 xq51.1 0 (W * H) (W * H) xq51.2.1 (Bc.mvd (tab W (fun x y => Bg.sly xs W H 3 x y) (W * H)) W H ((rst dx W).toNat) ((rst dy H).toNat)) wc (tab_len _ _ _) (by have h' := hok.2.2.2.2; omega) (hw.rdOf (i := 4) rfl 0) (Bc.pre_rd (hw.rdOf (i := 0) rfl 0)))) (fun _ => (ulS (ulS (ulC (ulC (ulC (ulC (ulC (ulC (ulC (ulC (ulC (ulC (ulC (ulC ulN))))))))))))))) (fun xq53 hq54 => ?_)
    refine GH.take 21 (v := (.bool true)) rfl (by kernel_rfl) (by kernel_rfl) (by kernel_rfl) (fun _ _ _ h => h) (Ex.pickT rfl rfl) (ulS (ulS (ulC (ulC (ulC (ulC (ulC (ulC (ulC (ulC (ulC (ulC (ulC (ulC ulN)))))))))))))) (by decide) ?_
    refine GH.done (by kernel_rfl) ?_
    refine GE.thenN ?_
    refine GE.tail rfl (Ex.wp (v := (.bool true)) (Ex.assign rfl) (by decide)) (fun _ _ => ?_)
    refine GE.thenN ?_
    refine GC.ret ?_
    refine GC.ret1 rfl (Rv.tmp rfl) (fun wN HN => ?_)
    exact HN.ret () trivial rfl (List.nil_sublist _) rfl

set_option maxRecDepth 100000 in
set_option maxHeartbeats 1000000 in
theorem no_bad (W H : Int) (ad : Option Addr) (n cap : Nat) (kd k dx dy : Int) (w : World) (hri : Bc.rightB W H n kd 0 k = false) :
    Calls Try.prog 8 #[(.agg #[(.int .i64 W), (.int .i64 H), (.slice ad n cap)]), (.int .i64 kd), (.int .i64 k), (.int .i64 dx), (.int .i64 dy)] w (Ret w (fun _ : Unit => True) (fun _ => .bool true) (fun _ => [])) := by
  refine enter (M := None) (L := []) (n := 132) (l := [(0, (.agg #[(.int .i64 W), (.int .i64 H), (.slice ad n cap)])), (1, (.int .i64 kd)), (2, (.int .i64 k)), (3, (.int .i64 dx)), (4, (.int .i64 dy))]) Try.func8 rfl rfl (Args.cons rfl (Args.cons rfl (Args.cons rfl (Args.cons rfl (Args.cons rfl (Args.nil _)))))) (Hp.start _ _) ?_
  refine GC.seq ?_
  refine GC.region ?_
  refine GL.step (Stp.box (cs := [(.int .i64 W), (.int .i64 H), (.slice ad n cap)]) rfl rfl (by decide)) (fun bq1 _ => ?_)
  refine GL.val (Ex.assign rfl) (by decide) ?_
  refine GL.nil ?_
  refine GE.thenN ?_
  refine GC.seq ?_
  refine GC.seq ?_
  refine GC.region ?_
  refine GL.step (Stp.callR (vs := []) rfl rfl T.own12 (by decide) (fun wc hw => known wc)) (fun xq2 hq3 => ?_)
  refine GL.val (v := (.bool false)) (Ex.cast (Ex.not rfl) rfl) (by decide) ?_
  refine GL.nil ?_
  refine GE.thenN ?_
  refine GC.cond rfl (fun hq4 => by cases hq4) (fun _ => ?_)
  refine GC.skip ?_
  refine GE.thenN ?_
  refine GC.seq ?_
  refine GC.seq ?_
  refine GC.region ?_
  refine GL.val (v := (.agg #[(.int .i64 W), (.int .i64 H), (.slice ad n cap)])) (Ex.loadA rfl T.ag43 T.sz43 (i := 0) rfl (vs := [(.int .i64 W), (.int .i64 H), (.slice ad n cap)]) rfl rfl) (by decide) ?_
  refine GL.val (Ex.move rfl) (by decide) ?_
  refine GL.val (Ex.move rfl) (by decide) ?_
  refine GL.step (Stp.callR (vs := [(.agg #[(.int .i64 W), (.int .i64 H), (.slice ad n cap)]), (.int .i64 kd), (.int .i64 0), (.int .i64 k)]) rfl rfl T.own27 (by decide) (fun wc hw => right_p W H ad n cap kd 0 k wc)) (fun xq5 hq6 => ?_)
  refine GL.val (v := (.bool (!(Bc.rightB W H n kd 0 k)))) (Ex.not rfl) (by decide) ?_
  refine GL.nil ?_
  refine GE.thenN ?_
  refine GC.cond rfl (fun _ => ?_) (fun hq7 => by exfalso; simp [hri] at hq7)
  refine GC.seq ?_
  refine GC.region ?_
  refine GL.val (Ex.assign rfl) (by decide) ?_
  refine GL.nil ?_
  refine GE.thenN ?_
  refine GC.ret ?_
  refine GE.thenR ?_
  refine GC.ret1 rfl (Rv.tmp rfl) (fun wN HN => ?_)
  exact HN.ret () trivial rfl (List.nil_sublist _) rfl

theorem lawNothing (W H : Int) (ad : Option Addr) (n cap : Nat) (kd k dx dy : Int) (xs : List Int) (w : World) (hl : Lst w ad n xs) (hb : n ≤ 35184372087808) :
    Calls Try.prog 8 #[(.agg #[(.int .i64 W), (.int .i64 H), (.slice ad n cap)]), .int .i64 kd, .int .i64 k, .int .i64 dx, .int .i64 dy] w (Ret w (fun _ : Unit => True) (fun _ => .bool true) (fun _ => [])) := by
  cases h : Bc.rightB W H n kd 0 k with
  | false => exact no_bad W H ad n cap kd k dx dy w h
  | true =>
    obtain ⟨hc, hkd, h1, h2, hk⟩ := of_decide_eq_true h
    obtain ⟨w', h', rfl, rfl, hok, hn⟩ := chk_zero hc
    have g1 := hl
    obtain ⟨_, _, _, q⟩ := g1
    rcases q with q | ⟨b, o, rfl, hr⟩
    · exfalso; have h5 := Nat.mul_pos (show 0 < w' from hok.1) (show 0 < h' from hok.2.1); omega
    · exact no_ok w' h' n cap b o kd k dx dy xs w hok hn hl.1 hl.2.1 hr hk hkd

end Go.Proofs.Ytjbpdhofhhinhaa.C
