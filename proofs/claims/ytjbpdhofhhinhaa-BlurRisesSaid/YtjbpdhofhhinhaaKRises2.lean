/- BlurRises: what its code does, walked. -/
import Derived.Test.YtjbpdhofhhinhaaKRises1
namespace Go.Proofs.Ytjbpdhofhhinhaa.C
open Go Go.RowKit Sx
set_option linter.unusedVariables false
set_option maxRecDepth 100000 in
set_option maxHeartbeats 1000000 in
theorem right_p (W H : Int) (ad : Option Addr) (n cap : Nat) (kd r k : Int) (w : World) :
    Calls Try.prog 27 #[(.agg #[(.int .i64 W), (.int .i64 H), (.slice ad n cap)]), (.int .i64 kd), (.int .i64 r), (.int .i64 k)] w (Ret w (fun _ : Unit => True) (fun _ => .bool (Bc.rightB W H n kd r k)) (fun _ => [])) := by
  refine enter (M := None) (L := []) (n := 36) (l := [(0, (.agg #[(.int .i64 W), (.int .i64 H), (.slice ad n cap)])), (1, (.int .i64 kd)), (2, (.int .i64 r)), (3, (.int .i64 k))]) Try.func27 rfl rfl (Args.cons rfl (Args.cons rfl (Args.cons rfl (Args.cons rfl (Args.nil _))))) (Hp.start _ _) ?_
  refine GC.seq ?_
  refine GC.region ?_
  refine GL.step (Stp.box (cs := [(.int .i64 W), (.int .i64 H), (.slice ad n cap)]) rfl rfl (by decide)) (fun bq1 _ => ?_)
  refine GL.val (Ex.assign rfl) (by decide) ?_
  refine GL.nil ?_
  refine GE.thenN ?_
  refine GC.seq ?_
  refine GC.region ?_
  refine GL.val (v := (.agg #[(.int .i64 W), (.int .i64 H), (.slice ad n cap)])) (Ex.loadA rfl T.ag43 T.sz43 (i := 0) rfl (vs := [(.int .i64 W), (.int .i64 H), (.slice ad n cap)]) rfl rfl) (by decide) ?_
  refine GL.step (Stp.callR (vs := [(.agg #[(.int .i64 W), (.int .i64 H), (.slice ad n cap)])]) rfl rfl T.own28 (by decide) (fun wc hw => may W H ad n cap wc)) (fun xq2 hq3 => ?_)
  by_cases hq4 : ((chk W H n)) = 0
  · refine GL.val (v := (.bool true)) (Ex.cast (Ex.eql rfl rfl) (congrArg Value.bool (decide_eq_true hq4))) (by decide) ?_
    refine GL.val (Ex.move rfl) (by decide) ?_
    refine GL.stepG (tj := 12) rfl rfl (Ex.wp (v := (.int .i64 kd)) (Ex.move rfl) (by decide)) (fun _ _ => ?_)
    by_cases hq5 : kd = 1
    · refine GL.stepG (tj := 12) rfl rfl (Ex.wp (v := (.bool true)) (Ex.cast (Ex.eql rfl rfl) (congrArg Value.bool (decide_eq_true hq5))) (by decide)) (fun _ _ => ?_)
      refine GL.stepG (tj := 12) rfl rfl (Ex.wp (v := (.bool true)) (Ex.move rfl) (by decide)) (fun _ _ => ?_)
      refine GL.skipG (tj := 15) rfl rfl rfl (by decide) ?_
      refine GL.skipG (tj := 15) rfl rfl rfl (by decide) ?_
      refine GL.stepG (tj := 12) rfl rfl (Ex.wp (v := (.bool true)) (Ex.pickT rfl rfl) (by decide)) (fun _ _ => ?_)
      refine GL.val (v := (.bool true)) (Ex.pickT rfl rfl) (by decide) ?_
      refine GL.val (Ex.move rfl) (by decide) ?_
      refine GL.stepG (tj := 20) rfl rfl (Ex.wp (v := (.int .i64 r)) (Ex.move rfl) (by decide)) (fun _ _ => ?_)
      by_cases hq6 : 0 ≤ r
      · refine GL.stepG (tj := 20) rfl rfl (Ex.wp (v := (.bool true)) (Ex.cast (Ex.geq rfl rfl) (congrArg Value.bool (decide_eq_true hq6))) (by decide)) (fun _ _ => ?_)
        refine GL.val (v := (.bool true)) (Ex.pickT rfl rfl) (by decide) ?_
        refine GL.val (Ex.move rfl) (by decide) ?_
        refine GL.stepG (tj := 24) rfl rfl (Ex.wp (v := (.int .i64 r)) (Ex.move rfl) (by decide)) (fun _ _ => ?_)
        by_cases hq7 : r ≤ 7
        · refine GL.stepG (tj := 24) rfl rfl (Ex.wp (v := (.bool true)) (Ex.cast (Ex.leq rfl rfl) (congrArg Value.bool (decide_eq_true hq7))) (by decide)) (fun _ _ => ?_)
          refine GL.val (v := (.bool true)) (Ex.pickT rfl rfl) (by decide) ?_
          refine GL.val (Ex.move rfl) (by decide) ?_
          refine GL.stepG (tj := 28) rfl rfl (Ex.wp (v := (.int .i64 k)) (Ex.move rfl) (by decide)) (fun _ _ => ?_)
          by_cases hq8 : 1 ≤ k
          · refine GL.stepG (tj := 28) rfl rfl (Ex.wp (v := (.bool true)) (Ex.cast (Ex.geq rfl rfl) (congrArg Value.bool (decide_eq_true hq8))) (by decide)) (fun _ _ => ?_)
            refine GL.val (v := (.bool true)) (Ex.pickT rfl rfl) (by decide) ?_
            refine GL.val (Ex.move rfl) (by decide) ?_
            refine GL.stepG (tj := 32) rfl rfl (Ex.wp (v := (.int .i64 k)) (Ex.move rfl) (by decide)) (fun _ _ => ?_)
            refine GL.stepG (tj := 32) rfl rfl (Ex.wp (v := (.bool (decide (k ≤ 3)))) (Ex.leq rfl rfl) (by decide)) (fun _ _ => ?_)
            refine GL.val (v := (.bool (decide (k ≤ 3)))) (Ex.pickT rfl rfl) (by decide) ?_
            refine GL.val (Ex.assign rfl) (by decide) ?_
            refine GL.nil ?_
            refine GE.thenN ?_
            refine GC.ret ?_
            refine GC.ret1 rfl (Rv.tmp rfl) (fun wN HN => ?_)
            exact HN.ret () trivial (congrArg Value.bool (by exact decide_eq_decide.2 (by omega))) (List.nil_sublist _) rfl
          · refine GL.stepG (tj := 28) rfl rfl (Ex.wp (v := (.bool false)) (Ex.cast (Ex.geq rfl rfl) (congrArg Value.bool (decide_eq_false hq8))) (by decide)) (fun _ _ => ?_)
            refine GL.val (v := (.bool false)) (Ex.pickT rfl rfl) (by decide) ?_
            refine GL.val (Ex.move rfl) (by decide) ?_
            refine GL.skipG (tj := 32) rfl rfl rfl (by decide) ?_
            refine GL.skipG (tj := 32) rfl rfl rfl (by decide) ?_
            refine GL.val (v := (.bool false)) (Ex.pickF rfl rfl) (by decide) ?_
            refine GL.val (Ex.assign rfl) (by decide) ?_
            refine GL.nil ?_
            refine GE.thenN ?_
            refine GC.ret ?_
            refine GC.ret1 rfl (Rv.tmp rfl) (fun wN HN => ?_)
            exact HN.ret () trivial (congrArg Value.bool (by exact (decide_eq_false (by omega)).symm)) (List.nil_sublist _) rfl
        · refine GL.stepG (tj := 24) rfl rfl (Ex.wp (v := (.bool false)) (Ex.cast (Ex.leq rfl rfl) (congrArg Value.bool (decide_eq_false hq7))) (by decide)) (fun _ _ => ?_)
          refine GL.val (v := (.bool false)) (Ex.pickT rfl rfl) (by decide) ?_
          refine GL.val (Ex.move rfl) (by decide) ?_
          refine GL.skipG (tj := 28) rfl rfl rfl (by decide) ?_
          refine GL.skipG (tj := 28) rfl rfl rfl (by decide) ?_
          refine GL.val (v := (.bool false)) (Ex.pickF rfl rfl) (by decide) ?_
          refine GL.val (Ex.move rfl) (by decide) ?_
          refine GL.skipG (tj := 32) rfl rfl rfl (by decide) ?_
          refine GL.skipG (tj := 32) rfl rfl rfl (by decide) ?_
          refine GL.val (v := (.bool false)) (Ex.pickF rfl rfl) (by decide) ?_
          refine GL.val (Ex.assign rfl) (by decide) ?_
          refine GL.nil ?_
          refine GE.thenN ?_
          refine GC.ret ?_
          refine GC.ret1 rfl (Rv.tmp rfl) (fun wN HN => ?_)
          exact HN.ret () trivial (congrArg Value.bool (by exact (decide_eq_false (by omega)).symm)) (List.nil_sublist _) rfl
      · refine GL.stepG (tj := 20) rfl rfl (Ex.wp (v := (.bool false)) (Ex.cast (Ex.geq rfl rfl) (congrArg Value.bool (decide_eq_false hq6))) (by decide)) (fun _ _ => ?_)
        refine GL.val (v := (.bool false)) (Ex.pickT rfl rfl) (by decide) ?_
        refine GL.val (Ex.move rfl) (by decide) ?_
        refine GL.skipG (tj := 24) rfl rfl rfl (by decide) ?_
        refine GL.skipG (tj := 24) rfl rfl rfl (by decide) ?_
        refine GL.val (v := (.bool false)) (Ex.pickF rfl rfl) (by decide) ?_
        refine GL.val (Ex.move rfl) (by decide) ?_
        refine GL.skipG (tj := 28) rfl rfl rfl (by decide) ?_
        refine GL.skipG (tj := 28) rfl rfl rfl (by decide) ?_
        refine GL.val (v := (.bool false)) (Ex.pickF rfl rfl) (by decide) ?_
        refine GL.val (Ex.move rfl) (by decide) ?_
        refine GL.skipG (tj := 32) rfl rfl rfl (by decide) ?_
        refine GL.skipG (tj := 32) rfl rfl rfl (by decide) ?_
        refine GL.val (v := (.bool false)) (Ex.pickF rfl rfl) (by decide) ?_
        refine GL.val (Ex.assign rfl) (by decide) ?_
        refine GL.nil ?_
        refine GE.thenN ?_
        refine GC.ret ?_
        refine GC.ret1 rfl (Rv.tmp rfl) (fun wN HN => ?_)
        exact HN.ret () trivial (congrArg Value.bool (by exact (decide_eq_false (by omega)).symm)) (List.nil_sublist _) rfl
    · refine GL.stepG (tj := 12) rfl rfl (Ex.wp (v := (.bool false)) (Ex.cast (Ex.eql rfl rfl) (congrArg Value.bool (decide_eq_false hq5))) (by decide)) (fun _ _ => ?_)
      refine GL.stepG (tj := 12) rfl rfl (Ex.wp (v := (.bool false)) (Ex.move rfl) (by decide)) (fun _ _ => ?_)
      refine GL.stepG (tj := 15) rfl rfl (Ex.wp (v := (.int .i64 kd)) (Ex.move rfl) (by decide)) (fun _ _ => ?_)
      by_cases hq9 : kd = 2
      · refine GL.stepG (tj := 15) rfl rfl (Ex.wp (v := (.bool true)) (Ex.cast (Ex.eql rfl rfl) (congrArg Value.bool (decide_eq_true hq9))) (by decide)) (fun _ _ => ?_)
        refine GL.stepG (tj := 12) rfl rfl (Ex.wp (v := (.bool true)) (Ex.pickF rfl rfl) (by decide)) (fun _ _ => ?_)
        refine GL.val (v := (.bool true)) (Ex.pickT rfl rfl) (by decide) ?_
        refine GL.val (Ex.move rfl) (by decide) ?_
        refine GL.stepG (tj := 20) rfl rfl (Ex.wp (v := (.int .i64 r)) (Ex.move rfl) (by decide)) (fun _ _ => ?_)
        by_cases hq10 : 0 ≤ r
        · refine GL.stepG (tj := 20) rfl rfl (Ex.wp (v := (.bool true)) (Ex.cast (Ex.geq rfl rfl) (congrArg Value.bool (decide_eq_true hq10))) (by decide)) (fun _ _ => ?_)
          refine GL.val (v := (.bool true)) (Ex.pickT rfl rfl) (by decide) ?_
          refine GL.val (Ex.move rfl) (by decide) ?_
          refine GL.stepG (tj := 24) rfl rfl (Ex.wp (v := (.int .i64 r)) (Ex.move rfl) (by decide)) (fun _ _ => ?_)
          by_cases hq11 : r ≤ 7
          · refine GL.stepG (tj := 24) rfl rfl (Ex.wp (v := (.bool true)) (Ex.cast (Ex.leq rfl rfl) (congrArg Value.bool (decide_eq_true hq11))) (by decide)) (fun _ _ => ?_)
            refine GL.val (v := (.bool true)) (Ex.pickT rfl rfl) (by decide) ?_
            refine GL.val (Ex.move rfl) (by decide) ?_
            refine GL.stepG (tj := 28) rfl rfl (Ex.wp (v := (.int .i64 k)) (Ex.move rfl) (by decide)) (fun _ _ => ?_)
            by_cases hq12 : 1 ≤ k
            · refine GL.stepG (tj := 28) rfl rfl (Ex.wp (v := (.bool true)) (Ex.cast (Ex.geq rfl rfl) (congrArg Value.bool (decide_eq_true hq12))) (by decide)) (fun _ _ => ?_)
              refine GL.val (v := (.bool true)) (Ex.pickT rfl rfl) (by decide) ?_
              refine GL.val (Ex.move rfl) (by decide) ?_
              refine GL.stepG (tj := 32) rfl rfl (Ex.wp (v := (.int .i64 k)) (Ex.move rfl) (by decide)) (fun _ _ => ?_)
              refine GL.stepG (tj := 32) rfl rfl (Ex.wp (v := (.bool (decide (k ≤ 3)))) (Ex.leq rfl rfl) (by decide)) (fun _ _ => ?_)
              refine GL.val (v := (.bool (decide (k ≤ 3)))) (Ex.pickT rfl rfl) (by decide) ?_
              refine GL.val (Ex.assign rfl) (by decide) ?_
              refine GL.nil ?_
              refine GE.thenN ?_
              refine GC.ret ?_
              refine GC.ret1 rfl (Rv.tmp rfl) (fun wN HN => ?_)
              exact HN.ret () trivial (congrArg Value.bool (by exact decide_eq_decide.2 (by omega))) (List.nil_sublist _) rfl
            · refine GL.stepG (tj := 28) rfl rfl (Ex.wp (v := (.bool false)) (Ex.cast (Ex.geq rfl rfl) (congrArg Value.bool (decide_eq_false hq12))) (by decide)) (fun _ _ => ?_)
              refine GL.val (v := (.bool false)) (Ex.pickT rfl rfl) (by decide) ?_
              refine GL.val (Ex.move rfl) (by decide) ?_
              refine GL.skipG (tj := 32) rfl rfl rfl (by decide) ?_
              refine GL.skipG (tj := 32) rfl rfl rfl (by decide) ?_
              refine GL.val (v := (.bool false)) (Ex.pickF rfl rfl) (by decide) ?_
              refine GL.val (Ex.assign rfl) (by decide) ?_
              refine GL.nil ?_
              refine GE.thenN ?_
              refine GC.ret ?_
              refine GC.ret1 rfl (Rv.tmp rfl) (fun wN HN => ?_)
              exact HN.ret () trivial (congrArg Value.bool (by exact (decide_eq_false (by omega)).symm)) (List.nil_sublist _) rfl
          · refine GL.stepG (tj := 24) rfl rfl (Ex.wp (v := (.bool false)) (Ex.cast (Ex.leq rfl rfl) (congrArg Value.bool (decide_eq_false hq11))) (by decide)) (fun _ _ => ?_)
            refine GL.val (v := (.bool false)) (Ex.pickT rfl rfl) (by decide) ?_
            refine GL.val (Ex.move rfl) (by decide) ?_
            refine GL.skipG (tj := 28) rfl rfl rfl (by decide) ?_
            refine GL.skipG (tj := 28) rfl rfl rfl (by decide) ?_
            refine GL.val (v := (.bool false)) (Ex.pickF rfl rfl) (by decide) ?_
            refine GL.val (Ex.move rfl) (by decide) ?_
            refine GL.skipG (tj := 32) rfl rfl rfl (by decide) ?_
            refine GL.skipG (tj := 32) rfl rfl rfl (by decide) ?_
            refine GL.val (v := (.bool false)) (Ex.pickF rfl rfl) (by decide) ?_
            refine GL.val (Ex.assign rfl) (by decide) ?_
            refine GL.nil ?_
            refine GE.thenN ?_
            refine GC.ret ?_
            refine GC.ret1 rfl (Rv.tmp rfl) (fun wN HN => ?_)
            exact HN.ret () trivial (congrArg Value.bool (by exact (decide_eq_false (by omega)).symm)) (List.nil_sublist _) rfl
        · refine GL.stepG (tj := 20) rfl rfl (Ex.wp (v := (.bool false)) (Ex.cast (Ex.geq rfl rfl) (congrArg Value.bool (decide_eq_false hq10))) (by decide)) (fun _ _ => ?_)
          refine GL.val (v := (.bool false)) (Ex.pickT rfl rfl) (by decide) ?_
          refine GL.val (Ex.move rfl) (by decide) ?_
          refine GL.skipG (tj := 24) rfl rfl rfl (by decide) ?_
          refine GL.skipG (tj := 24) rfl rfl rfl (by decide) ?_
          refine GL.val (v := (.bool false)) (Ex.pickF rfl rfl) (by decide) ?_
          refine GL.val (Ex.move rfl) (by decide) ?_
          refine GL.skipG (tj := 28) rfl rfl rfl (by decide) ?_
          refine GL.skipG (tj := 28) rfl rfl rfl (by decide) ?_
          refine GL.val (v := (.bool false)) (Ex.pickF rfl rfl) (by decide) ?_
          refine GL.val (Ex.move rfl) (by decide) ?_
          refine GL.skipG (tj := 32) rfl rfl rfl (by decide) ?_
          refine GL.skipG (tj := 32) rfl rfl rfl (by decide) ?_
          refine GL.val (v := (.bool false)) (Ex.pickF rfl rfl) (by decide) ?_
          refine GL.val (Ex.assign rfl) (by decide) ?_
          refine GL.nil ?_
          refine GE.thenN ?_
          refine GC.ret ?_
          refine GC.ret1 rfl (Rv.tmp rfl) (fun wN HN => ?_)
          exact HN.ret () trivial (congrArg Value.bool (by exact (decide_eq_false (by omega)).symm)) (List.nil_sublist _) rfl
      · refine GL.stepG (tj := 15) rfl rfl (Ex.wp (v := (.bool false)) (Ex.cast (Ex.eql rfl rfl) (congrArg Value.bool (decide_eq_false hq9))) (by decide)) (fun _ _ => ?_)
        refine GL.stepG (tj := 12) rfl rfl (Ex.wp (v := (.bool false)) (Ex.pickF rfl rfl) (by decide)) (fun _ _ => ?_)
        refine GL.val (v := (.bool false)) (Ex.pickT rfl rfl) (by decide) ?_
        refine GL.val (Ex.move rfl) (by decide) ?_
        refine GL.skipG (tj := 20) rfl rfl rfl (by decide) ?_
        refine GL.skipG (tj := 20) rfl rfl rfl (by decide) ?_
        refine GL.val (v := (.bool false)) (Ex.pickF rfl rfl) (by decide) ?_
        refine GL.val (Ex.move rfl) (by decide) ?_
        refine GL.skipG (tj := 24) rfl rfl rfl (by decide) ?_
        refine GL.skipG (tj := 24) rfl rfl rfl (by decide) ?_
        refine GL.val (v := (.bool false)) (Ex.pickF rfl rfl) (by decide) ?_
        refine GL.val (Ex.move rfl) (by decide) ?_
        refine GL.skipG (tj := 28) rfl rfl rfl (by decide) ?_
        refine GL.skipG (tj := 28) rfl rfl rfl (by decide) ?_
        refine GL.val (v := (.bool false)) (Ex.pickF rfl rfl) (by decide) ?_
        refine GL.val (Ex.move rfl) (by decide) ?_
        refine GL.skipG (tj := 32) rfl rfl rfl (by decide) ?_
        refine GL.skipG (tj := 32) rfl rfl rfl (by decide) ?_
        refine GL.val (v := (.bool false)) (Ex.pickF rfl rfl) (by decide) ?_
        refine GL.val (Ex.assign rfl) (by decide) ?_
        refine GL.nil ?_
        refine GE.thenN ?_
        refine GC.ret ?_
        refine GC.ret1 rfl (Rv.tmp rfl) (fun wN HN => ?_)
        exact HN.ret () trivial (congrArg Value.bool (by exact (decide_eq_false (by omega)).symm)) (List.nil_sublist _) rfl
  · refine GL.val (v := (.bool false)) (Ex.cast (Ex.eql rfl rfl) (congrArg Value.bool (decide_eq_false hq4))) (by decide) ?_
    refine GL.val (Ex.move rfl) (by decide) ?_
    refine GL.skipG (tj := 12) rfl rfl rfl (by decide) ?_
    refine GL.skipG (tj := 12) rfl rfl rfl (by decide) ?_
    refine GL.skipG (tj := 12) rfl rfl rfl (by decide) ?_
    refine GL.skipU (tj := 15) rfl rfl (by decide) ?_
    refine GL.skipU (tj := 15) rfl rfl (by decide) ?_
    refine GL.skipG (tj := 12) rfl rfl rfl (by decide) ?_
    refine GL.val (v := (.bool false)) (Ex.pickF rfl rfl) (by decide) ?_
    refine GL.val (Ex.move rfl) (by decide) ?_
    refine GL.skipG (tj := 20) rfl rfl rfl (by decide) ?_
    refine GL.skipG (tj := 20) rfl rfl rfl (by decide) ?_
    refine GL.val (v := (.bool false)) (Ex.pickF rfl rfl) (by decide) ?_
    refine GL.val (Ex.move rfl) (by decide) ?_
    refine GL.skipG (tj := 24) rfl rfl rfl (by decide) ?_
    refine GL.skipG (tj := 24) rfl rfl rfl (by decide) ?_
    refine GL.val (v := (.bool false)) (Ex.pickF rfl rfl) (by decide) ?_
    refine GL.val (Ex.move rfl) (by decide) ?_
    refine GL.skipG (tj := 28) rfl rfl rfl (by decide) ?_
    refine GL.skipG (tj := 28) rfl rfl rfl (by decide) ?_
    refine GL.val (v := (.bool false)) (Ex.pickF rfl rfl) (by decide) ?_
    refine GL.val (Ex.move rfl) (by decide) ?_
    refine GL.skipG (tj := 32) rfl rfl rfl (by decide) ?_
    refine GL.skipG (tj := 32) rfl rfl rfl (by decide) ?_
    refine GL.val (v := (.bool false)) (Ex.pickF rfl rfl) (by decide) ?_
    refine GL.val (Ex.assign rfl) (by decide) ?_
    refine GL.nil ?_
    refine GE.thenN ?_
    refine GC.ret ?_
    refine GC.ret1 rfl (Rv.tmp rfl) (fun wN HN => ?_)
    exact HN.ret () trivial (congrArg Value.bool (by exact (decide_eq_false (by omega)).symm)) (List.nil_sublist _) rfl

theorem blur_i (W H n cap b o : Nat) (k kd r : Int) (xs : List Int) (w : World) (hk : 1 ≤ k ∧ k ≤ 3) (hok : okP W H) (hn : n = W * H) (hx0 : xs.length = n) (hu : ∀ v ∈ xs, 0 ≤ v ∧ v < 4294967296) (hr : Rd w b o (xs.map u32)) (hrt : (kd = 1 ∨ kd = 2) ∧ 0 ≤ r ∧ r ≤ 7) : Calls Try.prog 21 #[(.agg #[(.int .i64 (((W : Nat) : Int))), (.int .i64 (((H : Nat) : Int))), (.slice (some ⟨b, o, none⟩) n cap)]), .int .i64 kd, .int .i64 r, .int .i64 k] w (Ret w (fun _ : Nat => True) (fun p => .tuple #[(.agg #[(.int .i64 (((W : Nat) : Int))), (.int .i64 (((H : Nat) : Int))), (.slice (some ⟨p, 0, none⟩) (W * H) (W * H))]), .int .i64 0]) (fun p => [⟨p, (tab W (Bg.blr (Bg.gk kd r.toNat) r.toNat xs W H k) (W * H)).map u32, 63, true⟩])) := by
  obtain ⟨hkd, h1, h2⟩ := hrt
  obtain ⟨m, rfl⟩ := Int.eq_ofNat_of_zero_le h1
  exact blur_ok W H n cap b o k kd m xs w hk hok hn hx0 hu hr hkd (by omega)

set_option maxRecDepth 100000 in
set_option maxHeartbeats 1000000 in
theorem copy_p (W H n cap b o : Nat) (xs : List Int) (w : World) (hx0 : xs.length = n) (hr : Rd w b o (xs.map u32)) (hn1 : 1 ≤ n ∧ n ≤ 65536) :
    Calls Try.prog 29 #[(.agg #[(.int .i64 (((W : Nat) : Int))), (.int .i64 (((H : Nat) : Int))), (.slice (some ⟨b, o, none⟩) n cap)])] w (Ret w (fun _ : Nat × Nat × List Value => True) (fun x => .agg #[.int .i64 (W : Int), .int .i64 (H : Int), .slice (some ⟨x.1, 0, none⟩) n x.2.1]) (fun x => [⟨x.1, xs.map u32 ++ x.2.2, 63, true⟩])) := by
  refine enter (M := None) (L := []) (n := 11) (l := [(0, (.agg #[(.int .i64 (((W : Nat) : Int))), (.int .i64 (((H : Nat) : Int))), (.slice (some ⟨b, o, none⟩) n cap)]))]) Try.func29 rfl rfl (Args.cons rfl (Args.nil _)) (Hp.start _ _) ?_
  refine GC.seq ?_
  refine GC.region ?_
  refine GL.step (Stp.box (cs := [(.int .i64 (((W : Nat) : Int))), (.int .i64 (((H : Nat) : Int))), (.slice (some ⟨b, o, none⟩) n cap)]) rfl rfl (by decide)) (fun bq1 _ => ?_)
  refine GL.step (Stp.alloc T.zr43 (by decide)) (fun bq2 _ => ?_)
  refine GL.nil ?_
  refine GE.thenN ?_
  refine GC.seq ?_
  refine GC.drawP [⟨bq2, [(.int .i64 0), (.int .i64 0), (.slice none 0 0)], 43, true⟩, ⟨bq1, [(.int .i64 (((W : Nat) : Int))), (.int .i64 (((H : Nat) : Int))), (.slice (some ⟨b, o, none⟩) n cap)], 43, true⟩] T.mixed (by kernel_rfl) (by kernel_rfl) (fuel := 8) rfl rfl ?_
  refine GH.take 0 (v := (.pointer (some ⟨bq1, 0, none⟩))) rfl (by kernel_rfl) (by kernel_rfl) (by kernel_rfl) (fun _ _ _ h => h) (Ex.cast (Ex.fieldAddr rfl Try.underlying43 rfl T.sz3 (by decide)) rfl) (ulC (ulC ulN)) (by decide) ?_
  refine GH.take 1 (v := (.int .i64 (((W : Nat) : Int)))) rfl (by kernel_rfl) (by kernel_rfl) (by kernel_rfl) (fun _ _ _ h => h) (Ex.load rfl T.ag3 (i := 1) rfl rfl) (ulC (ulC ulN)) (by decide) ?_
  refine GH.take 2 (v := (.pointer (some ⟨bq1, 1, none⟩))) rfl (by kernel_rfl) (by kernel_rfl) (by kernel_rfl) (fun _ _ _ h => h) (Ex.cast (Ex.fieldAddr rfl Try.underlying43 rfl T.sz3 (by decide)) rfl) (ulC (ulC ulN)) (by decide) ?_
  refine GH.take 3 (v := (.int .i64 (((H : Nat) : Int)))) rfl (by kernel_rfl) (by kernel_rfl) (by kernel_rfl) (fun _ _ _ h => h) (Ex.load rfl T.ag3 (i := 1) rfl rfl) (ulC (ulC ulN)) (by decide) ?_
  refine GH.take 4 (v := (.pointer (some ⟨bq1, 2, none⟩))) rfl (by kernel_rfl) (by kernel_rfl) (by kernel_rfl) (fun _ _ _ h => h) (Ex.cast (Ex.fieldAddr rfl Try.underlying43 rfl T.sz41 (by decide)) rfl) (ulC (ulC ulN)) (by decide) ?_
  refine GH.take 5 (v := (.slice (some ⟨b, o, none⟩) n cap)) rfl (by kernel_rfl) (by kernel_rfl) (by kernel_rfl) (fun _ _ _ h => h) (Ex.load rfl T.ag41 (i := 1) rfl rfl) (ulC (ulC ulN)) (by decide) ?_
  refine GH.one 6 rfl (by kernel_rfl) (Stp.appendNil (vs := xs.map u32) rfl rfl Try.underlying41 T.sz63 T.zr63 rfl T.by63 (fun wz hz => hz.rd hr (fun x => x)) (by rw [List.length_map, hx0]; omega) (by omega) (by omega) (by omega) (by decide)) (fun _ => (ulS (ulC (ulC ulN)))) (fun xq5 hq6 => ?_)
  refine GH.take 7 (v := (.agg #[(.int .i64 (((W : Nat) : Int))), (.int .i64 (((H : Nat) : Int))), (.slice (some ⟨xq5.1, 0, none⟩) n xq5.2.1)])) rfl (by kernel_rfl) (by kernel_rfl) (by kernel_rfl) (fun _ _ _ h => h) (Ex.build (vs := [(0, (.int .i64 (((W : Nat) : Int)))), (1, (.int .i64 (((H : Nat) : Int)))), (2, (.slice (some ⟨xq5.1, 0, none⟩) n xq5.2.1))]) rfl (by first | rfl | kernel_rfl)) (ulS (ulC (ulC ulN))) (by decide) ?_
  refine GH.done (by kernel_rfl) ?_
  refine GE.thenN ?_
  refine GE.tail rfl (Stp.st1 (cs' := [(.int .i64 (((W : Nat) : Int))), (.int .i64 (((H : Nat) : Int))), (.slice (some ⟨xq5.1, 0, none⟩) n xq5.2.1)]) rfl rfl rfl T.sz43 rfl rfl rfl) (fun _ _ => ?_)
  refine GE.thenN ?_
  refine GC.ret ?_
  refine GC.ret1 rfl (Rv.cellA rfl T.ag43 T.sz43 (L := _) (i := 1) rfl (vs := [(.int .i64 (((W : Nat) : Int))), (.int .i64 (((H : Nat) : Int))), (.slice (some ⟨xq5.1, 0, none⟩) n xq5.2.1)]) rfl rfl) (fun wN HN => ?_)
  exact HN.ret xq5 trivial rfl (ulC (ulS (ulS ulN))) rfl

set_option maxRecDepth 100000 in
set_option maxHeartbeats 1000000 in
theorem finite_p (a : Int) (w : World) (ha : 0 ≤ a ∧ a < 4294967296) :
    Calls Try.prog 31 #[(.int .u32 a)] w (Ret w (fun _ : Unit => True) (fun _ => .bool (decide (a / 8388608 % 256 ≠ 255))) (fun _ => [])) := by
  refine enter (M := None) (L := []) (n := 7) (l := [(0, (.int .u32 a))]) Try.func31 rfl rfl (Args.cons rfl (Args.nil _)) (Hp.start _ _) ?_
  refine GC.seq ?_
  refine GC.region ?_
  refine GL.val (Ex.assign rfl) (by decide) ?_
  refine GL.nil ?_
  refine GE.thenN ?_
  refine GC.seq ?_
  refine GC.region ?_
  refine GL.val (Ex.move rfl) (by decide) ?_
  refine GL.val (v := (.int .u32 (a / 8388608))) (Ex.quo rfl rfl (Z := a / 8388608) (by omega) (quoU32 (by omega) (by omega) (by omega))) (by decide) ?_
  refine GL.val (v := (.int .u32 ((a / 8388608) % 256))) (Ex.rem rfl rfl (Z := (a / 8388608) % 256) (by omega) (rem64 (by omega) (by omega))) (by decide) ?_
  refine GL.val (v := (.bool (decide (((a / 8388608) % 256) ≠ 255)))) (Ex.neq rfl rfl) (by decide) ?_
  refine GL.val (Ex.assign rfl) (by decide) ?_
  refine GL.nil ?_
  refine GE.thenN ?_
  refine GC.ret ?_
  refine GC.ret1 rfl (Rv.tmp rfl) (fun wN HN => ?_)
  exact HN.ret () trivial rfl (List.nil_sublist _) rfl

set_option maxRecDepth 100000 in
set_option maxHeartbeats 1000000 in
theorem value_fin (a : Int) (w : World) (hf : Be.fin a) :
    Calls Try.prog 30 #[(.int .u32 a)] w (Ret w (fun _ : Unit => True) (fun _ => .float .f64 (Be.vb a)) (fun _ => [])) := by
  refine enter (M := None) (L := []) (n := 6) (l := [(0, (.int .u32 a))]) Try.func30 rfl rfl (Args.cons rfl (Args.nil _)) (Hp.start _ _) ?_
  refine GC.seq ?_
  refine GC.region ?_
  refine GL.val (Ex.assign rfl) (by decide) ?_
  refine GL.nil ?_
  refine GE.thenN ?_
  refine GC.seq ?_
  refine GC.region ?_
  refine GL.val (Ex.move rfl) (by decide) ?_
  refine GL.val (v := (.float .f32 a.toNat)) (Ex.ext (vs := [(.int .u32 a)]) rfl rfl T.ext55 (fun _ => rfl)) (by decide) ?_
  refine GL.step (Stp.fcv (fx := (Fv.rd .f32 a.toNat)) (by decide) rfl Try.underlying98 Try.underlying61 (Fv.Is.rd _ _) Fv.holds_up (by decide)) (fun xq1 hq2 => ?_)
  refine GL.val (Ex.assign rfl) (by decide) ?_
  refine GL.nil ?_
  refine GE.thenN ?_
  refine GC.ret ?_
  refine GC.ret1 rfl (Rv.tmp rfl) (fun wN HN => ?_)
  have e0 : Fv.Is .f64 xq1 (Fv.V a) := hq2.1
  rw [Be.vb_some hf] at e0
  obtain ⟨e1, _⟩ := e0
  exact HN.ret () trivial (by rw [e1]) (List.nil_sublist _) rfl

set_option maxRecDepth 100000 in
set_option maxHeartbeats 1000000 in
theorem ri_ok (W H n cap b o cap2 b2 o2 : Nat) (kd r k : Int) (xs ys : List Int) (w : World) (hok : okP W H) (hn : n = W * H) (hx0 : xs.length = n) (hu : ∀ v ∈ xs, 0 ≤ v ∧ v < 4294967296) (hr : Rd w b o (xs.map u32)) (hy0 : ys.length = n) (hu2 : ∀ v ∈ ys, 0 ≤ v ∧ v < 4294967296) (hr2 : Rd w b2 o2 (ys.map u32)) (hk : 1 ≤ k ∧ k ≤ 3) (hrt : (kd = 1 ∨ kd = 2) ∧ 0 ≤ r ∧ r ≤ 7) (h0 : Be.fin (xs.getD 0 0)) :
    Calls Try.prog 7 #[(.agg #[(.int .i64 (((W : Nat) : Int))), (.int .i64 (((H : Nat) : Int))), (.slice (some ⟨b, o, none⟩) n cap)]), (.agg #[(.int .i64 (((W : Nat) : Int))), (.int .i64 (((H : Nat) : Int))), (.slice (some ⟨b2, o2, none⟩) n cap2)]), (.int .i64 kd), (.int .i64 r), (.int .i64 k)] w (Ret w (fun _ : Unit => True) (fun _ => .bool true) (fun _ => [])) := by
  have hW1 := hok.1
  have hH1 := hok.2.1
  have hW2 := hok.2.2.1
  have hH2 := hok.2.2.2.1
  have hA := hok.2.2.2.2
  have hbx := fun i => Bg.get_bd hu i
  have hby := fun i => Bg.get_bd hu2 i
  have hn1 : 0 < n := by rw [hn]; exact Nat.mul_pos hok.1 hok.2.1
  have hf0 : Be.fins xs ys 0 := fun j hj => absurd hj (by omega)
  refine enter (M := None) (L := []) (n := 207) (l := [(0, (.agg #[(.int .i64 (((W : Nat) : Int))), (.int .i64 (((H : Nat) : Int))), (.slice (some ⟨b, o, none⟩) n cap)])), (1, (.agg #[(.int .i64 (((W : Nat) : Int))), (.int .i64 (((H : Nat) : Int))), (.slice (some ⟨b2, o2, none⟩) n cap2)])), (2, (.int .i64 kd)), (3, (.int .i64 r)), (4, (.int .i64 k))]) Try.func7 rfl rfl (Args.cons rfl (Args.cons rfl (Args.cons rfl (Args.cons rfl (Args.cons rfl (Args.nil _)))))) (Hp.start _ _) ?_
  refine GC.seq ?_
  refine GC.region ?_
  refine GL.step (Stp.box (cs := [(.int .i64 (((W : Nat) : Int))), (.int .i64 (((H : Nat) : Int))), (.slice (some ⟨b, o, none⟩) n cap)]) rfl rfl (by decide)) (fun bq1 _ => ?_)
  refine GL.step (Stp.box (cs := [(.int .i64 (((W : Nat) : Int))), (.int .i64 (((H : Nat) : Int))), (.slice (some ⟨b2, o2, none⟩) n cap2)]) rfl rfl (by decide)) (fun bq2 _ => ?_)
  refine GL.val (Ex.assign rfl) (by decide) ?_
  refine GL.nil ?_
  refine GE.thenN ?_
  refine GC.seq ?_
  refine GC.seq ?_
  refine GC.region ?_
  refine GL.step (Stp.callR (vs := []) rfl rfl T.own12 (by decide) (fun wc hw => known wc)) (fun xq3 hq4 => ?_)
  refine GL.val (v := (.bool false)) (Ex.cast (Ex.not rfl) rfl) (by decide) ?_
  refine GL.nil ?_
  refine GE.thenN ?_
  refine GC.cond rfl (fun hq5 => by cases hq5) (fun _ => ?_)
  refine GC.skip ?_
  refine GE.thenN ?_
  refine GC.seq ?_
  refine GC.seq ?_
  refine GC.region ?_
  refine GL.val (v := (.agg #[(.int .i64 (((W : Nat) : Int))), (.int .i64 (((H : Nat) : Int))), (.slice (some ⟨b, o, none⟩) n cap)])) (Ex.loadA rfl T.ag43 T.sz43 (i := 1) rfl (vs := [(.int .i64 (((W : Nat) : Int))), (.int .i64 (((H : Nat) : Int))), (.slice (some ⟨b, o, none⟩) n cap)]) rfl rfl) (by decide) ?_
  refine GL.val (Ex.move rfl) (by decide) ?_
  refine GL.val (Ex.move rfl) (by decide) ?_
  refine GL.val (Ex.move rfl) (by decide) ?_
  refine GL.step (Stp.callR (vs := [(.agg #[(.int .i64 (((W : Nat) : Int))), (.int .i64 (((H : Nat) : Int))), (.slice (some ⟨b, o, none⟩) n cap)]), (.int .i64 kd), (.int .i64 r), (.int .i64 k)]) rfl rfl T.own27 (by decide) (fun wc hw => right_p (((W : Nat) : Int)) (((H : Nat) : Int)) (some ⟨b, o, none⟩) n cap kd r k wc)) (fun xq6 hq7 => ?_)
  refine GL.val (v := (.bool false)) (Ex.cast (Ex.not rfl) (congrArg Value.bool (congrArg (fun z => !z) ((by show Bc.rightB ((W : Nat) : Int) ((H : Nat) : Int) n kd r k = true; exact decide_eq_true ⟨by rw [hn]; exact chk_ok hok, hrt.1, hrt.2.1, hrt.2.2, hk⟩))))) (by decide) ?_
  refine GL.val (Ex.move rfl) (by decide) ?_
  refine GL.stepG (tj := 31) rfl rfl (Ex.wp (v := (.agg #[(.int .i64 (((W : Nat) : Int))), (.int .i64 (((H : Nat) : Int))), (.slice (some ⟨b2, o2, none⟩) n cap2)])) (Ex.loadA rfl T.ag43 T.sz43 (i := 0) rfl (vs := [(.int .i64 (((W : Nat) : Int))), (.int .i64 (((H : Nat) : Int))), (.slice (some ⟨b2, o2, none⟩) n cap2)]) rfl rfl) (by decide)) (fun _ _ => ?_)
  refine GL.stepG (tj := 31) rfl rfl (Stp.callR (σ := Unit) (p := fun rz => True) (v := fun rz => (.int .i64 0)) (N := fun rz => []) (vs := [(.agg #[(.int .i64 (((W : Nat) : Int))), (.int .i64 (((H : Nat) : Int))), (.slice (some ⟨b2, o2, none⟩) n cap2)])]) rfl rfl T.own28 (by decide) (fun wc hw => (by have h := may ((W : Nat) : Int) ((H : Nat) : Int) (some ⟨b2, o2, none⟩) n cap2 wc; rw [show chk ((W : Nat) : Int) ((H : Nat) : Int) n = 0 from by rw [hn]; exact chk_ok hok] at h; exact h))) (fun xq8 hq9 => ?_)
  refine GL.stepG (tj := 31) rfl rfl (Ex.wp (v := (.bool false)) (Ex.cast (Ex.neq rfl rfl) rfl) (by decide)) (fun _ _ => ?_)
  refine GL.val (v := (.bool false)) (Ex.pickF rfl rfl) (by decide) ?_
  refine GL.val (Ex.move rfl) (by decide) ?_
  refine GL.stepG (tj := 36) rfl rfl (Ex.wp (v := (.pointer (some ⟨bq1, 0, none⟩))) (Ex.cast (Ex.fieldAddr rfl Try.underlying43 rfl T.sz3 (by decide)) rfl) (by decide)) (fun _ _ => ?_)
  refine GL.stepG (tj := 36) rfl rfl (Ex.wp (v := (.int .i64 (((W : Nat) : Int)))) (Ex.load rfl T.ag3 (i := 1) rfl rfl) (by decide)) (fun _ _ => ?_)
  refine GL.stepG (tj := 36) rfl rfl (Ex.wp (v := (.pointer (some ⟨bq2, 0, none⟩))) (Ex.cast (Ex.fieldAddr rfl Try.underlying43 rfl T.sz3 (by decide)) rfl) (by decide)) (fun _ _ => ?_)
  refine GL.stepG (tj := 36) rfl rfl (Ex.wp (v := (.int .i64 (((W : Nat) : Int)))) (Ex.load rfl T.ag3 (i := 0) rfl rfl) (by decide)) (fun _ _ => ?_)
  refine GL.stepG (tj := 36) rfl rfl (Ex.wp (v := (.bool false)) (Ex.cast (Ex.neq rfl rfl) (congrArg Value.bool (decide_eq_false (by omega)))) (by decide)) (fun _ _ => ?_)
  refine GL.val (v := (.bool false)) (Ex.pickF rfl rfl) (by decide) ?_
  refine GL.val (Ex.move rfl) (by decide) ?_
  refine GL.stepG (tj := 43) rfl rfl (Ex.wp (v := (.pointer (some ⟨bq1, 1, none⟩))) (Ex.cast (Ex.fieldAddr rfl Try.underlying43 rfl T.sz3 (by decide)) rfl) (by decide)) (fun _ _ => ?_)
  refine GL.stepG (tj := 43) rfl rfl (Ex.wp (v := (.int .i64 (((H : Nat) : Int)))) (Ex.load rfl T.ag3 (i := 1) rfl rfl) (by decide)) (fun _ _ => ?_)
  refine GL.stepG (tj := 43) rfl rfl (Ex.wp (v := (.pointer (some ⟨bq2, 1, none⟩))) (Ex.cast (Ex.fieldAddr rfl Try.underlying43 rfl T.sz3 (by decide)) rfl) (by decide)) (fun _ _ => ?_)
  refine GL.stepG (tj := 43) rfl rfl (Ex.wp (v := (.int .i64 (((H : Nat) : Int)))) (Ex.load rfl T.ag3 (i := 0) rfl rfl) (by decide)) (fun _ _ => ?_)
  refine GL.stepG (tj := 43) rfl rfl (Ex.wp (v := (.bool false)) (Ex.cast (Ex.neq rfl rfl) (congrArg Value.bool (decide_eq_false (by omega)))) (by decide)) (fun _ _ => ?_)
  refine GL.val (v := (.bool false)) (Ex.pickF rfl rfl) (by decide) ?_
  refine GL.nil ?_
  refine GE.thenN ?_
  refine GC.cond rfl (fun hq10 => by cases hq10) (fun _ => ?_)
  refine GC.skip ?_
  refine GE.thenN ?_
  refine GC.seq ?_
  refine GC.join (σ := Nat × (Nat × Nat × List Value) × Nat × (Nat × Nat × List Value)) (fun j => True) (fun j => [(0, (.agg #[(.int .i64 (((W : Nat) : Int))), (.int .i64 (((H : Nat) : Int))), (.slice (some ⟨b, o, none⟩) n cap)])), (1, (.agg #[(.int .i64 (((W : Nat) : Int))), (.int .i64 (((H : Nat) : Int))), (.slice (some ⟨b2, o2, none⟩) n cap2)])), (2, (.int .i64 kd)), (3, (.int .i64 r)), (4, (.int .i64 k)), (5, (.pointer (some ⟨bq1, 0, none⟩))), (6, (.pointer (some ⟨bq2, 0, none⟩))), (10, (.bool false)), (11, (.pointer (some ⟨j.1, 0, none⟩))), (12, (.pointer (some ⟨j.2.2.1, 0, none⟩))), (23, (.bool true)), (24, (.bool false)), (25, (.agg #[(.int .i64 (((W : Nat) : Int))), (.int .i64 (((H : Nat) : Int))), (.slice (some ⟨b, o, none⟩) n cap)])), (26, (.int .i64 kd)), (27, (.int .i64 r)), (28, (.int .i64 k)), (29, (.bool (Bc.rightB (((W : Nat) : Int)) (((H : Nat) : Int)) n kd r k))), (30, (.bool false)), (31, (.bool false)), (32, (.agg #[(.int .i64 (((W : Nat) : Int))), (.int .i64 (((H : Nat) : Int))), (.slice (some ⟨b2, o2, none⟩) n cap2)])), (33, (.int .i64 0)), (34, (.bool false)), (35, (.bool false)), (36, (.bool false)), (37, (.pointer (some ⟨bq1, 0, none⟩))), (38, (.int .i64 (((W : Nat) : Int)))), (39, (.pointer (some ⟨bq2, 0, none⟩))), (40, (.int .i64 (((W : Nat) : Int)))), (41, (.bool false)), (42, (.bool false)), (43, (.bool false)), (44, (.pointer (some ⟨bq1, 1, none⟩))), (45, (.int .i64 (((H : Nat) : Int)))), (46, (.pointer (some ⟨bq2, 1, none⟩))), (47, (.int .i64 (((H : Nat) : Int)))), (48, (.bool false)), (49, (.bool false))]) (fun j => [⟨j.1, [(.int .i64 (((W : Nat) : Int))), (.int .i64 (((H : Nat) : Int))), (.slice (some ⟨j.2.1.1, 0, none⟩) n j.2.1.2.1)], 43, true⟩, ⟨j.2.1.1, xs.map u32 ++ j.2.1.2.2, 63, true⟩, ⟨j.2.2.1, [(.int .i64 (((W : Nat) : Int))), (.int .i64 (((H : Nat) : Int))), (.slice (some ⟨j.2.2.2.1, 0, none⟩) n j.2.2.2.2.1)], 43, true⟩, ⟨j.2.2.2.1, xs.map u32 ++ j.2.2.2.2.2, 63, true⟩, ⟨bq2, [(.int .i64 (((W : Nat) : Int))), (.int .i64 (((H : Nat) : Int))), (.slice (some ⟨b2, o2, none⟩) n cap2)], 43, true⟩, ⟨bq1, [(.int .i64 (((W : Nat) : Int))), (.int .i64 (((H : Nat) : Int))), (.slice (some ⟨b, o, none⟩) n cap)], 43, true⟩]) ?_ (fun j61 hj => ?_)
  · refine GC.drawP [⟨bq2, [(.int .i64 (((W : Nat) : Int))), (.int .i64 (((H : Nat) : Int))), (.slice (some ⟨b2, o2, none⟩) n cap2)], 43, true⟩, ⟨bq1, [(.int .i64 (((W : Nat) : Int))), (.int .i64 (((H : Nat) : Int))), (.slice (some ⟨b, o, none⟩) n cap)], 43, true⟩] T.mixed (by kernel_rfl) (by kernel_rfl) (fuel := 7) rfl rfl ?_
    refine GH.take 0 (v := (.agg #[(.int .i64 (((W : Nat) : Int))), (.int .i64 (((H : Nat) : Int))), (.slice (some ⟨b, o, none⟩) n cap)])) rfl (by kernel_rfl) (by kernel_rfl) (by kernel_rfl) (fun _ _ _ h => h) (Ex.loadA rfl T.ag43 T.sz43 (i := 1) rfl (vs := [(.int .i64 (((W : Nat) : Int))), (.int .i64 (((H : Nat) : Int))), (.slice (some ⟨b, o, none⟩) n cap)]) rfl rfl) (ulC (ulC ulN)) (by decide) ?_
    refine GH.take 2 (v := (.agg #[(.int .i64 (((W : Nat) : Int))), (.int .i64 (((H : Nat) : Int))), (.slice (some ⟨b, o, none⟩) n cap)])) rfl (by kernel_rfl) (by kernel_rfl) (by kernel_rfl) (fun _ _ _ h => h) (Ex.loadA rfl T.ag43 T.sz43 (i := 1) rfl (vs := [(.int .i64 (((W : Nat) : Int))), (.int .i64 (((H : Nat) : Int))), (.slice (some ⟨b, o, none⟩) n cap)]) rfl rfl) (ulC (ulC ulN)) (by decide) ?_
    refine GH.many (rs := [1, 4, 5]) (by kernel_rfl) (by simp) ?_
    refine GHs.cons rfl (Stp.callR (vs := [(.agg #[(.int .i64 (((W : Nat) : Int))), (.int .i64 (((H : Nat) : Int))), (.slice (some ⟨b, o, none⟩) n cap)])]) rfl rfl T.own29 (by decide) (fun wc hw => copy_p W H n cap b o xs wc hx0 (hw.rd hr (fun x => x)) (by have h1 := Nat.mul_pos hok.1 hok.2.1; have h2 := hok.2.2.2.2; omega))) (fun _ => (ulS (ulC (ulC ulN)))) (fun xq62 hq63 => ?_) ?_
    · refine GH.many (rs := [3, 4, 5]) (by kernel_rfl) (by simp) ?_
      refine GHs.cons rfl (Stp.callR (vs := [(.agg #[(.int .i64 (((W : Nat) : Int))), (.int .i64 (((H : Nat) : Int))), (.slice (some ⟨b, o, none⟩) n cap)])]) rfl rfl T.own29 (by decide) (fun wc hw => copy_p W H n cap b o xs wc hx0 (hw.rd hr (fun x => x)) (by have h1 := Nat.mul_pos hok.1 hok.2.1; have h2 := hok.2.2.2.2; omega))) (fun _ => (ulS (ulS (ulC (ulC ulN))))) (fun xq64 hq65 => ?_) ?_
      · refine GH.many (rs := [4, 5]) (by kernel_rfl) (by simp) ?_
        refine GHs.cons rfl (Stp.alloc T.zr43 (by decide)) (fun _ => (ulS (ulS (ulS (ulC (ulC ulN)))))) (fun bq66 _ => ?_) ?_
        · refine GH.one 5 rfl (by kernel_rfl) (Stp.alloc T.zr43 (by decide)) (fun _ => (ulS (ulS (ulS (ulS (ulC (ulC ulN))))))) (fun bq67 _ => ?_)
          refine GH.one 6 rfl (by kernel_rfl) (Stp.st1 (cs' := [(.int .i64 (((W : Nat) : Int))), (.int .i64 (((H : Nat) : Int))), (.slice (some ⟨xq62.1, 0, none⟩) n xq62.2.1)]) rfl rfl rfl T.sz43 rfl rfl rfl) (fun _ => (ulS (ulS (ulS (ulS (ulC (ulC ulN))))))) (fun _ _ => ?_)
          refine GH.done (by kernel_rfl) ?_
          refine GE.thenN ?_
          refine GE.tail rfl (Stp.st0 (cs' := [(.int .i64 (((W : Nat) : Int))), (.int .i64 (((H : Nat) : Int))), (.slice (some ⟨xq64.1, 0, none⟩) n xq64.2.1)]) rfl rfl rfl T.sz43 rfl rfl rfl) (fun _ _ => ?_)
          refine GE.thenN ?_
          exact St.mk ((bq66, xq62, bq67, xq64)) trivial (idx := [1, 3, 0, 2, 4, 5]) ((sub_cons rfl ((sub_cons rfl ((sub_cons rfl ((sub_cons rfl ((sub_cons rfl ((sub_cons rfl ((sub_cons rfl ((sub_cons rfl ((sub_cons rfl ((sub_cons rfl ((sub_cons rfl ((sub_cons rfl ((sub_cons rfl ((sub_cons rfl ((sub_cons rfl ((sub_cons rfl ((sub_cons rfl ((sub_cons rfl ((sub_cons rfl ((sub_cons rfl ((sub_cons rfl ((sub_cons rfl ((sub_cons rfl ((sub_cons rfl ((sub_cons rfl ((sub_cons rfl ((sub_cons rfl ((sub_cons rfl ((sub_cons rfl ((sub_cons rfl ((sub_cons rfl ((sub_cons rfl ((sub_cons rfl ((sub_cons rfl ((sub_cons rfl ((sub_cons rfl ((sub_cons rfl ((sub_nil _)))))))))))))))))))))))))))))))))))))))))))))))))))))))))))))))))))))))))))) (by decide) rfl
        refine GHs.cons rfl (Stp.alloc T.zr43 (by decide)) (fun _ => (ulS (ulS (ulS (ulC (ulC ulN)))))) (fun bq68 _ => ?_) ?_
        · refine GH.one 4 rfl (by kernel_rfl) (Stp.alloc T.zr43 (by decide)) (fun _ => (ulS (ulS (ulS (ulS (ulC (ulC ulN))))))) (fun bq69 _ => ?_)
          refine GH.one 6 rfl (by kernel_rfl) (Stp.st0 (cs' := [(.int .i64 (((W : Nat) : Int))), (.int .i64 (((H : Nat) : Int))), (.slice (some ⟨xq62.1, 0, none⟩) n xq62.2.1)]) rfl rfl rfl T.sz43 rfl rfl rfl) (fun _ => (ulS (ulS (ulS (ulS (ulC (ulC ulN))))))) (fun _ _ => ?_)
          refine GH.done (by kernel_rfl) ?_
          refine GE.thenN ?_
          refine GE.tail rfl (Stp.st1 (cs' := [(.int .i64 (((W : Nat) : Int))), (.int .i64 (((H : Nat) : Int))), (.slice (some ⟨xq64.1, 0, none⟩) n xq64.2.1)]) rfl rfl rfl T.sz43 rfl rfl rfl) (fun _ _ => ?_)
          refine GE.thenN ?_
          exact St.mk ((bq69, xq62, bq68, xq64)) trivial (idx := [0, 3, 1, 2, 4, 5]) ((sub_cons rfl ((sub_cons rfl ((sub_cons rfl ((sub_cons rfl ((sub_cons rfl ((sub_cons rfl ((sub_cons rfl ((sub_cons rfl ((sub_cons rfl ((sub_cons rfl ((sub_cons rfl ((sub_cons rfl ((sub_cons rfl ((sub_cons rfl ((sub_cons rfl ((sub_cons rfl ((sub_cons rfl ((sub_cons rfl ((sub_cons rfl ((sub_cons rfl ((sub_cons rfl ((sub_cons rfl ((sub_cons rfl ((sub_cons rfl ((sub_cons rfl ((sub_cons rfl ((sub_cons rfl ((sub_cons rfl ((sub_cons rfl ((sub_cons rfl ((sub_cons rfl ((sub_cons rfl ((sub_cons rfl ((sub_cons rfl ((sub_cons rfl ((sub_cons rfl ((sub_cons rfl ((sub_nil _)))))))))))))))))))))))))))))))))))))))))))))))))))))))))))))))))))))))))))) (by decide) rfl
        exact GHs.nil
      refine GHs.cons rfl (Stp.alloc T.zr43 (by decide)) (fun _ => (ulS (ulS (ulC (ulC ulN))))) (fun bq70 _ => ?_) ?_
      · refine GH.many (rs := [3, 5]) (by kernel_rfl) (by simp) ?_
        refine GHs.cons rfl (Stp.callR (vs := [(.agg #[(.int .i64 (((W : Nat) : Int))), (.int .i64 (((H : Nat) : Int))), (.slice (some ⟨b, o, none⟩) n cap)])]) rfl rfl T.own29 (by decide) (fun wc hw => copy_p W H n cap b o xs wc hx0 (hw.rd hr (fun x => x)) (by have h1 := Nat.mul_pos hok.1 hok.2.1; have h2 := hok.2.2.2.2; omega))) (fun _ => (ulS (ulS (ulS (ulC (ulC ulN)))))) (fun xq71 hq72 => ?_) ?_
        · refine GH.one 5 rfl (by kernel_rfl) (Stp.alloc T.zr43 (by decide)) (fun _ => (ulS (ulS (ulS (ulS (ulC (ulC ulN))))))) (fun bq73 _ => ?_)
          refine GH.one 6 rfl (by kernel_rfl) (Stp.st2 (cs' := [(.int .i64 (((W : Nat) : Int))), (.int .i64 (((H : Nat) : Int))), (.slice (some ⟨xq62.1, 0, none⟩) n xq62.2.1)]) rfl rfl rfl T.sz43 rfl rfl rfl) (fun _ => (ulS (ulS (ulS (ulS (ulC (ulC ulN))))))) (fun _ _ => ?_)
          refine GH.done (by kernel_rfl) ?_
          refine GE.thenN ?_
          refine GE.tail rfl (Stp.st0 (cs' := [(.int .i64 (((W : Nat) : Int))), (.int .i64 (((H : Nat) : Int))), (.slice (some ⟨xq71.1, 0, none⟩) n xq71.2.1)]) rfl rfl rfl T.sz43 rfl rfl rfl) (fun _ _ => ?_)
          refine GE.thenN ?_
          exact St.mk ((bq70, xq62, bq73, xq71)) trivial (idx := [2, 3, 0, 1, 4, 5]) ((sub_cons rfl ((sub_cons rfl ((sub_cons rfl ((sub_cons rfl ((sub_cons rfl ((sub_cons rfl ((sub_cons rfl ((sub_cons rfl ((sub_cons rfl ((sub_cons rfl ((sub_cons rfl ((sub_cons rfl ((sub_cons rfl ((sub_cons rfl ((sub_cons rfl ((sub_cons rfl ((sub_cons rfl ((sub_cons rfl ((sub_cons rfl ((sub_cons rfl ((sub_cons rfl ((sub_cons rfl ((sub_cons rfl ((sub_cons rfl ((sub_cons rfl ((sub_cons rfl ((sub_cons rfl ((sub_cons rfl ((sub_cons rfl ((sub_cons rfl ((sub_cons rfl ((sub_cons rfl ((sub_cons rfl ((sub_cons rfl ((sub_cons rfl ((sub_cons rfl ((sub_cons rfl ((sub_nil _)))))))))))))))))))))))))))))))))))))))))))))))))))))))))))))))))))))))))))) (by decide) rfl
        refine GHs.cons rfl (Stp.alloc T.zr43 (by decide)) (fun _ => (ulS (ulS (ulS (ulC (ulC ulN)))))) (fun bq74 _ => ?_) ?_
        · refine GH.one 3 rfl (by kernel_rfl) (Stp.callR (vs := [(.agg #[(.int .i64 (((W : Nat) : Int))), (.int .i64 (((H : Nat) : Int))), (.slice (some ⟨b, o, none⟩) n cap)])]) rfl rfl T.own29 (by decide) (fun wc hw => copy_p W H n cap b o xs wc hx0 (hw.rd hr (fun x => x)) (by have h1 := Nat.mul_pos hok.1 hok.2.1; have h2 := hok.2.2.2.2; omega))) (fun _ => (ulS (ulS (ulS (ulS (ulC (ulC ulN))))))) (fun xq75 hq76 => ?_)
          refine GH.one 6 rfl (by kernel_rfl) (Stp.st2 (cs' := [(.int .i64 (((W : Nat) : Int))), (.int .i64 (((H : Nat) : Int))), (.slice (some ⟨xq62.1, 0, none⟩) n xq62.2.1)]) rfl rfl rfl T.sz43 rfl rfl rfl) (fun _ => (ulS (ulS (ulS (ulS (ulC (ulC ulN))))))) (fun _ _ => ?_)
          refine GH.done (by kernel_rfl) ?_
          refine GE.thenN ?_
          refine GE.tail rfl (Stp.st1 (cs' := [(.int .i64 (((W : Nat) : Int))), (.int .i64 (((H : Nat) : Int))), (.slice (some ⟨xq75.1, 0, none⟩) n xq75.2.1)]) rfl rfl rfl T.sz43 rfl rfl rfl) (fun _ _ => ?_)
          refine GE.thenN ?_
          exact St.mk ((bq70, xq62, bq74, xq75)) trivial (idx := [2, 3, 1, 0, 4, 5]) ((sub_cons rfl ((sub_cons rfl ((sub_cons rfl ((sub_cons rfl ((sub_cons rfl ((sub_cons rfl ((sub_cons rfl ((sub_cons rfl ((sub_cons rfl ((sub_cons rfl ((sub_cons rfl ((sub_cons rfl ((sub_cons rfl ((sub_cons rfl ((sub_cons rfl ((sub_cons rfl ((sub_cons rfl ((sub_cons rfl ((sub_cons rfl ((sub_cons rfl ((sub_cons rfl ((sub_cons rfl ((sub_cons rfl ((sub_cons rfl ((sub_cons rfl ((sub_cons rfl ((sub_cons rfl ((sub_cons rfl ((sub_cons rfl ((sub_cons rfl ((sub_cons rfl ((sub_cons rfl ((sub_cons rfl ((sub_cons rfl ((sub_cons rfl ((sub_cons rfl ((sub_cons rfl ((sub_nil _)))))))))))))))))))))))))))))))))))))))))))))))))))))))))))))))))))))))))))) (by decide) rfl
        exact GHs.nil
      refine GHs.cons rfl (Stp.alloc T.zr43 (by decide)) (fun _ => (ulS (ulS (ulC (ulC ulN))))) (fun bq77 _ => ?_) ?_
      · refine GH.many (rs := [3, 4]) (by kernel_rfl) (by simp) ?_
        refine GHs.cons rfl (Stp.callR (vs := [(.agg #[(.int .i64 (((W : Nat) : Int))), (.int .i64 (((H : Nat) : Int))), (.slice (some ⟨b, o, none⟩) n cap)])]) rfl rfl T.own29 (by decide) (fun wc hw => copy_p W H n cap b o xs wc hx0 (hw.rd hr (fun x => x)) (by have h1 := Nat.mul_pos hok.1 hok.2.1; have h2 := hok.2.2.2.2; omega))) (fun _ => (ulS (ulS (ulS (ulC (ulC ulN)))))) (fun xq78 hq79 => ?_) ?_
        · refine GH.one 4 rfl (by kernel_rfl) (Stp.alloc T.zr43 (by decide)) (fun _ => (ulS (ulS (ulS (ulS (ulC (ulC ulN))))))) (fun bq80 _ => ?_)
          refine GH.one 6 rfl (by kernel_rfl) (Stp.st0 (cs' := [(.int .i64 (((W : Nat) : Int))), (.int .i64 (((H : Nat) : Int))), (.slice (some ⟨xq62.1, 0, none⟩) n xq62.2.1)]) rfl rfl rfl T.sz43 rfl rfl rfl) (fun _ => (ulS (ulS (ulS (ulS (ulC (ulC ulN))))))) (fun _ _ => ?_)
          refine GH.done (by kernel_rfl) ?_
          refine GE.thenN ?_
          refine GE.tail rfl (Stp.st2 (cs' := [(.int .i64 (((W : Nat) : Int))), (.int .i64 (((H : Nat) : Int))), (.slice (some ⟨xq78.1, 0, none⟩) n xq78.2.1)]) rfl rfl rfl T.sz43 rfl rfl rfl) (fun _ _ => ?_)
          refine GE.thenN ?_
          exact St.mk ((bq80, xq62, bq77, xq78)) trivial (idx := [0, 3, 2, 1, 4, 5]) ((sub_cons rfl ((sub_cons rfl ((sub_cons rfl ((sub_cons rfl ((sub_cons rfl ((sub_cons rfl ((sub_cons rfl ((sub_cons rfl ((sub_cons rfl ((sub_cons rfl ((sub_cons rfl ((sub_cons rfl ((sub_cons rfl ((sub_cons rfl ((sub_cons rfl ((sub_cons rfl ((sub_cons rfl ((sub_cons rfl ((sub_cons rfl ((sub_cons rfl ((sub_cons rfl ((sub_cons rfl ((sub_cons rfl ((sub_cons rfl ((sub_cons rfl ((sub_cons rfl ((sub_cons rfl ((sub_cons rfl ((sub_cons rfl ((sub_cons rfl ((sub_cons rfl ((sub_cons rfl ((sub_cons rfl ((sub_cons rfl ((sub_cons rfl ((sub_cons rfl ((sub_cons rfl ((sub_nil _)))))))))))))))))))))))))))))))))))))))))))))))))))))))))))))))))))))))))))) (by decide) rfl
        refine GHs.cons rfl (Stp.alloc T.zr43 (by decide)) (fun _ => (ulS (ulS (ulS (ulC (ulC ulN)))))) (fun bq81 _ => ?_) ?_
        · refine GH.one 3 rfl (by kernel_rfl) (Stp.callR (vs := [(.agg #[(.int .i64 (((W : Nat) : Int))), (.int .i64 (((H : Nat) : Int))), (.slice (some ⟨b, o, none⟩) n cap)])]) rfl rfl T.own29 (by decide) (fun wc hw => copy_p W H n cap b o xs wc hx0 (hw.rd hr (fun x => x)) (by have h1 := Nat.mul_pos hok.1 hok.2.1; have h2 := hok.2.2.2.2; omega))) (fun _ => (ulS (ulS (ulS (ulS (ulC (ulC ulN))))))) (fun xq82 hq83 => ?_)
          refine GH.one 6 rfl (by kernel_rfl) (Stp.st1 (cs' := [(.int .i64 (((W : Nat) : Int))), (.int .i64 (((H : Nat) : Int))), (.slice (some ⟨xq62.1, 0, none⟩) n xq62.2.1)]) rfl rfl rfl T.sz43 rfl rfl rfl) (fun _ => (ulS (ulS (ulS (ulS (ulC (ulC ulN))))))) (fun _ _ => ?_)
          refine GH.done (by kernel_rfl) ?_
          refine GE.thenN ?_
          refine GE.tail rfl (Stp.st2 (cs' := [(.int .i64 (((W : Nat) : Int))), (.int .i64 (((H : Nat) : Int))), (.slice (some ⟨xq82.1, 0, none⟩) n xq82.2.1)]) rfl rfl rfl T.sz43 rfl rfl rfl) (fun _ _ => ?_)
          refine GE.thenN ?_
          exact St.mk ((bq81, xq62, bq77, xq82)) trivial (idx := [1, 3, 2, 0, 4, 5]) ((sub_cons rfl ((sub_cons rfl ((sub_cons rfl ((sub_cons rfl ((sub_cons rfl ((sub_cons rfl ((sub_cons rfl ((sub_cons rfl ((sub_cons rfl ((sub_cons rfl ((sub_cons rfl ((sub_cons rfl ((sub_cons rfl ((sub_cons rfl ((sub_cons rfl ((sub_cons rfl ((sub_cons rfl ((sub_cons rfl ((sub_cons rfl ((sub_cons rfl ((sub_cons rfl ((sub_cons rfl ((sub_cons rfl ((sub_cons rfl ((sub_cons rfl ((sub_cons rfl ((sub_cons rfl ((sub_cons rfl ((sub_cons rfl ((sub_cons rfl ((sub_cons rfl ((sub_cons rfl ((sub_cons rfl ((sub_cons rfl ((sub_cons rfl ((sub_cons rfl ((sub_cons rfl ((sub_nil _)))))))))))))))))))))))))))))))))))))))))))))))))))))))))))))))))))))))))))) (by decide) rfl
        exact GHs.nil
      exact GHs.nil
    refine GHs.cons rfl (Stp.alloc T.zr43 (by decide)) (fun _ => (ulS (ulC (ulC ulN)))) (fun bq84 _ => ?_) ?_
    · refine GH.many (rs := [1, 5]) (by kernel_rfl) (by simp) ?_
      refine GHs.cons rfl (Stp.callR (vs := [(.agg #[(.int .i64 (((W : Nat) : Int))), (.int .i64 (((H : Nat) : Int))), (.slice (some ⟨b, o, none⟩) n cap)])]) rfl rfl T.own29 (by decide) (fun wc hw => copy_p W H n cap b o xs wc hx0 (hw.rd hr (fun x => x)) (by have h1 := Nat.mul_pos hok.1 hok.2.1; have h2 := hok.2.2.2.2; omega))) (fun _ => (ulS (ulS (ulC (ulC ulN))))) (fun xq85 hq86 => ?_) ?_
      · refine GH.many (rs := [3, 5]) (by kernel_rfl) (by simp) ?_
        refine GHs.cons rfl (Stp.callR (vs := [(.agg #[(.int .i64 (((W : Nat) : Int))), (.int .i64 (((H : Nat) : Int))), (.slice (some ⟨b, o, none⟩) n cap)])]) rfl rfl T.own29 (by decide) (fun wc hw => copy_p W H n cap b o xs wc hx0 (hw.rd hr (fun x => x)) (by have h1 := Nat.mul_pos hok.1 hok.2.1; have h2 := hok.2.2.2.2; omega))) (fun _ => (ulS (ulS (ulS (ulC (ulC ulN)))))) (fun xq87 hq88 => ?_) ?_
        · refine GH.one 5 rfl (by kernel_rfl) (Stp.alloc T.zr43 (by decide)) (fun _ => (ulS (ulS (ulS (ulS (ulC (ulC ulN))))))) (fun bq89 _ => ?_)
          refine GH.one 6 rfl (by kernel_rfl) (Stp.st3 (cs' := [(.int .i64 (((W : Nat) : Int))), (.int .i64 (((H : Nat) : Int))), (.slice (some ⟨xq85.1, 0, none⟩) n xq85.2.1)]) rfl rfl rfl T.sz43 rfl rfl rfl) (fun _ => (ulS (ulS (ulS (ulS (ulC (ulC ulN))))))) (fun _ _ => ?_)
          refine GH.done (by kernel_rfl) ?_
          refine GE.thenN ?_
          refine GE.tail rfl (Stp.st0 (cs' := [(.int .i64 (((W : Nat) : Int))), (.int .i64 (((H : Nat) : Int))), (.slice (some ⟨xq87.1, 0, none⟩) n xq87.2.1)]) rfl rfl rfl T.sz43 rfl rfl rfl) (fun _ _ => ?_)
          refine GE.thenN ?_
          exact St.mk ((bq84, xq85, bq89, xq87)) trivial (idx := [3, 2, 0, 1, 4, 5]) ((sub_cons rfl ((sub_cons rfl ((sub_cons rfl ((sub_cons rfl ((sub_cons rfl ((sub_cons rfl ((sub_cons rfl ((sub_cons rfl ((sub_cons rfl ((sub_cons rfl ((sub_cons rfl ((sub_cons rfl ((sub_cons rfl ((sub_cons rfl ((sub_cons rfl ((sub_cons rfl ((sub_cons rfl ((sub_cons rfl ((sub_cons rfl ((sub_cons rfl ((sub_cons rfl ((sub_cons rfl ((sub_cons rfl ((sub_cons rfl ((sub_cons rfl ((sub_cons rfl ((sub_cons rfl ((sub_cons rfl ((sub_cons rfl ((sub_cons rfl ((sub_cons rfl ((sub_cons rfl ((sub_cons rfl ((sub_cons rfl ((sub_cons rfl ((sub_cons rfl ((sub_cons rfl ((sub_nil _)))))))))))))))))))))))))))))))))))))))))))))))))))))))))))))))))))))))))))) (by decide) rfl
        refine GHs.cons rfl (Stp.alloc T.zr43 (by decide)) (fun _ => (ulS (ulS (ulS (ulC (ulC ulN)))))) (fun bq90 _ => ?_) ?_
        · refine GH.one 3 rfl (by kernel_rfl) (Stp.callR (vs := [(.agg #[(.int .i64 (((W : Nat) : Int))), (.int .i64 (((H : Nat) : Int))), (.slice (some ⟨b, o, none⟩) n cap)])]) rfl rfl T.own29 (by decide) (fun wc hw => copy_p W H n cap b o xs wc hx0 (hw.rd hr (fun x => x)) (by have h1 := Nat.mul_pos hok.1 hok.2.1; have h2 := hok.2.2.2.2; omega))) (fun _ => (ulS (ulS (ulS (ulS (ulC (ulC ulN))))))) (fun xq91 hq92 => ?_)
          refine GH.one 6 rfl (by kernel_rfl) (Stp.st3 (cs' := [(.int .i64 (((W : Nat) : Int))), (.int .i64 (((H : Nat) : Int))), (.slice (some ⟨xq85.1, 0, none⟩) n xq85.2.1)]) rfl rfl rfl T.sz43 rfl rfl rfl) (fun _ => (ulS (ulS (ulS (ulS (ulC (ulC ulN))))))) (fun _ _ => ?_)
          refine GH.done (by kernel_rfl) ?_
          refine GE.thenN ?_
          refine GE.tail rfl (Stp.st1 (cs' := [(.int .i64 (((W : Nat) : Int))), (.int .i64 (((H : Nat) : Int))), (.slice (some ⟨xq91.1, 0, none⟩) n xq91.2.1)]) rfl rfl rfl T.sz43 rfl rfl rfl) (fun _ _ => ?_)
          refine GE.thenN ?_
          exact St.mk ((bq84, xq85, bq90, xq91)) trivial (idx := [3, 2, 1, 0, 4, 5]) ((sub_cons rfl ((sub_cons rfl ((sub_cons rfl ((sub_cons rfl ((sub_cons rfl ((sub_cons rfl ((sub_cons rfl ((sub_cons rfl ((sub_cons rfl ((sub_cons rfl ((sub_cons rfl ((sub_cons rfl ((sub_cons rfl ((sub_cons rfl ((sub_cons rfl ((sub_cons rfl ((sub_cons rfl ((sub_cons rfl ((sub_cons rfl ((sub_cons rfl ((sub_cons rfl ((sub_cons rfl ((sub_cons rfl ((sub_cons rfl ((sub_cons rfl ((sub_cons rfl ((sub_cons rfl ((sub_cons rfl ((sub_cons rfl ((sub_cons rfl ((sub_cons rfl ((sub_cons rfl ((sub_cons rfl ((sub_cons rfl ((sub_cons rfl ((sub_cons rfl ((sub_cons rfl ((sub_nil _)))))))))))))))))))))))))))))))))))))))))))))))))))))))))))))))))))))))))))) (by decide) rfl
        exact GHs.nil
      refine GHs.cons rfl (Stp.alloc T.zr43 (by decide)) (fun _ => (ulS (ulS (ulC (ulC ulN))))) (fun bq93 _ => ?_) ?_
      · refine GH.one 1 rfl (by kernel_rfl) (Stp.callR (vs := [(.agg #[(.int .i64 (((W : Nat) : Int))), (.int .i64 (((H : Nat) : Int))), (.slice (some ⟨b, o, none⟩) n cap)])]) rfl rfl T.own29 (by decide) (fun wc hw => copy_p W H n cap b o xs wc hx0 (hw.rd hr (fun x => x)) (by have h1 := Nat.mul_pos hok.1 hok.2.1; have h2 := hok.2.2.2.2; omega))) (fun _ => (ulS (ulS (ulS (ulC (ulC ulN)))))) (fun xq94 hq95 => ?_)
        refine GH.one 3 rfl (by kernel_rfl) (Stp.callR (vs := [(.agg #[(.int .i64 (((W : Nat) : Int))), (.int .i64 (((H : Nat) : Int))), (.slice (some ⟨b, o, none⟩) n cap)])]) rfl rfl T.own29 (by decide) (fun wc hw => copy_p W H n cap b o xs wc hx0 (hw.rd hr (fun x => x)) (by have h1 := Nat.mul_pos hok.1 hok.2.1; have h2 := hok.2.2.2.2; omega))) (fun _ => (ulS (ulS (ulS (ulS (ulC (ulC ulN))))))) (fun xq96 hq97 => ?_)
        refine GH.one 6 rfl (by kernel_rfl) (Stp.st3 (cs' := [(.int .i64 (((W : Nat) : Int))), (.int .i64 (((H : Nat) : Int))), (.slice (some ⟨xq94.1, 0, none⟩) n xq94.2.1)]) rfl rfl rfl T.sz43 rfl rfl rfl) (fun _ => (ulS (ulS (ulS (ulS (ulC (ulC ulN))))))) (fun _ _ => ?_)
        refine GH.done (by kernel_rfl) ?_
        refine GE.thenN ?_
        refine GE.tail rfl (Stp.st2 (cs' := [(.int .i64 (((W : Nat) : Int))), (.int .i64 (((H : Nat) : Int))), (.slice (some ⟨xq96.1, 0, none⟩) n xq96.2.1)]) rfl rfl rfl T.sz43 rfl rfl rfl) (fun _ _ => ?_)
        refine GE.thenN ?_
        exact St.mk ((bq84, xq94, bq93, xq96)) trivial (idx := [3, 1, 2, 0, 4, 5]) ((sub_cons rfl ((sub_cons rfl ((sub_cons rfl ((sub_cons rfl ((sub_cons rfl ((sub_cons rfl ((sub_cons rfl ((sub_cons rfl ((sub_cons rfl ((sub_cons rfl ((sub_cons rfl ((sub_cons rfl ((sub_cons rfl ((sub_cons rfl ((sub_cons rfl ((sub_cons rfl ((sub_cons rfl ((sub_cons rfl ((sub_cons rfl ((sub_cons rfl ((sub_cons rfl ((sub_cons rfl ((sub_cons rfl ((sub_cons rfl ((sub_cons rfl ((sub_cons rfl ((sub_cons rfl ((sub_cons rfl ((sub_cons rfl ((sub_cons rfl ((sub_cons rfl ((sub_cons rfl ((sub_cons rfl ((sub_cons rfl ((sub_cons rfl ((sub_cons rfl ((sub_cons rfl ((sub_nil _)))))))))))))))))))))))))))))))))))))))))))))))))))))))))))))))))))))))))))) (by decide) rfl
      exact GHs.nil
    refine GHs.cons rfl (Stp.alloc T.zr43 (by decide)) (fun _ => (ulS (ulC (ulC ulN)))) (fun bq98 _ => ?_) ?_
    · refine GH.many (rs := [1, 4]) (by kernel_rfl) (by simp) ?_
      refine GHs.cons rfl (Stp.callR (vs := [(.agg #[(.int .i64 (((W : Nat) : Int))), (.int .i64 (((H : Nat) : Int))), (.slice (some ⟨b, o, none⟩) n cap)])]) rfl rfl T.own29 (by decide) (fun wc hw => copy_p W H n cap b o xs wc hx0 (hw.rd hr (fun x => x)) (by have h1 := Nat.mul_pos hok.1 hok.2.1; have h2 := hok.2.2.2.2; omega))) (fun _ => (ulS (ulS (ulC (ulC ulN))))) (fun xq99 hq100 => ?_) ?_
      · refine GH.many (rs := [3, 4]) (by kernel_rfl) (by simp) ?_
        refine GHs.cons rfl (Stp.callR (vs := [(.agg #[(.int .i64 (((W : Nat) : Int))), (.int .i64 (((H : Nat) : Int))), (.slice (some ⟨b, o, none⟩) n cap)])]) rfl rfl T.own29 (by decide) (fun wc hw => copy_p W H n cap b o xs wc hx0 (hw.rd hr (fun x => x)) (by have h1 := Nat.mul_pos hok.1 hok.2.1; have h2 := hok.2.2.2.2; omega))) (fun _ => (ulS (ulS (ulS (ulC (ulC ulN)))))) (fun xq101 hq102 => ?_) ?_
        · refine GH.one 4 rfl (by kernel_rfl) (Stp.alloc T.zr43 (by decide)) (fun _ => (ulS (ulS (ulS (ulS (ulC (ulC ulN))))))) (fun bq103 _ => ?_)
          refine GH.one 6 rfl (by kernel_rfl) (Stp.st0 (cs' := [(.int .i64 (((W : Nat) : Int))), (.int .i64 (((H : Nat) : Int))), (.slice (some ⟨xq99.1, 0, none⟩) n xq99.2.1)]) rfl rfl rfl T.sz43 rfl rfl rfl) (fun _ => (ulS (ulS (ulS (ulS (ulC (ulC ulN))))))) (fun _ _ => ?_)
          refine GH.done (by kernel_rfl) ?_
          refine GE.thenN ?_
          refine GE.tail rfl (Stp.st3 (cs' := [(.int .i64 (((W : Nat) : Int))), (.int .i64 (((H : Nat) : Int))), (.slice (some ⟨xq101.1, 0, none⟩) n xq101.2.1)]) rfl rfl rfl T.sz43 rfl rfl rfl) (fun _ _ => ?_)
          refine GE.thenN ?_
          exact St.mk ((bq103, xq99, bq98, xq101)) trivial (idx := [0, 2, 3, 1, 4, 5]) ((sub_cons rfl ((sub_cons rfl ((sub_cons rfl ((sub_cons rfl ((sub_cons rfl ((sub_cons rfl ((sub_cons rfl ((sub_cons rfl ((sub_cons rfl ((sub_cons rfl ((sub_cons rfl ((sub_cons rfl ((sub_cons rfl ((sub_cons rfl ((sub_cons rfl ((sub_cons rfl ((sub_cons rfl ((sub_cons rfl ((sub_cons rfl ((sub_cons rfl ((sub_cons rfl ((sub_cons rfl ((sub_cons rfl ((sub_cons rfl ((sub_cons rfl ((sub_cons rfl ((sub_cons rfl ((sub_cons rfl ((sub_cons rfl ((sub_cons rfl ((sub_cons rfl ((sub_cons rfl ((sub_cons rfl ((sub_cons rfl ((sub_cons rfl ((sub_cons rfl ((sub_cons rfl ((sub_nil _)))))))))))))))))))))))))))))))))))))))))))))))))))))))))))))))))))))))))))) (by decide) rfl
        refine GHs.cons rfl (Stp.alloc T.zr43 (by decide)) (fun _ => (ulS (ulS (ulS (ulC (ulC ulN)))))) (fun bq104 _ => ?_) ?_
        · refine GH.one 3 rfl (by kernel_rfl) (Stp.callR (vs := [(.agg #[(.int .i64 (((W : Nat) : Int))), (.int .i64 (((H : Nat) : Int))), (.slice (some ⟨b, o, none⟩) n cap)])]) rfl rfl T.own29 (by decide) (fun wc hw => copy_p W H n cap b o xs wc hx0 (hw.rd hr (fun x => x)) (by have h1 := Nat.mul_pos hok.1 hok.2.1; have h2 := hok.2.2.2.2; omega))) (fun _ => (ulS (ulS (ulS (ulS (ulC (ulC ulN))))))) (fun xq105 hq106 => ?_)
          refine GH.one 6 rfl (by kernel_rfl) (Stp.st1 (cs' := [(.int .i64 (((W : Nat) : Int))), (.int .i64 (((H : Nat) : Int))), (.slice (some ⟨xq99.1, 0, none⟩) n xq99.2.1)]) rfl rfl rfl T.sz43 rfl rfl rfl) (fun _ => (ulS (ulS (ulS (ulS (ulC (ulC ulN))))))) (fun _ _ => ?_)
          refine GH.done (by kernel_rfl) ?_
          refine GE.thenN ?_
          refine GE.tail rfl (Stp.st3 (cs' := [(.int .i64 (((W : Nat) : Int))), (.int .i64 (((H : Nat) : Int))), (.slice (some ⟨xq105.1, 0, none⟩) n xq105.2.1)]) rfl rfl rfl T.sz43 rfl rfl rfl) (fun _ _ => ?_)
          refine GE.thenN ?_
          exact St.mk ((bq104, xq99, bq98, xq105)) trivial (idx := [1, 2, 3, 0, 4, 5]) ((sub_cons rfl ((sub_cons rfl ((sub_cons rfl ((sub_cons rfl ((sub_cons rfl ((sub_cons rfl ((sub_cons rfl ((sub_cons rfl ((sub_cons rfl ((sub_cons rfl ((sub_cons rfl ((sub_cons rfl ((sub_cons rfl ((sub_cons rfl ((sub_cons rfl ((sub_cons rfl ((sub_cons rfl ((sub_cons rfl ((sub_cons rfl ((sub_cons rfl ((sub_cons rfl ((sub_cons rfl ((sub_cons rfl ((sub_cons rfl ((sub_cons rfl ((sub_cons rfl ((sub_cons rfl ((sub_cons rfl ((sub_cons rfl ((sub_cons rfl ((sub_cons rfl ((sub_cons rfl ((sub_cons rfl ((sub_cons rfl ((sub_cons rfl ((sub_cons rfl ((sub_cons rfl ((sub_nil _)))))))))))))))))))))))))))))))))))))))))))))))))))))))))))))))))))))))))))) (by decide) rfl
        exact GHs.nil
      refine GHs.cons rfl (Stp.alloc T.zr43 (by decide)) (fun _ => (ulS (ulS (ulC (ulC ulN))))) (fun bq107 _ => ?_) ?_
      · refine GH.one 1 rfl (by kernel_rfl) (Stp.callR (vs := [(.agg #[(.int .i64 (((W : Nat) : Int))), (.int .i64 (((H : Nat) : Int))), (.slice (some ⟨b, o, none⟩) n cap)])]) rfl rfl T.own29 (by decide) (fun wc hw => copy_p W H n cap b o xs wc hx0 (hw.rd hr (fun x => x)) (by have h1 := Nat.mul_pos hok.1 hok.2.1; have h2 := hok.2.2.2.2; omega))) (fun _ => (ulS (ulS (ulS (ulC (ulC ulN)))))) (fun xq108 hq109 => ?_)
        refine GH.one 3 rfl (by kernel_rfl) (Stp.callR (vs := [(.agg #[(.int .i64 (((W : Nat) : Int))), (.int .i64 (((H : Nat) : Int))), (.slice (some ⟨b, o, none⟩) n cap)])]) rfl rfl T.own29 (by decide) (fun wc hw => copy_p W H n cap b o xs wc hx0 (hw.rd hr (fun x => x)) (by have h1 := Nat.mul_pos hok.1 hok.2.1; have h2 := hok.2.2.2.2; omega))) (fun _ => (ulS (ulS (ulS (ulS (ulC (ulC ulN))))))) (fun xq110 hq111 => ?_)
        refine GH.one 6 rfl (by kernel_rfl) (Stp.st2 (cs' := [(.int .i64 (((W : Nat) : Int))), (.int .i64 (((H : Nat) : Int))), (.slice (some ⟨xq108.1, 0, none⟩) n xq108.2.1)]) rfl rfl rfl T.sz43 rfl rfl rfl) (fun _ => (ulS (ulS (ulS (ulS (ulC (ulC ulN))))))) (fun _ _ => ?_)
        refine GH.done (by kernel_rfl) ?_
        refine GE.thenN ?_
        refine GE.tail rfl (Stp.st3 (cs' := [(.int .i64 (((W : Nat) : Int))), (.int .i64 (((H : Nat) : Int))), (.slice (some ⟨xq110.1, 0, none⟩) n xq110.2.1)]) rfl rfl rfl T.sz43 rfl rfl rfl) (fun _ _ => ?_)
        refine GE.thenN ?_
        exact St.mk ((bq107, xq108, bq98, xq110)) trivial (idx := [2, 1, 3, 0, 4, 5]) ((sub_cons rfl ((sub_cons rfl ((sub_cons rfl ((sub_cons rfl ((sub_cons rfl ((sub_cons rfl ((sub_cons rfl ((sub_cons rfl ((sub_cons rfl ((sub_cons rfl ((sub_cons rfl ((sub_cons rfl ((sub_cons rfl ((sub_cons rfl ((sub_cons rfl ((sub_cons rfl ((sub_cons rfl ((sub_cons rfl ((sub_cons rfl ((sub_cons rfl ((sub_cons rfl ((sub_cons rfl ((sub_cons rfl ((sub_cons rfl ((sub_cons rfl ((sub_cons rfl ((sub_cons rfl ((sub_cons rfl ((sub_cons rfl ((sub_cons rfl ((sub_cons rfl ((sub_cons rfl ((sub_cons rfl ((sub_cons rfl ((sub_cons rfl ((sub_cons rfl ((sub_cons rfl ((sub_nil _)))))))))))))))))))))))))))))))))))))))))))))))))))))))))))))))))))))))))))) (by decide) rfl
      exact GHs.nil
    exact GHs.nil
  refine GE.thenN ?_
  refine GC.seq ?_
  refine GC.drawP [⟨j61.1, [(.int .i64 (((W : Nat) : Int))), (.int .i64 (((H : Nat) : Int))), (.slice (some ⟨j61.2.1.1, 0, none⟩) n j61.2.1.2.1)], 43, true⟩, ⟨j61.2.1.1, xs.map u32 ++ j61.2.1.2.2, 63, true⟩, ⟨j61.2.2.1, [(.int .i64 (((W : Nat) : Int))), (.int .i64 (((H : Nat) : Int))), (.slice (some ⟨j61.2.2.2.1, 0, none⟩) n j61.2.2.2.2.1)], 43, true⟩, ⟨j61.2.2.2.1, xs.map u32 ++ j61.2.2.2.2.2, 63, true⟩, ⟨bq2, [(.int .i64 (((W : Nat) : Int))), (.int .i64 (((H : Nat) : Int))), (.slice (some ⟨b2, o2, none⟩) n cap2)], 43, true⟩, ⟨bq1, [(.int .i64 (((W : Nat) : Int))), (.int .i64 (((H : Nat) : Int))), (.slice (some ⟨b, o, none⟩) n cap)], 43, true⟩] T.mixed (by kernel_rfl) (by kernel_rfl) (fuel := 11) rfl rfl ?_
  refine GH.take 0 (v := (.pointer (some ⟨bq1, 2, none⟩))) rfl (by kernel_rfl) (by kernel_rfl) (by kernel_rfl) (fun _ _ _ h => h) (Ex.cast (Ex.fieldAddr rfl Try.underlying43 rfl T.sz41 (by decide)) rfl) (ulC (ulC (ulC (ulC (ulC (ulC ulN)))))) (by decide) ?_
  refine GH.take 1 (v := (.slice (some ⟨b, o, none⟩) n cap)) rfl (by kernel_rfl) (by kernel_rfl) (by kernel_rfl) (fun _ _ _ h => h) (Ex.load rfl T.ag41 (i := 5) rfl rfl) (ulC (ulC (ulC (ulC (ulC (ulC ulN)))))) (by decide) ?_
  refine GH.take 2 (v := (.pointer (some ⟨b, o, none⟩))) rfl (by kernel_rfl) (by kernel_rfl) (by kernel_rfl) (fun _ _ _ h => h) (Ex.cast (Ex.indexAddr rfl rfl Try.underlying41 T.sz63 (by omega) (by omega)) rfl) (ulC (ulC (ulC (ulC (ulC (ulC ulN)))))) (by decide) ?_
  refine GH.take 3 (v := (.int .u32 ((xs.getD 0 0)))) rfl (by kernel_rfl) (by kernel_rfl) (by kernel_rfl) (fun _ _ _ h => h) (Ex.loadO rfl T.ag63 (Rd.at (k := 0) hr (by omega)) (fun x => x)) (ulC (ulC (ulC (ulC (ulC (ulC ulN)))))) (by decide) ?_
  refine GH.take 5 (v := (.pointer (some ⟨bq1, 2, none⟩))) rfl (by kernel_rfl) (by kernel_rfl) (by kernel_rfl) (fun _ _ _ h => h) (Ex.cast (Ex.fieldAddr rfl Try.underlying43 rfl T.sz41 (by decide)) rfl) (ulC (ulC (ulC (ulC (ulC (ulC ulN)))))) (by decide) ?_
  refine GH.take 6 (v := (.slice (some ⟨b, o, none⟩) n cap)) rfl (by kernel_rfl) (by kernel_rfl) (by kernel_rfl) (fun _ _ _ h => h) (Ex.load rfl T.ag41 (i := 5) rfl rfl) (ulC (ulC (ulC (ulC (ulC (ulC ulN)))))) (by decide) ?_
  refine GH.take 7 (v := (.pointer (some ⟨b, o, none⟩))) rfl (by kernel_rfl) (by kernel_rfl) (by kernel_rfl) (fun _ _ _ h => h) (Ex.cast (Ex.indexAddr rfl rfl Try.underlying41 T.sz63 (by omega) (by omega)) rfl) (ulC (ulC (ulC (ulC (ulC (ulC ulN)))))) (by decide) ?_
  refine GH.take 8 (v := (.int .u32 ((xs.getD 0 0)))) rfl (by kernel_rfl) (by kernel_rfl) (by kernel_rfl) (fun _ _ _ h => h) (Ex.loadO rfl T.ag63 (Rd.at (k := 0) hr (by omega)) (fun x => x)) (ulC (ulC (ulC (ulC (ulC (ulC ulN)))))) (by decide) ?_
  refine GH.one 4 rfl (by kernel_rfl) (Stp.callR (vs := [(.int .u32 ((xs.getD 0 0)))]) rfl rfl T.own30 (by decide) (fun wc hw => value_fin ((xs.getD 0 0)) wc h0)) (fun _ => (ulC (ulC (ulC (ulC (ulC (ulC ulN))))))) (fun xq116 hq117 => ?_)
  refine GH.one 9 rfl (by kernel_rfl) (Stp.callR (vs := [(.int .u32 ((xs.getD 0 0)))]) rfl rfl T.own30 (by decide) (fun wc hw => value_fin ((xs.getD 0 0)) wc h0)) (fun _ => (ulC (ulC (ulC (ulC (ulC (ulC ulN))))))) (fun xq118 hq119 => ?_)
  refine GH.take 10 (v := (.float .f64 ((Be.vb ((xs.getD 0 0)))))) rfl (by kernel_rfl) (by kernel_rfl) (by kernel_rfl) (fun _ _ _ h => h) (Ex.assign rfl) (ulC (ulC (ulC (ulC (ulC (ulC ulN)))))) (by decide) ?_
  refine GH.done (by kernel_rfl) ?_
  refine GE.thenN ?_
  refine GE.tail rfl (Ex.wp (v := (.float .f64 ((Be.vb ((xs.getD 0 0)))))) (Ex.assign rfl) (by decide)) (fun _ _ => ?_)
  refine GE.thenN ?_
  refine GC.seq ?_
  refine GC.seq ?_
  refine GC.sub (L' := [⟨j61.1, [(.int .i64 (((W : Nat) : Int))), (.int .i64 (((H : Nat) : Int))), (.slice (some ⟨j61.2.1.1, 0, none⟩) n j61.2.1.2.1)], 43, true⟩, ⟨j61.2.1.1, (Be.lwL xs ys n 0).map u32 ++ j61.2.1.2.2, 63, true⟩, ⟨j61.2.2.1, [(.int .i64 (((W : Nat) : Int))), (.int .i64 (((H : Nat) : Int))), (.slice (some ⟨j61.2.2.2.1, 0, none⟩) n j61.2.2.2.2.1)], 43, true⟩, ⟨j61.2.2.2.1, (Be.hgL xs ys n 0).map u32 ++ j61.2.2.2.2.2, 63, true⟩, ⟨bq2, [(.int .i64 (((W : Nat) : Int))), (.int .i64 (((H : Nat) : Int))), (.slice (some ⟨b2, o2, none⟩) n cap2)], 43, true⟩, ⟨bq1, [(.int .i64 (((W : Nat) : Int))), (.int .i64 (((H : Nat) : Int))), (.slice (some ⟨b, o, none⟩) n cap)], 43, true⟩]) (fun _ _ h => h) (by rw [(Be.lw_zero (ys := ys) hx0).1, (Be.lw_zero (ys := ys) hx0).2]; exact ulR) ?_
  refine GC.region ?_
  refine GL.val (Ex.assign rfl) (by decide) ?_
  refine GL.nil ?_
  refine GE.thenN ?_
  refine GC.block ?_
  refine GC.loop (σ := Nat) (fun i => i ≤ n ∧ Be.fins xs ys i) (fun i => [(0, (.agg #[(.int .i64 (((W : Nat) : Int))), (.int .i64 (((H : Nat) : Int))), (.slice (some ⟨b, o, none⟩) n cap)])), (1, (.agg #[(.int .i64 (((W : Nat) : Int))), (.int .i64 (((H : Nat) : Int))), (.slice (some ⟨b2, o2, none⟩) n cap2)])), (2, (.int .i64 kd)), (3, (.int .i64 r)), (4, (.int .i64 k)), (5, (.pointer (some ⟨bq1, 0, none⟩))), (6, (.pointer (some ⟨bq2, 0, none⟩))), (10, (.bool false)), (11, (.pointer (some ⟨j61.1, 0, none⟩))), (12, (.pointer (some ⟨j61.2.2.1, 0, none⟩))), (13, (.float .f64 ((Be.lu xs ys i)))), (14, (.float .f64 ((Be.gu xs ys i)))), (15, (.int .i64 (((i : Nat) : Int))))]) (fun i => [⟨j61.1, [(.int .i64 (((W : Nat) : Int))), (.int .i64 (((H : Nat) : Int))), (.slice (some ⟨j61.2.1.1, 0, none⟩) n j61.2.1.2.1)], 43, true⟩, ⟨j61.2.1.1, (Be.lwL xs ys n i).map u32 ++ j61.2.1.2.2, 63, true⟩, ⟨j61.2.2.1, [(.int .i64 (((W : Nat) : Int))), (.int .i64 (((H : Nat) : Int))), (.slice (some ⟨j61.2.2.2.1, 0, none⟩) n j61.2.2.2.2.1)], 43, true⟩, ⟨j61.2.2.2.1, (Be.hgL xs ys n i).map u32 ++ j61.2.2.2.2.2, 63, true⟩, ⟨bq2, [(.int .i64 (((W : Nat) : Int))), (.int .i64 (((H : Nat) : Int))), (.slice (some ⟨b2, o2, none⟩) n cap2)], 43, true⟩, ⟨bq1, [(.int .i64 (((W : Nat) : Int))), (.int .i64 (((H : Nat) : Int))), (.slice (some ⟨b, o, none⟩) n cap)], 43, true⟩]) (fun i => n - i) (0) ⟨Nat.zero_le _, hf0⟩ ((sub_cons rfl ((sub_cons rfl ((sub_cons rfl ((sub_cons rfl ((sub_cons rfl ((sub_cons rfl ((sub_cons rfl ((sub_cons rfl ((sub_cons rfl ((sub_cons rfl ((sub_cons rfl ((sub_cons rfl ((sub_cons rfl ((sub_nil _)))))))))))))))))))))))))))) (ulC (ulC (ulC (ulC (ulC (ulC ulN)))))) (fun i hp => ?_)
  have hp0 := hp
  have hpi := hp.1
  have hbxi := hbx i
  have hbyi := hby i
  refine GC.seq ?_
  refine GC.seq ?_
  refine GC.region ?_
  refine GL.val (Ex.move rfl) (by decide) ?_
  refine GL.val (v := (.pointer (some ⟨bq1, 2, none⟩))) (Ex.cast (Ex.fieldAddr rfl Try.underlying43 rfl T.sz41 (by decide)) rfl) (by decide) ?_
  refine GL.val (Ex.load rfl T.ag41 (i := 5) rfl rfl) (by decide) ?_
  refine GL.val (v := (.int .i64 ((n : Int)))) (Ex.len rfl Try.underlying41) (by decide) ?_
  refine GL.val (v := (.bool (decide ((((i : Nat) : Int)) < ((n : Int)))))) (Ex.lss rfl rfl) (by decide) ?_
  refine GL.nil ?_
  refine GE.thenN ?_
  refine GC.cond rfl (fun hq120 => ?_) (fun hq120 => ?_)
  · replace hq120 := of_decide_eq_true hq120
    refine GC.skip ?_
    refine GE.thenN ?_
    refine GC.seq ?_
    refine GC.block ?_
    refine GC.seq ?_
    refine GC.seq ?_
    refine GC.region ?_
    refine GL.val (v := (.pointer (some ⟨bq1, 2, none⟩))) (Ex.cast (Ex.fieldAddr rfl Try.underlying43 rfl T.sz41 (by decide)) rfl) (by decide) ?_
    refine GL.val (Ex.load rfl T.ag41 (i := 5) rfl rfl) (by decide) ?_
    refine GL.val (Ex.move rfl) (by decide) ?_
    refine GL.val (v := (.pointer (some ⟨b, o + i, none⟩))) (Ex.cast (Ex.indexAddr rfl rfl Try.underlying41 T.sz63 (by omega) (by omega)) (by simp)) (by decide) ?_
    refine GL.val (v := (.int .u32 ((xs.getD i 0)))) (Ex.loadO rfl T.ag63 (Rd.at hr (by omega)) (fun x => x)) (by decide) ?_
    refine GL.step (Stp.callR (vs := [(.int .u32 ((xs.getD i 0)))]) rfl rfl T.own31 (by decide) (fun wc hw => finite_p ((xs.getD i 0)) wc hbxi)) (fun xq121 hq122 => ?_)
    by_cases hq123 : (((xs.getD i 0)) / 8388608 % 256 ≠ 255)
    · refine GL.val (v := (.bool false)) (Ex.cast (Ex.not rfl) (congrArg Value.bool (congrArg (fun z => !z) (decide_eq_true hq123)))) (by decide) ?_
      refine GL.val (Ex.move rfl) (by decide) ?_
      refine GL.stepG (tj := 78) rfl rfl (Ex.wp (v := (.pointer (some ⟨bq2, 2, none⟩))) (Ex.cast (Ex.fieldAddr rfl Try.underlying43 rfl T.sz41 (by decide)) rfl) (by decide)) (fun _ _ => ?_)
      refine GL.stepG (tj := 78) rfl rfl (Ex.wp (v := (.slice (some ⟨b2, o2, none⟩) n cap2)) (Ex.load rfl T.ag41 (i := 4) rfl rfl) (by decide)) (fun _ _ => ?_)
      refine GL.stepG (tj := 78) rfl rfl (Ex.wp (v := (.int .i64 (((i : Nat) : Int)))) (Ex.move rfl) (by decide)) (fun _ _ => ?_)
      refine GL.stepG (tj := 78) rfl rfl (Ex.wp (v := (.pointer (some ⟨b2, o2 + i, none⟩))) (Ex.cast (Ex.indexAddr rfl rfl Try.underlying41 T.sz63 (by omega) (by omega)) (by simp)) (by decide)) (fun _ _ => ?_)
      refine GL.stepG (tj := 78) rfl rfl (Ex.wp (v := (.int .u32 ((ys.getD i 0)))) (Ex.loadO rfl T.ag63 (Rd.at hr2 (by omega)) (fun x => x)) (by decide)) (fun _ _ => ?_)
      refine GL.stepG (tj := 78) rfl rfl (Stp.callR (vs := [(.int .u32 ((ys.getD i 0)))]) rfl rfl T.own31 (by decide) (fun wc hw => finite_p ((ys.getD i 0)) wc hbyi)) (fun xq124 hq125 => ?_)
      refine GL.stepG (tj := 78) rfl rfl (Ex.wp (v := (.bool (!(decide (((ys.getD i 0)) / 8388608 % 256 ≠ 255))))) (Ex.not rfl) (by decide)) (fun _ _ => ?_)
      refine GL.val (v := (.bool (!(decide (((ys.getD i 0)) / 8388608 % 256 ≠ 255))))) (Ex.pickF rfl rfl) (by decide) ?_
      refine GL.nil ?_
      refine GE.thenN ?_
      refine GC.cond rfl (fun hq126 => ?_) (fun hq126 => ?_)
      · replace hq126 := of_decide_eq_false ((Bool.not_eq_true' _).mp hq126)
        refine GC.seq ?_
        refine GC.region ?_
        refine GL.val (Ex.assign rfl) (by decide) ?_
        refine GL.nil ?_
        refine GE.thenN ?_
        refine GC.ret ?_
        refine GE.thenR ?_
        refine GE.blockR ?_
        refine GE.thenR ?_
        refine GE.thenR ?_
        refine GE.blockR ?_
        refine GE.thenR ?_
        refine GC.ret1 rfl (Rv.tmp rfl) (fun wN HN => ?_)
        exact HN.ret () trivial rfl (List.nil_sublist _) rfl
      · replace hq126 := of_decide_eq_true ((Bool.not_eq_false' _).mp hq126)
        refine GC.skip ?_
        refine GE.thenN ?_
        refine GC.seq ?_
        refine GC.seq ?_
        have fx : Be.fin (xs.getD i 0) := Be.fin_is hbxi (by omega)
        have fy : Be.fin (ys.getD i 0) := Be.fin_is hbyi (by omega)
        have hlw := Be.lw_fin fx fy
        have hfs := Be.fins_step hp0.2 fx fy
        refine GC.draw [⟨j61.1, [(.int .i64 (((W : Nat) : Int))), (.int .i64 (((H : Nat) : Int))), (.slice (some ⟨j61.2.1.1, 0, none⟩) n j61.2.1.2.1)], 43, true⟩, ⟨j61.2.1.1, (Be.lwL xs ys n i).map u32 ++ j61.2.1.2.2, 63, true⟩, ⟨j61.2.2.1, [(.int .i64 (((W : Nat) : Int))), (.int .i64 (((H : Nat) : Int))), (.slice (some ⟨j61.2.2.2.1, 0, none⟩) n j61.2.2.2.2.1)], 43, true⟩, ⟨j61.2.2.2.1, (Be.hgL xs ys n i).map u32 ++ j61.2.2.2.2.2, 63, true⟩, ⟨bq2, [(.int .i64 (((W : Nat) : Int))), (.int .i64 (((H : Nat) : Int))), (.slice (some ⟨b2, o2, none⟩) n cap2)], 43, true⟩, ⟨bq1, [(.int .i64 (((W : Nat) : Int))), (.int .i64 (((H : Nat) : Int))), (.slice (some ⟨b, o, none⟩) n cap)], 43, true⟩] T.mixed (fuel := 13) rfl rfl ?_
        refine GH.take 0 (v := (.pointer (some ⟨bq2, 2, none⟩))) rfl (by kernel_rfl) (by kernel_rfl) (by kernel_rfl) (fun _ _ _ h => h) (Ex.cast (Ex.fieldAddr rfl Try.underlying43 rfl T.sz41 (by decide)) rfl) (ulC (ulC (ulC (ulC (ulC (ulC ulN)))))) (by decide) ?_
        refine GH.take 1 (v := (.slice (some ⟨b2, o2, none⟩) n cap2)) rfl (by kernel_rfl) (by kernel_rfl) (by kernel_rfl) (fun _ _ _ h => h) (Ex.load rfl T.ag41 (i := 4) rfl rfl) (ulC (ulC (ulC (ulC (ulC (ulC ulN)))))) (by decide) ?_
        refine GH.take 2 (v := (.int .i64 (((i : Nat) : Int)))) rfl (by kernel_rfl) (by kernel_rfl) (by kernel_rfl) (fun _ _ _ h => h) (Ex.move rfl) (ulC (ulC (ulC (ulC (ulC (ulC ulN)))))) (by decide) ?_
        refine GH.take 3 (v := (.pointer (some ⟨b2, o2 + i, none⟩))) rfl (by kernel_rfl) (by kernel_rfl) (by kernel_rfl) (fun _ _ _ h => h) (Ex.cast (Ex.indexAddr rfl rfl Try.underlying41 T.sz63 (by omega) (by omega)) (by simp)) (ulC (ulC (ulC (ulC (ulC (ulC ulN)))))) (by decide) ?_
        refine GH.take 4 (v := (.int .u32 ((ys.getD i 0)))) rfl (by kernel_rfl) (by kernel_rfl) (by kernel_rfl) (fun _ _ _ h => h) (Ex.loadO rfl T.ag63 (Rd.at hr2 (by omega)) (fun x => x)) (ulC (ulC (ulC (ulC (ulC (ulC ulN)))))) (by decide) ?_
        refine GH.take 6 (v := (.pointer (some ⟨bq1, 2, none⟩))) rfl (by kernel_rfl) (by kernel_rfl) (by kernel_rfl) (fun _ _ _ h => h) (Ex.cast (Ex.fieldAddr rfl Try.underlying43 rfl T.sz41 (by decide)) rfl) (ulC (ulC (ulC (ulC (ulC (ulC ulN)))))) (by decide) ?_
        refine GH.take 7 (v := (.slice (some ⟨b, o, none⟩) n cap)) rfl (by kernel_rfl) (by kernel_rfl) (by kernel_rfl) (fun _ _ _ h => h) (Ex.load rfl T.ag41 (i := 5) rfl rfl) (ulC (ulC (ulC (ulC (ulC (ulC ulN)))))) (by decide) ?_
        refine GH.take 8 (v := (.int .i64 (((i : Nat) : Int)))) rfl (by kernel_rfl) (by kernel_rfl) (by kernel_rfl) (fun _ _ _ h => h) (Ex.move rfl) (ulC (ulC (ulC (ulC (ulC (ulC ulN)))))) (by decide) ?_
        refine GH.take 9 (v := (.pointer (some ⟨b, o + i, none⟩))) rfl (by kernel_rfl) (by kernel_rfl) (by kernel_rfl) (fun _ _ _ h => h) (Ex.cast (Ex.indexAddr rfl rfl Try.underlying41 T.sz63 (by omega) (by omega)) (by simp)) (ulC (ulC (ulC (ulC (ulC (ulC ulN)))))) (by decide) ?_
        refine GH.take 10 (v := (.int .u32 ((xs.getD i 0)))) rfl (by kernel_rfl) (by kernel_rfl) (by kernel_rfl) (fun _ _ _ h => h) (Ex.loadO rfl T.ag63 (Rd.at hr (by omega)) (fun x => x)) (ulC (ulC (ulC (ulC (ulC (ulC ulN)))))) (by decide) ?_
        refine GH.one 5 rfl (by kernel_rfl) (Stp.callR (vs := [(.int .u32 ((ys.getD i 0)))]) rfl rfl T.own30 (by decide) (fun wc hw => value_fin ((ys.getD i 0)) wc fy)) (fun _ => (ulC (ulC (ulC (ulC (ulC (ulC ulN))))))) (fun xq131 hq132 => ?_)
        refine GH.one 11 rfl (by kernel_rfl) (Stp.callR (vs := [(.int .u32 ((xs.getD i 0)))]) rfl rfl T.own30 (by decide) (fun wc hw => value_fin ((xs.getD i 0)) wc fx)) (fun _ => (ulC (ulC (ulC (ulC (ulC (ulC ulN))))))) (fun xq133 hq134 => ?_)
        refine GH.take 12 (v := (.bool (decide (Fv.rk (ys.getD i 0) < Fv.rk (xs.getD i 0))))) rfl (by kernel_rfl) (by kernel_rfl) (by kernel_rfl) (fun _ _ _ h => h) (Ex.flss (r := decide (Fv.rk (ys.getD i 0) < Fv.rk (xs.getD i 0))) rfl rfl (Eq.trans (congrArg (fun o : Option Ordering => (o == some .lt)) (Fv.ord_eq (Be.vb_is fy) (Be.vb_is fx))) (Be.lss_is fx fy))) (ulC (ulC (ulC (ulC (ulC (ulC ulN)))))) (by decide) ?_
        refine GH.done (by kernel_rfl) ?_
        refine GE.thenN ?_
        refine GC.cond rfl (fun hq135 => ?_) (fun hq135 => ?_)
        · replace hq135 := of_decide_eq_true hq135
          rw [(Be.lw_step (xs := xs) (ys := ys) (n := n) (by omega : i < n) hq135).2]
          refine GC.drawP [⟨j61.1, [(.int .i64 (((W : Nat) : Int))), (.int .i64 (((H : Nat) : Int))), (.slice (some ⟨j61.2.1.1, 0, none⟩) n j61.2.1.2.1)], 43, true⟩, ⟨j61.2.2.1, [(.int .i64 (((W : Nat) : Int))), (.int .i64 (((H : Nat) : Int))), (.slice (some ⟨j61.2.2.2.1, 0, none⟩) n j61.2.2.2.2.1)], 43, true⟩, ⟨j61.2.2.2.1, (Be.hgL xs ys n (i + 1)).map u32 ++ j61.2.2.2.2.2, 63, true⟩, ⟨bq2, [(.int .i64 (((W : Nat) : Int))), (.int .i64 (((H : Nat) : Int))), (.slice (some ⟨b2, o2, none⟩) n cap2)], 43, true⟩, ⟨bq1, [(.int .i64 (((W : Nat) : Int))), (.int .i64 (((H : Nat) : Int))), (.slice (some ⟨b, o, none⟩) n cap)], 43, true⟩] T.mixed (by kernel_rfl) (by kernel_rfl) (fuel := 9) rfl rfl ?_
          refine GH.take 0 (v := (.pointer (some ⟨j61.1, 2, none⟩))) rfl (by kernel_rfl) (by kernel_rfl) (by kernel_rfl) (fun _ _ _ h => h) (Ex.cast (Ex.fieldAddr rfl Try.underlying43 rfl T.sz41 (by decide)) rfl) (ulC (ulS (ulC (ulC (ulC (ulC ulN)))))) (by decide) ?_
          refine GH.take 1 (v := (.slice (some ⟨j61.2.1.1, 0, none⟩) n j61.2.1.2.1)) rfl (by kernel_rfl) (by kernel_rfl) (by kernel_rfl) (fun _ _ _ h => h) (Ex.load rfl T.ag41 (i := 0) rfl rfl) (ulC (ulS (ulC (ulC (ulC (ulC ulN)))))) (by decide) ?_
          refine GH.take 2 (v := (.int .i64 (((i : Nat) : Int)))) rfl (by kernel_rfl) (by kernel_rfl) (by kernel_rfl) (fun _ _ _ h => h) (Ex.move rfl) (ulC (ulS (ulC (ulC (ulC (ulC ulN)))))) (by decide) ?_
          refine GH.take 3 (v := (.pointer (some ⟨bq2, 2, none⟩))) rfl (by kernel_rfl) (by kernel_rfl) (by kernel_rfl) (fun _ _ _ h => h) (Ex.cast (Ex.fieldAddr rfl Try.underlying43 rfl T.sz41 (by decide)) rfl) (ulC (ulS (ulC (ulC (ulC (ulC ulN)))))) (by decide) ?_
          refine GH.take 4 (v := (.slice (some ⟨b2, o2, none⟩) n cap2)) rfl (by kernel_rfl) (by kernel_rfl) (by kernel_rfl) (fun _ _ _ h => h) (Ex.load rfl T.ag41 (i := 3) rfl rfl) (ulC (ulS (ulC (ulC (ulC (ulC ulN)))))) (by decide) ?_
          refine GH.take 5 (v := (.int .i64 (((i : Nat) : Int)))) rfl (by kernel_rfl) (by kernel_rfl) (by kernel_rfl) (fun _ _ _ h => h) (Ex.move rfl) (ulC (ulS (ulC (ulC (ulC (ulC ulN)))))) (by decide) ?_
          refine GH.take 6 (v := (.pointer (some ⟨b2, o2 + i, none⟩))) rfl (by kernel_rfl) (by kernel_rfl) (by kernel_rfl) (fun _ _ _ h => h) (Ex.cast (Ex.indexAddr rfl rfl Try.underlying41 T.sz63 (by omega) (by omega)) (by simp)) (ulC (ulS (ulC (ulC (ulC (ulC ulN)))))) (by decide) ?_
          refine GH.take 7 (v := (.int .u32 ((ys.getD i 0)))) rfl (by kernel_rfl) (by kernel_rfl) (by kernel_rfl) (fun _ _ _ h => h) (Ex.loadO rfl T.ag63 (Rd.at hr2 (by omega)) (fun x => x)) (ulC (ulS (ulC (ulC (ulC (ulC ulN)))))) (by decide) ?_
          refine GH.take 8 (v := (.pointer (some ⟨j61.2.1.1, i, none⟩))) rfl (by kernel_rfl) (by kernel_rfl) (by kernel_rfl) (fun _ _ _ h => h) (Ex.cast (Ex.indexAddr rfl rfl Try.underlying41 T.sz63 (by omega) (by omega)) (by simp)) (ulC (ulS (ulC (ulC (ulC (ulC ulN)))))) (by decide) ?_
          refine GH.done (by kernel_rfl) ?_
          refine GE.thenN ?_
          refine GE.tail rfl (Stp.storeL (i := 1) (cs := (Be.lwL xs ys n i).map u32 ++ j61.2.1.2.2) (vs := [(.int .u32 ((ys.getD i 0)))]) (o := i) (L1 := [⟨j61.1, [(.int .i64 (((W : Nat) : Int))), (.int .i64 (((H : Nat) : Int))), (.slice (some ⟨j61.2.1.1, 0, none⟩) n j61.2.1.2.1)], 43, true⟩, ⟨j61.2.1.1, (Be.lwL xs ys n (i + 1)).map u32 ++ j61.2.1.2.2, 63, true⟩, ⟨j61.2.2.1, [(.int .i64 (((W : Nat) : Int))), (.int .i64 (((H : Nat) : Int))), (.slice (some ⟨j61.2.2.2.1, 0, none⟩) n j61.2.2.2.2.1)], 43, true⟩, ⟨j61.2.2.2.1, (Be.hgL xs ys n (i + 1)).map u32 ++ j61.2.2.2.2.2, 63, true⟩, ⟨bq2, [(.int .i64 (((W : Nat) : Int))), (.int .i64 (((H : Nat) : Int))), (.slice (some ⟨b2, o2, none⟩) n cap2)], 43, true⟩, ⟨bq1, [(.int .i64 (((W : Nat) : Int))), (.int .i64 (((H : Nat) : Int))), (.slice (some ⟨b, o, none⟩) n cap)], 43, true⟩]) rfl rfl rfl T.sz63 rfl (Nat.ble_eq_true_of_le (by rw [List.length_append, List.length_map, (Be.lw_len _ _ _ _).1]; simp; omega)) rfl (by rw [Bc.set_store _ (by rw [(Be.lw_len _ _ _ _).1]; omega), (Be.lw_step (by omega) hq135).1]; rfl)) (fun _ _ => ?_)
          refine GE.thenN ?_
          refine GC.drawP [⟨j61.1, [(.int .i64 (((W : Nat) : Int))), (.int .i64 (((H : Nat) : Int))), (.slice (some ⟨j61.2.1.1, 0, none⟩) n j61.2.1.2.1)], 43, true⟩, ⟨j61.2.1.1, (Be.lwL xs ys n (i + 1)).map u32 ++ j61.2.1.2.2, 63, true⟩, ⟨j61.2.2.1, [(.int .i64 (((W : Nat) : Int))), (.int .i64 (((H : Nat) : Int))), (.slice (some ⟨j61.2.2.2.1, 0, none⟩) n j61.2.2.2.2.1)], 43, true⟩, ⟨j61.2.2.2.1, (Be.hgL xs ys n (i + 1)).map u32 ++ j61.2.2.2.2.2, 63, true⟩, ⟨bq2, [(.int .i64 (((W : Nat) : Int))), (.int .i64 (((H : Nat) : Int))), (.slice (some ⟨b2, o2, none⟩) n cap2)], 43, true⟩, ⟨bq1, [(.int .i64 (((W : Nat) : Int))), (.int .i64 (((H : Nat) : Int))), (.slice (some ⟨b, o, none⟩) n cap)], 43, true⟩] T.mixed (by kernel_rfl) (by kernel_rfl) (fuel := 17) rfl rfl ?_
          refine GH.take 0 (v := (.float .f64 ((Be.lu xs ys i)))) rfl (by kernel_rfl) (by kernel_rfl) (by kernel_rfl) (fun _ _ _ h => h) (Ex.move rfl) (ulC (ulC (ulC (ulC (ulC (ulC ulN)))))) (by decide) ?_
          refine GH.take 1 (v := (.pointer (some ⟨j61.1, 2, none⟩))) rfl (by kernel_rfl) (by kernel_rfl) (by kernel_rfl) (fun _ _ _ h => h) (Ex.cast (Ex.fieldAddr rfl Try.underlying43 rfl T.sz41 (by decide)) rfl) (ulC (ulC (ulC (ulC (ulC (ulC ulN)))))) (by decide) ?_
          refine GH.take 2 (v := (.slice (some ⟨j61.2.1.1, 0, none⟩) n j61.2.1.2.1)) rfl (by kernel_rfl) (by kernel_rfl) (by kernel_rfl) (fun _ _ _ h => h) (Ex.load rfl T.ag41 (i := 0) rfl rfl) (ulC (ulC (ulC (ulC (ulC (ulC ulN)))))) (by decide) ?_
          refine GH.take 3 (v := (.int .i64 (((i : Nat) : Int)))) rfl (by kernel_rfl) (by kernel_rfl) (by kernel_rfl) (fun _ _ _ h => h) (Ex.move rfl) (ulC (ulC (ulC (ulC (ulC (ulC ulN)))))) (by decide) ?_
          refine GH.take 4 (v := (.pointer (some ⟨j61.2.1.1, i, none⟩))) rfl (by kernel_rfl) (by kernel_rfl) (by kernel_rfl) (fun _ _ _ h => h) (Ex.cast (Ex.indexAddr rfl rfl Try.underlying41 T.sz63 (by omega) (by omega)) (by simp)) (ulC (ulC (ulC (ulC (ulC (ulC ulN)))))) (by decide) ?_
          refine GH.take 5 (v := (.int .u32 ((Be.lw (xs.getD i 0) (ys.getD i 0))))) rfl (by kernel_rfl) (by kernel_rfl) (by kernel_rfl) (fun _ _ _ h => h) (Ex.load rfl T.ag63 (i := 1) rfl (Be.lw_get (by omega) _).1) (ulC (ulC (ulC (ulC (ulC (ulC ulN)))))) (by decide) ?_
          refine GH.take 8 (v := (.float .f64 ((Be.gu xs ys i)))) rfl (by kernel_rfl) (by kernel_rfl) (by kernel_rfl) (fun _ _ _ h => h) (Ex.move rfl) (ulC (ulC (ulC (ulC (ulC (ulC ulN)))))) (by decide) ?_
          refine GH.take 9 (v := (.pointer (some ⟨j61.2.2.1, 2, none⟩))) rfl (by kernel_rfl) (by kernel_rfl) (by kernel_rfl) (fun _ _ _ h => h) (Ex.cast (Ex.fieldAddr rfl Try.underlying43 rfl T.sz41 (by decide)) rfl) (ulC (ulC (ulC (ulC (ulC (ulC ulN)))))) (by decide) ?_
          refine GH.take 10 (v := (.slice (some ⟨j61.2.2.2.1, 0, none⟩) n j61.2.2.2.2.1)) rfl (by kernel_rfl) (by kernel_rfl) (by kernel_rfl) (fun _ _ _ h => h) (Ex.load rfl T.ag41 (i := 2) rfl rfl) (ulC (ulC (ulC (ulC (ulC (ulC ulN)))))) (by decide) ?_
          refine GH.take 11 (v := (.int .i64 (((i : Nat) : Int)))) rfl (by kernel_rfl) (by kernel_rfl) (by kernel_rfl) (fun _ _ _ h => h) (Ex.move rfl) (ulC (ulC (ulC (ulC (ulC (ulC ulN)))))) (by decide) ?_
          refine GH.take 12 (v := (.pointer (some ⟨j61.2.2.2.1, i, none⟩))) rfl (by kernel_rfl) (by kernel_rfl) (by kernel_rfl) (fun _ _ _ h => h) (Ex.cast (Ex.indexAddr rfl rfl Try.underlying41 T.sz63 (by omega) (by omega)) (by simp)) (ulC (ulC (ulC (ulC (ulC (ulC ulN)))))) (by decide) ?_
          refine GH.take 13 (v := (.int .u32 ((Be.hg (xs.getD i 0) (ys.getD i 0))))) rfl (by kernel_rfl) (by kernel_rfl) (by kernel_rfl) (fun _ _ _ h => h) (Ex.load rfl T.ag63 (i := 3) rfl (Be.lw_get (by omega) _).2) (ulC (ulC (ulC (ulC (ulC (ulC ulN)))))) (by decide) ?_
          refine GH.one 6 rfl (by kernel_rfl) (Stp.callR (vs := [(.int .u32 ((Be.lw (xs.getD i 0) (ys.getD i 0))))]) rfl rfl T.own30 (by decide) (fun wc hw => value_fin ((Be.lw (xs.getD i 0) (ys.getD i 0))) wc hlw.1)) (fun _ => (ulC (ulC (ulC (ulC (ulC (ulC ulN))))))) (fun xq140 hq141 => ?_)
          refine GH.take 7 (v := (.float .f64 ((Be.lu xs ys (i + 1))))) rfl (by kernel_rfl) (by kernel_rfl) (by kernel_rfl) (fun _ _ _ h => h) (Ex.minF rfl rfl (Be.lu_ne h0 hp0.2 hlw.1)) (ulC (ulC (ulC (ulC (ulC (ulC ulN)))))) (by decide) ?_
          refine GH.one 14 rfl (by kernel_rfl) (Stp.callR (vs := [(.int .u32 ((Be.hg (xs.getD i 0) (ys.getD i 0))))]) rfl rfl T.own30 (by decide) (fun wc hw => value_fin ((Be.hg (xs.getD i 0) (ys.getD i 0))) wc hlw.2.1)) (fun _ => (ulC (ulC (ulC (ulC (ulC (ulC ulN))))))) (fun xq142 hq143 => ?_)
          refine GH.take 15 (v := (.float .f64 ((Be.gu xs ys (i + 1))))) rfl (by kernel_rfl) (by kernel_rfl) (by kernel_rfl) (fun _ _ _ h => h) (Ex.maxF rfl rfl (Be.gu_ne h0 hp0.2 hlw.2.1)) (ulC (ulC (ulC (ulC (ulC (ulC ulN)))))) (by decide) ?_
          refine GH.take 16 (v := (.float .f64 ((Be.lu xs ys (i + 1))))) rfl (by kernel_rfl) (by kernel_rfl) (by kernel_rfl) (fun _ _ _ h => h) (Ex.assign rfl) (ulC (ulC (ulC (ulC (ulC (ulC ulN)))))) (by decide) ?_
          refine GH.done (by kernel_rfl) ?_
          refine GE.thenN ?_
          refine GE.tail rfl (Ex.wp (v := (.float .f64 ((Be.gu xs ys (i + 1))))) (Ex.assign rfl) (by decide)) (fun _ _ => ?_)
          refine GE.blockN ?_
          refine GE.thenN ?_
          refine GC.region ?_
          refine GL.val (Ex.move rfl) (by decide) ?_
          refine GL.val (v := (.int .i64 (((i + 1 : Nat) : Int)))) (Ex.add rfl rfl (Z := ((i + 1 : Nat) : Int)) (addN (b := 1) (by omega))) (by decide) ?_
          refine GL.val (Ex.assign rfl) (by decide) ?_
          refine GL.nil ?_
          refine GE.thenN ?_
          exact Head.mk (i + 1) ⟨(by omega), hfs⟩ (by omega) ((sub_cons rfl ((sub_cons rfl ((sub_cons rfl ((sub_cons rfl ((sub_cons rfl ((sub_cons rfl ((sub_cons rfl ((sub_cons rfl ((sub_cons rfl ((sub_cons rfl ((sub_cons rfl ((sub_cons rfl ((sub_cons rfl ((sub_nil _)))))))))))))))))))))))))))) (ulC (ulC (ulC (ulC (ulC (ulC ulN))))))
        · replace hq135 := of_decide_eq_false hq135
          rw [(Be.hg_step (xs := xs) (ys := ys) (n := n) (by omega : i < n) hq135).2]
          refine GC.drawP [⟨j61.1, [(.int .i64 (((W : Nat) : Int))), (.int .i64 (((H : Nat) : Int))), (.slice (some ⟨j61.2.1.1, 0, none⟩) n j61.2.1.2.1)], 43, true⟩, ⟨j61.2.1.1, (Be.lwL xs ys n (i + 1)).map u32 ++ j61.2.1.2.2, 63, true⟩, ⟨j61.2.2.1, [(.int .i64 (((W : Nat) : Int))), (.int .i64 (((H : Nat) : Int))), (.slice (some ⟨j61.2.2.2.1, 0, none⟩) n j61.2.2.2.2.1)], 43, true⟩, ⟨bq2, [(.int .i64 (((W : Nat) : Int))), (.int .i64 (((H : Nat) : Int))), (.slice (some ⟨b2, o2, none⟩) n cap2)], 43, true⟩, ⟨bq1, [(.int .i64 (((W : Nat) : Int))), (.int .i64 (((H : Nat) : Int))), (.slice (some ⟨b, o, none⟩) n cap)], 43, true⟩] T.mixed (by kernel_rfl) (by kernel_rfl) (fuel := 9) rfl rfl ?_
          refine GH.take 0 (v := (.pointer (some ⟨j61.2.2.1, 2, none⟩))) rfl (by kernel_rfl) (by kernel_rfl) (by kernel_rfl) (fun _ _ _ h => h) (Ex.cast (Ex.fieldAddr rfl Try.underlying43 rfl T.sz41 (by decide)) rfl) (ulC (ulC (ulC (ulS (ulC (ulC ulN)))))) (by decide) ?_
          refine GH.take 1 (v := (.slice (some ⟨j61.2.2.2.1, 0, none⟩) n j61.2.2.2.2.1)) rfl (by kernel_rfl) (by kernel_rfl) (by kernel_rfl) (fun _ _ _ h => h) (Ex.load rfl T.ag41 (i := 2) rfl rfl) (ulC (ulC (ulC (ulS (ulC (ulC ulN)))))) (by decide) ?_
          refine GH.take 2 (v := (.int .i64 (((i : Nat) : Int)))) rfl (by kernel_rfl) (by kernel_rfl) (by kernel_rfl) (fun _ _ _ h => h) (Ex.move rfl) (ulC (ulC (ulC (ulS (ulC (ulC ulN)))))) (by decide) ?_
          refine GH.take 3 (v := (.pointer (some ⟨bq2, 2, none⟩))) rfl (by kernel_rfl) (by kernel_rfl) (by kernel_rfl) (fun _ _ _ h => h) (Ex.cast (Ex.fieldAddr rfl Try.underlying43 rfl T.sz41 (by decide)) rfl) (ulC (ulC (ulC (ulS (ulC (ulC ulN)))))) (by decide) ?_
          refine GH.take 4 (v := (.slice (some ⟨b2, o2, none⟩) n cap2)) rfl (by kernel_rfl) (by kernel_rfl) (by kernel_rfl) (fun _ _ _ h => h) (Ex.load rfl T.ag41 (i := 3) rfl rfl) (ulC (ulC (ulC (ulS (ulC (ulC ulN)))))) (by decide) ?_
          refine GH.take 5 (v := (.int .i64 (((i : Nat) : Int)))) rfl (by kernel_rfl) (by kernel_rfl) (by kernel_rfl) (fun _ _ _ h => h) (Ex.move rfl) (ulC (ulC (ulC (ulS (ulC (ulC ulN)))))) (by decide) ?_
          refine GH.take 6 (v := (.pointer (some ⟨b2, o2 + i, none⟩))) rfl (by kernel_rfl) (by kernel_rfl) (by kernel_rfl) (fun _ _ _ h => h) (Ex.cast (Ex.indexAddr rfl rfl Try.underlying41 T.sz63 (by omega) (by omega)) (by simp)) (ulC (ulC (ulC (ulS (ulC (ulC ulN)))))) (by decide) ?_
          refine GH.take 7 (v := (.int .u32 ((ys.getD i 0)))) rfl (by kernel_rfl) (by kernel_rfl) (by kernel_rfl) (fun _ _ _ h => h) (Ex.loadO rfl T.ag63 (Rd.at hr2 (by omega)) (fun x => x)) (ulC (ulC (ulC (ulS (ulC (ulC ulN)))))) (by decide) ?_
          refine GH.take 8 (v := (.pointer (some ⟨j61.2.2.2.1, i, none⟩))) rfl (by kernel_rfl) (by kernel_rfl) (by kernel_rfl) (fun _ _ _ h => h) (Ex.cast (Ex.indexAddr rfl rfl Try.underlying41 T.sz63 (by omega) (by omega)) (by simp)) (ulC (ulC (ulC (ulS (ulC (ulC ulN)))))) (by decide) ?_
          refine GH.done (by kernel_rfl) ?_
          refine GE.thenN ?_
          refine GE.tail rfl (Stp.storeL (i := 3) (cs := (Be.hgL xs ys n i).map u32 ++ j61.2.2.2.2.2) (vs := [(.int .u32 ((ys.getD i 0)))]) (o := i) (L1 := [⟨j61.1, [(.int .i64 (((W : Nat) : Int))), (.int .i64 (((H : Nat) : Int))), (.slice (some ⟨j61.2.1.1, 0, none⟩) n j61.2.1.2.1)], 43, true⟩, ⟨j61.2.1.1, (Be.lwL xs ys n (i + 1)).map u32 ++ j61.2.1.2.2, 63, true⟩, ⟨j61.2.2.1, [(.int .i64 (((W : Nat) : Int))), (.int .i64 (((H : Nat) : Int))), (.slice (some ⟨j61.2.2.2.1, 0, none⟩) n j61.2.2.2.2.1)], 43, true⟩, ⟨j61.2.2.2.1, (Be.hgL xs ys n (i + 1)).map u32 ++ j61.2.2.2.2.2, 63, true⟩, ⟨bq2, [(.int .i64 (((W : Nat) : Int))), (.int .i64 (((H : Nat) : Int))), (.slice (some ⟨b2, o2, none⟩) n cap2)], 43, true⟩, ⟨bq1, [(.int .i64 (((W : Nat) : Int))), (.int .i64 (((H : Nat) : Int))), (.slice (some ⟨b, o, none⟩) n cap)], 43, true⟩]) rfl rfl rfl T.sz63 rfl (Nat.ble_eq_true_of_le (by rw [List.length_append, List.length_map, (Be.lw_len _ _ _ _).2]; simp; omega)) rfl (by rw [Bc.set_store _ (by rw [(Be.lw_len _ _ _ _).2]; omega), (Be.hg_step (by omega) hq135).1]; rfl)) (fun _ _ => ?_)
          refine GE.thenN ?_
          refine GC.drawP [⟨j61.1, [(.int .i64 (((W : Nat) : Int))), (.int .i64 (((H : Nat) : Int))), (.slice (some ⟨j61.2.1.1, 0, none⟩) n j61.2.1.2.1)], 43, true⟩, ⟨j61.2.1.1, (Be.lwL xs ys n (i + 1)).map u32 ++ j61.2.1.2.2, 63, true⟩, ⟨j61.2.2.1, [(.int .i64 (((W : Nat) : Int))), (.int .i64 (((H : Nat) : Int))), (.slice (some ⟨j61.2.2.2.1, 0, none⟩) n j61.2.2.2.2.1)], 43, true⟩, ⟨j61.2.2.2.1, (Be.hgL xs ys n (i + 1)).map u32 ++ j61.2.2.2.2.2, 63, true⟩, ⟨bq2, [(.int .i64 (((W : Nat) : Int))), (.int .i64 (((H : Nat) : Int))), (.slice (some ⟨b2, o2, none⟩) n cap2)], 43, true⟩, ⟨bq1, [(.int .i64 (((W : Nat) : Int))), (.int .i64 (((H : Nat) : Int))), (.slice (some ⟨b, o, none⟩) n cap)], 43, true⟩] T.mixed (by kernel_rfl) (by kernel_rfl) (fuel := 17) rfl rfl ?_
          refine GH.take 0 (v := (.float .f64 ((Be.lu xs ys i)))) rfl (by kernel_rfl) (by kernel_rfl) (by kernel_rfl) (fun _ _ _ h => h) (Ex.move rfl) (ulC (ulC (ulC (ulC (ulC (ulC ulN)))))) (by decide) ?_
          refine GH.take 1 (v := (.pointer (some ⟨j61.1, 2, none⟩))) rfl (by kernel_rfl) (by kernel_rfl) (by kernel_rfl) (fun _ _ _ h => h) (Ex.cast (Ex.fieldAddr rfl Try.underlying43 rfl T.sz41 (by decide)) rfl) (ulC (ulC (ulC (ulC (ulC (ulC ulN)))))) (by decide) ?_
          refine GH.take 2 (v := (.slice (some ⟨j61.2.1.1, 0, none⟩) n j61.2.1.2.1)) rfl (by kernel_rfl) (by kernel_rfl) (by kernel_rfl) (fun _ _ _ h => h) (Ex.load rfl T.ag41 (i := 0) rfl rfl) (ulC (ulC (ulC (ulC (ulC (ulC ulN)))))) (by decide) ?_
          refine GH.take 3 (v := (.int .i64 (((i : Nat) : Int)))) rfl (by kernel_rfl) (by kernel_rfl) (by kernel_rfl) (fun _ _ _ h => h) (Ex.move rfl) (ulC (ulC (ulC (ulC (ulC (ulC ulN)))))) (by decide) ?_
          refine GH.take 4 (v := (.pointer (some ⟨j61.2.1.1, i, none⟩))) rfl (by kernel_rfl) (by kernel_rfl) (by kernel_rfl) (fun _ _ _ h => h) (Ex.cast (Ex.indexAddr rfl rfl Try.underlying41 T.sz63 (by omega) (by omega)) (by simp)) (ulC (ulC (ulC (ulC (ulC (ulC ulN)))))) (by decide) ?_
          refine GH.take 5 (v := (.int .u32 ((Be.lw (xs.getD i 0) (ys.getD i 0))))) rfl (by kernel_rfl) (by kernel_rfl) (by kernel_rfl) (fun _ _ _ h => h) (Ex.load rfl T.ag63 (i := 1) rfl (Be.lw_get (by omega) _).1) (ulC (ulC (ulC (ulC (ulC (ulC ulN)))))) (by decide) ?_
          refine GH.take 8 (v := (.float .f64 ((Be.gu xs ys i)))) rfl (by kernel_rfl) (by kernel_rfl) (by kernel_rfl) (fun _ _ _ h => h) (Ex.move rfl) (ulC (ulC (ulC (ulC (ulC (ulC ulN)))))) (by decide) ?_
          refine GH.take 9 (v := (.pointer (some ⟨j61.2.2.1, 2, none⟩))) rfl (by kernel_rfl) (by kernel_rfl) (by kernel_rfl) (fun _ _ _ h => h) (Ex.cast (Ex.fieldAddr rfl Try.underlying43 rfl T.sz41 (by decide)) rfl) (ulC (ulC (ulC (ulC (ulC (ulC ulN)))))) (by decide) ?_
          refine GH.take 10 (v := (.slice (some ⟨j61.2.2.2.1, 0, none⟩) n j61.2.2.2.2.1)) rfl (by kernel_rfl) (by kernel_rfl) (by kernel_rfl) (fun _ _ _ h => h) (Ex.load rfl T.ag41 (i := 2) rfl rfl) (ulC (ulC (ulC (ulC (ulC (ulC ulN)))))) (by decide) ?_
          refine GH.take 11 (v := (.int .i64 (((i : Nat) : Int)))) rfl (by kernel_rfl) (by kernel_rfl) (by kernel_rfl) (fun _ _ _ h => h) (Ex.move rfl) (ulC (ulC (ulC (ulC (ulC (ulC ulN)))))) (by decide) ?_
          refine GH.take 12 (v := (.pointer (some ⟨j61.2.2.2.1, i, none⟩))) rfl (by kernel_rfl) (by kernel_rfl) (by kernel_rfl) (fun _ _ _ h => h) (Ex.cast (Ex.indexAddr rfl rfl Try.underlying41 T.sz63 (by omega) (by omega)) (by simp)) (ulC (ulC (ulC (ulC (ulC (ulC ulN)))))) (by decide) ?_
          refine GH.take 13 (v := (.int .u32 ((Be.hg (xs.getD i 0) (ys.getD i 0))))) rfl (by kernel_rfl) (by kernel_rfl) (by kernel_rfl) (fun _ _ _ h => h) (Ex.load rfl T.ag63 (i := 3) rfl (Be.lw_get (by omega) _).2) (ulC (ulC (ulC (ulC (ulC (ulC ulN)))))) (by decide) ?_
          refine GH.one 6 rfl (by kernel_rfl) (Stp.callR (vs := [(.int .u32 ((Be.lw (xs.getD i 0) (ys.getD i 0))))]) rfl rfl T.own30 (by decide) (fun wc hw => value_fin ((Be.lw (xs.getD i 0) (ys.getD i 0))) wc hlw.1)) (fun _ => (ulC (ulC (ulC (ulC (ulC (ulC ulN))))))) (fun xq148 hq149 => ?_)
          refine GH.take 7 (v := (.float .f64 ((Be.lu xs ys (i + 1))))) rfl (by kernel_rfl) (by kernel_rfl) (by kernel_rfl) (fun _ _ _ h => h) (Ex.minF rfl rfl (Be.lu_ne h0 hp0.2 hlw.1)) (ulC (ulC (ulC (ulC (ulC (ulC ulN)))))) (by decide) ?_
          refine GH.one 14 rfl (by kernel_rfl) (Stp.callR (vs := [(.int .u32 ((Be.hg (xs.getD i 0) (ys.getD i 0))))]) rfl rfl T.own30 (by decide) (fun wc hw => value_fin ((Be.hg (xs.getD i 0) (ys.getD i 0))) wc hlw.2.1)) (fun _ => (ulC (ulC (ulC (ulC (ulC (ulC ulN))))))) (fun xq150 hq151 => ?_)
          refine GH.take 15 (v := (.float .f64 ((Be.gu xs ys (i + 1))))) rfl (by kernel_rfl) (by kernel_rfl) (by kernel_rfl) (fun _ _ _ h => h) (Ex.maxF rfl rfl (Be.gu_ne h0 hp0.2 hlw.2.1)) (ulC (ulC (ulC (ulC (ulC (ulC ulN)))))) (by decide) ?_
          refine GH.take 16 (v := (.float .f64 ((Be.lu xs ys (i + 1))))) rfl (by kernel_rfl) (by kernel_rfl) (by kernel_rfl) (fun _ _ _ h => h) (Ex.assign rfl) (ulC (ulC (ulC (ulC (ulC (ulC ulN)))))) (by decide) ?_
          refine GH.done (by kernel_rfl) ?_
          refine GE.thenN ?_
          refine GE.tail rfl (Ex.wp (v := (.float .f64 ((Be.gu xs ys (i + 1))))) (Ex.assign rfl) (by decide)) (fun _ _ => ?_)
          refine GE.blockN ?_
          refine GE.thenN ?_
          refine GC.region ?_
          refine GL.val (Ex.move rfl) (by decide) ?_
          refine GL.val (v := (.int .i64 (((i + 1 : Nat) : Int)))) (Ex.add rfl rfl (Z := ((i + 1 : Nat) : Int)) (addN (b := 1) (by omega))) (by decide) ?_
          refine GL.val (Ex.assign rfl) (by decide) ?_
          refine GL.nil ?_
          refine GE.thenN ?_
          exact Head.mk (i + 1) ⟨(by omega), hfs⟩ (by omega) ((sub_cons rfl ((sub_cons rfl ((sub_cons rfl ((sub_cons rfl ((sub_cons rfl ((sub_cons rfl ((sub_cons rfl ((sub_cons rfl ((sub_cons rfl ((sub_cons rfl ((sub_cons rfl ((sub_cons rfl ((sub_cons rfl ((sub_nil _)))))))))))))))))))))))))))) (ulC (ulC (ulC (ulC (ulC (ulC ulN))))))
    · refine GL.val (v := (.bool true)) (Ex.cast (Ex.not rfl) (congrArg Value.bool (congrArg (fun z => !z) (decide_eq_false hq123)))) (by decide) ?_
      refine GL.val (Ex.move rfl) (by decide) ?_
      refine GL.skipG (tj := 78) rfl rfl rfl (by decide) ?_
      refine GL.skipG (tj := 78) rfl rfl rfl (by decide) ?_
      refine GL.skipG (tj := 78) rfl rfl rfl (by decide) ?_
      refine GL.skipG (tj := 78) rfl rfl rfl (by decide) ?_
      refine GL.skipG (tj := 78) rfl rfl rfl (by decide) ?_
      refine GL.skipG (tj := 78) rfl rfl rfl (by decide) ?_
      refine GL.skipG (tj := 78) rfl rfl rfl (by decide) ?_
      refine GL.val (v := (.bool true)) (Ex.pickT rfl rfl) (by decide) ?_
      refine GL.nil ?_
      refine GE.thenN ?_
      refine GC.cond rfl (fun _ => ?_) (fun hq152 => by cases hq152)
      refine GC.seq ?_
      refine GC.region ?_
      refine GL.val (Ex.assign rfl) (by decide) ?_
      refine GL.nil ?_
      refine GE.thenN ?_
      refine GC.ret ?_
      refine GE.thenR ?_
      refine GE.blockR ?_
      refine GE.thenR ?_
      refine GE.thenR ?_
      refine GE.blockR ?_
      refine GE.thenR ?_
      refine GC.ret1 rfl (Rv.tmp rfl) (fun wN HN => ?_)
      exact HN.ret () trivial rfl (List.nil_sublist _) rfl
  · replace hq120 := of_decide_eq_false hq120
    have ei : i = n := by omega
    have hfn : Be.fins xs ys n := by rw [← ei]; exact hp0.2
    rw [ei]
    refine GC.exit ?_
    refine GE.thenE ?_
    refine GE.thenE ?_
    refine GE.blockE ?_
    refine GE.thenN ?_
    refine GC.seq ?_
    refine GC.region ?_
    refine GL.val (v := (.agg #[(.int .i64 (((W : Nat) : Int))), (.int .i64 (((H : Nat) : Int))), (.slice (some ⟨j61.2.1.1, 0, none⟩) n j61.2.1.2.1)])) (Ex.loadA rfl T.ag43 T.sz43 (i := 0) rfl (vs := [(.int .i64 (((W : Nat) : Int))), (.int .i64 (((H : Nat) : Int))), (.slice (some ⟨j61.2.1.1, 0, none⟩) n j61.2.1.2.1)]) rfl rfl) (by decide) ?_
    refine GL.val (Ex.move rfl) (by decide) ?_
    refine GL.val (Ex.move rfl) (by decide) ?_
    refine GL.val (Ex.move rfl) (by decide) ?_
    refine GL.step (Stp.callR (vs := [(.agg #[(.int .i64 (((W : Nat) : Int))), (.int .i64 (((H : Nat) : Int))), (.slice (some ⟨j61.2.1.1, 0, none⟩) n j61.2.1.2.1)]), (.int .i64 kd), (.int .i64 r), (.int .i64 k)]) rfl rfl T.own21 (by decide) (fun wc hw => blur_i W H n j61.2.1.2.1 j61.2.1.1 0 k kd r (Be.lwL xs ys n n) wc hk hok hn (Be.lw_len _ _ _ _).1 (Be.lwL_bd hu hu2).1 (Bc.pre_rd (hw.rdOf (i := 1) rfl 0)) hrt)) (fun xq153 hq154 => ?_)
    refine GL.val (Ex.move rfl) (by decide) ?_
    refine GL.val (Ex.extract rfl rfl) (by decide) ?_
    refine GL.val (Ex.extract rfl rfl) (by decide) ?_
    refine GL.step (Stp.alloc T.zr43 (by decide)) (fun bq155 _ => ?_)
    refine GL.step (Stp.st0 (cs' := [(.int .i64 (((W : Nat) : Int))), (.int .i64 (((H : Nat) : Int))), (.slice (some ⟨xq153, 0, none⟩) (W * H) (W * H))]) rfl rfl rfl T.sz43 rfl rfl rfl) (fun _ _ => ?_)
    refine GL.val (Ex.assign rfl) (by decide) ?_
    refine GL.nil ?_
    refine GE.thenN ?_
    refine GC.seq ?_
    refine GC.region ?_
    refine GL.val (v := (.agg #[(.int .i64 (((W : Nat) : Int))), (.int .i64 (((H : Nat) : Int))), (.slice (some ⟨j61.2.2.2.1, 0, none⟩) n j61.2.2.2.2.1)])) (Ex.loadA rfl T.ag43 T.sz43 (i := 4) rfl (vs := [(.int .i64 (((W : Nat) : Int))), (.int .i64 (((H : Nat) : Int))), (.slice (some ⟨j61.2.2.2.1, 0, none⟩) n j61.2.2.2.2.1)]) rfl rfl) (by decide) ?_
    refine GL.val (Ex.move rfl) (by decide) ?_
    refine GL.val (Ex.move rfl) (by decide) ?_
    refine GL.val (Ex.move rfl) (by decide) ?_
    refine GL.step (Stp.callR (vs := [(.agg #[(.int .i64 (((W : Nat) : Int))), (.int .i64 (((H : Nat) : Int))), (.slice (some ⟨j61.2.2.2.1, 0, none⟩) n j61.2.2.2.2.1)]), (.int .i64 kd), (.int .i64 r), (.int .i64 k)]) rfl rfl T.own21 (by decide) (fun wc hw => blur_i W H n j61.2.2.2.2.1 j61.2.2.2.1 0 k kd r (Be.hgL xs ys n n) wc hk hok hn (Be.lw_len _ _ _ _).2 (Be.lwL_bd hu hu2).2 (Bc.pre_rd (hw.rdOf (i := 5) rfl 0)) hrt)) (fun xq156 hq157 => ?_)
    refine GL.val (Ex.move rfl) (by decide) ?_
    refine GL.val (Ex.extract rfl rfl) (by decide) ?_
    refine GL.val (Ex.extract rfl rfl) (by decide) ?_
    refine GL.step (Stp.alloc T.zr43 (by decide)) (fun bq158 _ => ?_)
    refine GL.step (Stp.st0 (cs' := [(.int .i64 (((W : Nat) : Int))), (.int .i64 (((H : Nat) : Int))), (.slice (some ⟨xq156, 0, none⟩) (W * H) (W * H))]) rfl rfl rfl T.sz43 rfl rfl rfl) (fun _ _ => ?_)
    refine GL.val (Ex.assign rfl) (by decide) ?_
    refine GL.nil ?_
    refine GE.thenN ?_
    refine GC.seq ?_
    refine GC.seq ?_
    refine GC.region ?_
    refine GL.val (Ex.move rfl) (by decide) ?_
    refine GL.step (Stp.callR (vs := [(.int .i64 0)]) rfl rfl T.own15 (by decide) (fun wc hw => num 0 wc)) (fun xq159 hq160 => ?_)
    refine GL.val (Ex.move rfl) (by decide) ?_
    refine GL.step (Stp.callR (vs := [(.int .i64 0)]) rfl rfl T.own15 (by decide) (fun wc hw => num 0 wc)) (fun xq161 hq162 => ?_)
    refine GL.val (v := (.int .i64 0)) (Ex.add rfl rfl (Z := 0) (by decide)) (by decide) ?_
    refine GL.val (v := (.bool false)) (Ex.cast (Ex.neq rfl rfl) rfl) (by decide) ?_
    refine GL.val (Ex.move rfl) (by decide) ?_
    refine GL.stepG (tj := 156) rfl rfl (Ex.wp (v := (.pointer (some ⟨bq155, 2, none⟩))) (Ex.cast (Ex.fieldAddr rfl Try.underlying43 rfl T.sz41 (by decide)) rfl) (by decide)) (fun _ _ => ?_)
    refine GL.stepG (tj := 156) rfl rfl (Ex.wp (v := (.slice (some ⟨xq153, 0, none⟩) (W * H) (W * H))) (Ex.load rfl T.ag41 (i := 2) rfl rfl) (by decide)) (fun _ _ => ?_)
    refine GL.stepG (tj := 156) rfl rfl (Ex.wp (v := (.int .i64 (((W * H) : Int)))) (Ex.len rfl Try.underlying41) (by decide)) (fun _ _ => ?_)
    refine GL.stepG (tj := 156) rfl rfl (Ex.wp (v := (.pointer (some ⟨bq1, 2, none⟩))) (Ex.cast (Ex.fieldAddr rfl Try.underlying43 rfl T.sz41 (by decide)) rfl) (by decide)) (fun _ _ => ?_)
    refine GL.stepG (tj := 156) rfl rfl (Ex.wp (v := (.slice (some ⟨b, o, none⟩) n cap)) (Ex.load rfl T.ag41 (i := 9) rfl rfl) (by decide)) (fun _ _ => ?_)
    refine GL.stepG (tj := 156) rfl rfl (Ex.wp (v := (.int .i64 ((n : Int)))) (Ex.len rfl Try.underlying41) (by decide)) (fun _ _ => ?_)
    refine GL.stepG (tj := 156) rfl rfl (Ex.wp (v := (.bool false)) (Ex.cast (Ex.neq rfl rfl) (congrArg Value.bool (decide_eq_false (by omega)))) (by decide)) (fun _ _ => ?_)
    refine GL.val (v := (.bool false)) (Ex.pickF rfl rfl) (by decide) ?_
    refine GL.val (Ex.move rfl) (by decide) ?_
    refine GL.stepG (tj := 165) rfl rfl (Ex.wp (v := (.pointer (some ⟨bq158, 2, none⟩))) (Ex.cast (Ex.fieldAddr rfl Try.underlying43 rfl T.sz41 (by decide)) rfl) (by decide)) (fun _ _ => ?_)
    refine GL.stepG (tj := 165) rfl rfl (Ex.wp (v := (.slice (some ⟨xq156, 0, none⟩) (W * H) (W * H))) (Ex.load rfl T.ag41 (i := 0) rfl rfl) (by decide)) (fun _ _ => ?_)
    refine GL.stepG (tj := 165) rfl rfl (Ex.wp (v := (.int .i64 (((W * H) : Int)))) (Ex.len rfl Try.underlying41) (by decide)) (fun _ _ => ?_)
    refine GL.stepG (tj := 165) rfl rfl (Ex.wp (v := (.pointer (some ⟨bq1, 2, none⟩))) (Ex.cast (Ex.fieldAddr rfl Try.underlying43 rfl T.sz41 (by decide)) rfl) (by decide)) (fun _ _ => ?_)
    refine GL.stepG (tj := 165) rfl rfl (Ex.wp (v := (.slice (some ⟨b, o, none⟩) n cap)) (Ex.load rfl T.ag41 (i := 9) rfl rfl) (by decide)) (fun _ _ => ?_)
    refine GL.stepG (tj := 165) rfl rfl (Ex.wp (v := (.int .i64 ((n : Int)))) (Ex.len rfl Try.underlying41) (by decide)) (fun _ _ => ?_)
    refine GL.stepG (tj := 165) rfl rfl (Ex.wp (v := (.bool false)) (Ex.cast (Ex.neq rfl rfl) (congrArg Value.bool (decide_eq_false (by omega)))) (by decide)) (fun _ _ => ?_)
    refine GL.val (v := (.bool false)) (Ex.pickF rfl rfl) (by decide) ?_
    refine GL.nil ?_
    refine GE.thenN ?_
    refine GC.cond rfl (fun hq163 => by cases hq163) (fun _ => ?_)
    refine GC.skip ?_
    refine GE.thenN ?_
    refine GC.seq ?_
    refine GC.seq ?_
    refine GC.region ?_
    refine GL.val (Ex.assign rfl) (by decide) ?_
    refine GL.nil ?_
    refine GE.thenN ?_
    refine GC.block ?_
    refine GC.loop (σ := Nat) (fun i => i ≤ n) (fun i => [(0, (.agg #[(.int .i64 (((W : Nat) : Int))), (.int .i64 (((H : Nat) : Int))), (.slice (some ⟨b, o, none⟩) n cap)])), (1, (.agg #[(.int .i64 (((W : Nat) : Int))), (.int .i64 (((H : Nat) : Int))), (.slice (some ⟨b2, o2, none⟩) n cap2)])), (2, (.int .i64 kd)), (3, (.int .i64 r)), (4, (.int .i64 k)), (5, (.pointer (some ⟨bq1, 0, none⟩))), (6, (.pointer (some ⟨bq2, 0, none⟩))), (10, (.bool false)), (11, (.pointer (some ⟨j61.1, 0, none⟩))), (12, (.pointer (some ⟨j61.2.2.1, 0, none⟩))), (13, (.float .f64 ((Be.lu xs ys n)))), (14, (.float .f64 ((Be.gu xs ys n)))), (16, (.pointer (some ⟨bq155, 0, none⟩))), (17, (.int .i64 0)), (18, (.pointer (some ⟨bq158, 0, none⟩))), (19, (.int .i64 0)), (20, (.int .i64 (((i : Nat) : Int))))]) (fun i => [⟨bq158, [(.int .i64 (((W : Nat) : Int))), (.int .i64 (((H : Nat) : Int))), (.slice (some ⟨xq156, 0, none⟩) (W * H) (W * H))], 43, true⟩, ⟨xq156, (tab W (Bg.blr (Bg.gk kd r.toNat) r.toNat (Be.hgL xs ys n n) W H k) (W * H)).map u32, 63, true⟩, ⟨bq155, [(.int .i64 (((W : Nat) : Int))), (.int .i64 (((H : Nat) : Int))), (.slice (some ⟨xq153, 0, none⟩) (W * H) (W * H))], 43, true⟩, ⟨xq153, (tab W (Bg.blr (Bg.gk kd r.toNat) r.toNat (Be.lwL xs ys n n) W H k) (W * H)).map u32, 63, true⟩, ⟨j61.1, [(.int .i64 (((W : Nat) : Int))), (.int .i64 (((H : Nat) : Int))), (.slice (some ⟨j61.2.1.1, 0, none⟩) n j61.2.1.2.1)], 43, true⟩, ⟨j61.2.1.1, (Be.lwL xs ys n n).map u32 ++ j61.2.1.2.2, 63, true⟩, ⟨j61.2.2.1, [(.int .i64 (((W : Nat) : Int))), (.int .i64 (((H : Nat) : Int))), (.slice (some ⟨j61.2.2.2.1, 0, none⟩) n j61.2.2.2.2.1)], 43, true⟩, ⟨j61.2.2.2.1, (Be.hgL xs ys n n).map u32 ++ j61.2.2.2.2.2, 63, true⟩, ⟨bq2, [(.int .i64 (((W : Nat) : Int))), (.int .i64 (((H : Nat) : Int))), (.slice (some ⟨b2, o2, none⟩) n cap2)], 43, true⟩, ⟨bq1, [(.int .i64 (((W : Nat) : Int))), (.int .i64 (((H : Nat) : Int))), (.slice (some ⟨b, o, none⟩) n cap)], 43, true⟩]) (fun i => n - i) (0) (Nat.zero_le _) ((sub_cons rfl ((sub_cons rfl ((sub_cons rfl ((sub_cons rfl ((sub_cons rfl ((sub_cons rfl ((sub_cons rfl ((sub_cons rfl ((sub_cons rfl ((sub_cons rfl ((sub_cons rfl ((sub_cons rfl ((sub_cons rfl ((sub_cons rfl ((sub_cons rfl ((sub_cons rfl ((sub_cons rfl ((sub_nil _)))))))))))))))))))))))))))))))))))) (ulC (ulC (ulC (ulC (ulC (ulC (ulC (ulC (ulC (ulC ulN)))))))))) (fun i hp => ?_)
    refine GC.seq ?_
    refine GC.seq ?_
    refine GC.region ?_
    refine GL.val (Ex.move rfl) (by decide) ?_
    refine GL.val (v := (.pointer (some ⟨bq155, 2, none⟩))) (Ex.cast (Ex.fieldAddr rfl Try.underlying43 rfl T.sz41 (by decide)) rfl) (by decide) ?_
    refine GL.val (Ex.load rfl T.ag41 (i := 2) rfl rfl) (by decide) ?_
    refine GL.val (v := (.int .i64 (((W * H) : Int)))) (Ex.len rfl Try.underlying41) (by decide) ?_
    refine GL.val (v := (.bool (decide ((((i : Nat) : Int)) < (((W * H) : Int)))))) (Ex.lss rfl rfl) (by decide) ?_
    refine GL.nil ?_
    refine GE.thenN ?_
    refine GC.cond rfl (fun hq164 => ?_) (fun hq164 => ?_)
    · replace hq164 := of_decide_eq_true hq164
      refine GC.skip ?_
      refine GE.thenN ?_
      refine GC.seq ?_
      refine GC.block ?_
      refine GC.seq ?_
      have hrs := Be.rises (kd := kd) (r := r.toNat) (k := k) (by omega) hk hok hn h0 hfn (by omega : i < n)
      refine GC.drawP [⟨bq158, [(.int .i64 (((W : Nat) : Int))), (.int .i64 (((H : Nat) : Int))), (.slice (some ⟨xq156, 0, none⟩) (W * H) (W * H))], 43, true⟩, ⟨xq156, (tab W (Bg.blr (Bg.gk kd r.toNat) r.toNat (Be.hgL xs ys n n) W H k) (W * H)).map u32, 63, true⟩, ⟨bq155, [(.int .i64 (((W : Nat) : Int))), (.int .i64 (((H : Nat) : Int))), (.slice (some ⟨xq153, 0, none⟩) (W * H) (W * H))], 43, true⟩, ⟨xq153, (tab W (Bg.blr (Bg.gk kd r.toNat) r.toNat (Be.lwL xs ys n n) W H k) (W * H)).map u32, 63, true⟩, ⟨j61.1, [(.int .i64 (((W : Nat) : Int))), (.int .i64 (((H : Nat) : Int))), (.slice (some ⟨j61.2.1.1, 0, none⟩) n j61.2.1.2.1)], 43, true⟩, ⟨j61.2.1.1, (Be.lwL xs ys n n).map u32 ++ j61.2.1.2.2, 63, true⟩, ⟨j61.2.2.1, [(.int .i64 (((W : Nat) : Int))), (.int .i64 (((H : Nat) : Int))), (.slice (some ⟨j61.2.2.2.1, 0, none⟩) n j61.2.2.2.2.1)], 43, true⟩, ⟨j61.2.2.2.1, (Be.hgL xs ys n n).map u32 ++ j61.2.2.2.2.2, 63, true⟩, ⟨bq2, [(.int .i64 (((W : Nat) : Int))), (.int .i64 (((H : Nat) : Int))), (.slice (some ⟨b2, o2, none⟩) n cap2)], 43, true⟩, ⟨bq1, [(.int .i64 (((W : Nat) : Int))), (.int .i64 (((H : Nat) : Int))), (.slice (some ⟨b, o, none⟩) n cap)], 43, true⟩] T.mixed (by kernel_rfl) (by kernel_rfl) (fuel := 13) rfl rfl ?_
      refine GH.take 0 (v := (.pointer (some ⟨bq155, 2, none⟩))) rfl (by kernel_rfl) (by kernel_rfl) (by kernel_rfl) (fun _ _ _ h => h) (Ex.cast (Ex.fieldAddr rfl Try.underlying43 rfl T.sz41 (by decide)) rfl) (ulC (ulC (ulC (ulC (ulC (ulC (ulC (ulC (ulC (ulC ulN)))))))))) (by decide) ?_
      refine GH.take 1 (v := (.slice (some ⟨xq153, 0, none⟩) (W * H) (W * H))) rfl (by kernel_rfl) (by kernel_rfl) (by kernel_rfl) (fun _ _ _ h => h) (Ex.load rfl T.ag41 (i := 2) rfl rfl) (ulC (ulC (ulC (ulC (ulC (ulC (ulC (ulC (ulC (ulC ulN)))))))))) (by decide) ?_
      refine GH.take 2 (v := (.int .i64 (((i : Nat) : Int)))) rfl (by kernel_rfl) (by kernel_rfl) (by kernel_rfl) (fun _ _ _ h => h) (Ex.move rfl) (ulC (ulC (ulC (ulC (ulC (ulC (ulC (ulC (ulC (ulC ulN)))))))))) (by decide) ?_
      refine GH.take 3 (v := (.pointer (some ⟨xq153, i, none⟩))) rfl (by kernel_rfl) (by kernel_rfl) (by kernel_rfl) (fun _ _ _ h => h) (Ex.cast (Ex.indexAddr rfl rfl Try.underlying41 T.sz63 (by omega) (by omega)) (by simp)) (ulC (ulC (ulC (ulC (ulC (ulC (ulC (ulC (ulC (ulC ulN)))))))))) (by decide) ?_
      refine GH.take 4 (v := (.int .u32 (((Bg.blr (Bg.gk kd r.toNat) r.toNat (Be.lwL xs ys n n) W H k) (i % W) (i / W))))) rfl (by kernel_rfl) (by kernel_rfl) (by kernel_rfl) (fun _ _ _ h => h) (Ex.load rfl T.ag63 (i := 3) rfl (Be.tab_cell (by omega))) (ulC (ulC (ulC (ulC (ulC (ulC (ulC (ulC (ulC (ulC ulN)))))))))) (by decide) ?_
      refine GH.take 6 (v := (.pointer (some ⟨bq158, 2, none⟩))) rfl (by kernel_rfl) (by kernel_rfl) (by kernel_rfl) (fun _ _ _ h => h) (Ex.cast (Ex.fieldAddr rfl Try.underlying43 rfl T.sz41 (by decide)) rfl) (ulC (ulC (ulC (ulC (ulC (ulC (ulC (ulC (ulC (ulC ulN)))))))))) (by decide) ?_
      refine GH.take 7 (v := (.slice (some ⟨xq156, 0, none⟩) (W * H) (W * H))) rfl (by kernel_rfl) (by kernel_rfl) (by kernel_rfl) (fun _ _ _ h => h) (Ex.load rfl T.ag41 (i := 0) rfl rfl) (ulC (ulC (ulC (ulC (ulC (ulC (ulC (ulC (ulC (ulC ulN)))))))))) (by decide) ?_
      refine GH.take 8 (v := (.int .i64 (((i : Nat) : Int)))) rfl (by kernel_rfl) (by kernel_rfl) (by kernel_rfl) (fun _ _ _ h => h) (Ex.move rfl) (ulC (ulC (ulC (ulC (ulC (ulC (ulC (ulC (ulC (ulC ulN)))))))))) (by decide) ?_
      refine GH.take 9 (v := (.pointer (some ⟨xq156, i, none⟩))) rfl (by kernel_rfl) (by kernel_rfl) (by kernel_rfl) (fun _ _ _ h => h) (Ex.cast (Ex.indexAddr rfl rfl Try.underlying41 T.sz63 (by omega) (by omega)) (by simp)) (ulC (ulC (ulC (ulC (ulC (ulC (ulC (ulC (ulC (ulC ulN)))))))))) (by decide) ?_
      refine GH.take 10 (v := (.int .u32 (((Bg.blr (Bg.gk kd r.toNat) r.toNat (Be.hgL xs ys n n) W H k) (i % W) (i / W))))) rfl (by kernel_rfl) (by kernel_rfl) (by kernel_rfl) (fun _ _ _ h => h) (Ex.load rfl T.ag63 (i := 1) rfl (Be.tab_cell (by omega))) (ulC (ulC (ulC (ulC (ulC (ulC (ulC (ulC (ulC (ulC ulN)))))))))) (by decide) ?_
      refine GH.one 5 rfl (by kernel_rfl) (Stp.callR (vs := [(.int .u32 (((Bg.blr (Bg.gk kd r.toNat) r.toNat (Be.lwL xs ys n n) W H k) (i % W) (i / W))))]) rfl rfl T.own30 (by decide) (fun wc hw => value_fin (((Bg.blr (Bg.gk kd r.toNat) r.toNat (Be.lwL xs ys n n) W H k) (i % W) (i / W))) wc hrs.1)) (fun _ => (ulC (ulC (ulC (ulC (ulC (ulC (ulC (ulC (ulC (ulC ulN))))))))))) (fun xq169 hq170 => ?_)
      refine GH.one 11 rfl (by kernel_rfl) (Stp.callR (vs := [(.int .u32 (((Bg.blr (Bg.gk kd r.toNat) r.toNat (Be.hgL xs ys n n) W H k) (i % W) (i / W))))]) rfl rfl T.own30 (by decide) (fun wc hw => value_fin (((Bg.blr (Bg.gk kd r.toNat) r.toNat (Be.hgL xs ys n n) W H k) (i % W) (i / W))) wc hrs.2.1)) (fun _ => (ulC (ulC (ulC (ulC (ulC (ulC (ulC (ulC (ulC (ulC ulN))))))))))) (fun xq171 hq172 => ?_)
      refine GH.take 12 (v := (.float .f64 ((Be.vb (((Bg.blr (Bg.gk kd r.toNat) r.toNat (Be.lwL xs ys n n) W H k) (i % W) (i / W))))))) rfl (by kernel_rfl) (by kernel_rfl) (by kernel_rfl) (fun _ _ _ h => h) (Ex.assign rfl) (ulC (ulC (ulC (ulC (ulC (ulC (ulC (ulC (ulC (ulC ulN)))))))))) (by decide) ?_
      refine GH.done (by kernel_rfl) ?_
      refine GE.thenN ?_
      refine GE.tail rfl (Ex.wp (v := (.float .f64 ((Be.vb (((Bg.blr (Bg.gk kd r.toNat) r.toNat (Be.hgL xs ys n n) W H k) (i % W) (i / W))))))) (Ex.assign rfl) (by decide)) (fun _ _ => ?_)
      refine GE.thenN ?_
      refine GC.seq ?_
      refine GC.region ?_
      refine GL.val (Ex.move rfl) (by decide) ?_
      refine GL.val (Ex.move rfl) (by decide) ?_
      refine GL.val (v := (.bool true)) (Ex.fleq (r := true) rfl rfl (Eq.trans (congrArg (fun o : Option Ordering => (o == some .lt || o == some .eq)) (Fv.ord_eq (Be.lu_is h0 hfn) (Be.vb_is hrs.1))) hrs.2.2.1)) (by decide) ?_
      refine GL.val (Ex.move rfl) (by decide) ?_
      refine GL.stepG (tj := 196) rfl rfl (Ex.wp (v := (.float .f64 ((Be.vb (((Bg.blr (Bg.gk kd r.toNat) r.toNat (Be.lwL xs ys n n) W H k) (i % W) (i / W))))))) (Ex.move rfl) (by decide)) (fun _ _ => ?_)
      refine GL.stepG (tj := 196) rfl rfl (Ex.wp (v := (.float .f64 ((Be.vb (((Bg.blr (Bg.gk kd r.toNat) r.toNat (Be.hgL xs ys n n) W H k) (i % W) (i / W))))))) (Ex.move rfl) (by decide)) (fun _ _ => ?_)
      refine GL.stepG (tj := 196) rfl rfl (Ex.wp (v := (.bool true)) (Ex.fleq (r := true) rfl rfl (Eq.trans (congrArg (fun o : Option Ordering => (o == some .lt || o == some .eq)) (Fv.ord_eq (Be.vb_is hrs.1) (Be.vb_is hrs.2.1))) hrs.2.2.2.1)) (by decide)) (fun _ _ => ?_)
      refine GL.val (v := (.bool true)) (Ex.pickT rfl rfl) (by decide) ?_
      refine GL.val (Ex.move rfl) (by decide) ?_
      refine GL.stepG (tj := 201) rfl rfl (Ex.wp (v := (.float .f64 ((Be.vb (((Bg.blr (Bg.gk kd r.toNat) r.toNat (Be.hgL xs ys n n) W H k) (i % W) (i / W))))))) (Ex.move rfl) (by decide)) (fun _ _ => ?_)
      refine GL.stepG (tj := 201) rfl rfl (Ex.wp (v := (.float .f64 ((Be.gu xs ys n)))) (Ex.move rfl) (by decide)) (fun _ _ => ?_)
      refine GL.stepG (tj := 201) rfl rfl (Ex.wp (v := (.bool true)) (Ex.fleq (r := true) rfl rfl (Eq.trans (congrArg (fun o : Option Ordering => (o == some .lt || o == some .eq)) (Fv.ord_eq (Be.vb_is hrs.2.1) (Be.gu_is h0 hfn))) hrs.2.2.2.2)) (by decide)) (fun _ _ => ?_)
      refine GL.val (v := (.bool true)) (Ex.pickT rfl rfl) (by decide) ?_
      refine GL.val (v := (.bool false)) (Ex.cast (Ex.not rfl) rfl) (by decide) ?_
      refine GL.nil ?_
      refine GE.thenN ?_
      refine GC.cond rfl (fun hq173 => by cases hq173) (fun _ => ?_)
      refine GC.skip ?_
      refine GE.blockN ?_
      refine GE.thenN ?_
      refine GC.region ?_
      refine GL.val (Ex.move rfl) (by decide) ?_
      refine GL.val (v := (.int .i64 (((i + 1 : Nat) : Int)))) (Ex.add rfl rfl (Z := ((i + 1 : Nat) : Int)) (addN (b := 1) (by omega))) (by decide) ?_
      refine GL.val (Ex.assign rfl) (by decide) ?_
      refine GL.nil ?_
      refine GE.thenN ?_
      exact Head.mk (i + 1) (by omega) (by omega) ((sub_cons rfl ((sub_cons rfl ((sub_cons rfl ((sub_cons rfl ((sub_cons rfl ((sub_cons rfl ((sub_cons rfl ((sub_cons rfl ((sub_cons rfl ((sub_cons rfl ((sub_cons rfl ((sub_cons rfl ((sub_cons rfl ((sub_cons rfl ((sub_cons rfl ((sub_cons rfl ((sub_cons rfl ((sub_nil _)))))))))))))))))))))))))))))))))))) (ulC (ulC (ulC (ulC (ulC (ulC (ulC (ulC (ulC (ulC ulN))))))))))
    · replace hq164 := of_decide_eq_false hq164
      refine GC.exit ?_
      refine GE.thenE ?_
      refine GE.thenE ?_
      refine GE.blockE ?_
      refine GE.thenN ?_
      refine GC.seq ?_
      refine GC.region ?_
      refine GL.val (Ex.assign rfl) (by decide) ?_
      refine GL.nil ?_
      refine GE.thenN ?_
      refine GC.ret ?_
      refine GC.ret1 rfl (Rv.tmp rfl) (fun wN HN => ?_)
      exact HN.ret () trivial rfl (List.nil_sublist _) rfl

set_option maxRecDepth 100000 in
set_option maxHeartbeats 1000000 in
theorem ri_inf (W H n cap b o cap2 b2 o2 : Nat) (kd r k : Int) (xs ys : List Int) (w : World) (hok : okP W H) (hn : n = W * H) (hx0 : xs.length = n) (hu : ∀ v ∈ xs, 0 ≤ v ∧ v < 4294967296) (hr : Rd w b o (xs.map u32)) (hy0 : ys.length = n) (hu2 : ∀ v ∈ ys, 0 ≤ v ∧ v < 4294967296) (hr2 : Rd w b2 o2 (ys.map u32)) (hk : 1 ≤ k ∧ k ≤ 3) (hrt : (kd = 1 ∨ kd = 2) ∧ 0 ≤ r ∧ r ≤ 7) (h00 : xs.getD 0 0 / 8388608 % 256 = 255) :
    Calls Try.prog 7 #[(.agg #[(.int .i64 (((W : Nat) : Int))), (.int .i64 (((H : Nat) : Int))), (.slice (some ⟨b, o, none⟩) n cap)]), (.agg #[(.int .i64 (((W : Nat) : Int))), (.int .i64 (((H : Nat) : Int))), (.slice (some ⟨b2, o2, none⟩) n cap2)]), (.int .i64 kd), (.int .i64 r), (.int .i64 k)] w (Ret w (fun _ : Unit => True) (fun _ => .bool true) (fun _ => [])) := by
  have hW1 := hok.1
  have hH1 := hok.2.1
  have hW2 := hok.2.2.1
  have hH2 := hok.2.2.2.1
  have hA := hok.2.2.2.2
  have hbx := fun i => Bg.get_bd hu i
  have hby := fun i => Bg.get_bd hu2 i
  have hn1 : 0 < n := by rw [hn]; exact Nat.mul_pos hok.1 hok.2.1
  refine enter (M := None) (L := []) (n := 207) (l := [(0, (.agg #[(.int .i64 (((W : Nat) : Int))), (.int .i64 (((H : Nat) : Int))), (.slice (some ⟨b, o, none⟩) n cap)])), (1, (.agg #[(.int .i64 (((W : Nat) : Int))), (.int .i64 (((H : Nat) : Int))), (.slice (some ⟨b2, o2, none⟩) n cap2)])), (2, (.int .i64 kd)), (3, (.int .i64 r)), (4, (.int .i64 k))]) Try.func7 rfl rfl (Args.cons rfl (Args.cons rfl (Args.cons rfl (Args.cons rfl (Args.cons rfl (Args.nil _)))))) (Hp.start _ _) ?_
  refine GC.seq ?_
  refine GC.region ?_
  refine GL.step (Stp.box (cs := [(.int .i64 (((W : Nat) : Int))), (.int .i64 (((H : Nat) : Int))), (.slice (some ⟨b, o, none⟩) n cap)]) rfl rfl (by decide)) (fun bq1 _ => ?_)
  refine GL.step (Stp.box (cs := [(.int .i64 (((W : Nat) : Int))), (.int .i64 (((H : Nat) : Int))), (.slice (some ⟨b2, o2, none⟩) n cap2)]) rfl rfl (by decide)) (fun bq2 _ => ?_)
  refine GL.val (Ex.assign rfl) (by decide) ?_
  refine GL.nil ?_
  refine GE.thenN ?_
  refine GC.seq ?_
  refine GC.seq ?_
  refine GC.region ?_
  refine GL.step (Stp.callR (vs := []) rfl rfl T.own12 (by decide) (fun wc hw => known wc)) (fun xq3 hq4 => ?_)
  refine GL.val (v := (.bool false)) (Ex.cast (Ex.not rfl) rfl) (by decide) ?_
  refine GL.nil ?_
  refine GE.thenN ?_
  refine GC.cond rfl (fun hq5 => by cases hq5) (fun _ => ?_)
  refine GC.skip ?_
  refine GE.thenN ?_
  refine GC.seq ?_
  refine GC.seq ?_
  refine GC.region ?_
  refine GL.val (v := (.agg #[(.int .i64 (((W : Nat) : Int))), (.int .i64 (((H : Nat) : Int))), (.slice (some ⟨b, o, none⟩) n cap)])) (Ex.loadA rfl T.ag43 T.sz43 (i := 1) rfl (vs := [(.int .i64 (((W : Nat) : Int))), (.int .i64 (((H : Nat) : Int))), (.slice (some ⟨b, o, none⟩) n cap)]) rfl rfl) (by decide) ?_
  refine GL.val (Ex.move rfl) (by decide) ?_
  refine GL.val (Ex.move rfl) (by decide) ?_
  refine GL.val (Ex.move rfl) (by decide) ?_
  refine GL.step (Stp.callR (vs := [(.agg #[(.int .i64 (((W : Nat) : Int))), (.int .i64 (((H : Nat) : Int))), (.slice (some ⟨b, o, none⟩) n cap)]), (.int .i64 kd), (.int .i64 r), (.int .i64 k)]) rfl rfl T.own27 (by decide) (fun wc hw => right_p (((W : Nat) : Int)) (((H : Nat) : Int)) (some ⟨b, o, none⟩) n cap kd r k wc)) (fun xq6 hq7 => ?_)
  refine GL.val (v := (.bool false)) (Ex.cast (Ex.not rfl) (congrArg Value.bool (congrArg (fun z => !z) ((by show Bc.rightB ((W : Nat) : Int) ((H : Nat) : Int) n kd r k = true; exact decide_eq_true ⟨by rw [hn]; exact chk_ok hok, hrt.1, hrt.2.1, hrt.2.2, hk⟩))))) (by decide) ?_
  refine GL.val (Ex.move rfl) (by decide) ?_
  refine GL.stepG (tj := 31) rfl rfl (Ex.wp (v := (.agg #[(.int .i64 (((W : Nat) : Int))), (.int .i64 (((H : Nat) : Int))), (.slice (some ⟨b2, o2, none⟩) n cap2)])) (Ex.loadA rfl T.ag43 T.sz43 (i := 0) rfl (vs := [(.int .i64 (((W : Nat) : Int))), (.int .i64 (((H : Nat) : Int))), (.slice (some ⟨b2, o2, none⟩) n cap2)]) rfl rfl) (by decide)) (fun _ _ => ?_)
  refine GL.stepG (tj := 31) rfl rfl (Stp.callR (σ := Unit) (p := fun rz => True) (v := fun rz => (.int .i64 0)) (N := fun rz => []) (vs := [(.agg #[(.int .i64 (((W : Nat) : Int))), (.int .i64 (((H : Nat) : Int))), (.slice (some ⟨b2, o2, none⟩) n cap2)])]) rfl rfl T.own28 (by decide) (fun wc hw => (by have h := may ((W : Nat) : Int) ((H : Nat) : Int) (some ⟨b2, o2, none⟩) n cap2 wc; rw [show chk ((W : Nat) : Int) ((H : Nat) : Int) n = 0 from by rw [hn]; exact chk_ok hok] at h; exact h))) (fun xq8 hq9 => ?_)
  refine GL.stepG (tj := 31) rfl rfl (Ex.wp (v := (.bool false)) (Ex.cast (Ex.neq rfl rfl) rfl) (by decide)) (fun _ _ => ?_)
  refine GL.val (v := (.bool false)) (Ex.pickF rfl rfl) (by decide) ?_
  refine GL.val (Ex.move rfl) (by decide) ?_
  refine GL.stepG (tj := 36) rfl rfl (Ex.wp (v := (.pointer (some ⟨bq1, 0, none⟩))) (Ex.cast (Ex.fieldAddr rfl Try.underlying43 rfl T.sz3 (by decide)) rfl) (by decide)) (fun _ _ => ?_)
  refine GL.stepG (tj := 36) rfl rfl (Ex.wp (v := (.int .i64 (((W : Nat) : Int)))) (Ex.load rfl T.ag3 (i := 1) rfl rfl) (by decide)) (fun _ _ => ?_)
  refine GL.stepG (tj := 36) rfl rfl (Ex.wp (v := (.pointer (some ⟨bq2, 0, none⟩))) (Ex.cast (Ex.fieldAddr rfl Try.underlying43 rfl T.sz3 (by decide)) rfl) (by decide)) (fun _ _ => ?_)
  refine GL.stepG (tj := 36) rfl rfl (Ex.wp (v := (.int .i64 (((W : Nat) : Int)))) (Ex.load rfl T.ag3 (i := 0) rfl rfl) (by decide)) (fun _ _ => ?_)
  refine GL.stepG (tj := 36) rfl rfl (Ex.wp (v := (.bool false)) (Ex.cast (Ex.neq rfl rfl) (congrArg Value.bool (decide_eq_false (by omega)))) (by decide)) (fun _ _ => ?_)
  refine GL.val (v := (.bool false)) (Ex.pickF rfl rfl) (by decide) ?_
  refine GL.val (Ex.move rfl) (by decide) ?_
  refine GL.stepG (tj := 43) rfl rfl (Ex.wp (v := (.pointer (some ⟨bq1, 1, none⟩))) (Ex.cast (Ex.fieldAddr rfl Try.underlying43 rfl T.sz3 (by decide)) rfl) (by decide)) (fun _ _ => ?_)
  refine GL.stepG (tj := 43) rfl rfl (Ex.wp (v := (.int .i64 (((H : Nat) : Int)))) (Ex.load rfl T.ag3 (i := 1) rfl rfl) (by decide)) (fun _ _ => ?_)
  refine GL.stepG (tj := 43) rfl rfl (Ex.wp (v := (.pointer (some ⟨bq2, 1, none⟩))) (Ex.cast (Ex.fieldAddr rfl Try.underlying43 rfl T.sz3 (by decide)) rfl) (by decide)) (fun _ _ => ?_)
  refine GL.stepG (tj := 43) rfl rfl (Ex.wp (v := (.int .i64 (((H : Nat) : Int)))) (Ex.load rfl T.ag3 (i := 0) rfl rfl) (by decide)) (fun _ _ => ?_)
  refine GL.stepG (tj := 43) rfl rfl (Ex.wp (v := (.bool false)) (Ex.cast (Ex.neq rfl rfl) (congrArg Value.bool (decide_eq_false (by omega)))) (by decide)) (fun _ _ => ?_)
  refine GL.val (v := (.bool false)) (Ex.pickF rfl rfl) (by decide) ?_
  refine GL.nil ?_
  refine GE.thenN ?_
  refine GC.cond rfl (fun hq10 => by cases hq10) (fun _ => ?_)
  refine GC.skip ?_
  refine GE.thenN ?_
  refine GC.seq ?_
  refine GC.join (σ := Nat × (Nat × Nat × List Value) × Nat × (Nat × Nat × List Value)) (fun j => True) (fun j => [(0, (.agg #[(.int .i64 (((W : Nat) : Int))), (.int .i64 (((H : Nat) : Int))), (.slice (some ⟨b, o, none⟩) n cap)])), (1, (.agg #[(.int .i64 (((W : Nat) : Int))), (.int .i64 (((H : Nat) : Int))), (.slice (some ⟨b2, o2, none⟩) n cap2)])), (2, (.int .i64 kd)), (3, (.int .i64 r)), (4, (.int .i64 k)), (5, (.pointer (some ⟨bq1, 0, none⟩))), (6, (.pointer (some ⟨bq2, 0, none⟩))), (10, (.bool false)), (11, (.pointer (some ⟨j.1, 0, none⟩))), (12, (.pointer (some ⟨j.2.2.1, 0, none⟩))), (23, (.bool true)), (24, (.bool false)), (25, (.agg #[(.int .i64 (((W : Nat) : Int))), (.int .i64 (((H : Nat) : Int))), (.slice (some ⟨b, o, none⟩) n cap)])), (26, (.int .i64 kd)), (27, (.int .i64 r)), (28, (.int .i64 k)), (29, (.bool (Bc.rightB (((W : Nat) : Int)) (((H : Nat) : Int)) n kd r k))), (30, (.bool false)), (31, (.bool false)), (32, (.agg #[(.int .i64 (((W : Nat) : Int))), (.int .i64 (((H : Nat) : Int))), (.slice (some ⟨b2, o2, none⟩) n cap2)])), (33, (.int .i64 0)), (34, (.bool false)), (35, (.bool false)), (36, (.bool false)), (37, (.pointer (some ⟨bq1, 0, none⟩))), (38, (.int .i64 (((W : Nat) : Int)))), (39, (.pointer (some ⟨bq2, 0, none⟩))), (40, (.int .i64 (((W : Nat) : Int)))), (41, (.bool false)), (42, (.bool false)), (43, (.bool false)), (44, (.pointer (some ⟨bq1, 1, none⟩))), (45, (.int .i64 (((H : Nat) : Int)))), (46, (.pointer (some ⟨bq2, 1, none⟩))), (47, (.int .i64 (((H : Nat) : Int)))), (48, (.bool false)), (49, (.bool false))]) (fun j => [⟨j.1, [(.int .i64 (((W : Nat) : Int))), (.int .i64 (((H : Nat) : Int))), (.slice (some ⟨j.2.1.1, 0, none⟩) n j.2.1.2.1)], 43, true⟩, ⟨j.2.1.1, xs.map u32 ++ j.2.1.2.2, 63, true⟩, ⟨j.2.2.1, [(.int .i64 (((W : Nat) : Int))), (.int .i64 (((H : Nat) : Int))), (.slice (some ⟨j.2.2.2.1, 0, none⟩) n j.2.2.2.2.1)], 43, true⟩, ⟨j.2.2.2.1, xs.map u32 ++ j.2.2.2.2.2, 63, true⟩, ⟨bq2, [(.int .i64 (((W : Nat) : Int))), (.int .i64 (((H : Nat) : Int))), (.slice (some ⟨b2, o2, none⟩) n cap2)], 43, true⟩, ⟨bq1, [(.int .i64 (((W : Nat) : Int))), (.int .i64 (((H : Nat) : Int))), (.slice (some ⟨b, o, none⟩) n cap)], 43, true⟩]) ?_ (fun j61 hj => ?_)
  · refine GC.drawP [⟨bq2, [(.int .i64 (((W : Nat) : Int))), (.int .i64 (((H : Nat) : Int))), (.slice (some ⟨b2, o2, none⟩) n cap2)], 43, true⟩, ⟨bq1, [(.int .i64 (((W : Nat) : Int))), (.int .i64 (((H : Nat) : Int))), (.slice (some ⟨b, o, none⟩) n cap)], 43, true⟩] T.mixed (by kernel_rfl) (by kernel_rfl) (fuel := 7) rfl rfl ?_
    refine GH.take 0 (v := (.agg #[(.int .i64 (((W : Nat) : Int))), (.int .i64 (((H : Nat) : Int))), (.slice (some ⟨b, o, none⟩) n cap)])) rfl (by kernel_rfl) (by kernel_rfl) (by kernel_rfl) (fun _ _ _ h => h) (Ex.loadA rfl T.ag43 T.sz43 (i := 1) rfl (vs := [(.int .i64 (((W : Nat) : Int))), (.int .i64 (((H : Nat) : Int))), (.slice (some ⟨b, o, none⟩) n cap)]) rfl rfl) (ulC (ulC ulN)) (by decide) ?_
    refine GH.take 2 (v := (.agg #[(.int .i64 (((W : Nat) : Int))), (.int .i64 (((H : Nat) : Int))), (.slice (some ⟨b, o, none⟩) n cap)])) rfl (by kernel_rfl) (by kernel_rfl) (by kernel_rfl) (fun _ _ _ h => h) (Ex.loadA rfl T.ag43 T.sz43 (i := 1) rfl (vs := [(.int .i64 (((W : Nat) : Int))), (.int .i64 (((H : Nat) : Int))), (.slice (some ⟨b, o, none⟩) n cap)]) rfl rfl) (ulC (ulC ulN)) (by decide) ?_
    refine GH.many (rs := [1, 4, 5]) (by kernel_rfl) (by simp) ?_
    refine GHs.cons rfl (Stp.callR (vs := [(.agg #[(.int .i64 (((W : Nat) : Int))), (.int .i64 (((H : Nat) : Int))), (.slice (some ⟨b, o, none⟩) n cap)])]) rfl rfl T.own29 (by decide) (fun wc hw => copy_p W H n cap b o xs wc hx0 (hw.rd hr (fun x => x)) (by have h1 := Nat.mul_pos hok.1 hok.2.1; have h2 := hok.2.2.2.2; omega))) (fun _ => (ulS (ulC (ulC ulN)))) (fun xq62 hq63 => ?_) ?_
    · refine GH.many (rs := [3, 4, 5]) (by kernel_rfl) (by simp) ?_
      refine GHs.cons rfl (Stp.callR (vs := [(.agg #[(.int .i64 (((W : Nat) : Int))), (.int .i64 (((H : Nat) : Int))), (.slice (some ⟨b, o, none⟩) n cap)])]) rfl rfl T.own29 (by decide) (fun wc hw => copy_p W H n cap b o xs wc hx0 (hw.rd hr (fun x => x)) (by have h1 := Nat.mul_pos hok.1 hok.2.1; have h2 := hok.2.2.2.2; omega))) (fun _ => (ulS (ulS (ulC (ulC ulN))))) (fun xq64 hq65 => ?_) ?_
      · refine GH.many (rs := [4, 5]) (by kernel_rfl) (by simp) ?_
        refine GHs.cons rfl (Stp.alloc T.zr43 (by decide)) (fun _ => (ulS (ulS (ulS (ulC (ulC ulN)))))) (fun bq66 _ => ?_) ?_
        · refine GH.one 5 rfl (by kernel_rfl) (Stp.alloc T.zr43 (by decide)) (fun _ => (ulS (ulS (ulS (ulS (ulC (ulC ulN))))))) (fun bq67 _ => ?_)
          refine GH.one 6 rfl (by kernel_rfl) (Stp.st1 (cs' := [(.int .i64 (((W : Nat) : Int))), (.int .i64 (((H : Nat) : Int))), (.slice (some ⟨xq62.1, 0, none⟩) n xq62.2.1)]) rfl rfl rfl T.sz43 rfl rfl rfl) (fun _ => (ulS (ulS (ulS (ulS (ulC (ulC ulN))))))) (fun _ _ => ?_)
          refine GH.done (by kernel_rfl) ?_
          refine GE.thenN ?_
          refine GE.tail rfl (Stp.st0 (cs' := [(.int .i64 (((W : Nat) : Int))), (.int .i64 (((H : Nat) : Int))), (.slice (some ⟨xq64.1, 0, none⟩) n xq64.2.1)]) rfl rfl rfl T.sz43 rfl rfl rfl) (fun _ _ => ?_)
          refine GE.thenN ?_
          exact St.mk ((bq66, xq62, bq67, xq64)) trivial (idx := [1, 3, 0, 2, 4, 5]) ((sub_cons rfl ((sub_cons rfl ((sub_cons rfl ((sub_cons rfl ((sub_cons rfl ((sub_cons rfl ((sub_cons rfl ((sub_cons rfl ((sub_cons rfl ((sub_cons rfl ((sub_cons rfl ((sub_cons rfl ((sub_cons rfl ((sub_cons rfl ((sub_cons rfl ((sub_cons rfl ((sub_cons rfl ((sub_cons rfl ((sub_cons rfl ((sub_cons rfl ((sub_cons rfl ((sub_cons rfl ((sub_cons rfl ((sub_cons rfl ((sub_cons rfl ((sub_cons rfl ((sub_cons rfl ((sub_cons rfl ((sub_cons rfl ((sub_cons rfl ((sub_cons rfl ((sub_cons rfl ((sub_cons rfl ((sub_cons rfl ((sub_cons rfl ((sub_cons rfl ((sub_cons rfl ((sub_nil _)))))))))))))))))))))))))))))))))))))))))))))))))))))))))))))))))))))))))))) (by decide) rfl
        refine GHs.cons rfl (Stp.alloc T.zr43 (by decide)) (fun _ => (ulS (ulS (ulS (ulC (ulC ulN)))))) (fun bq68 _ => ?_) ?_
        · refine GH.one 4 rfl (by kernel_rfl) (Stp.alloc T.zr43 (by decide)) (fun _ => (ulS (ulS (ulS (ulS (ulC (ulC ulN))))))) (fun bq69 _ => ?_)
          refine GH.one 6 rfl (by kernel_rfl) (Stp.st0 (cs' := [(.int .i64 (((W : Nat) : Int))), (.int .i64 (((H : Nat) : Int))), (.slice (some ⟨xq62.1, 0, none⟩) n xq62.2.1)]) rfl rfl rfl T.sz43 rfl rfl rfl) (fun _ => (ulS (ulS (ulS (ulS (ulC (ulC ulN))))))) (fun _ _ => ?_)
          refine GH.done (by kernel_rfl) ?_
          refine GE.thenN ?_
          refine GE.tail rfl (Stp.st1 (cs' := [(.int .i64 (((W : Nat) : Int))), (.int .i64 (((H : Nat) : Int))), (.slice (some ⟨xq64.1, 0, none⟩) n xq64.2.1)]) rfl rfl rfl T.sz43 rfl rfl rfl) (fun _ _ => ?_)
          refine GE.thenN ?_
          exact St.mk ((bq69, xq62, bq68, xq64)) trivial (idx := [0, 3, 1, 2, 4, 5]) ((sub_cons rfl ((sub_cons rfl ((sub_cons rfl ((sub_cons rfl ((sub_cons rfl ((sub_cons rfl ((sub_cons rfl ((sub_cons rfl ((sub_cons rfl ((sub_cons rfl ((sub_cons rfl ((sub_cons rfl ((sub_cons rfl ((sub_cons rfl ((sub_cons rfl ((sub_cons rfl ((sub_cons rfl ((sub_cons rfl ((sub_cons rfl ((sub_cons rfl ((sub_cons rfl ((sub_cons rfl ((sub_cons rfl ((sub_cons rfl ((sub_cons rfl ((sub_cons rfl ((sub_cons rfl ((sub_cons rfl ((sub_cons rfl ((sub_cons rfl ((sub_cons rfl ((sub_cons rfl ((sub_cons rfl ((sub_cons rfl ((sub_cons rfl ((sub_cons rfl ((sub_cons rfl ((sub_nil _)))))))))))))))))))))))))))))))))))))))))))))))))))))))))))))))))))))))))))) (by decide) rfl
        exact GHs.nil
      refine GHs.cons rfl (Stp.alloc T.zr43 (by decide)) (fun _ => (ulS (ulS (ulC (ulC ulN))))) (fun bq70 _ => ?_) ?_
      · refine GH.many (rs := [3, 5]) (by kernel_rfl) (by simp) ?_
        refine GHs.cons rfl (Stp.callR (vs := [(.agg #[(.int .i64 (((W : Nat) : Int))), (.int .i64 (((H : Nat) : Int))), (.slice (some ⟨b, o, none⟩) n cap)])]) rfl rfl T.own29 (by decide) (fun wc hw => copy_p W H n cap b o xs wc hx0 (hw.rd hr (fun x => x)) (by have h1 := Nat.mul_pos hok.1 hok.2.1; have h2 := hok.2.2.2.2; omega))) (fun _ => (ulS (ulS (ulS (ulC (ulC ulN)))))) (fun xq71 hq72 => ?_) ?_
        · refine GH.one 5 rfl (by kernel_rfl) (Stp.alloc T.zr43 (by decide)) (fun _ => (ulS (ulS (ulS (ulS (ulC (ulC ulN))))))) (fun bq73 _ => ?_)
          refine GH.one 6 rfl (by kernel_rfl) (Stp.st2 (cs' := [(.int .i64 (((W : Nat) : Int))), (.int .i64 (((H : Nat) : Int))), (.slice (some ⟨xq62.1, 0, none⟩) n xq62.2.1)]) rfl rfl rfl T.sz43 rfl rfl rfl) (fun _ => (ulS (ulS (ulS (ulS (ulC (ulC ulN))))))) (fun _ _ => ?_)
          refine GH.done (by kernel_rfl) ?_
          refine GE.thenN ?_
          refine GE.tail rfl (Stp.st0 (cs' := [(.int .i64 (((W : Nat) : Int))), (.int .i64 (((H : Nat) : Int))), (.slice (some ⟨xq71.1, 0, none⟩) n xq71.2.1)]) rfl rfl rfl T.sz43 rfl rfl rfl) (fun _ _ => ?_)
          refine GE.thenN ?_
          exact St.mk ((bq70, xq62, bq73, xq71)) trivial (idx := [2, 3, 0, 1, 4, 5]) ((sub_cons rfl ((sub_cons rfl ((sub_cons rfl ((sub_cons rfl ((sub_cons rfl ((sub_cons rfl ((sub_cons rfl ((sub_cons rfl ((sub_cons rfl ((sub_cons rfl ((sub_cons rfl ((sub_cons rfl ((sub_cons rfl ((sub_cons rfl ((sub_cons rfl ((sub_cons rfl ((sub_cons rfl ((sub_cons rfl ((sub_cons rfl ((sub_cons rfl ((sub_cons rfl ((sub_cons rfl ((sub_cons rfl ((sub_cons rfl ((sub_cons rfl ((sub_cons rfl ((sub_cons rfl ((sub_cons rfl ((sub_cons rfl ((sub_cons rfl ((sub_cons rfl ((sub_cons rfl ((sub_cons rfl ((sub_cons rfl ((sub_cons rfl ((sub_cons rfl ((sub_cons rfl ((sub_nil _)))))))))))))))))))))))))))))))))))))))))))))))))))))))))))))))))))))))))))) (by decide) rfl
        refine GHs.cons rfl (Stp.alloc T.zr43 (by decide)) (fun _ => (ulS (ulS (ulS (ulC (ulC ulN)))))) (fun bq74 _ => ?_) ?_
        · refine GH.one 3 rfl (by kernel_rfl) (Stp.callR (vs := [(.agg #[(.int .i64 (((W : Nat) : Int))), (.int .i64 (((H : Nat) : Int))), (.slice (some ⟨b, o, none⟩) n cap)])]) rfl rfl T.own29 (by decide) (fun wc hw => copy_p W H n cap b o xs wc hx0 (hw.rd hr (fun x => x)) (by have h1 := Nat.mul_pos hok.1 hok.2.1; have h2 := hok.2.2.2.2; omega))) (fun _ => (ulS (ulS (ulS (ulS (ulC (ulC ulN))))))) (fun xq75 hq76 => ?_)
          refine GH.one 6 rfl (by kernel_rfl) (Stp.st2 (cs' := [(.int .i64 (((W : Nat) : Int))), (.int .i64 (((H : Nat) : Int))), (.slice (some ⟨xq62.1, 0, none⟩) n xq62.2.1)]) rfl rfl rfl T.sz43 rfl rfl rfl) (fun _ => (ulS (ulS (ulS (ulS (ulC (ulC ulN))))))) (fun _ _ => ?_)
          refine GH.done (by kernel_rfl) ?_
          refine GE.thenN ?_
          refine GE.tail rfl (Stp.st1 (cs' := [(.int .i64 (((W : Nat) : Int))), (.int .i64 (((H : Nat) : Int))), (.slice (some ⟨xq75.1, 0, none⟩) n xq75.2.1)]) rfl rfl rfl T.sz43 rfl rfl rfl) (fun _ _ => ?_)
          refine GE.thenN ?_
          exact St.mk ((bq70, xq62, bq74, xq75)) trivial (idx := [2, 3, 1, 0, 4, 5]) ((sub_cons rfl ((sub_cons rfl ((sub_cons rfl ((sub_cons rfl ((sub_cons rfl ((sub_cons rfl ((sub_cons rfl ((sub_cons rfl ((sub_cons rfl ((sub_cons rfl ((sub_cons rfl ((sub_cons rfl ((sub_cons rfl ((sub_cons rfl ((sub_cons rfl ((sub_cons rfl ((sub_cons rfl ((sub_cons rfl ((sub_cons rfl ((sub_cons rfl ((sub_cons rfl ((sub_cons rfl ((sub_cons rfl ((sub_cons rfl ((sub_cons rfl ((sub_cons rfl ((sub_cons rfl ((sub_cons rfl ((sub_cons rfl ((sub_cons rfl ((sub_cons rfl ((sub_cons rfl ((sub_cons rfl ((sub_cons rfl ((sub_cons rfl ((sub_cons rfl ((sub_cons rfl ((sub_nil _)))))))))))))))))))))))))))))))))))))))))))))))))))))))))))))))))))))))))))) (by decide) rfl
        exact GHs.nil
      refine GHs.cons rfl (Stp.alloc T.zr43 (by decide)) (fun _ => (ulS (ulS (ulC (ulC ulN))))) (fun bq77 _ => ?_) ?_
      · refine GH.many (rs := [3, 4]) (by kernel_rfl) (by simp) ?_
        refine GHs.cons rfl (Stp.callR (vs := [(.agg #[(.int .i64 (((W : Nat) : Int))), (.int .i64 (((H : Nat) : Int))), (.slice (some ⟨b, o, none⟩) n cap)])]) rfl rfl T.own29 (by decide) (fun wc hw => copy_p W H n cap b o xs wc hx0 (hw.rd hr (fun x => x)) (by have h1 := Nat.mul_pos hok.1 hok.2.1; have h2 := hok.2.2.2.2; omega))) (fun _ => (ulS (ulS (ulS (ulC (ulC ulN)))))) (fun xq78 hq79 => ?_) ?_
        · refine GH.one 4 rfl (by kernel_rfl) (Stp.alloc T.zr43 (by decide)) (fun _ => (ulS (ulS (ulS (ulS (ulC (ulC ulN))))))) (fun bq80 _ => ?_)
          refine GH.one 6 rfl (by kernel_rfl) (Stp.st0 (cs' := [(.int .i64 (((W : Nat) : Int))), (.int .i64 (((H : Nat) : Int))), (.slice (some ⟨xq62.1, 0, none⟩) n xq62.2.1)]) rfl rfl rfl T.sz43 rfl rfl rfl) (fun _ => (ulS (ulS (ulS (ulS (ulC (ulC ulN))))))) (fun _ _ => ?_)
          refine GH.done (by kernel_rfl) ?_
          refine GE.thenN ?_
          refine GE.tail rfl (Stp.st2 (cs' := [(.int .i64 (((W : Nat) : Int))), (.int .i64 (((H : Nat) : Int))), (.slice (some ⟨xq78.1, 0, none⟩) n xq78.2.1)]) rfl rfl rfl T.sz43 rfl rfl rfl) (fun _ _ => ?_)
          refine GE.thenN ?_
          exact St.mk ((bq80, xq62, bq77, xq78)) trivial (idx := [0, 3, 2, 1, 4, 5]) ((sub_cons rfl ((sub_cons rfl ((sub_cons rfl ((sub_cons rfl ((sub_cons rfl ((sub_cons rfl ((sub_cons rfl ((sub_cons rfl ((sub_cons rfl ((sub_cons rfl ((sub_cons rfl ((sub_cons rfl ((sub_cons rfl ((sub_cons rfl ((sub_cons rfl ((sub_cons rfl ((sub_cons rfl ((sub_cons rfl ((sub_cons rfl ((sub_cons rfl ((sub_cons rfl ((sub_cons rfl ((sub_cons rfl ((sub_cons rfl ((sub_cons rfl ((sub_cons rfl ((sub_cons rfl ((sub_cons rfl ((sub_cons rfl ((sub_cons rfl ((sub_cons rfl ((sub_cons rfl ((sub_cons rfl ((sub_cons rfl ((sub_cons rfl ((sub_cons rfl ((sub_cons rfl ((sub_nil _)))))))))))))))))))))))))))))))))))))))))))))))))))))))))))))))))))))))))))) (by decide) rfl
        refine GHs.cons rfl (Stp.alloc T.zr43 (by decide)) (fun _ => (ulS (ulS (ulS (ulC (ulC ulN)))))) (fun bq81 _ => ?_) ?_
        · refine GH.one 3 rfl (by kernel_rfl) (Stp.callR (vs := [(.agg #[(.int .i64 (((W : Nat) : Int))), (.int .i64 (((H : Nat) : Int))), (.slice (some ⟨b, o, none⟩) n cap)])]) rfl rfl T.own29 (by decide) (fun wc hw => copy_p W H n cap b o xs wc hx0 (hw.rd hr (fun x => x)) (by have h1 := Nat.mul_pos hok.1 hok.2.1; have h2 := hok.2.2.2.2; omega))) (fun _ => (ulS (ulS (ulS (ulS (ulC (ulC ulN))))))) (fun xq82 hq83 => ?_)
          refine GH.one 6 rfl (by kernel_rfl) (Stp.st1 (cs' := [(.int .i64 (((W : Nat) : Int))), (.int .i64 (((H : Nat) : Int))), (.slice (some ⟨xq62.1, 0, none⟩) n xq62.2.1)]) rfl rfl rfl T.sz43 rfl rfl rfl) (fun _ => (ulS (ulS (ulS (ulS (ulC (ulC ulN))))))) (fun _ _ => ?_)
          refine GH.done (by kernel_rfl) ?_
          refine GE.thenN ?_
          refine GE.tail rfl (Stp.st2 (cs' := [(.int .i64 (((W : Nat) : Int))), (.int .i64 (((H : Nat) : Int))), (.slice (some ⟨xq82.1, 0, none⟩) n xq82.2.1)]) rfl rfl rfl T.sz43 rfl rfl rfl) (fun _ _ => ?_)
          refine GE.thenN ?_
          exact St.mk ((bq81, xq62, bq77, xq82)) trivial (idx := [1, 3, 2, 0, 4, 5]) ((sub_cons rfl ((sub_cons rfl ((sub_cons rfl ((sub_cons rfl ((sub_cons rfl ((sub_cons rfl ((sub_cons rfl ((sub_cons rfl ((sub_cons rfl ((sub_cons rfl ((sub_cons rfl ((sub_cons rfl ((sub_cons rfl ((sub_cons rfl ((sub_cons rfl ((sub_cons rfl ((sub_cons rfl ((sub_cons rfl ((sub_cons rfl ((sub_cons rfl ((sub_cons rfl ((sub_cons rfl ((sub_cons rfl ((sub_cons rfl ((sub_cons rfl ((sub_cons rfl ((sub_cons rfl ((sub_cons rfl ((sub_cons rfl ((sub_cons rfl ((sub_cons rfl ((sub_cons rfl ((sub_cons rfl ((sub_cons rfl ((sub_cons rfl ((sub_cons rfl ((sub_cons rfl ((sub_nil _)))))))))))))))))))))))))))))))))))))))))))))))))))))))))))))))))))))))))))) (by decide) rfl
        exact GHs.nil
      exact GHs.nil
    refine GHs.cons rfl (Stp.alloc T.zr43 (by decide)) (fun _ => (ulS (ulC (ulC ulN)))) (fun bq84 _ => ?_) ?_
    · refine GH.many (rs := [1, 5]) (by kernel_rfl) (by simp) ?_
      refine GHs.cons rfl (Stp.callR (vs := [(.agg #[(.int .i64 (((W : Nat) : Int))), (.int .i64 (((H : Nat) : Int))), (.slice (some ⟨b, o, none⟩) n cap)])]) rfl rfl T.own29 (by decide) (fun wc hw => copy_p W H n cap b o xs wc hx0 (hw.rd hr (fun x => x)) (by have h1 := Nat.mul_pos hok.1 hok.2.1; have h2 := hok.2.2.2.2; omega))) (fun _ => (ulS (ulS (ulC (ulC ulN))))) (fun xq85 hq86 => ?_) ?_
      · refine GH.many (rs := [3, 5]) (by kernel_rfl) (by simp) ?_
        refine GHs.cons rfl (Stp.callR (vs := [(.agg #[(.int .i64 (((W : Nat) : Int))), (.int .i64 (((H : Nat) : Int))), (.slice (some ⟨b, o, none⟩) n cap)])]) rfl rfl T.own29 (by decide) (fun wc hw => copy_p W H n cap b o xs wc hx0 (hw.rd hr (fun x => x)) (by have h1 := Nat.mul_pos hok.1 hok.2.1; have h2 := hok.2.2.2.2; omega))) (fun _ => (ulS (ulS (ulS (ulC (ulC ulN)))))) (fun xq87 hq88 => ?_) ?_
        · refine GH.one 5 rfl (by kernel_rfl) (Stp.alloc T.zr43 (by decide)) (fun _ => (ulS (ulS (ulS (ulS (ulC (ulC ulN))))))) (fun bq89 _ => ?_)
          refine GH.one 6 rfl (by kernel_rfl) (Stp.st3 (cs' := [(.int .i64 (((W : Nat) : Int))), (.int .i64 (((H : Nat) : Int))), (.slice (some ⟨xq85.1, 0, none⟩) n xq85.2.1)]) rfl rfl rfl T.sz43 rfl rfl rfl) (fun _ => (ulS (ulS (ulS (ulS (ulC (ulC ulN))))))) (fun _ _ => ?_)
          refine GH.done (by kernel_rfl) ?_
          refine GE.thenN ?_
          refine GE.tail rfl (Stp.st0 (cs' := [(.int .i64 (((W : Nat) : Int))), (.int .i64 (((H : Nat) : Int))), (.slice (some ⟨xq87.1, 0, none⟩) n xq87.2.1)]) rfl rfl rfl T.sz43 rfl rfl rfl) (fun _ _ => ?_)
          refine GE.thenN ?_
          exact St.mk ((bq84, xq85, bq89, xq87)) trivial (idx := [3, 2, 0, 1, 4, 5]) ((sub_cons rfl ((sub_cons rfl ((sub_cons rfl ((sub_cons rfl ((sub_cons rfl ((sub_cons rfl ((sub_cons rfl ((sub_cons rfl ((sub_cons rfl ((sub_cons rfl ((sub_cons rfl ((sub_cons rfl ((sub_cons rfl ((sub_cons rfl ((sub_cons rfl ((sub_cons rfl ((sub_cons rfl ((sub_cons rfl ((sub_cons rfl ((sub_cons rfl ((sub_cons rfl ((sub_cons rfl ((sub_cons rfl ((sub_cons rfl ((sub_cons rfl ((sub_cons rfl ((sub_cons rfl ((sub_cons rfl ((sub_cons rfl ((sub_cons rfl ((sub_cons rfl ((sub_cons rfl ((sub_cons rfl ((sub_cons rfl ((sub_cons rfl ((sub_cons rfl ((sub_cons rfl ((sub_nil _)))))))))))))))))))))))))))))))))))))))))))))))))))))))))))))))))))))))))))) (by decide) rfl
        refine GHs.cons rfl (Stp.alloc T.zr43 (by decide)) (fun _ => (ulS (ulS (ulS (ulC (ulC ulN)))))) (fun bq90 _ => ?_) ?_
        · refine GH.one 3 rfl (by kernel_rfl) (Stp.callR (vs := [(.agg #[(.int .i64 (((W : Nat) : Int))), (.int .i64 (((H : Nat) : Int))), (.slice (some ⟨b, o, none⟩) n cap)])]) rfl rfl T.own29 (by decide) (fun wc hw => copy_p W H n cap b o xs wc hx0 (hw.rd hr (fun x => x)) (by have h1 := Nat.mul_pos hok.1 hok.2.1; have h2 := hok.2.2.2.2; omega))) (fun _ => (ulS (ulS (ulS (ulS (ulC (ulC ulN))))))) (fun xq91 hq92 => ?_)
          refine GH.one 6 rfl (by kernel_rfl) (Stp.st3 (cs' := [(.int .i64 (((W : Nat) : Int))), (.int .i64 (((H : Nat) : Int))), (.slice (some ⟨xq85.1, 0, none⟩) n xq85.2.1)]) rfl rfl rfl T.sz43 rfl rfl rfl) (fun _ => (ulS (ulS (ulS (ulS (ulC (ulC ulN))))))) (fun _ _ => ?_)
          refine GH.done (by kernel_rfl) ?_
          refine GE.thenN ?_
          refine GE.tail rfl (Stp.st1 (cs' := [(.int .i64 (((W : Nat) : Int))), (.int .i64 (((H : Nat) : Int))), (.slice (some ⟨xq91.1, 0, none⟩) n xq91.2.1)]) rfl rfl rfl T.sz43 rfl rfl rfl) (fun _ _ => ?_)
          refine GE.thenN ?_
          exact St.mk ((bq84, xq85, bq90, xq91)) trivial (idx := [3, 2, 1, 0, 4, 5]) ((sub_cons rfl ((sub_cons rfl ((sub_cons rfl ((sub_cons rfl ((sub_cons rfl ((sub_cons rfl ((sub_cons rfl ((sub_cons rfl ((sub_cons rfl ((sub_cons rfl ((sub_cons rfl ((sub_cons rfl ((sub_cons rfl ((sub_cons rfl ((sub_cons rfl ((sub_cons rfl ((sub_cons rfl ((sub_cons rfl ((sub_cons rfl ((sub_cons rfl ((sub_cons rfl ((sub_cons rfl ((sub_cons rfl ((sub_cons rfl ((sub_cons rfl ((sub_cons rfl ((sub_cons rfl ((sub_cons rfl ((sub_cons rfl ((sub_cons rfl ((sub_cons rfl ((sub_cons rfl ((sub_cons rfl ((sub_cons rfl ((sub_cons rfl ((sub_cons rfl ((sub_cons rfl ((sub_nil _)))))))))))))))))))))))))))))))))))))))))))))))))))))))))))))))))))))))))))) (by decide) rfl
        exact GHs.nil
      refine GHs.cons rfl (Stp.alloc T.zr43 (by decide)) (fun _ => (ulS (ulS (ulC (ulC ulN))))) (fun bq93 _ => ?_) ?_
      · refine GH.one 1 rfl (by kernel_rfl) (Stp.callR (vs := [(.agg #[(.int .i64 (((W : Nat) : Int))), (.int .i64 (((H : Nat) : Int))), (.slice (some ⟨b, o, none⟩) n cap)])]) rfl rfl T.own29 (by decide) (fun wc hw => copy_p W H n cap b o xs wc hx0 (hw.rd hr (fun x => x)) (by have h1 := Nat.mul_pos hok.1 hok.2.1; have h2 := hok.2.2.2.2; omega))) (fun _ => (ulS (ulS (ulS (ulC (ulC ulN)))))) (fun xq94 hq95 => ?_)
        refine GH.one 3 rfl (by kernel_rfl) (Stp.callR (vs := [(.agg #[(.int .i64 (((W : Nat) : Int))), (.int .i64 (((H : Nat) : Int))), (.slice (some ⟨b, o, none⟩) n cap)])]) rfl rfl T.own29 (by decide) (fun wc hw => copy_p W H n cap b o xs wc hx0 (hw.rd hr (fun x => x)) (by have h1 := Nat.mul_pos hok.1 hok.2.1; have h2 := hok.2.2.2.2; omega))) (fun _ => (ulS (ulS (ulS (ulS (ulC (ulC ulN))))))) (fun xq96 hq97 => ?_)
        refine GH.one 6 rfl (by kernel_rfl) (Stp.st3 (cs' := [(.int .i64 (((W : Nat) : Int))), (.int .i64 (((H : Nat) : Int))), (.slice (some ⟨xq94.1, 0, none⟩) n xq94.2.1)]) rfl rfl rfl T.sz43 rfl rfl rfl) (fun _ => (ulS (ulS (ulS (ulS (ulC (ulC ulN))))))) (fun _ _ => ?_)
        refine GH.done (by kernel_rfl) ?_
        refine GE.thenN ?_
        refine GE.tail rfl (Stp.st2 (cs' := [(.int .i64 (((W : Nat) : Int))), (.int .i64 (((H : Nat) : Int))), (.slice (some ⟨xq96.1, 0, none⟩) n xq96.2.1)]) rfl rfl rfl T.sz43 rfl rfl rfl) (fun _ _ => ?_)
        refine GE.thenN ?_
        exact St.mk ((bq84, xq94, bq93, xq96)) trivial (idx := [3, 1, 2, 0, 4, 5]) ((sub_cons rfl ((sub_cons rfl ((sub_cons rfl ((sub_cons rfl ((sub_cons rfl ((sub_cons rfl ((sub_cons rfl ((sub_cons rfl ((sub_cons rfl ((sub_cons rfl ((sub_cons rfl ((sub_cons rfl ((sub_cons rfl ((sub_cons rfl ((sub_cons rfl ((sub_cons rfl ((sub_cons rfl ((sub_cons rfl ((sub_cons rfl ((sub_cons rfl ((sub_cons rfl ((sub_cons rfl ((sub_cons rfl ((sub_cons rfl ((sub_cons rfl ((sub_cons rfl ((sub_cons rfl ((sub_cons rfl ((sub_cons rfl ((sub_cons rfl ((sub_cons rfl ((sub_cons rfl ((sub_cons rfl ((sub_cons rfl ((sub_cons rfl ((sub_cons rfl ((sub_cons rfl ((sub_nil _)))))))))))))))))))))))))))))))))))))))))))))))))))))))))))))))))))))))))))) (by decide) rfl
      exact GHs.nil
    refine GHs.cons rfl (Stp.alloc T.zr43 (by decide)) (fun _ => (ulS (ulC (ulC ulN)))) (fun bq98 _ => ?_) ?_
    · refine GH.many (rs := [1, 4]) (by kernel_rfl) (by simp) ?_
      refine GHs.cons rfl (Stp.callR (vs := [(.agg #[(.int .i64 (((W : Nat) : Int))), (.int .i64 (((H : Nat) : Int))), (.slice (some ⟨b, o, none⟩) n cap)])]) rfl rfl T.own29 (by decide) (fun wc hw => copy_p W H n cap b o xs wc hx0 (hw.rd hr (fun x => x)) (by have h1 := Nat.mul_pos hok.1 hok.2.1; have h2 := hok.2.2.2.2; omega))) (fun _ => (ulS (ulS (ulC (ulC ulN))))) (fun xq99 hq100 => ?_) ?_
      · refine GH.many (rs := [3, 4]) (by kernel_rfl) (by simp) ?_
        refine GHs.cons rfl (Stp.callR (vs := [(.agg #[(.int .i64 (((W : Nat) : Int))), (.int .i64 (((H : Nat) : Int))), (.slice (some ⟨b, o, none⟩) n cap)])]) rfl rfl T.own29 (by decide) (fun wc hw => copy_p W H n cap b o xs wc hx0 (hw.rd hr (fun x => x)) (by have h1 := Nat.mul_pos hok.1 hok.2.1; have h2 := hok.2.2.2.2; omega))) (fun _ => (ulS (ulS (ulS (ulC (ulC ulN)))))) (fun xq101 hq102 => ?_) ?_
        · refine GH.one 4 rfl (by kernel_rfl) (Stp.alloc T.zr43 (by decide)) (fun _ => (ulS (ulS (ulS (ulS (ulC (ulC ulN))))))) (fun bq103 _ => ?_)
          refine GH.one 6 rfl (by kernel_rfl) (Stp.st0 (cs' := [(.int .i64 (((W : Nat) : Int))), (.int .i64 (((H : Nat) : Int))), (.slice (some ⟨xq99.1, 0, none⟩) n xq99.2.1)]) rfl rfl rfl T.sz43 rfl rfl rfl) (fun _ => (ulS (ulS (ulS (ulS (ulC (ulC ulN))))))) (fun _ _ => ?_)
          refine GH.done (by kernel_rfl) ?_
          refine GE.thenN ?_
          refine GE.tail rfl (Stp.st3 (cs' := [(.int .i64 (((W : Nat) : Int))), (.int .i64 (((H : Nat) : Int))), (.slice (some ⟨xq101.1, 0, none⟩) n xq101.2.1)]) rfl rfl rfl T.sz43 rfl rfl rfl) (fun _ _ => ?_)
          refine GE.thenN ?_
          exact St.mk ((bq103, xq99, bq98, xq101)) trivial (idx := [0, 2, 3, 1, 4, 5]) ((sub_cons rfl ((sub_cons rfl ((sub_cons rfl ((sub_cons rfl ((sub_cons rfl ((sub_cons rfl ((sub_cons rfl ((sub_cons rfl ((sub_cons rfl ((sub_cons rfl ((sub_cons rfl ((sub_cons rfl ((sub_cons rfl ((sub_cons rfl ((sub_cons rfl ((sub_cons rfl ((sub_cons rfl ((sub_cons rfl ((sub_cons rfl ((sub_cons rfl ((sub_cons rfl ((sub_cons rfl ((sub_cons rfl ((sub_cons rfl ((sub_cons rfl ((sub_cons rfl ((sub_cons rfl ((sub_cons rfl ((sub_cons rfl ((sub_cons rfl ((sub_cons rfl ((sub_cons rfl ((sub_cons rfl ((sub_cons rfl ((sub_cons rfl ((sub_cons rfl ((sub_cons rfl ((sub_nil _)))))))))))))))))))))))))))))))))))))))))))))))))))))))))))))))))))))))))))) (by decide) rfl
        refine GHs.cons rfl (Stp.alloc T.zr43 (by decide)) (fun _ => (ulS (ulS (ulS (ulC (ulC ulN)))))) (fun bq104 _ => ?_) ?_
        · refine GH.one 3 rfl (by kernel_rfl) (Stp.callR (vs := [(.agg #[(.int .i64 (((W : Nat) : Int))), (.int .i64 (((H : Nat) : Int))), (.slice (some ⟨b, o, none⟩) n cap)])]) rfl rfl T.own29 (by decide) (fun wc hw => copy_p W H n cap b o xs wc hx0 (hw.rd hr (fun x => x)) (by have h1 := Nat.mul_pos hok.1 hok.2.1; have h2 := hok.2.2.2.2; omega))) (fun _ => (ulS (ulS (ulS (ulS (ulC (ulC ulN))))))) (fun xq105 hq106 => ?_)
          refine GH.one 6 rfl (by kernel_rfl) (Stp.st1 (cs' := [(.int .i64 (((W : Nat) : Int))), (.int .i64 (((H : Nat) : Int))), (.slice (some ⟨xq99.1, 0, none⟩) n xq99.2.1)]) rfl rfl rfl T.sz43 rfl rfl rfl) (fun _ => (ulS (ulS (ulS (ulS (ulC (ulC ulN))))))) (fun _ _ => ?_)
          refine GH.done (by kernel_rfl) ?_
          refine GE.thenN ?_
          refine GE.tail rfl (Stp.st3 (cs' := [(.int .i64 (((W : Nat) : Int))), (.int .i64 (((H : Nat) : Int))), (.slice (some ⟨xq105.1, 0, none⟩) n xq105.2.1)]) rfl rfl rfl T.sz43 rfl rfl rfl) (fun _ _ => ?_)
          refine GE.thenN ?_
          exact St.mk ((bq104, xq99, bq98, xq105)) trivial (idx := [1, 2, 3, 0, 4, 5]) ((sub_cons rfl ((sub_cons rfl ((sub_cons rfl ((sub_cons rfl ((sub_cons rfl ((sub_cons rfl ((sub_cons rfl ((sub_cons rfl ((sub_cons rfl ((sub_cons rfl ((sub_cons rfl ((sub_cons rfl ((sub_cons rfl ((sub_cons rfl ((sub_cons rfl ((sub_cons rfl ((sub_cons rfl ((sub_cons rfl ((sub_cons rfl ((sub_cons rfl ((sub_cons rfl ((sub_cons rfl ((sub_cons rfl ((sub_cons rfl ((sub_cons rfl ((sub_cons rfl ((sub_cons rfl ((sub_cons rfl ((sub_cons rfl ((sub_cons rfl ((sub_cons rfl ((sub_cons rfl ((sub_cons rfl ((sub_cons rfl ((sub_cons rfl ((sub_cons rfl ((sub_cons rfl ((sub_nil _)))))))))))))))))))))))))))))))))))))))))))))))))))))))))))))))))))))))))))) (by decide) rfl
        exact GHs.nil
      refine GHs.cons rfl (Stp.alloc T.zr43 (by decide)) (fun _ => (ulS (ulS (ulC (ulC ulN))))) (fun bq107 _ => ?_) ?_
      · refine GH.one 1 rfl (by kernel_rfl) (Stp.callR (vs := [(.agg #[(.int .i64 (((W : Nat) : Int))), (.int .i64 (((H : Nat) : Int))), (.slice (some ⟨b, o, none⟩) n cap)])]) rfl rfl T.own29 (by decide) (fun wc hw => copy_p W H n cap b o xs wc hx0 (hw.rd hr (fun x => x)) (by have h1 := Nat.mul_pos hok.1 hok.2.1; have h2 := hok.2.2.2.2; omega))) (fun _ => (ulS (ulS (ulS (ulC (ulC ulN)))))) (fun xq108 hq109 => ?_)
        refine GH.one 3 rfl (by kernel_rfl) (Stp.callR (vs := [(.agg #[(.int .i64 (((W : Nat) : Int))), (.int .i64 (((H : Nat) : Int))), (.slice (some ⟨b, o, none⟩) n cap)])]) rfl rfl T.own29 (by decide) (fun wc hw => copy_p W H n cap b o xs wc hx0 (hw.rd hr (fun x => x)) (by have h1 := Nat.mul_pos hok.1 hok.2.1; have h2 := hok.2.2.2.2; omega))) (fun _ => (ulS (ulS (ulS (ulS (ulC (ulC ulN))))))) (fun xq110 hq111 => ?_)
        refine GH.one 6 rfl (by kernel_rfl) (Stp.st2 (cs' := [(.int .i64 (((W : Nat) : Int))), (.int .i64 (((H : Nat) : Int))), (.slice (some ⟨xq108.1, 0, none⟩) n xq108.2.1)]) rfl rfl rfl T.sz43 rfl rfl rfl) (fun _ => (ulS (ulS (ulS (ulS (ulC (ulC ulN))))))) (fun _ _ => ?_)
        refine GH.done (by kernel_rfl) ?_
        refine GE.thenN ?_
        refine GE.tail rfl (Stp.st3 (cs' := [(.int .i64 (((W : Nat) : Int))), (.int .i64 (((H : Nat) : Int))), (.slice (some ⟨xq110.1, 0, none⟩) n xq110.2.1)]) rfl rfl rfl T.sz43 rfl rfl rfl) (fun _ _ => ?_)
        refine GE.thenN ?_
        exact St.mk ((bq107, xq108, bq98, xq110)) trivial (idx := [2, 1, 3, 0, 4, 5]) ((sub_cons rfl ((sub_cons rfl ((sub_cons rfl ((sub_cons rfl ((sub_cons rfl ((sub_cons rfl ((sub_cons rfl ((sub_cons rfl ((sub_cons rfl ((sub_cons rfl ((sub_cons rfl ((sub_cons rfl ((sub_cons rfl ((sub_cons rfl ((sub_cons rfl ((sub_cons rfl ((sub_cons rfl ((sub_cons rfl ((sub_cons rfl ((sub_cons rfl ((sub_cons rfl ((sub_cons rfl ((sub_cons rfl ((sub_cons rfl ((sub_cons rfl ((sub_cons rfl ((sub_cons rfl ((sub_cons rfl ((sub_cons rfl ((sub_cons rfl ((sub_cons rfl ((sub_cons rfl ((sub_cons rfl ((sub_cons rfl ((sub_cons rfl ((sub_cons rfl ((sub_cons rfl ((sub_nil _)))))))))))))))))))))))))))))))))))))))))))))))))))))))))))))))))))))))))))) (by decide) rfl
      exact GHs.nil
    exact GHs.nil
  refine GE.thenN ?_
  refine GC.seq ?_
  refine GC.drawP [⟨j61.1, [(.int .i64 (((W : Nat) : Int))), (.int .i64 (((H : Nat) : Int))), (.slice (some ⟨j61.2.1.1, 0, none⟩) n j61.2.1.2.1)], 43, true⟩, ⟨j61.2.1.1, xs.map u32 ++ j61.2.1.2.2, 63, true⟩, ⟨j61.2.2.1, [(.int .i64 (((W : Nat) : Int))), (.int .i64 (((H : Nat) : Int))), (.slice (some ⟨j61.2.2.2.1, 0, none⟩) n j61.2.2.2.2.1)], 43, true⟩, ⟨j61.2.2.2.1, xs.map u32 ++ j61.2.2.2.2.2, 63, true⟩, ⟨bq2, [(.int .i64 (((W : Nat) : Int))), (.int .i64 (((H : Nat) : Int))), (.slice (some ⟨b2, o2, none⟩) n cap2)], 43, true⟩, ⟨bq1, [(.int .i64 (((W : Nat) : Int))), (.int .i64 (((H : Nat) : Int))), (.slice (some ⟨b, o, none⟩) n cap)], 43, true⟩] T.mixed (by kernel_rfl) (by kernel_rfl) (fuel := 11) rfl rfl ?_
  refine GH.take 0 (v := (.pointer (some ⟨bq1, 2, none⟩))) rfl (by kernel_rfl) (by kernel_rfl) (by kernel_rfl) (fun _ _ _ h => h) (Ex.cast (Ex.fieldAddr rfl Try.underlying43 rfl T.sz41 (by decide)) rfl) (ulC (ulC (ulC (ulC (ulC (ulC ulN)))))) (by decide) ?_
  refine GH.take 1 (v := (.slice (some ⟨b, o, none⟩) n cap)) rfl (by kernel_rfl) (by kernel_rfl) (by kernel_rfl) (fun _ _ _ h => h) (Ex.load rfl T.ag41 (i := 5) rfl rfl) (ulC (ulC (ulC (ulC (ulC (ulC ulN)))))) (by decide) ?_
  refine GH.take 2 (v := (.pointer (some ⟨b, o, none⟩))) rfl (by kernel_rfl) (by kernel_rfl) (by kernel_rfl) (fun _ _ _ h => h) (Ex.cast (Ex.indexAddr rfl rfl Try.underlying41 T.sz63 (by omega) (by omega)) rfl) (ulC (ulC (ulC (ulC (ulC (ulC ulN)))))) (by decide) ?_
  refine GH.take 3 (v := (.int .u32 ((xs.getD 0 0)))) rfl (by kernel_rfl) (by kernel_rfl) (by kernel_rfl) (fun _ _ _ h => h) (Ex.loadO rfl T.ag63 (Rd.at (k := 0) hr (by omega)) (fun x => x)) (ulC (ulC (ulC (ulC (ulC (ulC ulN)))))) (by decide) ?_
  refine GH.take 5 (v := (.pointer (some ⟨bq1, 2, none⟩))) rfl (by kernel_rfl) (by kernel_rfl) (by kernel_rfl) (fun _ _ _ h => h) (Ex.cast (Ex.fieldAddr rfl Try.underlying43 rfl T.sz41 (by decide)) rfl) (ulC (ulC (ulC (ulC (ulC (ulC ulN)))))) (by decide) ?_
  refine GH.take 6 (v := (.slice (some ⟨b, o, none⟩) n cap)) rfl (by kernel_rfl) (by kernel_rfl) (by kernel_rfl) (fun _ _ _ h => h) (Ex.load rfl T.ag41 (i := 5) rfl rfl) (ulC (ulC (ulC (ulC (ulC (ulC ulN)))))) (by decide) ?_
  refine GH.take 7 (v := (.pointer (some ⟨b, o, none⟩))) rfl (by kernel_rfl) (by kernel_rfl) (by kernel_rfl) (fun _ _ _ h => h) (Ex.cast (Ex.indexAddr rfl rfl Try.underlying41 T.sz63 (by omega) (by omega)) rfl) (ulC (ulC (ulC (ulC (ulC (ulC ulN)))))) (by decide) ?_
  refine GH.take 8 (v := (.int .u32 ((xs.getD 0 0)))) rfl (by kernel_rfl) (by kernel_rfl) (by kernel_rfl) (fun _ _ _ h => h) (Ex.loadO rfl T.ag63 (Rd.at (k := 0) hr (by omega)) (fun x => x)) (ulC (ulC (ulC (ulC (ulC (ulC ulN)))))) (by decide) ?_
  refine GH.one 4 rfl (by kernel_rfl) (Stp.callR (vs := [(.int .u32 ((xs.getD 0 0)))]) rfl rfl T.own30 (by decide) (fun wc hw => value_l ((xs.getD 0 0)) wc)) (fun _ => (ulC (ulC (ulC (ulC (ulC (ulC ulN))))))) (fun xq116 hq117 => ?_)
  refine GH.one 9 rfl (by kernel_rfl) (Stp.callR (vs := [(.int .u32 ((xs.getD 0 0)))]) rfl rfl T.own30 (by decide) (fun wc hw => value_l ((xs.getD 0 0)) wc)) (fun _ => (ulC (ulC (ulC (ulC (ulC (ulC ulN))))))) (fun xq118 hq119 => ?_)
  refine GH.take 10 (v := (.float .f64 xq116)) rfl (by kernel_rfl) (by kernel_rfl) (by kernel_rfl) (fun _ _ _ h => h) (Ex.assign rfl) (ulC (ulC (ulC (ulC (ulC (ulC ulN)))))) (by decide) ?_
  refine GH.done (by kernel_rfl) ?_
  refine GE.thenN ?_
  refine GE.tail rfl (Ex.wp (v := (.float .f64 xq118)) (Ex.assign rfl) (by decide)) (fun _ _ => ?_)
  refine GE.thenN ?_
  refine GC.seq ?_
  refine GC.seq ?_
  refine GC.region ?_
  refine GL.val (Ex.assign rfl) (by decide) ?_
  refine GL.nil ?_
  refine GE.thenN ?_
  refine GC.block ?_
  refine GC.unroll 1 ?_
  refine GE.round ?_
  refine GC.seq ?_
  refine GC.seq ?_
  refine GC.region ?_
  refine GL.val (Ex.move rfl) (by decide) ?_
  refine GL.val (v := (.pointer (some ⟨bq1, 2, none⟩))) (Ex.cast (Ex.fieldAddr rfl Try.underlying43 rfl T.sz41 (by decide)) rfl) (by decide) ?_
  refine GL.val (Ex.load rfl T.ag41 (i := 5) rfl rfl) (by decide) ?_
  refine GL.val (v := (.int .i64 ((n : Int)))) (Ex.len rfl Try.underlying41) (by decide) ?_
  refine GL.val (v := (.bool true)) (Ex.cast (Ex.lss rfl rfl) (congrArg Value.bool (decide_eq_true (by omega)))) (by decide) ?_
  refine GL.nil ?_
  refine GE.thenN ?_
  refine GC.cond rfl (fun _ => ?_) (fun hq120 => by cases hq120)
  refine GC.skip ?_
  refine GE.thenN ?_
  refine GC.seq ?_
  refine GC.block ?_
  refine GC.seq ?_
  refine GC.seq ?_
  refine GC.region ?_
  refine GL.val (v := (.pointer (some ⟨bq1, 2, none⟩))) (Ex.cast (Ex.fieldAddr rfl Try.underlying43 rfl T.sz41 (by decide)) rfl) (by decide) ?_
  refine GL.val (Ex.load rfl T.ag41 (i := 5) rfl rfl) (by decide) ?_
  refine GL.val (Ex.move rfl) (by decide) ?_
  refine GL.val (v := (.pointer (some ⟨b, o, none⟩))) (Ex.cast (Ex.indexAddr rfl rfl Try.underlying41 T.sz63 (by omega) (by omega)) rfl) (by decide) ?_
  refine GL.val (v := (.int .u32 ((xs.getD 0 0)))) (Ex.loadO rfl T.ag63 (Rd.at (k := 0) hr (by omega)) (fun x => x)) (by decide) ?_
  refine GL.step (Stp.callR (vs := [(.int .u32 ((xs.getD 0 0)))]) rfl rfl T.own31 (by decide) (fun wc hw => finite_p ((xs.getD 0 0)) wc (hbx 0))) (fun xq121 hq122 => ?_)
  refine GL.val (v := (.bool true)) (Ex.cast (Ex.not rfl) (congrArg Value.bool (congrArg (fun z => !z) (decide_eq_false (by exact fun h => h h00))))) (by decide) ?_
  refine GL.val (Ex.move rfl) (by decide) ?_
  refine GL.skipG (tj := 78) rfl rfl rfl (by decide) ?_
  refine GL.skipG (tj := 78) rfl rfl rfl (by decide) ?_
  refine GL.skipG (tj := 78) rfl rfl rfl (by decide) ?_
  refine GL.skipG (tj := 78) rfl rfl rfl (by decide) ?_
  refine GL.skipG (tj := 78) rfl rfl rfl (by decide) ?_
  refine GL.skipG (tj := 78) rfl rfl rfl (by decide) ?_
  refine GL.skipG (tj := 78) rfl rfl rfl (by decide) ?_
  refine GL.val (v := (.bool true)) (Ex.pickT rfl rfl) (by decide) ?_
  refine GL.nil ?_
  refine GE.thenN ?_
  refine GC.cond rfl (fun _ => ?_) (fun hq123 => by cases hq123)
  refine GC.seq ?_
  refine GC.region ?_
  refine GL.val (Ex.assign rfl) (by decide) ?_
  refine GL.nil ?_
  refine GE.thenN ?_
  refine GC.ret ?_
  refine GE.thenR ?_
  refine GE.blockR ?_
  refine GE.thenR ?_
  refine GE.thenR ?_
  refine GE.blockR ?_
  refine GE.thenR ?_
  refine GC.ret1 rfl (Rv.tmp rfl) (fun wN HN => ?_)
  exact HN.ret () trivial rfl (List.nil_sublist _) rfl

set_option maxRecDepth 100000 in
set_option maxHeartbeats 1000000 in
theorem ri_bad (W H : Int) (ad : Option Addr) (n cap : Nat) (W2 H2 : Int) (ad2 : Option Addr) (n2 cap2 : Nat) (kd r k : Int) (w : World) (hri : Bc.rightB W H n kd r k = false) :
    Calls Try.prog 7 #[(.agg #[(.int .i64 W), (.int .i64 H), (.slice ad n cap)]), (.agg #[(.int .i64 W2), (.int .i64 H2), (.slice ad2 n2 cap2)]), (.int .i64 kd), (.int .i64 r), (.int .i64 k)] w (Ret w (fun _ : Unit => True) (fun _ => .bool true) (fun _ => [])) := by
  refine enter (M := None) (L := []) (n := 207) (l := [(0, (.agg #[(.int .i64 W), (.int .i64 H), (.slice ad n cap)])), (1, (.agg #[(.int .i64 W2), (.int .i64 H2), (.slice ad2 n2 cap2)])), (2, (.int .i64 kd)), (3, (.int .i64 r)), (4, (.int .i64 k))]) Try.func7 rfl rfl (Args.cons rfl (Args.cons rfl (Args.cons rfl (Args.cons rfl (Args.cons rfl (Args.nil _)))))) (Hp.start _ _) ?_
  refine GC.seq ?_
  refine GC.region ?_
  refine GL.step (Stp.box (cs := [(.int .i64 W), (.int .i64 H), (.slice ad n cap)]) rfl rfl (by decide)) (fun bq1 _ => ?_)
  refine GL.step (Stp.box (cs := [(.int .i64 W2), (.int .i64 H2), (.slice ad2 n2 cap2)]) rfl rfl (by decide)) (fun bq2 _ => ?_)
  refine GL.val (Ex.assign rfl) (by decide) ?_
  refine GL.nil ?_
  refine GE.thenN ?_
  refine GC.seq ?_
  refine GC.seq ?_
  refine GC.region ?_
  refine GL.step (Stp.callR (vs := []) rfl rfl T.own12 (by decide) (fun wc hw => known wc)) (fun xq3 hq4 => ?_)
  refine GL.val (v := (.bool false)) (Ex.cast (Ex.not rfl) rfl) (by decide) ?_
  refine GL.nil ?_
  refine GE.thenN ?_
  refine GC.cond rfl (fun hq5 => by cases hq5) (fun _ => ?_)
  refine GC.skip ?_
  refine GE.thenN ?_
  refine GC.seq ?_
  refine GC.seq ?_
  refine GC.region ?_
  refine GL.val (v := (.agg #[(.int .i64 W), (.int .i64 H), (.slice ad n cap)])) (Ex.loadA rfl T.ag43 T.sz43 (i := 1) rfl (vs := [(.int .i64 W), (.int .i64 H), (.slice ad n cap)]) rfl rfl) (by decide) ?_
  refine GL.val (Ex.move rfl) (by decide) ?_
  refine GL.val (Ex.move rfl) (by decide) ?_
  refine GL.val (Ex.move rfl) (by decide) ?_
  refine GL.step (Stp.callR (vs := [(.agg #[(.int .i64 W), (.int .i64 H), (.slice ad n cap)]), (.int .i64 kd), (.int .i64 r), (.int .i64 k)]) rfl rfl T.own27 (by decide) (fun wc hw => right_p W H ad n cap kd r k wc)) (fun xq6 hq7 => ?_)
  refine GL.val (v := (.bool true)) (Ex.cast (Ex.not rfl) (congrArg Value.bool (congrArg (fun z => !z) ((Bool.eq_false_iff.2 (by simp [hri])))))) (by decide) ?_
  refine GL.val (Ex.move rfl) (by decide) ?_
  refine GL.skipG (tj := 31) rfl rfl rfl (by decide) ?_
  refine GL.skipG (tj := 31) rfl rfl rfl (by decide) ?_
  refine GL.skipG (tj := 31) rfl rfl rfl (by decide) ?_
  refine GL.val (v := (.bool true)) (Ex.pickT rfl rfl) (by decide) ?_
  refine GL.val (Ex.move rfl) (by decide) ?_
  refine GL.skipG (tj := 36) rfl rfl rfl (by decide) ?_
  refine GL.skipG (tj := 36) rfl rfl rfl (by decide) ?_
  refine GL.skipG (tj := 36) rfl rfl rfl (by decide) ?_
  refine GL.skipG (tj := 36) rfl rfl rfl (by decide) ?_
  refine GL.skipG (tj := 36) rfl rfl rfl (by decide) ?_
  refine GL.val (v := (.bool true)) (Ex.pickT rfl rfl) (by decide) ?_
  refine GL.val (Ex.move rfl) (by decide) ?_
  refine GL.skipG (tj := 43) rfl rfl rfl (by decide) ?_
  refine GL.skipG (tj := 43) rfl rfl rfl (by decide) ?_
  refine GL.skipG (tj := 43) rfl rfl rfl (by decide) ?_
  refine GL.skipG (tj := 43) rfl rfl rfl (by decide) ?_
  refine GL.skipG (tj := 43) rfl rfl rfl (by decide) ?_
  refine GL.val (v := (.bool true)) (Ex.pickT rfl rfl) (by decide) ?_
  refine GL.nil ?_
  refine GE.thenN ?_
  refine GC.cond rfl (fun _ => ?_) (fun hq8 => by cases hq8)
  refine GC.seq ?_
  refine GC.region ?_
  refine GL.val (Ex.assign rfl) (by decide) ?_
  refine GL.nil ?_
  refine GE.thenN ?_
  refine GC.ret ?_
  refine GE.thenR ?_
  refine GC.ret1 rfl (Rv.tmp rfl) (fun wN HN => ?_)
  exact HN.ret () trivial rfl (List.nil_sublist _) rfl

set_option maxRecDepth 100000 in
set_option maxHeartbeats 1000000 in
theorem ri_unl (W H : Int) (ad : Option Addr) (n cap : Nat) (W2 H2 : Int) (ad2 : Option Addr) (n2 cap2 : Nat) (kd r k : Int) (w : World) (hq : ¬ (chk W2 H2 n2 = 0 ∧ W = W2 ∧ H = H2)) :
    Calls Try.prog 7 #[(.agg #[(.int .i64 W), (.int .i64 H), (.slice ad n cap)]), (.agg #[(.int .i64 W2), (.int .i64 H2), (.slice ad2 n2 cap2)]), (.int .i64 kd), (.int .i64 r), (.int .i64 k)] w (Ret w (fun _ : Unit => True) (fun _ => .bool true) (fun _ => [])) := by
  refine enter (M := None) (L := []) (n := 207) (l := [(0, (.agg #[(.int .i64 W), (.int .i64 H), (.slice ad n cap)])), (1, (.agg #[(.int .i64 W2), (.int .i64 H2), (.slice ad2 n2 cap2)])), (2, (.int .i64 kd)), (3, (.int .i64 r)), (4, (.int .i64 k))]) Try.func7 rfl rfl (Args.cons rfl (Args.cons rfl (Args.cons rfl (Args.cons rfl (Args.cons rfl (Args.nil _)))))) (Hp.start _ _) ?_
  refine GC.seq ?_
  refine GC.region ?_
  refine GL.step (Stp.box (cs := [(.int .i64 W), (.int .i64 H), (.slice ad n cap)]) rfl rfl (by decide)) (fun bq1 _ => ?_)
  refine GL.step (Stp.box (cs := [(.int .i64 W2), (.int .i64 H2), (.slice ad2 n2 cap2)]) rfl rfl (by decide)) (fun bq2 _ => ?_)
  refine GL.val (Ex.assign rfl) (by decide) ?_
  refine GL.nil ?_
  refine GE.thenN ?_
  refine GC.seq ?_
  refine GC.seq ?_
  refine GC.region ?_
  refine GL.step (Stp.callR (vs := []) rfl rfl T.own12 (by decide) (fun wc hw => known wc)) (fun xq3 hq4 => ?_)
  refine GL.val (v := (.bool false)) (Ex.cast (Ex.not rfl) rfl) (by decide) ?_
  refine GL.nil ?_
  refine GE.thenN ?_
  refine GC.cond rfl (fun hq5 => by cases hq5) (fun _ => ?_)
  refine GC.skip ?_
  refine GE.thenN ?_
  refine GC.seq ?_
  refine GC.seq ?_
  refine GC.region ?_
  refine GL.val (v := (.agg #[(.int .i64 W), (.int .i64 H), (.slice ad n cap)])) (Ex.loadA rfl T.ag43 T.sz43 (i := 1) rfl (vs := [(.int .i64 W), (.int .i64 H), (.slice ad n cap)]) rfl rfl) (by decide) ?_
  refine GL.val (Ex.move rfl) (by decide) ?_
  refine GL.val (Ex.move rfl) (by decide) ?_
  refine GL.val (Ex.move rfl) (by decide) ?_
  refine GL.step (Stp.callR (vs := [(.agg #[(.int .i64 W), (.int .i64 H), (.slice ad n cap)]), (.int .i64 kd), (.int .i64 r), (.int .i64 k)]) rfl rfl T.own27 (by decide) (fun wc hw => right_p W H ad n cap kd r k wc)) (fun xq6 hq7 => ?_)
  by_cases hq8 : (Bc.rightB W H n kd r k) = true
  · refine GL.val (v := (.bool false)) (Ex.cast (Ex.not rfl) (congrArg Value.bool (congrArg (fun z => !z) (hq8)))) (by decide) ?_
    refine GL.val (Ex.move rfl) (by decide) ?_
    refine GL.stepG (tj := 31) rfl rfl (Ex.wp (v := (.agg #[(.int .i64 W2), (.int .i64 H2), (.slice ad2 n2 cap2)])) (Ex.loadA rfl T.ag43 T.sz43 (i := 0) rfl (vs := [(.int .i64 W2), (.int .i64 H2), (.slice ad2 n2 cap2)]) rfl rfl) (by decide)) (fun _ _ => ?_)
    refine GL.stepG (tj := 31) rfl rfl (Stp.callR (vs := [(.agg #[(.int .i64 W2), (.int .i64 H2), (.slice ad2 n2 cap2)])]) rfl rfl T.own28 (by decide) (fun wc hw => may W2 H2 ad2 n2 cap2 wc)) (fun xq9 hq10 => ?_)
    by_cases hq11 : ((chk W2 H2 n2)) ≠ 0
    · refine GL.stepG (tj := 31) rfl rfl (Ex.wp (v := (.bool true)) (Ex.cast (Ex.neq rfl rfl) (congrArg Value.bool (decide_eq_true hq11))) (by decide)) (fun _ _ => ?_)
      refine GL.val (v := (.bool true)) (Ex.pickF rfl rfl) (by decide) ?_
      refine GL.val (Ex.move rfl) (by decide) ?_
      refine GL.skipG (tj := 36) rfl rfl rfl (by decide) ?_
      refine GL.skipG (tj := 36) rfl rfl rfl (by decide) ?_
      refine GL.skipG (tj := 36) rfl rfl rfl (by decide) ?_
      refine GL.skipG (tj := 36) rfl rfl rfl (by decide) ?_
      refine GL.skipG (tj := 36) rfl rfl rfl (by decide) ?_
      refine GL.val (v := (.bool true)) (Ex.pickT rfl rfl) (by decide) ?_
      refine GL.val (Ex.move rfl) (by decide) ?_
      refine GL.skipG (tj := 43) rfl rfl rfl (by decide) ?_
      refine GL.skipG (tj := 43) rfl rfl rfl (by decide) ?_
      refine GL.skipG (tj := 43) rfl rfl rfl (by decide) ?_
      refine GL.skipG (tj := 43) rfl rfl rfl (by decide) ?_
      refine GL.skipG (tj := 43) rfl rfl rfl (by decide) ?_
      refine GL.val (v := (.bool true)) (Ex.pickT rfl rfl) (by decide) ?_
      refine GL.nil ?_
      refine GE.thenN ?_
      refine GC.cond rfl (fun _ => ?_) (fun hq12 => by cases hq12)
      refine GC.seq ?_
      refine GC.region ?_
      refine GL.val (Ex.assign rfl) (by decide) ?_
      refine GL.nil ?_
      refine GE.thenN ?_
      refine GC.ret ?_
      refine GE.thenR ?_
      refine GC.ret1 rfl (Rv.tmp rfl) (fun wN HN => ?_)
      exact HN.ret () trivial rfl (List.nil_sublist _) rfl
    · refine GL.stepG (tj := 31) rfl rfl (Ex.wp (v := (.bool false)) (Ex.cast (Ex.neq rfl rfl) (congrArg Value.bool (decide_eq_false hq11))) (by decide)) (fun _ _ => ?_)
      refine GL.val (v := (.bool false)) (Ex.pickF rfl rfl) (by decide) ?_
      refine GL.val (Ex.move rfl) (by decide) ?_
      refine GL.stepG (tj := 36) rfl rfl (Ex.wp (v := (.pointer (some ⟨bq1, 0, none⟩))) (Ex.cast (Ex.fieldAddr rfl Try.underlying43 rfl T.sz3 (by decide)) rfl) (by decide)) (fun _ _ => ?_)
      refine GL.stepG (tj := 36) rfl rfl (Ex.wp (v := (.int .i64 W)) (Ex.load rfl T.ag3 (i := 1) rfl rfl) (by decide)) (fun _ _ => ?_)
      refine GL.stepG (tj := 36) rfl rfl (Ex.wp (v := (.pointer (some ⟨bq2, 0, none⟩))) (Ex.cast (Ex.fieldAddr rfl Try.underlying43 rfl T.sz3 (by decide)) rfl) (by decide)) (fun _ _ => ?_)
      refine GL.stepG (tj := 36) rfl rfl (Ex.wp (v := (.int .i64 W2)) (Ex.load rfl T.ag3 (i := 0) rfl rfl) (by decide)) (fun _ _ => ?_)
      by_cases hq13 : W ≠ W2
      · refine GL.stepG (tj := 36) rfl rfl (Ex.wp (v := (.bool true)) (Ex.cast (Ex.neq rfl rfl) (congrArg Value.bool (decide_eq_true hq13))) (by decide)) (fun _ _ => ?_)
        refine GL.val (v := (.bool true)) (Ex.pickF rfl rfl) (by decide) ?_
        refine GL.val (Ex.move rfl) (by decide) ?_
        refine GL.skipG (tj := 43) rfl rfl rfl (by decide) ?_
        refine GL.skipG (tj := 43) rfl rfl rfl (by decide) ?_
        refine GL.skipG (tj := 43) rfl rfl rfl (by decide) ?_
        refine GL.skipG (tj := 43) rfl rfl rfl (by decide) ?_
        refine GL.skipG (tj := 43) rfl rfl rfl (by decide) ?_
        refine GL.val (v := (.bool true)) (Ex.pickT rfl rfl) (by decide) ?_
        refine GL.nil ?_
        refine GE.thenN ?_
        refine GC.cond rfl (fun _ => ?_) (fun hq14 => by cases hq14)
        refine GC.seq ?_
        refine GC.region ?_
        refine GL.val (Ex.assign rfl) (by decide) ?_
        refine GL.nil ?_
        refine GE.thenN ?_
        refine GC.ret ?_
        refine GE.thenR ?_
        refine GC.ret1 rfl (Rv.tmp rfl) (fun wN HN => ?_)
        exact HN.ret () trivial rfl (List.nil_sublist _) rfl
      · refine GL.stepG (tj := 36) rfl rfl (Ex.wp (v := (.bool false)) (Ex.cast (Ex.neq rfl rfl) (congrArg Value.bool (decide_eq_false hq13))) (by decide)) (fun _ _ => ?_)
        refine GL.val (v := (.bool false)) (Ex.pickF rfl rfl) (by decide) ?_
        refine GL.val (Ex.move rfl) (by decide) ?_
        refine GL.stepG (tj := 43) rfl rfl (Ex.wp (v := (.pointer (some ⟨bq1, 1, none⟩))) (Ex.cast (Ex.fieldAddr rfl Try.underlying43 rfl T.sz3 (by decide)) rfl) (by decide)) (fun _ _ => ?_)
        refine GL.stepG (tj := 43) rfl rfl (Ex.wp (v := (.int .i64 H)) (Ex.load rfl T.ag3 (i := 1) rfl rfl) (by decide)) (fun _ _ => ?_)
        refine GL.stepG (tj := 43) rfl rfl (Ex.wp (v := (.pointer (some ⟨bq2, 1, none⟩))) (Ex.cast (Ex.fieldAddr rfl Try.underlying43 rfl T.sz3 (by decide)) rfl) (by decide)) (fun _ _ => ?_)
        refine GL.stepG (tj := 43) rfl rfl (Ex.wp (v := (.int .i64 H2)) (Ex.load rfl T.ag3 (i := 0) rfl rfl) (by decide)) (fun _ _ => ?_)
        refine GL.stepG (tj := 43) rfl rfl (Ex.wp (v := (.bool (decide (H ≠ H2)))) (Ex.neq rfl rfl) (by decide)) (fun _ _ => ?_)
        refine GL.val (v := (.bool (decide (H ≠ H2)))) (Ex.pickF rfl rfl) (by decide) ?_
        refine GL.nil ?_
        refine GE.thenN ?_
        refine GC.cond rfl (fun hq15 => ?_) (fun hq15 => ?_)
        · replace hq15 := of_decide_eq_true hq15
          refine GC.seq ?_
          refine GC.region ?_
          refine GL.val (Ex.assign rfl) (by decide) ?_
          refine GL.nil ?_
          refine GE.thenN ?_
          refine GC.ret ?_
          refine GE.thenR ?_
          refine GC.ret1 rfl (Rv.tmp rfl) (fun wN HN => ?_)
          exact HN.ret () trivial rfl (List.nil_sublist _) rfl
        · replace hq15 := of_decide_eq_false hq15
          exfalso; omega
  · refine GL.val (v := (.bool true)) (Ex.cast (Ex.not rfl) (congrArg Value.bool (congrArg (fun z => !z) ((Bool.eq_false_iff.2 hq8))))) (by decide) ?_
    refine GL.val (Ex.move rfl) (by decide) ?_
    refine GL.skipG (tj := 31) rfl rfl rfl (by decide) ?_
    refine GL.skipG (tj := 31) rfl rfl rfl (by decide) ?_
    refine GL.skipG (tj := 31) rfl rfl rfl (by decide) ?_
    refine GL.val (v := (.bool true)) (Ex.pickT rfl rfl) (by decide) ?_
    refine GL.val (Ex.move rfl) (by decide) ?_
    refine GL.skipG (tj := 36) rfl rfl rfl (by decide) ?_
    refine GL.skipG (tj := 36) rfl rfl rfl (by decide) ?_
    refine GL.skipG (tj := 36) rfl rfl rfl (by decide) ?_
    refine GL.skipG (tj := 36) rfl rfl rfl (by decide) ?_
    refine GL.skipG (tj := 36) rfl rfl rfl (by decide) ?_
    refine GL.val (v := (.bool true)) (Ex.pickT rfl rfl) (by decide) ?_
    refine GL.val (Ex.move rfl) (by decide) ?_
    refine GL.skipG (tj := 43) rfl rfl rfl (by decide) ?_
    refine GL.skipG (tj := 43) rfl rfl rfl (by decide) ?_
    refine GL.skipG (tj := 43) rfl rfl rfl (by decide) ?_
    refine GL.skipG (tj := 43) rfl rfl rfl (by decide) ?_
    refine GL.skipG (tj := 43) rfl rfl rfl (by decide) ?_
    refine GL.val (v := (.bool true)) (Ex.pickT rfl rfl) (by decide) ?_
    refine GL.nil ?_
    refine GE.thenN ?_
    refine GC.cond rfl (fun _ => ?_) (fun hq16 => by cases hq16)
    refine GC.seq ?_
    refine GC.region ?_
    refine GL.val (Ex.assign rfl) (by decide) ?_
    refine GL.nil ?_
    refine GE.thenN ?_
    refine GC.ret ?_
    refine GE.thenR ?_
    refine GC.ret1 rfl (Rv.tmp rfl) (fun wN HN => ?_)
    exact HN.ret () trivial rfl (List.nil_sublist _) rfl

theorem lawRises (W H : Int) (ad : Option Addr) (n cap : Nat) (W2 H2 : Int) (ad2 : Option Addr) (n2 cap2 : Nat) (kd r k : Int) (xs ys : List Int) (w : World) (hl : Lst w ad n xs) (hb : n ≤ 35184372087808) (hl2 : Lst w ad2 n2 ys) (hb2 : n2 ≤ 35184372087808) :
    Calls Try.prog 7 #[(.agg #[(.int .i64 W), (.int .i64 H), (.slice ad n cap)]), (.agg #[(.int .i64 W2), (.int .i64 H2), (.slice ad2 n2 cap2)]), (.int .i64 kd), (.int .i64 r), (.int .i64 k)] w (Ret w (fun _ : Unit => True) (fun _ => .bool true) (fun _ => [])) := by
  cases h : Bc.rightB W H n kd r k with
  | false => exact ri_bad W H ad n cap W2 H2 ad2 n2 cap2 kd r k w h
  | true =>
    obtain ⟨hc, hkd, h1, h2, hk⟩ := of_decide_eq_true h
    by_cases hq : chk W2 H2 n2 = 0 ∧ W = W2 ∧ H = H2
    · obtain ⟨hc2, rfl, rfl⟩ := hq
      obtain ⟨w', h', rfl, rfl, hok, hn⟩ := chk_zero hc
      obtain ⟨w2, h2', e1, e2, hok2, hn2⟩ := chk_zero hc2
      obtain rfl : w' = w2 := by omega
      obtain rfl : h' = h2' := by omega
      obtain rfl : n2 = n := by rw [hn, hn2]
      have h5 := Nat.mul_pos (show 0 < w' from hok.1) (show 0 < h' from hok.2.1)
      have g1 := hl
      obtain ⟨_, _, _, q⟩ := g1
      have g2 := hl2
      obtain ⟨_, _, _, q2⟩ := g2
      rcases q with q | ⟨b, o, rfl, hr⟩
      · exfalso; omega
      · rcases q2 with q2 | ⟨b2, o2, rfl, hr2⟩
        · exfalso; omega
        · by_cases h00 : xs.getD 0 0 / 8388608 % 256 = 255
          · exact ri_inf w' h' n2 cap b o cap2 b2 o2 kd r k xs ys w hok hn hl.1 hl.2.1 hr hl2.1 hl2.2.1 hr2 hk ⟨hkd, h1, h2⟩ h00
          · exact ri_ok w' h' n2 cap b o cap2 b2 o2 kd r k xs ys w hok hn hl.1 hl.2.1 hr hl2.1 hl2.2.1 hr2 hk ⟨hkd, h1, h2⟩ (Be.fin_is (Bg.get_bd hl.2.1 0) h00)
    · exact ri_unl W H ad n cap W2 H2 ad2 n2 cap2 kd r k w hq

end Go.Proofs.Ytjbpdhofhhinhaa.C
