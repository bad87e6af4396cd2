/- BlurRises: what its code does, walked. -/
import Derived.Test.YtjbpdhofhhinhaaT
import Derived.Test.YtjbpdhofhhinhaaBe
import Derived.Test.YtjbpdhofhhinhaaUn
import Derived.Test.YtjbpdhofhhinhaaDc
import Derived.Test.YtjbpdhofhhinhaaWt
namespace Go.Proofs.Ytjbpdhofhhinhaa.C
open Go Go.RowKit Sx
set_option linter.unusedVariables false
set_option maxRecDepth 100000 in
set_option maxHeartbeats 1000000 in
theorem rest (i n : Int) (w : World) (hn : 1 ≤ n ∧ n ≤ 2048) :
    Calls Try.prog 63 #[(.int .i64 i), (.int .i64 n)] w (Ret w (fun _ : Unit => True) (fun _ => .int .i64 (rst i n)) (fun _ => [])) := by
  have hb := tmod_bd i hn.1
  refine enter (M := None) (L := []) (n := 12) (l := [(0, (.int .i64 i)), (1, (.int .i64 n))]) Try.func63 rfl rfl (Args.cons rfl (Args.cons rfl (Args.nil _))) (Hp.start _ _) ?_
  refine GC.seq ?_
  refine GC.region ?_
  refine GL.val (Ex.assign rfl) (by decide) ?_
  refine GL.nil ?_
  refine GE.thenN ?_
  refine GC.seq ?_
  refine GC.region ?_
  refine GL.val (Ex.move rfl) (by decide) ?_
  refine GL.val (Ex.move rfl) (by decide) ?_
  refine GL.val (v := (.int .i64 (i.tmod n))) (Ex.rem rfl rfl (Z := i.tmod n) (by omega) rfl) (by decide) ?_
  refine GL.val (Ex.move rfl) (by decide) ?_
  refine GL.val (v := (.int .i64 ((i.tmod n) + n))) (Ex.add rfl rfl (Z := (i.tmod n) + n) (w64 (by omega))) (by decide) ?_
  refine GL.val (Ex.move rfl) (by decide) ?_
  refine GL.val (v := (.int .i64 ((i.tmod n + n).tmod n))) (Ex.rem rfl rfl (Z := (i.tmod n + n).tmod n) (by omega) rfl) (by decide) ?_
  refine GL.val (Ex.assign rfl) (by decide) ?_
  refine GL.nil ?_
  refine GE.thenN ?_
  refine GC.ret ?_
  refine GC.ret1 rfl (Rv.tmp rfl) (fun wN HN => ?_)
  exact HN.ret () trivial (by first | rfl | simp) (List.nil_sublist _) rfl

set_option maxRecDepth 100000 in
set_option maxHeartbeats 1000000 in
theorem border (k n i : Int) (w : World) :
    Calls Try.prog 37 #[(.int .i64 k), (.int .i64 n), (.int .i64 i)] w (Ret w (fun _ : Unit => True) (fun _ => .tuple #[.int .i64 (bord k n i).1, .int .i64 (bord k n i).2]) (fun _ => [])) := by
  refine enter (M := None) (L := []) (n := 52) (l := [(0, (.int .i64 k)), (1, (.int .i64 n)), (2, (.int .i64 i))]) Try.func37 rfl rfl (Args.cons rfl (Args.cons rfl (Args.cons rfl (Args.nil _)))) (Hp.start _ _) ?_
  refine GC.seq ?_
  refine GC.region ?_
  refine GL.val (Ex.assign rfl) (by decide) ?_
  refine GL.val (Ex.assign rfl) (by decide) ?_
  refine GL.nil ?_
  refine GE.thenN ?_
  refine GC.seq ?_
  refine GC.block ?_
  refine GC.seq ?_
  refine GC.region ?_
  refine GL.val (Ex.move rfl) (by decide) ?_
  by_cases hq1 : k < 1
  · refine GL.val (v := (.bool true)) (Ex.cast (Ex.lss rfl rfl) (congrArg Value.bool (decide_eq_true hq1))) (by decide) ?_
    refine GL.val (Ex.move rfl) (by decide) ?_
    refine GL.skipG (tj := 12) rfl rfl rfl (by decide) ?_
    refine GL.skipG (tj := 12) rfl rfl rfl (by decide) ?_
    refine GL.val (v := (.bool true)) (Ex.pickT rfl rfl) (by decide) ?_
    refine GL.val (Ex.assign rfl) (by decide) ?_
    refine GL.nil ?_
    refine GE.thenN ?_
    refine GC.cond rfl (fun _ => ?_) (fun hq2 => by cases hq2)
    refine GC.seq ?_
    refine GC.region ?_
    refine GL.val (Ex.assign rfl) (by decide) ?_
    refine GL.val (Ex.assign rfl) (by decide) ?_
    refine GL.nil ?_
    refine GE.thenN ?_
    refine GC.ret ?_
    refine GE.blockR ?_
    refine GE.thenR ?_
    refine GC.ret2 rfl (Rv.tmp rfl) (Rv.tmp rfl) (fun wN HN => ?_)
    exact HN.ret () trivial (by simp only [bord]; (repeat (first | rfl | (rw [if_pos (by omega)]) | (rw [if_neg (by omega)])))) (List.nil_sublist _) rfl
  · refine GL.val (v := (.bool false)) (Ex.cast (Ex.lss rfl rfl) (congrArg Value.bool (decide_eq_false hq1))) (by decide) ?_
    refine GL.val (Ex.move rfl) (by decide) ?_
    refine GL.stepG (tj := 12) rfl rfl (Ex.wp (v := (.int .i64 k)) (Ex.move rfl) (by decide)) (fun _ _ => ?_)
    refine GL.stepG (tj := 12) rfl rfl (Ex.wp (v := (.bool (decide (3 < k)))) (Ex.gtr rfl rfl) (by decide)) (fun _ _ => ?_)
    refine GL.val (v := (.bool (decide (3 < k)))) (Ex.pickF rfl rfl) (by decide) ?_
    refine GL.val (Ex.assign rfl) (by decide) ?_
    refine GL.nil ?_
    refine GE.thenN ?_
    refine GC.cond rfl (fun hq3 => ?_) (fun hq3 => ?_)
    · replace hq3 := of_decide_eq_true hq3
      refine GC.seq ?_
      refine GC.region ?_
      refine GL.val (Ex.assign rfl) (by decide) ?_
      refine GL.val (Ex.assign rfl) (by decide) ?_
      refine GL.nil ?_
      refine GE.thenN ?_
      refine GC.ret ?_
      refine GE.blockR ?_
      refine GE.thenR ?_
      refine GC.ret2 rfl (Rv.tmp rfl) (Rv.tmp rfl) (fun wN HN => ?_)
      exact HN.ret () trivial (by simp only [bord]; (repeat (first | rfl | (rw [if_pos (by omega)]) | (rw [if_neg (by omega)])))) (List.nil_sublist _) rfl
    · replace hq3 := of_decide_eq_false hq3
      refine GC.seq ?_
      refine GC.region ?_
      refine GL.val (Ex.move rfl) (by decide) ?_
      by_cases hq4 : n < 1
      · refine GL.val (v := (.bool true)) (Ex.cast (Ex.lss rfl rfl) (congrArg Value.bool (decide_eq_true hq4))) (by decide) ?_
        refine GL.val (Ex.move rfl) (by decide) ?_
        refine GL.skipG (tj := 19) rfl rfl rfl (by decide) ?_
        refine GL.skipG (tj := 19) rfl rfl rfl (by decide) ?_
        refine GL.val (v := (.bool true)) (Ex.pickT rfl rfl) (by decide) ?_
        refine GL.val (Ex.assign rfl) (by decide) ?_
        refine GL.nil ?_
        refine GE.thenN ?_
        refine GC.cond rfl (fun _ => ?_) (fun hq5 => by cases hq5)
        refine GC.seq ?_
        refine GC.region ?_
        refine GL.val (Ex.assign rfl) (by decide) ?_
        refine GL.val (Ex.assign rfl) (by decide) ?_
        refine GL.nil ?_
        refine GE.thenN ?_
        refine GC.ret ?_
        refine GE.blockR ?_
        refine GE.thenR ?_
        refine GC.ret2 rfl (Rv.tmp rfl) (Rv.tmp rfl) (fun wN HN => ?_)
        exact HN.ret () trivial (by simp only [bord]; (repeat (first | rfl | (rw [if_pos (by omega)]) | (rw [if_neg (by omega)])))) (List.nil_sublist _) rfl
      · refine GL.val (v := (.bool false)) (Ex.cast (Ex.lss rfl rfl) (congrArg Value.bool (decide_eq_false hq4))) (by decide) ?_
        refine GL.val (Ex.move rfl) (by decide) ?_
        refine GL.stepG (tj := 19) rfl rfl (Ex.wp (v := (.int .i64 n)) (Ex.move rfl) (by decide)) (fun _ _ => ?_)
        refine GL.stepG (tj := 19) rfl rfl (Ex.wp (v := (.bool (decide (1024 < n)))) (Ex.gtr rfl rfl) (by decide)) (fun _ _ => ?_)
        refine GL.val (v := (.bool (decide (1024 < n)))) (Ex.pickF rfl rfl) (by decide) ?_
        refine GL.val (Ex.assign rfl) (by decide) ?_
        refine GL.nil ?_
        refine GE.thenN ?_
        refine GC.cond rfl (fun hq6 => ?_) (fun hq6 => ?_)
        · replace hq6 := of_decide_eq_true hq6
          refine GC.seq ?_
          refine GC.region ?_
          refine GL.val (Ex.assign rfl) (by decide) ?_
          refine GL.val (Ex.assign rfl) (by decide) ?_
          refine GL.nil ?_
          refine GE.thenN ?_
          refine GC.ret ?_
          refine GE.blockR ?_
          refine GE.thenR ?_
          refine GC.ret2 rfl (Rv.tmp rfl) (Rv.tmp rfl) (fun wN HN => ?_)
          exact HN.ret () trivial (by simp only [bord]; (repeat (first | rfl | (rw [if_pos (by omega)]) | (rw [if_neg (by omega)])))) (List.nil_sublist _) rfl
        · replace hq6 := of_decide_eq_false hq6
          refine GC.seq ?_
          refine GC.region ?_
          refine GL.val (Ex.move rfl) (by decide) ?_
          refine GL.val (v := (.bool (decide (k = 1)))) (Ex.eql rfl rfl) (by decide) ?_
          refine GL.val (Ex.assign rfl) (by decide) ?_
          refine GL.nil ?_
          refine GE.thenN ?_
          refine GC.cond rfl (fun hq7 => ?_) (fun hq7 => ?_)
          · replace hq7 := of_decide_eq_true hq7
            refine GC.seq ?_
            refine GC.region ?_
            refine GL.val (Ex.move rfl) (by decide) ?_
            refine GL.val (v := (.int .i64 (max i 0))) (Ex.maxI rfl rfl (Z := max i 0) (max64 _ _)) (by decide) ?_
            refine GL.val (Ex.move rfl) (by decide) ?_
            refine GL.val (v := (.int .i64 (n - 1))) (Ex.sub' rfl rfl (Z := n - 1) (w64 (by omega))) (by decide) ?_
            refine GL.val (v := (.int .i64 (min (max i 0) (n - 1)))) (Ex.minI rfl rfl (Z := min (max i 0) (n - 1)) (min64 _ _)) (by decide) ?_
            refine GL.val (Ex.assign rfl) (by decide) ?_
            refine GL.val (Ex.assign rfl) (by decide) ?_
            refine GL.nil ?_
            refine GE.thenN ?_
            refine GC.ret ?_
            refine GE.blockR ?_
            refine GE.thenR ?_
            refine GC.ret2 rfl (Rv.tmp rfl) (Rv.tmp rfl) (fun wN HN => ?_)
            exact HN.ret () trivial (by simp only [bord]; (repeat (first | rfl | (rw [if_pos (by omega)]) | (rw [if_neg (by omega)])))) (List.nil_sublist _) rfl
          · replace hq7 := of_decide_eq_false hq7
            refine GC.seq ?_
            refine GC.region ?_
            refine GL.val (Ex.move rfl) (by decide) ?_
            refine GL.val (v := (.bool (decide (k = 3)))) (Ex.eql rfl rfl) (by decide) ?_
            refine GL.val (Ex.assign rfl) (by decide) ?_
            refine GL.nil ?_
            refine GE.thenN ?_
            refine GC.cond rfl (fun hq8 => ?_) (fun hq8 => ?_)
            · replace hq8 := of_decide_eq_true hq8
              refine GC.seq ?_
              refine GC.region ?_
              refine GL.val (Ex.move rfl) (by decide) ?_
              refine GL.val (Ex.move rfl) (by decide) ?_
              refine GL.step (Stp.callR (vs := [(.int .i64 i), (.int .i64 n)]) rfl rfl T.own63 (by decide) (fun wc hw => rest i n wc (by omega))) (fun xq9 hq10 => ?_)
              refine GL.val (Ex.assign rfl) (by decide) ?_
              refine GL.val (Ex.assign rfl) (by decide) ?_
              refine GL.nil ?_
              refine GE.thenN ?_
              refine GC.ret ?_
              refine GE.blockR ?_
              refine GE.thenR ?_
              refine GC.ret2 rfl (Rv.tmp rfl) (Rv.tmp rfl) (fun wN HN => ?_)
              exact HN.ret () trivial (by simp only [bord]; (repeat (first | rfl | (rw [if_pos (by omega)]) | (rw [if_neg (by omega)])))) (List.nil_sublist _) rfl
            · replace hq8 := of_decide_eq_false hq8
              refine GC.seq ?_
              refine GC.region ?_
              refine GL.val (Ex.move rfl) (by decide) ?_
              refine GL.val (v := (.bool (decide (n = 1)))) (Ex.eql rfl rfl) (by decide) ?_
              refine GL.val (Ex.assign rfl) (by decide) ?_
              refine GL.nil ?_
              refine GE.thenN ?_
              refine GC.cond rfl (fun hq11 => ?_) (fun hq11 => ?_)
              · replace hq11 := of_decide_eq_true hq11
                refine GC.seq ?_
                refine GC.region ?_
                refine GL.val (Ex.assign rfl) (by decide) ?_
                refine GL.val (Ex.assign rfl) (by decide) ?_
                refine GL.nil ?_
                refine GE.thenN ?_
                refine GC.ret ?_
                refine GE.blockR ?_
                refine GE.thenR ?_
                refine GC.ret2 rfl (Rv.tmp rfl) (Rv.tmp rfl) (fun wN HN => ?_)
                exact HN.ret () trivial (by simp only [bord]; (repeat (first | rfl | (rw [if_pos (by omega)]) | (rw [if_neg (by omega)])))) (List.nil_sublist _) rfl
              · replace hq11 := of_decide_eq_false hq11
                refine GC.skip ?_
                refine GE.blockN ?_
                refine GE.thenN ?_
                refine GC.seq ?_
                have hb := rst_bd i (show 1 ≤ 2 * (n - 1) by omega)
                refine GC.region ?_
                refine GL.val (Ex.move rfl) (by decide) ?_
                refine GL.val (Ex.move rfl) (by decide) ?_
                refine GL.val (v := (.int .i64 (n - 1))) (Ex.sub' rfl rfl (Z := n - 1) (w64 (by omega))) (by decide) ?_
                refine GL.val (v := (.int .i64 (2 * (n - 1)))) (Ex.mul rfl rfl (Z := 2 * (n - 1)) (w64 (by omega))) (by decide) ?_
                refine GL.step (Stp.callR (vs := [(.int .i64 i), (.int .i64 (2 * (n - 1)))]) rfl rfl T.own63 (by decide) (fun wc hw => rest i (2 * (n - 1)) wc (by omega))) (fun xq12 hq13 => ?_)
                refine GL.val (Ex.assign rfl) (by decide) ?_
                refine GL.nil ?_
                refine GE.thenN ?_
                refine GC.seq ?_
                refine GC.region ?_
                refine GL.val (Ex.move rfl) (by decide) ?_
                refine GL.val (Ex.move rfl) (by decide) ?_
                refine GL.val (v := (.int .i64 (n - 1))) (Ex.sub' rfl rfl (Z := n - 1) (w64 (by omega))) (by decide) ?_
                refine GL.val (v := (.int .i64 (2 * (n - 1)))) (Ex.mul rfl rfl (Z := 2 * (n - 1)) (w64 (by omega))) (by decide) ?_
                refine GL.val (Ex.move rfl) (by decide) ?_
                refine GL.val (v := (.int .i64 ((2 * (n - 1)) - (rst i (2 * (n - 1)))))) (Ex.sub' rfl rfl (Z := (2 * (n - 1)) - (rst i (2 * (n - 1)))) (w64 (by omega))) (by decide) ?_
                refine GL.val (v := (.int .i64 (min (rst i (2 * (n - 1))) ((2 * (n - 1)) - (rst i (2 * (n - 1))))))) (Ex.minI rfl rfl (Z := min (rst i (2 * (n - 1))) ((2 * (n - 1)) - (rst i (2 * (n - 1))))) (min64 _ _)) (by decide) ?_
                refine GL.val (Ex.assign rfl) (by decide) ?_
                refine GL.val (Ex.assign rfl) (by decide) ?_
                refine GL.nil ?_
                refine GE.thenN ?_
                refine GC.ret ?_
                refine GC.ret2 rfl (Rv.tmp rfl) (Rv.tmp rfl) (fun wN HN => ?_)
                exact HN.ret () trivial (by simp only [bord]; (repeat (first | rfl | (rw [if_pos (by omega)]) | (rw [if_neg (by omega)])))) (List.nil_sublist _) rfl

set_option maxRecDepth 100000 in
set_option maxHeartbeats 1000000 in
theorem at_x (W n cap b o y : Nat) (xs : List Int) (k t H x : Int) (w : World) (hk : 1 ≤ k ∧ k ≤ 3) (hd : 1 ≤ W ∧ W ≤ 1024) (hs : -1048576 ≤ x + t ∧ x + t ≤ 1048576) (hlt : W * y + ((bord k W (x + t)).1.toNat) < n) (hn : n ≤ 65536) (hx : xs.length = n) (hr : Rd w b o (xs.map u32)) :
    Calls Try.prog 88 #[(.agg #[(.int .i64 (((W : Nat) : Int))), (.int .i64 H), (.slice (some ⟨b, o, none⟩) n cap), (.int .i64 k), (.int .i64 x), (.int .i64 (((y : Nat) : Int))), (.bool false)]), (.int .i64 t)] w (Ret w (fun _ : Unit => True) (fun _ => .int .u32 (smp xs W ((bord k W (x + t)).1.toNat) y)) (fun _ => [])) := by
  have hb := bord_ok (i := x + t) hk.1 hk.2 (show (1 : Int) ≤ W by omega) (show ((W : Nat) : Int) ≤ 1024 by omega)
  refine enter (M := None) (L := []) (n := 49) (l := [(0, (.agg #[(.int .i64 (((W : Nat) : Int))), (.int .i64 H), (.slice (some ⟨b, o, none⟩) n cap), (.int .i64 k), (.int .i64 x), (.int .i64 (((y : Nat) : Int))), (.bool false)])), (1, (.int .i64 t))]) Try.func88 rfl rfl (Args.cons rfl (Args.cons rfl (Args.nil _))) (Hp.start _ _) ?_
  refine GC.seq ?_
  refine GC.region ?_
  refine GL.step (Stp.box (cs := [(.int .i64 (((W : Nat) : Int))), (.int .i64 H), (.slice (some ⟨b, o, none⟩) n cap), (.int .i64 k), (.int .i64 x), (.int .i64 (((y : Nat) : Int))), (.bool false)]) rfl rfl (by decide)) (fun bq1 _ => ?_)
  refine GL.val (Ex.assign rfl) (by decide) ?_
  refine GL.nil ?_
  refine GE.thenN ?_
  refine GC.seq ?_
  refine GC.drawP [⟨bq1, [(.int .i64 (((W : Nat) : Int))), (.int .i64 H), (.slice (some ⟨b, o, none⟩) n cap), (.int .i64 k), (.int .i64 x), (.int .i64 (((y : Nat) : Int))), (.bool false)], 108, true⟩] T.mixed (by kernel_rfl) (by kernel_rfl) (fuel := 5) rfl rfl ?_
  refine GH.take 0 (v := (.pointer (some ⟨bq1, 4, none⟩))) rfl (by kernel_rfl) (by kernel_rfl) (by kernel_rfl) (fun _ _ _ h => h) (Ex.cast (Ex.fieldAddr rfl Try.underlying108 rfl T.sz3 (by decide)) rfl) (ulC ulN) (by decide) ?_
  refine GH.take 1 (v := (.int .i64 x)) rfl (by kernel_rfl) (by kernel_rfl) (by kernel_rfl) (fun _ _ _ h => h) (Ex.load rfl T.ag3 (i := 0) rfl rfl) (ulC ulN) (by decide) ?_
  refine GH.take 2 (v := (.pointer (some ⟨bq1, 5, none⟩))) rfl (by kernel_rfl) (by kernel_rfl) (by kernel_rfl) (fun _ _ _ h => h) (Ex.cast (Ex.fieldAddr rfl Try.underlying108 rfl T.sz3 (by decide)) rfl) (ulC ulN) (by decide) ?_
  refine GH.take 3 (v := (.int .i64 (((y : Nat) : Int)))) rfl (by kernel_rfl) (by kernel_rfl) (by kernel_rfl) (fun _ _ _ h => h) (Ex.load rfl T.ag3 (i := 0) rfl rfl) (ulC ulN) (by decide) ?_
  refine GH.take 4 (v := (.int .i64 x)) rfl (by kernel_rfl) (by kernel_rfl) (by kernel_rfl) (fun _ _ _ h => h) (Ex.assign rfl) (ulC ulN) (by decide) ?_
  refine GH.done (by kernel_rfl) ?_
  refine GE.thenN ?_
  refine GE.tail rfl (Ex.wp (v := (.int .i64 (((y : Nat) : Int)))) (Ex.assign rfl) (by decide)) (fun _ _ => ?_)
  refine GE.thenN ?_
  refine GC.seq ?_
  refine GC.seq ?_
  refine GC.region ?_
  refine GL.val (v := (.pointer (some ⟨bq1, 6, none⟩))) (Ex.cast (Ex.fieldAddr rfl Try.underlying108 rfl T.sz4 (by decide)) rfl) (by decide) ?_
  refine GL.val (Ex.load rfl T.ag4 (i := 0) rfl rfl) (by decide) ?_
  refine GL.nil ?_
  refine GE.thenN ?_
  refine GC.cond rfl (fun hq2 => by cases hq2) (fun _ => ?_)
  refine GC.region ?_
  refine GL.val (v := (.pointer (some ⟨bq1, 3, none⟩))) (Ex.cast (Ex.fieldAddr rfl Try.underlying108 rfl T.sz3 (by decide)) rfl) (by decide) ?_
  refine GL.val (Ex.load rfl T.ag3 (i := 0) rfl rfl) (by decide) ?_
  refine GL.val (v := (.pointer (some ⟨bq1, 0, none⟩))) (Ex.cast (Ex.fieldAddr rfl Try.underlying108 rfl T.sz43 (by decide)) rfl) (by decide) ?_
  refine GL.val (v := (.pointer (some ⟨bq1, 0, none⟩))) (Ex.cast (Ex.fieldAddr rfl Try.underlying43 rfl T.sz3 (by decide)) rfl) (by decide) ?_
  refine GL.val (Ex.load rfl T.ag3 (i := 0) rfl rfl) (by decide) ?_
  refine GL.val (Ex.move rfl) (by decide) ?_
  refine GL.val (Ex.move rfl) (by decide) ?_
  refine GL.val (v := (.int .i64 (x + t))) (Ex.add rfl rfl (Z := x + t) (w64 (by omega))) (by decide) ?_
  refine GL.step (Stp.callR (σ := Unit) (p := fun rz => True) (v := fun rz => (.tuple #[(.int .i64 ((((bord k W (x + t)).1.toNat : Nat) : Int))), (.int .i64 0)])) (N := fun rz => []) (vs := [(.int .i64 k), (.int .i64 (((W : Nat) : Int))), (.int .i64 (x + t))]) rfl rfl T.own37 (by decide) (fun wc hw => (by have h := border k W (x + t) wc; rw [hb.1, show (bord k W (x + t)).1 = (((bord k W (x + t)).1.toNat : Nat) : Int) from (Int.toNat_of_nonneg hb.2.1).symm] at h; exact h))) (fun xq3 hq4 => ?_)
  refine GL.val (Ex.move rfl) (by decide) ?_
  refine GL.val (Ex.extract rfl rfl) (by decide) ?_
  refine GL.val (Ex.extract rfl rfl) (by decide) ?_
  refine GL.val (Ex.assign rfl) (by decide) ?_
  refine GL.nil ?_
  refine GE.thenN ?_
  refine GC.seq ?_
  refine GC.region ?_
  refine GL.val (v := (.pointer (some ⟨bq1, 0, none⟩))) (Ex.cast (Ex.fieldAddr rfl Try.underlying108 rfl T.sz43 (by decide)) rfl) (by decide) ?_
  refine GL.val (v := (.pointer (some ⟨bq1, 2, none⟩))) (Ex.cast (Ex.fieldAddr rfl Try.underlying43 rfl T.sz41 (by decide)) rfl) (by decide) ?_
  refine GL.val (Ex.load rfl T.ag41 (i := 0) rfl rfl) (by decide) ?_
  refine GL.val (Ex.move rfl) (by decide) ?_
  refine GL.val (v := (.pointer (some ⟨bq1, 0, none⟩))) (Ex.cast (Ex.fieldAddr rfl Try.underlying108 rfl T.sz43 (by decide)) rfl) (by decide) ?_
  refine GL.val (v := (.pointer (some ⟨bq1, 0, none⟩))) (Ex.cast (Ex.fieldAddr rfl Try.underlying43 rfl T.sz3 (by decide)) rfl) (by decide) ?_
  refine GL.val (Ex.load rfl T.ag3 (i := 0) rfl rfl) (by decide) ?_
  refine GL.val (v := (.int .i64 (((W * y : Nat) : Int)))) (Ex.mul rfl rfl (Z := ((W * y : Nat) : Int)) (mulN' (by omega))) (by decide) ?_
  refine GL.val (Ex.move rfl) (by decide) ?_
  refine GL.val (v := (.int .i64 (((W * y + ((bord k W (x + t)).1.toNat) : Nat) : Int)))) (Ex.add rfl rfl (Z := ((W * y + ((bord k W (x + t)).1.toNat) : Nat) : Int)) (addN (by omega))) (by decide) ?_
  refine GL.val (v := (.pointer (some ⟨b, o + (W * y + ((bord k W (x + t)).1.toNat)), none⟩))) (Ex.cast (Ex.indexAddr rfl rfl Try.underlying41 T.sz63 (by omega) (by omega)) (by simp only [Int.toNat_natCast, Nat.mul_one])) (by decide) ?_
  refine GL.val (v := (.int .u32 (smp xs W ((bord k W (x + t)).1.toNat) y))) (Ex.loadO rfl T.ag63 (Rd.at hr (by omega)) (fun x => x)) (by decide) ?_
  refine GL.val (Ex.assign rfl) (by decide) ?_
  refine GL.nil ?_
  refine GE.thenN ?_
  refine GC.ret ?_
  refine GC.ret1 rfl (Rv.tmp rfl) (fun wN HN => ?_)
  exact HN.ret () trivial rfl (List.nil_sublist _) rfl

set_option maxRecDepth 100000 in
set_option maxHeartbeats 1000000 in
theorem at_y (W n cap b o H x : Nat) (xs : List Int) (k t y : Int) (w : World) (hk : 1 ≤ k ∧ k ≤ 3) (hd : 1 ≤ H ∧ H ≤ 1024) (hs : -1048576 ≤ y + t ∧ y + t ≤ 1048576) (hlt : W * ((bord k H (y + t)).1.toNat) + x < n) (hn : n ≤ 65536) (hx : xs.length = n) (hr : Rd w b o (xs.map u32)) :
    Calls Try.prog 88 #[(.agg #[(.int .i64 (((W : Nat) : Int))), (.int .i64 (((H : Nat) : Int))), (.slice (some ⟨b, o, none⟩) n cap), (.int .i64 k), (.int .i64 (((x : Nat) : Int))), (.int .i64 y), (.bool true)]), (.int .i64 t)] w (Ret w (fun _ : Unit => True) (fun _ => .int .u32 (smp xs W x ((bord k H (y + t)).1.toNat))) (fun _ => [])) := by
  have hb := bord_ok (i := y + t) hk.1 hk.2 (show (1 : Int) ≤ H by omega) (show ((H : Nat) : Int) ≤ 1024 by omega)
  refine enter (M := None) (L := []) (n := 49) (l := [(0, (.agg #[(.int .i64 (((W : Nat) : Int))), (.int .i64 (((H : Nat) : Int))), (.slice (some ⟨b, o, none⟩) n cap), (.int .i64 k), (.int .i64 (((x : Nat) : Int))), (.int .i64 y), (.bool true)])), (1, (.int .i64 t))]) Try.func88 rfl rfl (Args.cons rfl (Args.cons rfl (Args.nil _))) (Hp.start _ _) ?_
  refine GC.seq ?_
  refine GC.region ?_
  refine GL.step (Stp.box (cs := [(.int .i64 (((W : Nat) : Int))), (.int .i64 (((H : Nat) : Int))), (.slice (some ⟨b, o, none⟩) n cap), (.int .i64 k), (.int .i64 (((x : Nat) : Int))), (.int .i64 y), (.bool true)]) rfl rfl (by decide)) (fun bq1 _ => ?_)
  refine GL.val (Ex.assign rfl) (by decide) ?_
  refine GL.nil ?_
  refine GE.thenN ?_
  refine GC.seq ?_
  refine GC.drawP [⟨bq1, [(.int .i64 (((W : Nat) : Int))), (.int .i64 (((H : Nat) : Int))), (.slice (some ⟨b, o, none⟩) n cap), (.int .i64 k), (.int .i64 (((x : Nat) : Int))), (.int .i64 y), (.bool true)], 108, true⟩] T.mixed (by kernel_rfl) (by kernel_rfl) (fuel := 5) rfl rfl ?_
  refine GH.take 0 (v := (.pointer (some ⟨bq1, 4, none⟩))) rfl (by kernel_rfl) (by kernel_rfl) (by kernel_rfl) (fun _ _ _ h => h) (Ex.cast (Ex.fieldAddr rfl Try.underlying108 rfl T.sz3 (by decide)) rfl) (ulC ulN) (by decide) ?_
  refine GH.take 1 (v := (.int .i64 (((x : Nat) : Int)))) rfl (by kernel_rfl) (by kernel_rfl) (by kernel_rfl) (fun _ _ _ h => h) (Ex.load rfl T.ag3 (i := 0) rfl rfl) (ulC ulN) (by decide) ?_
  refine GH.take 2 (v := (.pointer (some ⟨bq1, 5, none⟩))) rfl (by kernel_rfl) (by kernel_rfl) (by kernel_rfl) (fun _ _ _ h => h) (Ex.cast (Ex.fieldAddr rfl Try.underlying108 rfl T.sz3 (by decide)) rfl) (ulC ulN) (by decide) ?_
  refine GH.take 3 (v := (.int .i64 y)) rfl (by kernel_rfl) (by kernel_rfl) (by kernel_rfl) (fun _ _ _ h => h) (Ex.load rfl T.ag3 (i := 0) rfl rfl) (ulC ulN) (by decide) ?_
  refine GH.take 4 (v := (.int .i64 (((x : Nat) : Int)))) rfl (by kernel_rfl) (by kernel_rfl) (by kernel_rfl) (fun _ _ _ h => h) (Ex.assign rfl) (ulC ulN) (by decide) ?_
  refine GH.done (by kernel_rfl) ?_
  refine GE.thenN ?_
  refine GE.tail rfl (Ex.wp (v := (.int .i64 y)) (Ex.assign rfl) (by decide)) (fun _ _ => ?_)
  refine GE.thenN ?_
  refine GC.seq ?_
  refine GC.seq ?_
  refine GC.region ?_
  refine GL.val (v := (.pointer (some ⟨bq1, 6, none⟩))) (Ex.cast (Ex.fieldAddr rfl Try.underlying108 rfl T.sz4 (by decide)) rfl) (by decide) ?_
  refine GL.val (Ex.load rfl T.ag4 (i := 0) rfl rfl) (by decide) ?_
  refine GL.nil ?_
  refine GE.thenN ?_
  refine GC.cond rfl (fun _ => ?_) (fun hq2 => by cases hq2)
  refine GC.region ?_
  refine GL.val (v := (.pointer (some ⟨bq1, 3, none⟩))) (Ex.cast (Ex.fieldAddr rfl Try.underlying108 rfl T.sz3 (by decide)) rfl) (by decide) ?_
  refine GL.val (Ex.load rfl T.ag3 (i := 0) rfl rfl) (by decide) ?_
  refine GL.val (v := (.pointer (some ⟨bq1, 0, none⟩))) (Ex.cast (Ex.fieldAddr rfl Try.underlying108 rfl T.sz43 (by decide)) rfl) (by decide) ?_
  refine GL.val (v := (.pointer (some ⟨bq1, 1, none⟩))) (Ex.cast (Ex.fieldAddr rfl Try.underlying43 rfl T.sz3 (by decide)) rfl) (by decide) ?_
  refine GL.val (Ex.load rfl T.ag3 (i := 0) rfl rfl) (by decide) ?_
  refine GL.val (Ex.move rfl) (by decide) ?_
  refine GL.val (Ex.move rfl) (by decide) ?_
  refine GL.val (v := (.int .i64 (y + t))) (Ex.add rfl rfl (Z := y + t) (w64 (by omega))) (by decide) ?_
  refine GL.step (Stp.callR (σ := Unit) (p := fun rz => True) (v := fun rz => (.tuple #[(.int .i64 ((((bord k H (y + t)).1.toNat : Nat) : Int))), (.int .i64 0)])) (N := fun rz => []) (vs := [(.int .i64 k), (.int .i64 (((H : Nat) : Int))), (.int .i64 (y + t))]) rfl rfl T.own37 (by decide) (fun wc hw => (by have h := border k H (y + t) wc; rw [hb.1, show (bord k H (y + t)).1 = (((bord k H (y + t)).1.toNat : Nat) : Int) from (Int.toNat_of_nonneg hb.2.1).symm] at h; exact h))) (fun xq3 hq4 => ?_)
  refine GL.val (Ex.move rfl) (by decide) ?_
  refine GL.val (Ex.extract rfl rfl) (by decide) ?_
  refine GL.val (Ex.extract rfl rfl) (by decide) ?_
  refine GL.val (Ex.assign rfl) (by decide) ?_
  refine GL.nil ?_
  refine GE.thenN ?_
  refine GC.seq ?_
  refine GC.region ?_
  refine GL.val (v := (.pointer (some ⟨bq1, 0, none⟩))) (Ex.cast (Ex.fieldAddr rfl Try.underlying108 rfl T.sz43 (by decide)) rfl) (by decide) ?_
  refine GL.val (v := (.pointer (some ⟨bq1, 2, none⟩))) (Ex.cast (Ex.fieldAddr rfl Try.underlying43 rfl T.sz41 (by decide)) rfl) (by decide) ?_
  refine GL.val (Ex.load rfl T.ag41 (i := 0) rfl rfl) (by decide) ?_
  refine GL.val (Ex.move rfl) (by decide) ?_
  refine GL.val (v := (.pointer (some ⟨bq1, 0, none⟩))) (Ex.cast (Ex.fieldAddr rfl Try.underlying108 rfl T.sz43 (by decide)) rfl) (by decide) ?_
  refine GL.val (v := (.pointer (some ⟨bq1, 0, none⟩))) (Ex.cast (Ex.fieldAddr rfl Try.underlying43 rfl T.sz3 (by decide)) rfl) (by decide) ?_
  refine GL.val (Ex.load rfl T.ag3 (i := 0) rfl rfl) (by decide) ?_
  refine GL.val (v := (.int .i64 (((W * ((bord k H (y + t)).1.toNat) : Nat) : Int)))) (Ex.mul rfl rfl (Z := ((W * ((bord k H (y + t)).1.toNat) : Nat) : Int)) (mulN' (by omega))) (by decide) ?_
  refine GL.val (Ex.move rfl) (by decide) ?_
  refine GL.val (v := (.int .i64 (((W * ((bord k H (y + t)).1.toNat) + x : Nat) : Int)))) (Ex.add rfl rfl (Z := ((W * ((bord k H (y + t)).1.toNat) + x : Nat) : Int)) (addN (by omega))) (by decide) ?_
  refine GL.val (v := (.pointer (some ⟨b, o + (W * ((bord k H (y + t)).1.toNat) + x), none⟩))) (Ex.cast (Ex.indexAddr rfl rfl Try.underlying41 T.sz63 (by omega) (by omega)) (by simp only [Int.toNat_natCast, Nat.mul_one])) (by decide) ?_
  refine GL.val (v := (.int .u32 (smp xs W x ((bord k H (y + t)).1.toNat)))) (Ex.loadO rfl T.ag63 (Rd.at hr (by omega)) (fun x => x)) (by decide) ?_
  refine GL.val (Ex.assign rfl) (by decide) ?_
  refine GL.nil ?_
  refine GE.thenN ?_
  refine GC.ret ?_
  refine GC.ret1 rfl (Rv.tmp rfl) (fun wN HN => ?_)
  exact HN.ret () trivial rfl (List.nil_sublist _) rfl

set_option maxRecDepth 100000 in
set_option maxHeartbeats 1000000 in
theorem sweepW (W H n cap : Nat) (ad : Option Addr) (k : Int) (dn : Bool) (fid : FuncId) (wv : Value) (g : Nat → Nat → Int) (w : World) (hn : n = W * H) (hf : Own Try.prog fid ∧ ∀ (x y : Nat) (w' : World), x < W → y < H → Keep None w w' → Calls Try.prog fid #[(.iface 108 (.agg #[.int .i64 (W : Int), .int .i64 (H : Int), .slice ad n cap, .int .i64 k, .int .i64 ((x : Nat) : Int), .int .i64 ((y : Nat) : Int), .bool dn])), wv] w' (Ret w' (fun _ : Unit => True) (fun _ => .int .u32 (g x y)) (fun _ => []))) (hW : W ≤ 1024) (hH : H ≤ 1024) (hA : W * H ≤ 65536) :
    Calls Try.prog 48 #[(.agg #[(.int .i64 (((W : Nat) : Int))), (.int .i64 (((H : Nat) : Int))), (.slice ad n cap)]), (.int .i64 k), (.bool dn), wv, (.func (.func fid) #[] #[])] w (Ret w (fun _ : Nat => True) (fun b => .agg #[.int .i64 (W : Int), .int .i64 (H : Int), .slice (some ⟨b, 0, none⟩) (W * H) (W * H)]) (fun b => [⟨b, (tab W g (W * H)).map u32, 63, true⟩])) := by
  refine enter (M := None) (L := []) (n := 51) (l := [(0, (.agg #[(.int .i64 (((W : Nat) : Int))), (.int .i64 (((H : Nat) : Int))), (.slice ad n cap)])), (1, (.int .i64 k)), (2, (.bool dn)), (3, wv), (4, (.func (.func fid) #[] #[]))]) Try.func48 rfl rfl (Args.cons rfl (Args.cons rfl (Args.cons rfl (Args.cons rfl (Args.cons rfl (Args.nil _)))))) (Hp.start _ _) ?_
  refine GC.seq ?_
  refine GC.region ?_
  refine GL.step (Stp.box (cs := [(.int .i64 (((W : Nat) : Int))), (.int .i64 (((H : Nat) : Int))), (.slice ad n cap)]) rfl rfl (by decide)) (fun bq1 _ => ?_)
  refine GL.step (Stp.alloc T.zr43 (by decide)) (fun bq2 _ => ?_)
  refine GL.nil ?_
  refine GE.thenN ?_
  refine GC.seq ?_
  refine GC.join (σ := Nat × Nat) (fun j => True) (fun j => [(0, (.agg #[(.int .i64 (((W : Nat) : Int))), (.int .i64 (((H : Nat) : Int))), (.slice ad n cap)])), (1, (.int .i64 k)), (2, (.bool dn)), (3, wv), (4, (.func (.func fid) #[] #[])), (5, (.pointer (some ⟨bq1, 0, none⟩))), (10, (.pointer (some ⟨bq2, 0, none⟩))), (11, (.pointer (some ⟨j.2, 0, none⟩)))]) (fun j => [⟨j.2, [(.int .i64 (((W : Nat) : Int))), (.int .i64 (((H : Nat) : Int))), (.slice (some ⟨j.1, 0, none⟩) 0 (W * H))], 43, true⟩, ⟨j.1, List.replicate (W * H) (.int .u32 0), 63, true⟩, ⟨bq2, [(.int .i64 0), (.int .i64 0), (.slice none 0 0)], 43, true⟩, ⟨bq1, [(.int .i64 (((W : Nat) : Int))), (.int .i64 (((H : Nat) : Int))), (.slice ad n cap)], 43, true⟩]) ?_ (fun j hj => ?_)
  · refine GC.drawP [⟨bq2, [(.int .i64 0), (.int .i64 0), (.slice none 0 0)], 43, true⟩, ⟨bq1, [(.int .i64 (((W : Nat) : Int))), (.int .i64 (((H : Nat) : Int))), (.slice ad n cap)], 43, true⟩] T.mixed (by kernel_rfl) (by kernel_rfl) (fuel := 10) rfl rfl ?_
    refine GH.take 0 (v := (.pointer (some ⟨bq1, 0, none⟩))) rfl (by kernel_rfl) (by kernel_rfl) (by kernel_rfl) (fun _ _ _ h => h) (Ex.cast (Ex.fieldAddr rfl Try.underlying43 rfl T.sz3 (by decide)) rfl) (ulC (ulC ulN)) (by decide) ?_
    refine GH.take 1 (v := (.int .i64 (((W : Nat) : Int)))) rfl (by kernel_rfl) (by kernel_rfl) (by kernel_rfl) (fun _ _ _ h => h) (Ex.load rfl T.ag3 (i := 1) rfl rfl) (ulC (ulC ulN)) (by decide) ?_
    refine GH.take 2 (v := (.pointer (some ⟨bq1, 1, none⟩))) rfl (by kernel_rfl) (by kernel_rfl) (by kernel_rfl) (fun _ _ _ h => h) (Ex.cast (Ex.fieldAddr rfl Try.underlying43 rfl T.sz3 (by decide)) rfl) (ulC (ulC ulN)) (by decide) ?_
    refine GH.take 3 (v := (.int .i64 (((H : Nat) : Int)))) rfl (by kernel_rfl) (by kernel_rfl) (by kernel_rfl) (fun _ _ _ h => h) (Ex.load rfl T.ag3 (i := 1) rfl rfl) (ulC (ulC ulN)) (by decide) ?_
    refine GH.take 4 (v := (.pointer (some ⟨bq1, 2, none⟩))) rfl (by kernel_rfl) (by kernel_rfl) (by kernel_rfl) (fun _ _ _ h => h) (Ex.cast (Ex.fieldAddr rfl Try.underlying43 rfl T.sz41 (by decide)) rfl) (ulC (ulC ulN)) (by decide) ?_
    refine GH.take 5 (v := (.slice ad n cap)) rfl (by kernel_rfl) (by kernel_rfl) (by kernel_rfl) (fun _ _ _ h => h) (Ex.load rfl T.ag41 (i := 1) rfl rfl) (ulC (ulC ulN)) (by decide) ?_
    refine GH.take 6 (v := (.int .i64 ((n : Int)))) rfl (by kernel_rfl) (by kernel_rfl) (by kernel_rfl) (fun _ _ _ h => h) (Ex.len rfl Try.underlying41) (ulC (ulC ulN)) (by decide) ?_
    refine GH.many (rs := [7, 9]) (by kernel_rfl) (by simp) ?_
    refine GHs.cons rfl (Stp.makeSlice (a1 := 0) (c := W * H) rfl (by rw [hn] <;> rfl) Try.underlying41 T.zr63 T.sz63 T.by63 rfl (by omega) (by omega) (by omega) (by decide)) (fun _ => (ulS (ulC (ulC ulN)))) (fun bq3 _ => ?_) ?_
    · rw [madeOne]
      refine GH.take 8 (v := (.agg #[(.int .i64 (((W : Nat) : Int))), (.int .i64 (((H : Nat) : Int))), (.slice (some ⟨bq3, 0, none⟩) 0 (W * H))])) rfl (by kernel_rfl) (by kernel_rfl) (by kernel_rfl) (fun _ _ _ h => h) (Ex.build (vs := [(0, (.int .i64 (((W : Nat) : Int)))), (1, (.int .i64 (((H : Nat) : Int)))), (2, (.slice (some ⟨bq3, 0, none⟩) 0 (W * H)))]) rfl (by first | rfl | kernel_rfl)) (ulS (ulC (ulC ulN))) (by decide) ?_
      refine GH.one 9 rfl (by kernel_rfl) (Stp.alloc T.zr43 (by decide)) (fun _ => (ulS (ulS (ulC (ulC ulN))))) (fun bq4 _ => ?_)
      refine GH.done (by kernel_rfl) ?_
      refine GE.thenN ?_
      refine GE.tail rfl (Stp.st0 (cs' := [(.int .i64 (((W : Nat) : Int))), (.int .i64 (((H : Nat) : Int))), (.slice (some ⟨bq3, 0, none⟩) 0 (W * H))]) rfl rfl rfl T.sz43 rfl rfl rfl) (fun _ _ => ?_)
      refine GE.thenN ?_
      exact St.mk ((bq3, bq4)) trivial (idx := [0, 1, 2, 3]) ((sub_cons rfl ((sub_cons rfl ((sub_cons rfl ((sub_cons rfl ((sub_cons rfl ((sub_cons rfl ((sub_cons rfl ((sub_cons rfl ((sub_nil _)))))))))))))))))) (by decide) rfl
    refine GHs.cons rfl (Stp.alloc T.zr43 (by decide)) (fun _ => (ulS (ulC (ulC ulN)))) (fun bq5 _ => ?_) ?_
    · refine GH.one 7 rfl (by kernel_rfl) (Stp.makeSlice (a1 := 0) (c := W * H) rfl (by rw [hn] <;> rfl) Try.underlying41 T.zr63 T.sz63 T.by63 rfl (by omega) (by omega) (by omega) (by decide)) (fun _ => (ulS (ulS (ulC (ulC ulN))))) (fun bq6 _ => ?_)
      rw [madeOne]
      refine GH.take 8 (v := (.agg #[(.int .i64 (((W : Nat) : Int))), (.int .i64 (((H : Nat) : Int))), (.slice (some ⟨bq6, 0, none⟩) 0 (W * H))])) rfl (by kernel_rfl) (by kernel_rfl) (by kernel_rfl) (fun _ _ _ h => h) (Ex.build (vs := [(0, (.int .i64 (((W : Nat) : Int)))), (1, (.int .i64 (((H : Nat) : Int)))), (2, (.slice (some ⟨bq6, 0, none⟩) 0 (W * H)))]) rfl (by first | rfl | kernel_rfl)) (ulS (ulS (ulC (ulC ulN)))) (by decide) ?_
      refine GH.done (by kernel_rfl) ?_
      refine GE.thenN ?_
      refine GE.tail rfl (Stp.st1 (cs' := [(.int .i64 (((W : Nat) : Int))), (.int .i64 (((H : Nat) : Int))), (.slice (some ⟨bq6, 0, none⟩) 0 (W * H))]) rfl rfl rfl T.sz43 rfl rfl rfl) (fun _ _ => ?_)
      refine GE.thenN ?_
      exact St.mk ((bq6, bq5)) trivial (idx := [1, 0, 2, 3]) ((sub_cons rfl ((sub_cons rfl ((sub_cons rfl ((sub_cons rfl ((sub_cons rfl ((sub_cons rfl ((sub_cons rfl ((sub_cons rfl ((sub_nil _)))))))))))))))))) (by decide) rfl
    exact GHs.nil
  refine GE.thenN ?_
  refine GC.seq ?_
  refine GC.seq ?_
  rw [show List.replicate (W * H) (Value.int .u32 0) = cur W g (W * H) 0 from (cur_zero _ _ _).symm]
  refine GC.region ?_
  refine GL.val (v := (.pointer (some ⟨bq1, 1, none⟩))) (Ex.cast (Ex.fieldAddr rfl Try.underlying43 rfl T.sz3 (by decide)) rfl) (by decide) ?_
  refine GL.val (Ex.load rfl T.ag3 (i := 3) rfl rfl) (by decide) ?_
  refine GL.val (Ex.move rfl) (by decide) ?_
  refine GL.nil ?_
  refine GE.thenN ?_
  refine GC.block ?_
  refine GC.loop (σ := Nat) (fun y => y ≤ H) (fun y => [(0, (.agg #[(.int .i64 (((W : Nat) : Int))), (.int .i64 (((H : Nat) : Int))), (.slice ad n cap)])), (1, (.int .i64 k)), (2, (.bool dn)), (3, wv), (4, (.func (.func fid) #[] #[])), (5, (.pointer (some ⟨bq1, 0, none⟩))), (10, (.pointer (some ⟨bq2, 0, none⟩))), (11, (.pointer (some ⟨j.2, 0, none⟩))), (24, (.int .i64 (((H : Nat) : Int)))), (25, (.int .i64 (((y : Nat) : Int))))]) (fun y => [⟨j.2, [(.int .i64 (((W : Nat) : Int))), (.int .i64 (((H : Nat) : Int))), (.slice (some ⟨j.1, 0, none⟩) (W * y) (W * H))], 43, true⟩, ⟨j.1, cur W g (W * H) (W * y), 63, true⟩, ⟨bq2, [(.int .i64 0), (.int .i64 0), (.slice none 0 0)], 43, true⟩, ⟨bq1, [(.int .i64 (((W : Nat) : Int))), (.int .i64 (((H : Nat) : Int))), (.slice ad n cap)], 43, true⟩]) (fun y => H - y) (0) (Nat.zero_le _) ((sub_cons rfl ((sub_cons rfl ((sub_cons rfl ((sub_cons rfl ((sub_cons rfl ((sub_cons rfl ((sub_cons rfl ((sub_cons rfl ((sub_cons rfl ((sub_cons rfl ((sub_nil _)))))))))))))))))))))) (ulC (ulC (ulC (ulC ulN)))) (fun y hp => ?_)
  refine GC.seq ?_
  refine GC.region ?_
  refine GL.val (v := (.bool (decide ((((y : Nat) : Int)) < (((H : Nat) : Int)))))) (Ex.lss rfl rfl) (by decide) ?_
  refine GL.nil ?_
  refine GE.thenN ?_
  refine GC.seq ?_
  refine GC.cond rfl (fun hq7 => ?_) (fun hq7 => ?_)
  · replace hq7 := of_decide_eq_true hq7
    refine GC.skip ?_
    refine GE.thenN ?_
    refine GC.seq ?_
    refine GC.block ?_
    refine GC.seq ?_
    refine GC.region ?_
    refine GL.val (Ex.move rfl) (by decide) ?_
    refine GL.val (Ex.assign rfl) (by decide) ?_
    refine GL.nil ?_
    refine GE.thenN ?_
    refine GC.seq ?_
    refine GC.region ?_
    refine GL.val (v := (.pointer (some ⟨bq1, 0, none⟩))) (Ex.cast (Ex.fieldAddr rfl Try.underlying43 rfl T.sz3 (by decide)) rfl) (by decide) ?_
    refine GL.val (Ex.load rfl T.ag3 (i := 3) rfl rfl) (by decide) ?_
    refine GL.val (Ex.move rfl) (by decide) ?_
    refine GL.nil ?_
    refine GE.thenN ?_
    refine GC.block ?_
    refine GC.loop (σ := Nat) (fun x => x ≤ W) (fun x => [(0, (.agg #[(.int .i64 (((W : Nat) : Int))), (.int .i64 (((H : Nat) : Int))), (.slice ad n cap)])), (1, (.int .i64 k)), (2, (.bool dn)), (3, wv), (4, (.func (.func fid) #[] #[])), (5, (.pointer (some ⟨bq1, 0, none⟩))), (10, (.pointer (some ⟨bq2, 0, none⟩))), (11, (.pointer (some ⟨j.2, 0, none⟩))), (24, (.int .i64 (((H : Nat) : Int)))), (25, (.int .i64 (((y : Nat) : Int)))), (12, (.int .i64 (((y : Nat) : Int)))), (29, (.int .i64 (((W : Nat) : Int)))), (30, (.int .i64 (((x : Nat) : Int))))]) (fun x => [⟨j.2, [(.int .i64 (((W : Nat) : Int))), (.int .i64 (((H : Nat) : Int))), (.slice (some ⟨j.1, 0, none⟩) (W * y + x) (W * H))], 43, true⟩, ⟨j.1, cur W g (W * H) (W * y + x), 63, true⟩, ⟨bq2, [(.int .i64 0), (.int .i64 0), (.slice none 0 0)], 43, true⟩, ⟨bq1, [(.int .i64 (((W : Nat) : Int))), (.int .i64 (((H : Nat) : Int))), (.slice ad n cap)], 43, true⟩]) (fun x => W - x) (0) (Nat.zero_le _) ((sub_cons rfl ((sub_cons rfl ((sub_cons rfl ((sub_cons rfl ((sub_cons rfl ((sub_cons rfl ((sub_cons rfl ((sub_cons rfl ((sub_cons rfl ((sub_cons rfl ((sub_cons rfl ((sub_cons rfl ((sub_cons rfl ((sub_nil _)))))))))))))))))))))))))))) (ulC (ulC (ulC (ulC ulN)))) (fun x hp => ?_)
    refine GC.seq ?_
    refine GC.region ?_
    refine GL.val (v := (.bool (decide ((((x : Nat) : Int)) < (((W : Nat) : Int)))))) (Ex.lss rfl rfl) (by decide) ?_
    refine GL.nil ?_
    refine GE.thenN ?_
    refine GC.seq ?_
    refine GC.cond rfl (fun hq8 => ?_) (fun hq8 => ?_)
    · replace hq8 := of_decide_eq_true hq8
      have hxy := place_lt (H := H) (by omega : x < W) (by omega : y < H)
      have hp := at_place (W := W) (y := y) (by omega : x < W)
      have hap := cur_app W g (W * H) (W * y + x) (g x y) hxy (by rw [hp.1, hp.2])
      rw [Nat.add_assoc] at hap
      refine GC.skip ?_
      refine GE.thenN ?_
      refine GC.seq ?_
      refine GC.block ?_
      refine GC.seq ?_
      refine GC.region ?_
      refine GL.val (Ex.move rfl) (by decide) ?_
      refine GL.val (Ex.assign rfl) (by decide) ?_
      refine GL.nil ?_
      refine GE.thenN ?_
      refine GC.drawP [⟨j.2, [(.int .i64 (((W : Nat) : Int))), (.int .i64 (((H : Nat) : Int))), (.slice (some ⟨j.1, 0, none⟩) (W * y + x) (W * H))], 43, true⟩, ⟨bq2, [(.int .i64 0), (.int .i64 0), (.slice none 0 0)], 43, true⟩, ⟨bq1, [(.int .i64 (((W : Nat) : Int))), (.int .i64 (((H : Nat) : Int))), (.slice ad n cap)], 43, true⟩] T.mixed (by kernel_rfl) (by kernel_rfl) (fuel := 15) rfl rfl ?_
      refine GH.take 0 (v := (.pointer (some ⟨j.2, 2, none⟩))) rfl (by kernel_rfl) (by kernel_rfl) (by kernel_rfl) (fun _ _ _ h => h) (Ex.cast (Ex.fieldAddr rfl Try.underlying43 rfl T.sz41 (by decide)) rfl) (ulC (ulS (ulC (ulC ulN)))) (by decide) ?_
      refine GH.take 1 (v := (.slice (some ⟨j.1, 0, none⟩) (W * y + x) (W * H))) rfl (by kernel_rfl) (by kernel_rfl) (by kernel_rfl) (fun _ _ _ h => h) (Ex.load rfl T.ag41 (i := 0) rfl rfl) (ulC (ulS (ulC (ulC ulN)))) (by decide) ?_
      refine GH.take 2 (v := (.func (.func fid) #[] #[])) rfl (by kernel_rfl) (by kernel_rfl) (by kernel_rfl) (fun _ _ _ h => h) (Ex.move rfl) (ulC (ulS (ulC (ulC ulN)))) (by decide) ?_
      refine GH.take 3 (v := (.agg #[(.int .i64 (((W : Nat) : Int))), (.int .i64 (((H : Nat) : Int))), (.slice ad n cap)])) rfl (by kernel_rfl) (by kernel_rfl) (by kernel_rfl) (fun _ _ _ h => h) (Ex.loadA rfl T.ag43 T.sz43 (i := 2) rfl (vs := [(.int .i64 (((W : Nat) : Int))), (.int .i64 (((H : Nat) : Int))), (.slice ad n cap)]) rfl rfl) (ulC (ulS (ulC (ulC ulN)))) (by decide) ?_
      refine GH.take 4 (v := (.int .i64 k)) rfl (by kernel_rfl) (by kernel_rfl) (by kernel_rfl) (fun _ _ _ h => h) (Ex.move rfl) (ulC (ulS (ulC (ulC ulN)))) (by decide) ?_
      refine GH.take 5 (v := (.int .i64 (((x : Nat) : Int)))) rfl (by kernel_rfl) (by kernel_rfl) (by kernel_rfl) (fun _ _ _ h => h) (Ex.move rfl) (ulC (ulS (ulC (ulC ulN)))) (by decide) ?_
      refine GH.take 6 (v := (.int .i64 (((y : Nat) : Int)))) rfl (by kernel_rfl) (by kernel_rfl) (by kernel_rfl) (fun _ _ _ h => h) (Ex.move rfl) (ulC (ulS (ulC (ulC ulN)))) (by decide) ?_
      refine GH.take 7 (v := (.bool dn)) rfl (by kernel_rfl) (by kernel_rfl) (by kernel_rfl) (fun _ _ _ h => h) (Ex.move rfl) (ulC (ulS (ulC (ulC ulN)))) (by decide) ?_
      refine GH.take 8 (v := (.agg #[(.int .i64 (((W : Nat) : Int))), (.int .i64 (((H : Nat) : Int))), (.slice ad n cap), (.int .i64 k), (.int .i64 (((x : Nat) : Int))), (.int .i64 (((y : Nat) : Int))), (.bool dn)])) rfl (by kernel_rfl) (by kernel_rfl) (by kernel_rfl) (fun _ _ _ h => h) (Ex.build (vs := [(0, (.agg #[(.int .i64 (((W : Nat) : Int))), (.int .i64 (((H : Nat) : Int))), (.slice ad n cap)])), (1, (.int .i64 k)), (2, (.int .i64 (((x : Nat) : Int)))), (3, (.int .i64 (((y : Nat) : Int)))), (4, (.bool dn))]) rfl (by first | rfl | kernel_rfl)) (ulC (ulS (ulC (ulC ulN)))) (by decide) ?_
      refine GH.take 9 (v := (.iface 108 (.agg #[(.int .i64 (((W : Nat) : Int))), (.int .i64 (((H : Nat) : Int))), (.slice ad n cap), (.int .i64 k), (.int .i64 (((x : Nat) : Int))), (.int .i64 (((y : Nat) : Int))), (.bool dn)]))) rfl (by kernel_rfl) (by kernel_rfl) (by kernel_rfl) (fun _ _ _ h => h) (Ex.ifaceS rfl Try.underlying108) (ulC (ulS (ulC (ulC ulN)))) (by decide) ?_
      refine GH.take 10 (v := wv) rfl (by kernel_rfl) (by kernel_rfl) (by kernel_rfl) (fun _ _ _ h => h) (Ex.move rfl) (ulC (ulS (ulC (ulC ulN)))) (by decide) ?_
      refine GH.one 11 rfl (by kernel_rfl) (Stp.callR (vs := [(.iface 108 (.agg #[(.int .i64 (((W : Nat) : Int))), (.int .i64 (((H : Nat) : Int))), (.slice ad n cap), (.int .i64 k), (.int .i64 (((x : Nat) : Int))), (.int .i64 (((y : Nat) : Int))), (.bool dn)])), wv]) rfl rfl hf.1 (by decide) (fun wc hw => hf.2 x y wc (by omega) (by omega) hw.1)) (fun _ => (ulC (ulS (ulC (ulC ulN))))) (fun xq9 hq10 => ?_)
      refine GH.one 12 rfl (by kernel_rfl) (Stp.buildSlice (cs := [(.int .u32 ((g x y)))]) (vs := [(0, (.int .u32 ((g x y))))]) Try.underlying41 T.zr63 T.sz63 rfl (by decide) (by decide) (by first | rfl | kernel_rfl) (by decide)) (fun _ => (ulS (ulC (ulS (ulC (ulC ulN)))))) (fun bq11 _ => ?_)
      refine GH.one 13 rfl (by kernel_rfl) (Stp.appendFits (i := 2) (vs := [.int .u32 (g x y)]) (L1 := [⟨bq11, [(.int .u32 ((g x y)))], 63, true⟩, ⟨j.2, [(.int .i64 (((W : Nat) : Int))), (.int .i64 (((H : Nat) : Int))), (.slice (some ⟨j.1, 0, none⟩) (W * y + x) (W * H))], 43, true⟩, ⟨j.1, cur W g (W * H) (W * y + (x + 1)), 63, true⟩, ⟨bq2, [(.int .i64 0), (.int .i64 0), (.slice none 0 0)], 43, true⟩, ⟨bq1, [(.int .i64 (((W : Nat) : Int))), (.int .i64 (((H : Nat) : Int))), (.slice ad n cap)], 43, true⟩]) rfl rfl Try.underlying41 T.sz63 rfl (fun w hw => hw.rdOf (i := 0) rfl 0) rfl rfl (len' := W * y + (x + 1)) rfl (by omega) (by rw [cur_len _ _ _ _ (by omega)]; simp; omega) (by rw [hap]; rfl) (by decide)) (fun _ => (ulS (ulC (ulS (ulC (ulC ulN)))))) (fun _ _ => ?_)
      refine GH.take 14 (v := (.pointer (some ⟨j.2, 2, none⟩))) rfl (by kernel_rfl) (by kernel_rfl) (by kernel_rfl) (fun _ _ _ h => h) (Ex.cast (Ex.fieldAddr rfl Try.underlying43 rfl T.sz41 (by decide)) rfl) (ulS (ulC (ulS (ulC (ulC ulN))))) (by decide) ?_
      refine GH.done (by kernel_rfl) ?_
      refine GE.thenN ?_
      refine GE.tail rfl (Stp.st1 (cs' := [(.int .i64 (((W : Nat) : Int))), (.int .i64 (((H : Nat) : Int))), (.slice (some ⟨j.1, 0, none⟩) (W * y + (x + 1)) (W * H))]) rfl rfl rfl T.sz41 rfl rfl rfl) (fun _ _ => ?_)
      refine GE.blockN ?_
      refine GE.thenN ?_
      refine GC.region ?_
      refine GL.val (v := (.int .i64 (((x + 1 : Nat) : Int)))) (Ex.add rfl rfl (Z := ((x + 1 : Nat) : Int)) (w64 (by omega))) (by decide) ?_
      refine GL.val (Ex.move rfl) (by decide) ?_
      refine GL.nil ?_
      refine GE.thenN ?_
      exact Head.mk (x + 1) (by omega) (by omega) ((sub_cons rfl ((sub_cons rfl ((sub_cons rfl ((sub_cons rfl ((sub_cons rfl ((sub_cons rfl ((sub_cons rfl ((sub_cons rfl ((sub_cons rfl ((sub_cons rfl ((sub_cons rfl ((sub_cons rfl ((sub_cons rfl ((sub_nil _)))))))))))))))))))))))))))) (ulS (ulC (ulC (ulC (ulC ulN)))))
    · replace hq8 := of_decide_eq_false hq8
      have ex : W = x := by omega
      have e2 : W * y + x = W * (y + 1) := by rw [← ex]; rfl
      rw [e2]
      refine GC.exit ?_
      refine GE.thenE ?_
      refine GE.thenE ?_
      refine GE.blockE ?_
      refine GE.blockN ?_
      refine GE.thenN ?_
      refine GC.region ?_
      refine GL.val (v := (.int .i64 (((y + 1 : Nat) : Int)))) (Ex.add rfl rfl (Z := ((y + 1 : Nat) : Int)) (w64 (by omega))) (by decide) ?_
      refine GL.val (Ex.move rfl) (by decide) ?_
      refine GL.nil ?_
      refine GE.thenN ?_
      exact Head.mk (y + 1) (by omega) (by omega) ((sub_cons rfl ((sub_cons rfl ((sub_cons rfl ((sub_cons rfl ((sub_cons rfl ((sub_cons rfl ((sub_cons rfl ((sub_cons rfl ((sub_cons rfl ((sub_cons rfl ((sub_nil _)))))))))))))))))))))) (ulC (ulC (ulC (ulC ulN))))
  · replace hq7 := of_decide_eq_false hq7
    refine GC.exit ?_
    refine GE.thenE ?_
    refine GE.thenE ?_
    refine GE.blockE ?_
    refine GE.thenN ?_
    refine GC.seq ?_
    refine GC.region ?_
    refine GL.val (v := (.agg #[(.int .i64 (((W : Nat) : Int))), (.int .i64 (((H : Nat) : Int))), (.slice (some ⟨j.1, 0, none⟩) (W * y) (W * H))])) (Ex.loadA rfl T.ag43 T.sz43 (i := 0) rfl (vs := [(.int .i64 (((W : Nat) : Int))), (.int .i64 (((H : Nat) : Int))), (.slice (some ⟨j.1, 0, none⟩) (W * y) (W * H))]) rfl rfl) (by decide) ?_
    refine GL.step (Stp.st2 (cs' := [(.int .i64 (((W : Nat) : Int))), (.int .i64 (((H : Nat) : Int))), (.slice (some ⟨j.1, 0, none⟩) (W * y) (W * H))]) rfl rfl rfl T.sz43 rfl rfl rfl) (fun _ _ => ?_)
    refine GL.nil ?_
    refine GE.thenN ?_
    refine GC.ret ?_
    refine GC.ret1 rfl (Rv.cellA rfl T.ag43 T.sz43 (L := _) (i := 2) rfl (vs := [(.int .i64 (((W : Nat) : Int))), (.int .i64 (((H : Nat) : Int))), (.slice (some ⟨j.1, 0, none⟩) (W * y) (W * H))]) rfl rfl) (fun wN HN => ?_)
    have ey : H = y := by omega
    have e3 : W * y = W * H := by rw [ey]
    rw [e3, cur_full] at HN
    exact HN.ret j.1 trivial (by rw [e3]) (ulS (ulC (ulS (ulS ulN)))) rfl

set_option maxRecDepth 100000 in
set_option maxHeartbeats 1000000 in
theorem sweepZ (W H n cap : Nat) (ad : Option Addr) (k : Int) (dn : Bool) (fid : FuncId) (g : Nat → Nat → Int) (w : World) (hn : n = W * H) (hf : Own Try.prog fid ∧ ∀ (x y : Nat) (w' : World), x < W → y < H → Keep None w w' → Calls Try.prog fid #[(.iface 108 (.agg #[.int .i64 (W : Int), .int .i64 (H : Int), .slice ad n cap, .int .i64 k, .int .i64 ((x : Nat) : Int), .int .i64 ((y : Nat) : Int), .bool dn])), (.agg #[])] w' (Ret w' (fun _ : Unit => True) (fun _ => .int .u32 (g x y)) (fun _ => []))) (hW : W ≤ 1024) (hH : H ≤ 1024) (hA : W * H ≤ 65536) :
    Calls Try.prog 53 #[(.agg #[(.int .i64 (((W : Nat) : Int))), (.int .i64 (((H : Nat) : Int))), (.slice ad n cap)]), (.int .i64 k), (.bool dn), (.agg #[]), (.func (.func fid) #[] #[])] w (Ret w (fun _ : Nat => True) (fun b => .agg #[.int .i64 (W : Int), .int .i64 (H : Int), .slice (some ⟨b, 0, none⟩) (W * H) (W * H)]) (fun b => [⟨b, (tab W g (W * H)).map u32, 63, true⟩])) := by
  refine enter (M := None) (L := []) (n := 51) (l := [(0, (.agg #[(.int .i64 (((W : Nat) : Int))), (.int .i64 (((H : Nat) : Int))), (.slice ad n cap)])), (1, (.int .i64 k)), (2, (.bool dn)), (3, (.agg #[])), (4, (.func (.func fid) #[] #[]))]) Try.func53 rfl rfl (Args.cons rfl (Args.cons rfl (Args.cons rfl (Args.cons rfl (Args.cons rfl (Args.nil _)))))) (Hp.start _ _) ?_
  refine GC.seq ?_
  refine GC.region ?_
  refine GL.step (Stp.box (cs := [(.int .i64 (((W : Nat) : Int))), (.int .i64 (((H : Nat) : Int))), (.slice ad n cap)]) rfl rfl (by decide)) (fun bq1 _ => ?_)
  refine GL.step (Stp.box (cs := []) rfl rfl (by decide)) (fun bq2 _ => ?_)
  refine GL.step (Stp.alloc T.zr43 (by decide)) (fun bq3 _ => ?_)
  refine GL.nil ?_
  refine GE.thenN ?_
  refine GC.seq ?_
  refine GC.join (σ := Nat × Nat) (fun j => True) (fun j => [(0, (.agg #[(.int .i64 (((W : Nat) : Int))), (.int .i64 (((H : Nat) : Int))), (.slice ad n cap)])), (1, (.int .i64 k)), (2, (.bool dn)), (3, (.agg #[])), (4, (.func (.func fid) #[] #[])), (5, (.pointer (some ⟨bq1, 0, none⟩))), (8, (.pointer (some ⟨bq2, 0, none⟩))), (10, (.pointer (some ⟨bq3, 0, none⟩))), (11, (.pointer (some ⟨j.2, 0, none⟩)))]) (fun j => [⟨j.2, [(.int .i64 (((W : Nat) : Int))), (.int .i64 (((H : Nat) : Int))), (.slice (some ⟨j.1, 0, none⟩) 0 (W * H))], 43, true⟩, ⟨j.1, List.replicate (W * H) (.int .u32 0), 63, true⟩, ⟨bq3, [(.int .i64 0), (.int .i64 0), (.slice none 0 0)], 43, true⟩, ⟨bq2, [], 96, true⟩, ⟨bq1, [(.int .i64 (((W : Nat) : Int))), (.int .i64 (((H : Nat) : Int))), (.slice ad n cap)], 43, true⟩]) ?_ (fun j hj => ?_)
  · refine GC.drawP [⟨bq3, [(.int .i64 0), (.int .i64 0), (.slice none 0 0)], 43, true⟩, ⟨bq2, [], 96, true⟩, ⟨bq1, [(.int .i64 (((W : Nat) : Int))), (.int .i64 (((H : Nat) : Int))), (.slice ad n cap)], 43, true⟩] T.mixed (by kernel_rfl) (by kernel_rfl) (fuel := 10) rfl rfl ?_
    refine GH.take 0 (v := (.pointer (some ⟨bq1, 0, none⟩))) rfl (by kernel_rfl) (by kernel_rfl) (by kernel_rfl) (fun _ _ _ h => h) (Ex.cast (Ex.fieldAddr rfl Try.underlying43 rfl T.sz3 (by decide)) rfl) (ulC (ulC (ulC ulN))) (by decide) ?_
    refine GH.take 1 (v := (.int .i64 (((W : Nat) : Int)))) rfl (by kernel_rfl) (by kernel_rfl) (by kernel_rfl) (fun _ _ _ h => h) (Ex.load rfl T.ag3 (i := 2) rfl rfl) (ulC (ulC (ulC ulN))) (by decide) ?_
    refine GH.take 2 (v := (.pointer (some ⟨bq1, 1, none⟩))) rfl (by kernel_rfl) (by kernel_rfl) (by kernel_rfl) (fun _ _ _ h => h) (Ex.cast (Ex.fieldAddr rfl Try.underlying43 rfl T.sz3 (by decide)) rfl) (ulC (ulC (ulC ulN))) (by decide) ?_
    refine GH.take 3 (v := (.int .i64 (((H : Nat) : Int)))) rfl (by kernel_rfl) (by kernel_rfl) (by kernel_rfl) (fun _ _ _ h => h) (Ex.load rfl T.ag3 (i := 2) rfl rfl) (ulC (ulC (ulC ulN))) (by decide) ?_
    refine GH.take 4 (v := (.pointer (some ⟨bq1, 2, none⟩))) rfl (by kernel_rfl) (by kernel_rfl) (by kernel_rfl) (fun _ _ _ h => h) (Ex.cast (Ex.fieldAddr rfl Try.underlying43 rfl T.sz41 (by decide)) rfl) (ulC (ulC (ulC ulN))) (by decide) ?_
    refine GH.take 5 (v := (.slice ad n cap)) rfl (by kernel_rfl) (by kernel_rfl) (by kernel_rfl) (fun _ _ _ h => h) (Ex.load rfl T.ag41 (i := 2) rfl rfl) (ulC (ulC (ulC ulN))) (by decide) ?_
    refine GH.take 6 (v := (.int .i64 ((n : Int)))) rfl (by kernel_rfl) (by kernel_rfl) (by kernel_rfl) (fun _ _ _ h => h) (Ex.len rfl Try.underlying41) (ulC (ulC (ulC ulN))) (by decide) ?_
    refine GH.many (rs := [7, 9]) (by kernel_rfl) (by simp) ?_
    refine GHs.cons rfl (Stp.makeSlice (a1 := 0) (c := W * H) rfl (by rw [hn] <;> rfl) Try.underlying41 T.zr63 T.sz63 T.by63 rfl (by omega) (by omega) (by omega) (by decide)) (fun _ => (ulS (ulC (ulC (ulC ulN))))) (fun bq4 _ => ?_) ?_
    · rw [madeOne]
      refine GH.take 8 (v := (.agg #[(.int .i64 (((W : Nat) : Int))), (.int .i64 (((H : Nat) : Int))), (.slice (some ⟨bq4, 0, none⟩) 0 (W * H))])) rfl (by kernel_rfl) (by kernel_rfl) (by kernel_rfl) (fun _ _ _ h => h) (Ex.build (vs := [(0, (.int .i64 (((W : Nat) : Int)))), (1, (.int .i64 (((H : Nat) : Int)))), (2, (.slice (some ⟨bq4, 0, none⟩) 0 (W * H)))]) rfl (by first | rfl | kernel_rfl)) (ulS (ulC (ulC (ulC ulN)))) (by decide) ?_
      refine GH.one 9 rfl (by kernel_rfl) (Stp.alloc T.zr43 (by decide)) (fun _ => (ulS (ulS (ulC (ulC (ulC ulN)))))) (fun bq5 _ => ?_)
      refine GH.done (by kernel_rfl) ?_
      refine GE.thenN ?_
      refine GE.tail rfl (Stp.st0 (cs' := [(.int .i64 (((W : Nat) : Int))), (.int .i64 (((H : Nat) : Int))), (.slice (some ⟨bq4, 0, none⟩) 0 (W * H))]) rfl rfl rfl T.sz43 rfl rfl rfl) (fun _ _ => ?_)
      refine GE.thenN ?_
      exact St.mk ((bq4, bq5)) trivial (idx := [0, 1, 2, 3, 4]) ((sub_cons rfl ((sub_cons rfl ((sub_cons rfl ((sub_cons rfl ((sub_cons rfl ((sub_cons rfl ((sub_cons rfl ((sub_cons rfl ((sub_cons rfl ((sub_nil _)))))))))))))))))))) (by decide) rfl
    refine GHs.cons rfl (Stp.alloc T.zr43 (by decide)) (fun _ => (ulS (ulC (ulC (ulC ulN))))) (fun bq6 _ => ?_) ?_
    · refine GH.one 7 rfl (by kernel_rfl) (Stp.makeSlice (a1 := 0) (c := W * H) rfl (by rw [hn] <;> rfl) Try.underlying41 T.zr63 T.sz63 T.by63 rfl (by omega) (by omega) (by omega) (by decide)) (fun _ => (ulS (ulS (ulC (ulC (ulC ulN)))))) (fun bq7 _ => ?_)
      rw [madeOne]
      refine GH.take 8 (v := (.agg #[(.int .i64 (((W : Nat) : Int))), (.int .i64 (((H : Nat) : Int))), (.slice (some ⟨bq7, 0, none⟩) 0 (W * H))])) rfl (by kernel_rfl) (by kernel_rfl) (by kernel_rfl) (fun _ _ _ h => h) (Ex.build (vs := [(0, (.int .i64 (((W : Nat) : Int)))), (1, (.int .i64 (((H : Nat) : Int)))), (2, (.slice (some ⟨bq7, 0, none⟩) 0 (W * H)))]) rfl (by first | rfl | kernel_rfl)) (ulS (ulS (ulC (ulC (ulC ulN))))) (by decide) ?_
      refine GH.done (by kernel_rfl) ?_
      refine GE.thenN ?_
      refine GE.tail rfl (Stp.st1 (cs' := [(.int .i64 (((W : Nat) : Int))), (.int .i64 (((H : Nat) : Int))), (.slice (some ⟨bq7, 0, none⟩) 0 (W * H))]) rfl rfl rfl T.sz43 rfl rfl rfl) (fun _ _ => ?_)
      refine GE.thenN ?_
      exact St.mk ((bq7, bq6)) trivial (idx := [1, 0, 2, 3, 4]) ((sub_cons rfl ((sub_cons rfl ((sub_cons rfl ((sub_cons rfl ((sub_cons rfl ((sub_cons rfl ((sub_cons rfl ((sub_cons rfl ((sub_cons rfl ((sub_nil _)))))))))))))))))))) (by decide) rfl
    exact GHs.nil
  refine GE.thenN ?_
  refine GC.seq ?_
  refine GC.seq ?_
  rw [show List.replicate (W * H) (Value.int .u32 0) = cur W g (W * H) 0 from (cur_zero _ _ _).symm]
  refine GC.region ?_
  refine GL.val (v := (.pointer (some ⟨bq1, 1, none⟩))) (Ex.cast (Ex.fieldAddr rfl Try.underlying43 rfl T.sz3 (by decide)) rfl) (by decide) ?_
  refine GL.val (Ex.load rfl T.ag3 (i := 4) rfl rfl) (by decide) ?_
  refine GL.val (Ex.move rfl) (by decide) ?_
  refine GL.nil ?_
  refine GE.thenN ?_
  refine GC.block ?_
  refine GC.loop (σ := Nat) (fun y => y ≤ H) (fun y => [(0, (.agg #[(.int .i64 (((W : Nat) : Int))), (.int .i64 (((H : Nat) : Int))), (.slice ad n cap)])), (1, (.int .i64 k)), (2, (.bool dn)), (3, (.agg #[])), (4, (.func (.func fid) #[] #[])), (5, (.pointer (some ⟨bq1, 0, none⟩))), (8, (.pointer (some ⟨bq2, 0, none⟩))), (10, (.pointer (some ⟨bq3, 0, none⟩))), (11, (.pointer (some ⟨j.2, 0, none⟩))), (24, (.int .i64 (((H : Nat) : Int)))), (25, (.int .i64 (((y : Nat) : Int))))]) (fun y => [⟨j.2, [(.int .i64 (((W : Nat) : Int))), (.int .i64 (((H : Nat) : Int))), (.slice (some ⟨j.1, 0, none⟩) (W * y) (W * H))], 43, true⟩, ⟨j.1, cur W g (W * H) (W * y), 63, true⟩, ⟨bq3, [(.int .i64 0), (.int .i64 0), (.slice none 0 0)], 43, true⟩, ⟨bq2, [], 96, true⟩, ⟨bq1, [(.int .i64 (((W : Nat) : Int))), (.int .i64 (((H : Nat) : Int))), (.slice ad n cap)], 43, true⟩]) (fun y => H - y) (0) (Nat.zero_le _) ((sub_cons rfl ((sub_cons rfl ((sub_cons rfl ((sub_cons rfl ((sub_cons rfl ((sub_cons rfl ((sub_cons rfl ((sub_cons rfl ((sub_cons rfl ((sub_cons rfl ((sub_cons rfl ((sub_nil _)))))))))))))))))))))))) (ulC (ulC (ulC (ulC (ulC ulN))))) (fun y hp => ?_)
  refine GC.seq ?_
  refine GC.region ?_
  refine GL.val (v := (.bool (decide ((((y : Nat) : Int)) < (((H : Nat) : Int)))))) (Ex.lss rfl rfl) (by decide) ?_
  refine GL.nil ?_
  refine GE.thenN ?_
  refine GC.seq ?_
  refine GC.cond rfl (fun hq8 => ?_) (fun hq8 => ?_)
  · replace hq8 := of_decide_eq_true hq8
    refine GC.skip ?_
    refine GE.thenN ?_
    refine GC.seq ?_
    refine GC.block ?_
    refine GC.seq ?_
    refine GC.region ?_
    refine GL.val (Ex.move rfl) (by decide) ?_
    refine GL.val (Ex.assign rfl) (by decide) ?_
    refine GL.nil ?_
    refine GE.thenN ?_
    refine GC.seq ?_
    refine GC.region ?_
    refine GL.val (v := (.pointer (some ⟨bq1, 0, none⟩))) (Ex.cast (Ex.fieldAddr rfl Try.underlying43 rfl T.sz3 (by decide)) rfl) (by decide) ?_
    refine GL.val (Ex.load rfl T.ag3 (i := 4) rfl rfl) (by decide) ?_
    refine GL.val (Ex.move rfl) (by decide) ?_
    refine GL.nil ?_
    refine GE.thenN ?_
    refine GC.block ?_
    refine GC.loop (σ := Nat) (fun x => x ≤ W) (fun x => [(0, (.agg #[(.int .i64 (((W : Nat) : Int))), (.int .i64 (((H : Nat) : Int))), (.slice ad n cap)])), (1, (.int .i64 k)), (2, (.bool dn)), (3, (.agg #[])), (4, (.func (.func fid) #[] #[])), (5, (.pointer (some ⟨bq1, 0, none⟩))), (8, (.pointer (some ⟨bq2, 0, none⟩))), (10, (.pointer (some ⟨bq3, 0, none⟩))), (11, (.pointer (some ⟨j.2, 0, none⟩))), (24, (.int .i64 (((H : Nat) : Int)))), (25, (.int .i64 (((y : Nat) : Int)))), (12, (.int .i64 (((y : Nat) : Int)))), (29, (.int .i64 (((W : Nat) : Int)))), (30, (.int .i64 (((x : Nat) : Int))))]) (fun x => [⟨j.2, [(.int .i64 (((W : Nat) : Int))), (.int .i64 (((H : Nat) : Int))), (.slice (some ⟨j.1, 0, none⟩) (W * y + x) (W * H))], 43, true⟩, ⟨j.1, cur W g (W * H) (W * y + x), 63, true⟩, ⟨bq3, [(.int .i64 0), (.int .i64 0), (.slice none 0 0)], 43, true⟩, ⟨bq2, [], 96, true⟩, ⟨bq1, [(.int .i64 (((W : Nat) : Int))), (.int .i64 (((H : Nat) : Int))), (.slice ad n cap)], 43, true⟩]) (fun x => W - x) (0) (Nat.zero_le _) ((sub_cons rfl ((sub_cons rfl ((sub_cons rfl ((sub_cons rfl ((sub_cons rfl ((sub_cons rfl ((sub_cons rfl ((sub_cons rfl ((sub_cons rfl ((sub_cons rfl ((sub_cons rfl ((sub_cons rfl ((sub_cons rfl ((sub_cons rfl ((sub_nil _)))))))))))))))))))))))))))))) (ulC (ulC (ulC (ulC (ulC ulN))))) (fun x hp => ?_)
    refine GC.seq ?_
    refine GC.region ?_
    refine GL.val (v := (.bool (decide ((((x : Nat) : Int)) < (((W : Nat) : Int)))))) (Ex.lss rfl rfl) (by decide) ?_
    refine GL.nil ?_
    refine GE.thenN ?_
    refine GC.seq ?_
    refine GC.cond rfl (fun hq9 => ?_) (fun hq9 => ?_)
    · replace hq9 := of_decide_eq_true hq9
      have hxy := place_lt (H := H) (by omega : x < W) (by omega : y < H)
      have hp := at_place (W := W) (y := y) (by omega : x < W)
      have hap := cur_app W g (W * H) (W * y + x) (g x y) hxy (by rw [hp.1, hp.2])
      rw [Nat.add_assoc] at hap
      refine GC.skip ?_
      refine GE.thenN ?_
      refine GC.seq ?_
      refine GC.block ?_
      refine GC.seq ?_
      refine GC.region ?_
      refine GL.val (Ex.move rfl) (by decide) ?_
      refine GL.val (Ex.assign rfl) (by decide) ?_
      refine GL.nil ?_
      refine GE.thenN ?_
      refine GC.drawP [⟨j.2, [(.int .i64 (((W : Nat) : Int))), (.int .i64 (((H : Nat) : Int))), (.slice (some ⟨j.1, 0, none⟩) (W * y + x) (W * H))], 43, true⟩, ⟨bq3, [(.int .i64 0), (.int .i64 0), (.slice none 0 0)], 43, true⟩, ⟨bq2, [], 96, true⟩, ⟨bq1, [(.int .i64 (((W : Nat) : Int))), (.int .i64 (((H : Nat) : Int))), (.slice ad n cap)], 43, true⟩] T.mixed (by kernel_rfl) (by kernel_rfl) (fuel := 15) rfl rfl ?_
      refine GH.take 0 (v := (.pointer (some ⟨j.2, 2, none⟩))) rfl (by kernel_rfl) (by kernel_rfl) (by kernel_rfl) (fun _ _ _ h => h) (Ex.cast (Ex.fieldAddr rfl Try.underlying43 rfl T.sz41 (by decide)) rfl) (ulC (ulS (ulC (ulC (ulC ulN))))) (by decide) ?_
      refine GH.take 1 (v := (.slice (some ⟨j.1, 0, none⟩) (W * y + x) (W * H))) rfl (by kernel_rfl) (by kernel_rfl) (by kernel_rfl) (fun _ _ _ h => h) (Ex.load rfl T.ag41 (i := 0) rfl rfl) (ulC (ulS (ulC (ulC (ulC ulN))))) (by decide) ?_
      refine GH.take 2 (v := (.func (.func fid) #[] #[])) rfl (by kernel_rfl) (by kernel_rfl) (by kernel_rfl) (fun _ _ _ h => h) (Ex.move rfl) (ulC (ulS (ulC (ulC (ulC ulN))))) (by decide) ?_
      refine GH.take 3 (v := (.agg #[(.int .i64 (((W : Nat) : Int))), (.int .i64 (((H : Nat) : Int))), (.slice ad n cap)])) rfl (by kernel_rfl) (by kernel_rfl) (by kernel_rfl) (fun _ _ _ h => h) (Ex.loadA rfl T.ag43 T.sz43 (i := 3) rfl (vs := [(.int .i64 (((W : Nat) : Int))), (.int .i64 (((H : Nat) : Int))), (.slice ad n cap)]) rfl rfl) (ulC (ulS (ulC (ulC (ulC ulN))))) (by decide) ?_
      refine GH.take 4 (v := (.int .i64 k)) rfl (by kernel_rfl) (by kernel_rfl) (by kernel_rfl) (fun _ _ _ h => h) (Ex.move rfl) (ulC (ulS (ulC (ulC (ulC ulN))))) (by decide) ?_
      refine GH.take 5 (v := (.int .i64 (((x : Nat) : Int)))) rfl (by kernel_rfl) (by kernel_rfl) (by kernel_rfl) (fun _ _ _ h => h) (Ex.move rfl) (ulC (ulS (ulC (ulC (ulC ulN))))) (by decide) ?_
      refine GH.take 6 (v := (.int .i64 (((y : Nat) : Int)))) rfl (by kernel_rfl) (by kernel_rfl) (by kernel_rfl) (fun _ _ _ h => h) (Ex.move rfl) (ulC (ulS (ulC (ulC (ulC ulN))))) (by decide) ?_
      refine GH.take 7 (v := (.bool dn)) rfl (by kernel_rfl) (by kernel_rfl) (by kernel_rfl) (fun _ _ _ h => h) (Ex.move rfl) (ulC (ulS (ulC (ulC (ulC ulN))))) (by decide) ?_
      refine GH.take 8 (v := (.agg #[(.int .i64 (((W : Nat) : Int))), (.int .i64 (((H : Nat) : Int))), (.slice ad n cap), (.int .i64 k), (.int .i64 (((x : Nat) : Int))), (.int .i64 (((y : Nat) : Int))), (.bool dn)])) rfl (by kernel_rfl) (by kernel_rfl) (by kernel_rfl) (fun _ _ _ h => h) (Ex.build (vs := [(0, (.agg #[(.int .i64 (((W : Nat) : Int))), (.int .i64 (((H : Nat) : Int))), (.slice ad n cap)])), (1, (.int .i64 k)), (2, (.int .i64 (((x : Nat) : Int)))), (3, (.int .i64 (((y : Nat) : Int)))), (4, (.bool dn))]) rfl (by first | rfl | kernel_rfl)) (ulC (ulS (ulC (ulC (ulC ulN))))) (by decide) ?_
      refine GH.take 9 (v := (.iface 108 (.agg #[(.int .i64 (((W : Nat) : Int))), (.int .i64 (((H : Nat) : Int))), (.slice ad n cap), (.int .i64 k), (.int .i64 (((x : Nat) : Int))), (.int .i64 (((y : Nat) : Int))), (.bool dn)]))) rfl (by kernel_rfl) (by kernel_rfl) (by kernel_rfl) (fun _ _ _ h => h) (Ex.ifaceS rfl Try.underlying108) (ulC (ulS (ulC (ulC (ulC ulN))))) (by decide) ?_
      refine GH.take 10 (v := (.agg #[])) rfl (by kernel_rfl) (by kernel_rfl) (by kernel_rfl) (fun _ _ _ h => h) (Ex.loadA rfl T.ag96 T.sz96 (i := 2) rfl (vs := []) rfl rfl) (ulC (ulS (ulC (ulC (ulC ulN))))) (by decide) ?_
      refine GH.one 11 rfl (by kernel_rfl) (Stp.callR (vs := [(.iface 108 (.agg #[(.int .i64 (((W : Nat) : Int))), (.int .i64 (((H : Nat) : Int))), (.slice ad n cap), (.int .i64 k), (.int .i64 (((x : Nat) : Int))), (.int .i64 (((y : Nat) : Int))), (.bool dn)])), (.agg #[])]) rfl rfl hf.1 (by decide) (fun wc hw => hf.2 x y wc (by omega) (by omega) hw.1)) (fun _ => (ulC (ulS (ulC (ulC (ulC ulN)))))) (fun xq10 hq11 => ?_)
      refine GH.one 12 rfl (by kernel_rfl) (Stp.buildSlice (cs := [(.int .u32 ((g x y)))]) (vs := [(0, (.int .u32 ((g x y))))]) Try.underlying41 T.zr63 T.sz63 rfl (by decide) (by decide) (by first | rfl | kernel_rfl) (by decide)) (fun _ => (ulS (ulC (ulS (ulC (ulC (ulC ulN))))))) (fun bq12 _ => ?_)
      refine GH.one 13 rfl (by kernel_rfl) (Stp.appendFits (i := 2) (vs := [.int .u32 (g x y)]) (L1 := [⟨bq12, [(.int .u32 ((g x y)))], 63, true⟩, ⟨j.2, [(.int .i64 (((W : Nat) : Int))), (.int .i64 (((H : Nat) : Int))), (.slice (some ⟨j.1, 0, none⟩) (W * y + x) (W * H))], 43, true⟩, ⟨j.1, cur W g (W * H) (W * y + (x + 1)), 63, true⟩, ⟨bq3, [(.int .i64 0), (.int .i64 0), (.slice none 0 0)], 43, true⟩, ⟨bq2, [], 96, true⟩, ⟨bq1, [(.int .i64 (((W : Nat) : Int))), (.int .i64 (((H : Nat) : Int))), (.slice ad n cap)], 43, true⟩]) rfl rfl Try.underlying41 T.sz63 rfl (fun w hw => hw.rdOf (i := 0) rfl 0) rfl rfl (len' := W * y + (x + 1)) rfl (by omega) (by rw [cur_len _ _ _ _ (by omega)]; simp; omega) (by rw [hap]; rfl) (by decide)) (fun _ => (ulS (ulC (ulS (ulC (ulC (ulC ulN))))))) (fun _ _ => ?_)
      refine GH.take 14 (v := (.pointer (some ⟨j.2, 2, none⟩))) rfl (by kernel_rfl) (by kernel_rfl) (by kernel_rfl) (fun _ _ _ h => h) (Ex.cast (Ex.fieldAddr rfl Try.underlying43 rfl T.sz41 (by decide)) rfl) (ulS (ulC (ulS (ulC (ulC (ulC ulN)))))) (by decide) ?_
      refine GH.done (by kernel_rfl) ?_
      refine GE.thenN ?_
      refine GE.tail rfl (Stp.st1 (cs' := [(.int .i64 (((W : Nat) : Int))), (.int .i64 (((H : Nat) : Int))), (.slice (some ⟨j.1, 0, none⟩) (W * y + (x + 1)) (W * H))]) rfl rfl rfl T.sz41 rfl rfl rfl) (fun _ _ => ?_)
      refine GE.blockN ?_
      refine GE.thenN ?_
      refine GC.region ?_
      refine GL.val (v := (.int .i64 (((x + 1 : Nat) : Int)))) (Ex.add rfl rfl (Z := ((x + 1 : Nat) : Int)) (w64 (by omega))) (by decide) ?_
      refine GL.val (Ex.move rfl) (by decide) ?_
      refine GL.nil ?_
      refine GE.thenN ?_
      exact Head.mk (x + 1) (by omega) (by omega) ((sub_cons rfl ((sub_cons rfl ((sub_cons rfl ((sub_cons rfl ((sub_cons rfl ((sub_cons rfl ((sub_cons rfl ((sub_cons rfl ((sub_cons rfl ((sub_cons rfl ((sub_cons rfl ((sub_cons rfl ((sub_cons rfl ((sub_cons rfl ((sub_nil _)))))))))))))))))))))))))))))) (ulS (ulC (ulC (ulC (ulC (ulC ulN))))))
    · replace hq9 := of_decide_eq_false hq9
      have ex : W = x := by omega
      have e2 : W * y + x = W * (y + 1) := by rw [← ex]; rfl
      rw [e2]
      refine GC.exit ?_
      refine GE.thenE ?_
      refine GE.thenE ?_
      refine GE.blockE ?_
      refine GE.blockN ?_
      refine GE.thenN ?_
      refine GC.region ?_
      refine GL.val (v := (.int .i64 (((y + 1 : Nat) : Int)))) (Ex.add rfl rfl (Z := ((y + 1 : Nat) : Int)) (w64 (by omega))) (by decide) ?_
      refine GL.val (Ex.move rfl) (by decide) ?_
      refine GL.nil ?_
      refine GE.thenN ?_
      exact Head.mk (y + 1) (by omega) (by omega) ((sub_cons rfl ((sub_cons rfl ((sub_cons rfl ((sub_cons rfl ((sub_cons rfl ((sub_cons rfl ((sub_cons rfl ((sub_cons rfl ((sub_cons rfl ((sub_cons rfl ((sub_cons rfl ((sub_nil _)))))))))))))))))))))))) (ulC (ulC (ulC (ulC (ulC ulN)))))
  · replace hq8 := of_decide_eq_false hq8
    refine GC.exit ?_
    refine GE.thenE ?_
    refine GE.thenE ?_
    refine GE.blockE ?_
    refine GE.thenN ?_
    refine GC.seq ?_
    refine GC.region ?_
    refine GL.val (v := (.agg #[(.int .i64 (((W : Nat) : Int))), (.int .i64 (((H : Nat) : Int))), (.slice (some ⟨j.1, 0, none⟩) (W * y) (W * H))])) (Ex.loadA rfl T.ag43 T.sz43 (i := 0) rfl (vs := [(.int .i64 (((W : Nat) : Int))), (.int .i64 (((H : Nat) : Int))), (.slice (some ⟨j.1, 0, none⟩) (W * y) (W * H))]) rfl rfl) (by decide) ?_
    refine GL.step (Stp.st2 (cs' := [(.int .i64 (((W : Nat) : Int))), (.int .i64 (((H : Nat) : Int))), (.slice (some ⟨j.1, 0, none⟩) (W * y) (W * H))]) rfl rfl rfl T.sz43 rfl rfl rfl) (fun _ _ => ?_)
    refine GL.nil ?_
    refine GE.thenN ?_
    refine GC.ret ?_
    refine GC.ret1 rfl (Rv.cellA rfl T.ag43 T.sz43 (L := _) (i := 2) rfl (vs := [(.int .i64 (((W : Nat) : Int))), (.int .i64 (((H : Nat) : Int))), (.slice (some ⟨j.1, 0, none⟩) (W * y) (W * H))]) rfl rfl) (fun wN HN => ?_)
    have ey : H = y := by omega
    have e3 : W * y = W * H := by rw [ey]
    rw [e3, cur_full] at HN
    exact HN.ret j.1 trivial (by rw [e3]) (ulS (ulC (ulS (ulS (ulS ulN))))) rfl

set_option maxRecDepth 100000 in
set_option maxHeartbeats 1000000 in
theorem weights2 (r : Nat) (w : World) (hr : r ≤ 7) :
    Calls Try.prog 14 #[(.int .i64 2), (.int .i64 (((r : Nat) : Int)))] w (Ret w (fun _ : Nat => True) (fun b => .tuple #[.slice (some ⟨b, 0, none⟩) (2 * r + 1) (2 * r + 1), .int .i64 0]) (fun b => [⟨b, wl (2 * r + 1) (fun _ => 1), 3, true⟩])) := by
  refine enter (M := None) (L := []) (n := 64) (l := [(0, (.int .i64 2)), (1, (.int .i64 (((r : Nat) : Int))))]) Try.func14 rfl rfl (Args.cons rfl (Args.cons rfl (Args.nil _))) (Hp.start _ _) ?_
  refine GC.seq ?_
  refine GC.region ?_
  refine GL.val (Ex.assign rfl) (by decide) ?_
  refine GL.val (Ex.assign rfl) (by decide) ?_
  refine GL.nil ?_
  refine GE.thenN ?_
  refine GC.seq ?_
  refine GC.seq ?_
  refine GC.region ?_
  refine GL.val (Ex.move rfl) (by decide) ?_
  refine GL.val (v := (.bool false)) (Ex.cast (Ex.lss rfl rfl) (congrArg Value.bool (decide_eq_false (by omega)))) (by decide) ?_
  refine GL.val (Ex.move rfl) (by decide) ?_
  refine GL.stepG (tj := 12) rfl rfl (Ex.wp (v := (.int .i64 (((r : Nat) : Int)))) (Ex.move rfl) (by decide)) (fun _ _ => ?_)
  refine GL.stepG (tj := 12) rfl rfl (Ex.wp (v := (.bool false)) (Ex.cast (Ex.gtr rfl rfl) (congrArg Value.bool (decide_eq_false (by omega)))) (by decide)) (fun _ _ => ?_)
  refine GL.val (v := (.bool false)) (Ex.pickF rfl rfl) (by decide) ?_
  refine GL.val (Ex.move rfl) (by decide) ?_
  refine GL.stepG (tj := 16) rfl rfl (Ex.wp (v := (.int .i64 2)) (Ex.move rfl) (by decide)) (fun _ _ => ?_)
  refine GL.stepG (tj := 16) rfl rfl (Ex.wp (v := (.bool true)) (Ex.cast (Ex.neq rfl rfl) rfl) (by decide)) (fun _ _ => ?_)
  refine GL.stepG (tj := 16) rfl rfl (Ex.wp (v := (.bool true)) (Ex.move rfl) (by decide)) (fun _ _ => ?_)
  refine GL.stepG (tj := 19) rfl rfl (Ex.wp (v := (.int .i64 2)) (Ex.move rfl) (by decide)) (fun _ _ => ?_)
  refine GL.stepG (tj := 19) rfl rfl (Ex.wp (v := (.bool false)) (Ex.cast (Ex.neq rfl rfl) rfl) (by decide)) (fun _ _ => ?_)
  refine GL.stepG (tj := 16) rfl rfl (Ex.wp (v := (.bool false)) (Ex.pickT rfl rfl) (by decide)) (fun _ _ => ?_)
  refine GL.val (v := (.bool false)) (Ex.pickF rfl rfl) (by decide) ?_
  refine GL.nil ?_
  refine GE.thenN ?_
  refine GC.cond rfl (fun hq1 => by cases hq1) (fun _ => ?_)
  refine GC.skip ?_
  refine GE.thenN ?_
  refine GC.seq ?_
  refine GC.region ?_
  refine GL.val (Ex.move rfl) (by decide) ?_
  refine GL.val (v := (.int .i64 (((2 * r : Nat) : Int)))) (Ex.mul rfl rfl (Z := ((2 * r : Nat) : Int)) (by rw [w64 (by omega)]; omega)) (by decide) ?_
  refine GL.val (v := (.int .i64 (((2 * r + 1 : Nat) : Int)))) (Ex.add rfl rfl (Z := ((2 * r + 1 : Nat) : Int)) (by rw [w64 (by omega)]; omega)) (by decide) ?_
  refine GL.step (Stp.makeSlice (a1 := 2 * r + 1) (c := 2 * r + 1) rfl rfl Try.underlying28 T.zr3 T.sz3 T.by3 rfl (Nat.le_refl _) (by omega) (by omega) (by decide)) (fun bq2 _ => ?_)
  rw [madeOne, wl_zero]
  refine GL.val (Ex.assign rfl) (by decide) ?_
  refine GL.nil ?_
  refine GE.thenN ?_
  refine GC.seq ?_
  refine GC.seq ?_
  rw [show wl (2 * r + 1) (fun _ => (0 : Int)) = wl (2 * r + 1) (fun j => if j < 0 then 1 else 0) from wl_congr fun j hj => by simp]
  refine GC.region ?_
  refine GL.val (Ex.move rfl) (by decide) ?_
  refine GL.val (v := (.int .i64 (((2 * r + 1) : Int)))) (Ex.len rfl Try.underlying28) (by decide) ?_
  refine GL.val (Ex.move rfl) (by decide) ?_
  refine GL.nil ?_
  refine GE.thenN ?_
  refine GC.block ?_
  refine GC.loop (σ := Nat) (fun k => k ≤ 2 * r + 1) (fun k => [(0, (.int .i64 2)), (1, (.int .i64 (((r : Nat) : Int)))), (4, (.slice none 0 0)), (5, (.int .i64 0)), (6, (.slice (some ⟨bq2, 0, none⟩) (2 * r + 1) (2 * r + 1))), (29, (.int .i64 (((2 * r + 1) : Int)))), (30, (.int .i64 (((k : Nat) : Int))))]) (fun k => [⟨bq2, wl (2 * r + 1) (fun j => if j < k then 1 else 0), 3, true⟩]) (fun k => 2 * r + 1 - k) (0) (Nat.zero_le _) ((sub_cons rfl ((sub_cons rfl ((sub_cons rfl ((sub_cons rfl ((sub_cons rfl ((sub_cons rfl ((sub_cons rfl ((sub_nil _)))))))))))))))) (ulC ulN) (fun k hp => ?_)
  refine GC.seq ?_
  refine GC.region ?_
  refine GL.val (v := (.bool (decide ((((k : Nat) : Int)) < (((2 * r + 1) : Int)))))) (Ex.lss rfl rfl) (by decide) ?_
  refine GL.nil ?_
  refine GE.thenN ?_
  refine GC.seq ?_
  refine GC.cond rfl (fun hq3 => ?_) (fun hq3 => ?_)
  · replace hq3 := of_decide_eq_true hq3
    refine GC.skip ?_
    refine GE.thenN ?_
    refine GC.seq ?_
    refine GC.block ?_
    refine GC.seq ?_
    refine GC.region ?_
    refine GL.val (Ex.move rfl) (by decide) ?_
    refine GL.val (Ex.assign rfl) (by decide) ?_
    refine GL.nil ?_
    refine GE.thenN ?_
    refine GC.region ?_
    refine GL.val (Ex.move rfl) (by decide) ?_
    refine GL.val (Ex.move rfl) (by decide) ?_
    refine GL.val (v := (.pointer (some ⟨bq2, k, none⟩))) (Ex.cast (Ex.indexAddr rfl rfl Try.underlying28 T.sz3 (by omega) (by omega)) (by simp)) (by decide) ?_
    refine GL.step (Stp.storeL (i := 0) (cs := wl (2 * r + 1) (fun j => if j < k then 1 else 0)) (vs := [.int .i64 1]) (o := k) (L1 := [⟨bq2, wl (2 * r + 1) (fun j => if j < k + 1 then 1 else 0), 3, true⟩]) rfl rfl rfl T.sz3 rfl (Nat.ble_eq_true_of_le (by rw [wl_len]; simp; omega)) rfl (by rw [one_store (by omega)]; rfl)) (fun _ _ => ?_)
    refine GL.nil ?_
    refine GE.blockN ?_
    refine GE.thenN ?_
    refine GC.region ?_
    refine GL.val (v := (.int .i64 (((k + 1 : Nat) : Int)))) (Ex.add rfl rfl (Z := ((k + 1 : Nat) : Int)) (by rw [w64 (by omega)]; omega)) (by decide) ?_
    refine GL.val (Ex.move rfl) (by decide) ?_
    refine GL.nil ?_
    refine GE.thenN ?_
    exact Head.mk (k + 1) (by omega) (by omega) ((sub_cons rfl ((sub_cons rfl ((sub_cons rfl ((sub_cons rfl ((sub_cons rfl ((sub_cons rfl ((sub_cons rfl ((sub_nil _)))))))))))))))) (ulC ulN)
  · replace hq3 := of_decide_eq_false hq3
    refine GC.exit ?_
    refine GE.thenE ?_
    refine GE.thenE ?_
    refine GE.blockE ?_
    refine GE.thenN ?_
    refine GC.seq ?_
    refine GC.seq ?_
    have ek : k = 2 * r + 1 := by omega
    rw [ek, one_full]
    refine GC.region ?_
    refine GL.val (Ex.move rfl) (by decide) ?_
    refine GL.val (v := (.bool true)) (Ex.cast (Ex.eql rfl rfl) rfl) (by decide) ?_
    refine GL.nil ?_
    refine GE.thenN ?_
    refine GC.cond rfl (fun _ => ?_) (fun hq4 => by cases hq4)
    refine GC.seq ?_
    refine GC.region ?_
    refine GL.val (Ex.move rfl) (by decide) ?_
    refine GL.val (Ex.assign rfl) (by decide) ?_
    refine GL.val (Ex.assign rfl) (by decide) ?_
    refine GL.nil ?_
    refine GE.thenN ?_
    refine GC.ret ?_
    refine GE.thenR ?_
    refine GC.ret2 rfl (Rv.tmp rfl) (Rv.tmp rfl) (fun wN HN => ?_)
    exact HN.ret bq2 trivial rfl (ulC ulN) rfl

set_option maxRecDepth 100000 in
set_option maxHeartbeats 1000000 in
theorem weights1 (r : Nat) (w : World) (hr : r ≤ 7) :
    Calls Try.prog 14 #[(.int .i64 1), (.int .i64 (((r : Nat) : Int)))] w (Ret w (fun _ : Nat => True) (fun b => .tuple #[.slice (some ⟨b, 0, none⟩) (2 * r + 1) (2 * r + 1), .int .i64 0]) (fun b => [⟨b, wl (2 * r + 1) (pv (2 * r)), 3, true⟩])) := by
  refine enter (M := None) (L := []) (n := 64) (l := [(0, (.int .i64 1)), (1, (.int .i64 (((r : Nat) : Int))))]) Try.func14 rfl rfl (Args.cons rfl (Args.cons rfl (Args.nil _))) (Hp.start _ _) ?_
  refine GC.seq ?_
  refine GC.region ?_
  refine GL.val (Ex.assign rfl) (by decide) ?_
  refine GL.val (Ex.assign rfl) (by decide) ?_
  refine GL.nil ?_
  refine GE.thenN ?_
  refine GC.seq ?_
  refine GC.seq ?_
  refine GC.region ?_
  refine GL.val (Ex.move rfl) (by decide) ?_
  refine GL.val (v := (.bool false)) (Ex.cast (Ex.lss rfl rfl) (congrArg Value.bool (decide_eq_false (by omega)))) (by decide) ?_
  refine GL.val (Ex.move rfl) (by decide) ?_
  refine GL.stepG (tj := 12) rfl rfl (Ex.wp (v := (.int .i64 (((r : Nat) : Int)))) (Ex.move rfl) (by decide)) (fun _ _ => ?_)
  refine GL.stepG (tj := 12) rfl rfl (Ex.wp (v := (.bool false)) (Ex.cast (Ex.gtr rfl rfl) (congrArg Value.bool (decide_eq_false (by omega)))) (by decide)) (fun _ _ => ?_)
  refine GL.val (v := (.bool false)) (Ex.pickF rfl rfl) (by decide) ?_
  refine GL.val (Ex.move rfl) (by decide) ?_
  refine GL.stepG (tj := 16) rfl rfl (Ex.wp (v := (.int .i64 1)) (Ex.move rfl) (by decide)) (fun _ _ => ?_)
  refine GL.stepG (tj := 16) rfl rfl (Ex.wp (v := (.bool false)) (Ex.cast (Ex.neq rfl rfl) rfl) (by decide)) (fun _ _ => ?_)
  refine GL.stepG (tj := 16) rfl rfl (Ex.wp (v := (.bool false)) (Ex.move rfl) (by decide)) (fun _ _ => ?_)
  refine GL.skipG (tj := 19) rfl rfl rfl (by decide) ?_
  refine GL.skipG (tj := 19) rfl rfl rfl (by decide) ?_
  refine GL.stepG (tj := 16) rfl rfl (Ex.wp (v := (.bool false)) (Ex.pickF rfl rfl) (by decide)) (fun _ _ => ?_)
  refine GL.val (v := (.bool false)) (Ex.pickF rfl rfl) (by decide) ?_
  refine GL.nil ?_
  refine GE.thenN ?_
  refine GC.cond rfl (fun hq1 => by cases hq1) (fun _ => ?_)
  refine GC.skip ?_
  refine GE.thenN ?_
  refine GC.seq ?_
  refine GC.region ?_
  refine GL.val (Ex.move rfl) (by decide) ?_
  refine GL.val (v := (.int .i64 (((2 * r : Nat) : Int)))) (Ex.mul rfl rfl (Z := ((2 * r : Nat) : Int)) (by rw [w64 (by omega)]; omega)) (by decide) ?_
  refine GL.val (v := (.int .i64 (((2 * r + 1 : Nat) : Int)))) (Ex.add rfl rfl (Z := ((2 * r + 1 : Nat) : Int)) (by rw [w64 (by omega)]; omega)) (by decide) ?_
  refine GL.step (Stp.makeSlice (a1 := 2 * r + 1) (c := 2 * r + 1) rfl rfl Try.underlying28 T.zr3 T.sz3 T.by3 rfl (Nat.le_refl _) (by omega) (by omega) (by decide)) (fun bq2 _ => ?_)
  rw [madeOne, wl_zero]
  refine GL.val (Ex.assign rfl) (by decide) ?_
  refine GL.nil ?_
  refine GE.thenN ?_
  refine GC.seq ?_
  refine GC.seq ?_
  rw [show wl (2 * r + 1) (fun _ => (0 : Int)) = wl (2 * r + 1) (fun j => if j < 0 then 1 else 0) from wl_congr fun j hj => by simp]
  refine GC.region ?_
  refine GL.val (Ex.move rfl) (by decide) ?_
  refine GL.val (v := (.int .i64 (((2 * r + 1) : Int)))) (Ex.len rfl Try.underlying28) (by decide) ?_
  refine GL.val (Ex.move rfl) (by decide) ?_
  refine GL.nil ?_
  refine GE.thenN ?_
  refine GC.block ?_
  refine GC.loop (σ := Nat) (fun k => k ≤ 2 * r + 1) (fun k => [(0, (.int .i64 1)), (1, (.int .i64 (((r : Nat) : Int)))), (4, (.slice none 0 0)), (5, (.int .i64 0)), (6, (.slice (some ⟨bq2, 0, none⟩) (2 * r + 1) (2 * r + 1))), (29, (.int .i64 (((2 * r + 1) : Int)))), (30, (.int .i64 (((k : Nat) : Int))))]) (fun k => [⟨bq2, wl (2 * r + 1) (fun j => if j < k then 1 else 0), 3, true⟩]) (fun k => 2 * r + 1 - k) (0) (Nat.zero_le _) ((sub_cons rfl ((sub_cons rfl ((sub_cons rfl ((sub_cons rfl ((sub_cons rfl ((sub_cons rfl ((sub_cons rfl ((sub_nil _)))))))))))))))) (ulC ulN) (fun k hp => ?_)
  refine GC.seq ?_
  refine GC.region ?_
  refine GL.val (v := (.bool (decide ((((k : Nat) : Int)) < (((2 * r + 1) : Int)))))) (Ex.lss rfl rfl) (by decide) ?_
  refine GL.nil ?_
  refine GE.thenN ?_
  refine GC.seq ?_
  refine GC.cond rfl (fun hq3 => ?_) (fun hq3 => ?_)
  · replace hq3 := of_decide_eq_true hq3
    refine GC.skip ?_
    refine GE.thenN ?_
    refine GC.seq ?_
    refine GC.block ?_
    refine GC.seq ?_
    refine GC.region ?_
    refine GL.val (Ex.move rfl) (by decide) ?_
    refine GL.val (Ex.assign rfl) (by decide) ?_
    refine GL.nil ?_
    refine GE.thenN ?_
    refine GC.region ?_
    refine GL.val (Ex.move rfl) (by decide) ?_
    refine GL.val (Ex.move rfl) (by decide) ?_
    refine GL.val (v := (.pointer (some ⟨bq2, k, none⟩))) (Ex.cast (Ex.indexAddr rfl rfl Try.underlying28 T.sz3 (by omega) (by omega)) (by simp)) (by decide) ?_
    refine GL.step (Stp.storeL (i := 0) (cs := wl (2 * r + 1) (fun j => if j < k then 1 else 0)) (vs := [.int .i64 1]) (o := k) (L1 := [⟨bq2, wl (2 * r + 1) (fun j => if j < k + 1 then 1 else 0), 3, true⟩]) rfl rfl rfl T.sz3 rfl (Nat.ble_eq_true_of_le (by rw [wl_len]; simp; omega)) rfl (by rw [one_store (by omega)]; rfl)) (fun _ _ => ?_)
    refine GL.nil ?_
    refine GE.blockN ?_
    refine GE.thenN ?_
    refine GC.region ?_
    refine GL.val (v := (.int .i64 (((k + 1 : Nat) : Int)))) (Ex.add rfl rfl (Z := ((k + 1 : Nat) : Int)) (by rw [w64 (by omega)]; omega)) (by decide) ?_
    refine GL.val (Ex.move rfl) (by decide) ?_
    refine GL.nil ?_
    refine GE.thenN ?_
    exact Head.mk (k + 1) (by omega) (by omega) ((sub_cons rfl ((sub_cons rfl ((sub_cons rfl ((sub_cons rfl ((sub_cons rfl ((sub_cons rfl ((sub_cons rfl ((sub_nil _)))))))))))))))) (ulC ulN)
  · replace hq3 := of_decide_eq_false hq3
    refine GC.exit ?_
    refine GE.thenE ?_
    refine GE.thenE ?_
    refine GE.blockE ?_
    refine GE.thenN ?_
    refine GC.seq ?_
    refine GC.seq ?_
    have ek : k = 2 * r + 1 := by omega
    rw [ek, one_full]
    refine GC.region ?_
    refine GL.val (Ex.move rfl) (by decide) ?_
    refine GL.val (v := (.bool false)) (Ex.cast (Ex.eql rfl rfl) rfl) (by decide) ?_
    refine GL.nil ?_
    refine GE.thenN ?_
    refine GC.cond rfl (fun hq4 => by cases hq4) (fun _ => ?_)
    refine GC.skip ?_
    refine GE.thenN ?_
    refine GC.seq ?_
    refine GC.seq ?_
    rw [one_pv]
    refine GC.region ?_
    refine GL.val (Ex.assign rfl) (by decide) ?_
    refine GL.nil ?_
    refine GE.thenN ?_
    refine GC.block ?_
    refine GC.loop (σ := Nat) (fun n => 1 ≤ n ∧ n ≤ 2 * r + 1) (fun n => [(0, (.int .i64 1)), (1, (.int .i64 (((r : Nat) : Int)))), (4, (.slice none 0 0)), (5, (.int .i64 0)), (6, (.slice (some ⟨bq2, 0, none⟩) (2 * r + 1) (2 * r + 1))), (8, (.int .i64 (((n : Nat) : Int))))]) (fun n => [⟨bq2, wl (2 * r + 1) (pv (n - 1)), 3, true⟩]) (fun n => 2 * r + 1 - n) (1) ⟨Nat.le_refl _, by omega⟩ ((sub_cons rfl ((sub_cons rfl ((sub_cons rfl ((sub_cons rfl ((sub_cons rfl ((sub_cons rfl ((sub_nil _)))))))))))))) (ulC ulN) (fun n hp => ?_)
    refine GC.seq ?_
    refine GC.seq ?_
    refine GC.region ?_
    refine GL.val (Ex.move rfl) (by decide) ?_
    refine GL.val (Ex.move rfl) (by decide) ?_
    refine GL.val (v := (.int .i64 (((2 * r : Nat) : Int)))) (Ex.mul rfl rfl (Z := ((2 * r : Nat) : Int)) (by rw [w64 (by omega)]; omega)) (by decide) ?_
    refine GL.val (v := (.bool (decide ((((n : Nat) : Int)) ≤ (((2 * r : Nat) : Int)))))) (Ex.leq rfl rfl) (by decide) ?_
    refine GL.nil ?_
    refine GE.thenN ?_
    refine GC.cond rfl (fun hq5 => ?_) (fun hq5 => ?_)
    · replace hq5 := of_decide_eq_true hq5
      refine GC.skip ?_
      refine GE.thenN ?_
      refine GC.seq ?_
      refine GC.block ?_
      refine GC.seq ?_
      rw [show wl (2 * r + 1) (pv (n - 1)) = wl (2 * r + 1) (mid n (n - 1)) from mid_start (by omega) (by omega)]
      refine GC.region ?_
      refine GL.val (Ex.move rfl) (by decide) ?_
      refine GL.val (v := (.int .i64 (((n - 1 : Nat) : Int)))) (Ex.sub' rfl rfl (Z := ((n - 1 : Nat) : Int)) (subN (b := 1) (by omega) (by omega))) (by decide) ?_
      refine GL.val (Ex.assign rfl) (by decide) ?_
      refine GL.nil ?_
      refine GE.thenN ?_
      refine GC.block ?_
      refine GC.loop (σ := Nat) (fun i => i < n) (fun i => [(0, (.int .i64 1)), (1, (.int .i64 (((r : Nat) : Int)))), (4, (.slice none 0 0)), (5, (.int .i64 0)), (6, (.slice (some ⟨bq2, 0, none⟩) (2 * r + 1) (2 * r + 1))), (8, (.int .i64 (((n : Nat) : Int)))), (9, (.int .i64 (((i : Nat) : Int))))]) (fun i => [⟨bq2, wl (2 * r + 1) (mid n i), 3, true⟩]) (fun i => i) (n - 1) (by omega) ((sub_cons rfl ((sub_cons rfl ((sub_cons rfl ((sub_cons rfl ((sub_cons rfl ((sub_cons rfl ((sub_cons rfl ((sub_nil _)))))))))))))))) (ulC ulN) (fun i hp => ?_)
      refine GC.seq ?_
      refine GC.seq ?_
      refine GC.region ?_
      refine GL.val (Ex.move rfl) (by decide) ?_
      refine GL.val (v := (.bool (decide (0 < (((i : Nat) : Int)))))) (Ex.gtr rfl rfl) (by decide) ?_
      refine GL.nil ?_
      refine GE.thenN ?_
      refine GC.cond rfl (fun hq6 => ?_) (fun hq6 => ?_)
      · replace hq6 := of_decide_eq_true hq6
        refine GC.skip ?_
        refine GE.thenN ?_
        refine GC.seq ?_
        refine GC.block ?_
        refine GC.drawP [⟨bq2, wl (2 * r + 1) (mid n i), 3, true⟩] T.mixed (by kernel_rfl) (by kernel_rfl) (fuel := 11) rfl rfl ?_
        refine GH.take 0 (v := (.slice (some ⟨bq2, 0, none⟩) (2 * r + 1) (2 * r + 1))) rfl (by kernel_rfl) (by kernel_rfl) (by kernel_rfl) (fun _ _ _ h => h) (Ex.move rfl) (ulC ulN) (by decide) ?_
        refine GH.take 1 (v := (.int .i64 (((i : Nat) : Int)))) rfl (by kernel_rfl) (by kernel_rfl) (by kernel_rfl) (fun _ _ _ h => h) (Ex.move rfl) (ulC ulN) (by decide) ?_
        refine GH.take 2 (v := (.pointer (some ⟨bq2, i, none⟩))) rfl (by kernel_rfl) (by kernel_rfl) (by kernel_rfl) (fun _ _ _ h => h) (Ex.cast (Ex.indexAddr rfl rfl Try.underlying28 T.sz3 (by omega) (by omega)) (by simp)) (ulC ulN) (by decide) ?_
        refine GH.take 3 (v := (.int .i64 ((mid n i i)))) rfl (by kernel_rfl) (by kernel_rfl) (by kernel_rfl) (fun _ _ _ h => h) (Ex.load rfl T.ag3 (i := 0) rfl (wl_at (by omega))) (ulC ulN) (by decide) ?_
        refine GH.take 4 (v := (.slice (some ⟨bq2, 0, none⟩) (2 * r + 1) (2 * r + 1))) rfl (by kernel_rfl) (by kernel_rfl) (by kernel_rfl) (fun _ _ _ h => h) (Ex.move rfl) (ulC ulN) (by decide) ?_
        refine GH.take 5 (v := (.int .i64 (((i : Nat) : Int)))) rfl (by kernel_rfl) (by kernel_rfl) (by kernel_rfl) (fun _ _ _ h => h) (Ex.move rfl) (ulC ulN) (by decide) ?_
        refine GH.take 6 (v := (.int .i64 (((i - 1 : Nat) : Int)))) rfl (by kernel_rfl) (by kernel_rfl) (by kernel_rfl) (fun _ _ _ h => h) (Ex.sub' rfl rfl (Z := ((i - 1 : Nat) : Int)) (subN (b := 1) (by omega) (by omega))) (ulC ulN) (by decide) ?_
        refine GH.take 7 (v := (.pointer (some ⟨bq2, (((i - 1 : Nat) : Int)).toNat, none⟩))) rfl (by kernel_rfl) (by kernel_rfl) (by kernel_rfl) (fun _ _ _ h => h) (Ex.cast (Ex.indexAddr rfl rfl Try.underlying28 T.sz3 (by omega) (by omega)) (by simp)) (ulC ulN) (by decide) ?_
        refine GH.take 8 (v := (.int .i64 ((mid n i ((((i - 1 : Nat) : Int)).toNat))))) rfl (by kernel_rfl) (by kernel_rfl) (by kernel_rfl) (fun _ _ _ h => h) (Ex.load rfl T.ag3 (i := 0) rfl (wl_at (by omega))) (ulC ulN) (by decide) ?_
        refine GH.take 9 (v := (.int .i64 ((pv n i)))) rfl (by kernel_rfl) (by kernel_rfl) (by kernel_rfl) (fun _ _ _ h => h) (Ex.add rfl rfl (Z := (pv n i)) (mid_add (by omega) (by omega) (by omega))) (ulC ulN) (by decide) ?_
        refine GH.take 10 (v := (.pointer (some ⟨bq2, i, none⟩))) rfl (by kernel_rfl) (by kernel_rfl) (by kernel_rfl) (fun _ _ _ h => h) (Ex.cast (Ex.indexAddr rfl rfl Try.underlying28 T.sz3 (by omega) (by omega)) (by simp)) (ulC ulN) (by decide) ?_
        refine GH.done (by kernel_rfl) ?_
        refine GE.thenN ?_
        refine GE.tail rfl (Stp.storeL (i := 0) (cs := wl (2 * r + 1) (mid n i)) (vs := [.int .i64 (pv n i)]) (o := i) (L1 := [⟨bq2, wl (2 * r + 1) (mid n (i - 1)), 3, true⟩]) rfl rfl rfl T.sz3 rfl (Nat.ble_eq_true_of_le (by rw [wl_len]; simp; omega)) rfl (by rw [mid_store (by omega) (by omega)]; rfl)) (fun _ _ => ?_)
        refine GE.blockN ?_
        refine GE.thenN ?_
        refine GC.region ?_
        refine GL.val (Ex.move rfl) (by decide) ?_
        refine GL.val (v := (.int .i64 (((i - 1 : Nat) : Int)))) (Ex.sub' rfl rfl (Z := ((i - 1 : Nat) : Int)) (subN (b := 1) (by omega) (by omega))) (by decide) ?_
        refine GL.val (Ex.assign rfl) (by decide) ?_
        refine GL.nil ?_
        refine GE.thenN ?_
        exact Head.mk (i - 1) (by omega) (by omega) ((sub_cons rfl ((sub_cons rfl ((sub_cons rfl ((sub_cons rfl ((sub_cons rfl ((sub_cons rfl ((sub_cons rfl ((sub_nil _)))))))))))))))) (ulC ulN)
      · replace hq6 := of_decide_eq_false hq6
        have ei : i = 0 := by omega
        rw [ei, mid_end (by omega)]
        refine GC.exit ?_
        refine GE.thenE ?_
        refine GE.thenE ?_
        refine GE.blockE ?_
        refine GE.blockN ?_
        refine GE.thenN ?_
        refine GC.region ?_
        refine GL.val (Ex.move rfl) (by decide) ?_
        refine GL.val (v := (.int .i64 (((n + 1 : Nat) : Int)))) (Ex.add rfl rfl (Z := ((n + 1 : Nat) : Int)) (by rw [w64 (by omega)]; omega)) (by decide) ?_
        refine GL.val (Ex.assign rfl) (by decide) ?_
        refine GL.nil ?_
        refine GE.thenN ?_
        exact Head.mk (n + 1) ⟨by omega, by omega⟩ (by omega) ((sub_cons rfl ((sub_cons rfl ((sub_cons rfl ((sub_cons rfl ((sub_cons rfl ((sub_cons rfl ((sub_nil _)))))))))))))) (ulC ulN)
    · replace hq5 := of_decide_eq_false hq5
      refine GC.exit ?_
      refine GE.thenE ?_
      refine GE.thenE ?_
      refine GE.blockE ?_
      refine GE.thenN ?_
      refine GC.seq ?_
      refine GC.region ?_
      refine GL.val (Ex.move rfl) (by decide) ?_
      refine GL.val (Ex.assign rfl) (by decide) ?_
      refine GL.val (Ex.assign rfl) (by decide) ?_
      refine GL.nil ?_
      refine GE.thenN ?_
      refine GC.ret ?_
      refine GC.ret2 rfl (Rv.tmp rfl) (Rv.tmp rfl) (fun wN HN => ?_)
      rw [show n - 1 = 2 * r from by omega] at HN
      exact HN.ret bq2 trivial rfl (ulC ulN) rfl

set_option maxRecDepth 100000 in
set_option maxHeartbeats 1000000 in
theorem ints_eq (b1 b2 n c1 c2 : Nat) (f : Nat → Int) (sp : List Value) (w : World) (hn : n ≤ 1000) (hh : Has w [⟨b1, wl n f, 3, false⟩, ⟨b2, wl n f ++ sp, 3, false⟩]) :
    Calls Try.prog 16 #[(.slice (some ⟨b1, 0, none⟩) n c1), (.slice (some ⟨b2, 0, none⟩) n c2)] w (Ret w (fun _ : Unit => True) (fun _ => .bool true) (fun _ => [])) := by
  refine enter (M := None) (L := [⟨b1, wl n f, 3, false⟩, ⟨b2, wl n f ++ sp, 3, false⟩]) (n := 26) (l := [(0, (.slice (some ⟨b1, 0, none⟩) n c1)), (1, (.slice (some ⟨b2, 0, none⟩) n c2))]) Try.func16 rfl rfl (Args.cons rfl (Args.cons rfl (Args.nil _))) (Hp.reads hh rfl) ?_
  refine GC.seq ?_
  refine GC.region ?_
  refine GL.val (Ex.assign rfl) (by decide) ?_
  refine GL.nil ?_
  refine GE.thenN ?_
  refine GC.seq ?_
  refine GC.seq ?_
  refine GC.region ?_
  refine GL.val (Ex.move rfl) (by decide) ?_
  refine GL.val (v := (.int .i64 ((n : Int)))) (Ex.len rfl Try.underlying28) (by decide) ?_
  refine GL.val (Ex.move rfl) (by decide) ?_
  refine GL.val (v := (.int .i64 ((n : Int)))) (Ex.len rfl Try.underlying28) (by decide) ?_
  refine GL.val (v := (.bool false)) (Ex.cast (Ex.neq rfl rfl) (congrArg Value.bool (decide_eq_false (by simp)))) (by decide) ?_
  refine GL.nil ?_
  refine GE.thenN ?_
  refine GC.cond rfl (fun hq1 => by cases hq1) (fun _ => ?_)
  refine GC.skip ?_
  refine GE.thenN ?_
  refine GC.seq ?_
  refine GC.seq ?_
  refine GC.region ?_
  refine GL.val (Ex.assign rfl) (by decide) ?_
  refine GL.nil ?_
  refine GE.thenN ?_
  refine GC.block ?_
  refine GC.loop (σ := Nat) (fun k => k ≤ n) (fun k => [(0, (.slice (some ⟨b1, 0, none⟩) n c1)), (1, (.slice (some ⟨b2, 0, none⟩) n c2)), (4, (.bool false)), (5, (.int .i64 (((k : Nat) : Int))))]) (fun k => [⟨b1, wl n f, 3, false⟩, ⟨b2, wl n f ++ sp, 3, false⟩]) (fun k => n - k) (0) (Nat.zero_le _) ((sub_cons rfl ((sub_cons rfl ((sub_cons rfl ((sub_cons rfl ((sub_nil _)))))))))) (ulC (ulC ulN)) (fun k hp => ?_)
  refine GC.seq ?_
  refine GC.seq ?_
  refine GC.region ?_
  refine GL.val (Ex.move rfl) (by decide) ?_
  refine GL.val (Ex.move rfl) (by decide) ?_
  refine GL.val (v := (.int .i64 ((n : Int)))) (Ex.len rfl Try.underlying28) (by decide) ?_
  refine GL.val (v := (.bool (decide ((((k : Nat) : Int)) < ((n : Int)))))) (Ex.lss rfl rfl) (by decide) ?_
  refine GL.nil ?_
  refine GE.thenN ?_
  refine GC.cond rfl (fun hq2 => ?_) (fun hq2 => ?_)
  · replace hq2 := of_decide_eq_true hq2
    refine GC.skip ?_
    refine GE.thenN ?_
    refine GC.seq ?_
    refine GC.block ?_
    refine GC.seq ?_
    refine GC.draw [⟨b1, wl n f, 3, false⟩, ⟨b2, wl n f ++ sp, 3, false⟩] T.mixed (fuel := 9) rfl rfl ?_
    refine GH.take 0 (v := (.slice (some ⟨b1, 0, none⟩) n c1)) rfl (by kernel_rfl) (by kernel_rfl) (by kernel_rfl) (fun _ _ _ h => h) (Ex.move rfl) (ulC (ulC ulN)) (by decide) ?_
    refine GH.take 1 (v := (.int .i64 (((k : Nat) : Int)))) rfl (by kernel_rfl) (by kernel_rfl) (by kernel_rfl) (fun _ _ _ h => h) (Ex.move rfl) (ulC (ulC ulN)) (by decide) ?_
    refine GH.take 2 (v := (.pointer (some ⟨b1, k, none⟩))) rfl (by kernel_rfl) (by kernel_rfl) (by kernel_rfl) (fun _ _ _ h => h) (Ex.cast (Ex.indexAddr rfl rfl Try.underlying28 T.sz3 (by omega) (by omega)) (by simp)) (ulC (ulC ulN)) (by decide) ?_
    refine GH.take 3 (v := (.int .i64 ((f k)))) rfl (by kernel_rfl) (by kernel_rfl) (by kernel_rfl) (fun _ _ _ h => h) (Ex.load rfl T.ag3 (i := 0) rfl (wl_at (by omega))) (ulC (ulC ulN)) (by decide) ?_
    refine GH.take 4 (v := (.slice (some ⟨b2, 0, none⟩) n c2)) rfl (by kernel_rfl) (by kernel_rfl) (by kernel_rfl) (fun _ _ _ h => h) (Ex.move rfl) (ulC (ulC ulN)) (by decide) ?_
    refine GH.take 5 (v := (.int .i64 (((k : Nat) : Int)))) rfl (by kernel_rfl) (by kernel_rfl) (by kernel_rfl) (fun _ _ _ h => h) (Ex.move rfl) (ulC (ulC ulN)) (by decide) ?_
    refine GH.take 6 (v := (.pointer (some ⟨b2, k, none⟩))) rfl (by kernel_rfl) (by kernel_rfl) (by kernel_rfl) (fun _ _ _ h => h) (Ex.cast (Ex.indexAddr rfl rfl Try.underlying28 T.sz3 (by omega) (by omega)) (by simp)) (ulC (ulC ulN)) (by decide) ?_
    refine GH.take 7 (v := (.int .i64 ((f k)))) rfl (by kernel_rfl) (by kernel_rfl) (by kernel_rfl) (fun _ _ _ h => h) (Ex.load rfl T.ag3 (i := 1) rfl (wl_at' sp (by omega))) (ulC (ulC ulN)) (by decide) ?_
    refine GH.take 8 (v := (.bool false)) rfl (by kernel_rfl) (by kernel_rfl) (by kernel_rfl) (fun _ _ _ h => h) (Ex.cast (Ex.neq rfl rfl) (congrArg Value.bool (decide_eq_false (by simp)))) (ulC (ulC ulN)) (by decide) ?_
    refine GH.done (by kernel_rfl) ?_
    refine GE.thenN ?_
    refine GC.cond rfl (fun hq3 => by cases hq3) (fun _ => ?_)
    refine GC.skip ?_
    refine GE.blockN ?_
    refine GE.thenN ?_
    refine GC.region ?_
    refine GL.val (Ex.move rfl) (by decide) ?_
    refine GL.val (v := (.int .i64 (((k + 1 : Nat) : Int)))) (Ex.add rfl rfl (Z := ((k + 1 : Nat) : Int)) (w64 (by omega))) (by decide) ?_
    refine GL.val (Ex.assign rfl) (by decide) ?_
    refine GL.nil ?_
    refine GE.thenN ?_
    exact Head.mk (k + 1) (by omega) (by omega) ((sub_cons rfl ((sub_cons rfl ((sub_cons rfl ((sub_cons rfl ((sub_nil _)))))))))) (ulC (ulC ulN))
  · replace hq2 := of_decide_eq_false hq2
    refine GC.exit ?_
    refine GE.thenE ?_
    refine GE.thenE ?_
    refine GE.blockE ?_
    refine GE.thenN ?_
    refine GC.seq ?_
    refine GC.region ?_
    refine GL.val (Ex.assign rfl) (by decide) ?_
    refine GL.nil ?_
    refine GE.thenN ?_
    refine GC.ret ?_
    refine GC.ret1 rfl (Rv.tmp rfl) (fun wN HN => ?_)
    exact HN.ret () trivial rfl (List.nil_sublist _) rfl

set_option maxRecDepth 100000 in
set_option maxHeartbeats 1000000 in
theorem num (e : Int) (w : World) :
    Calls Try.prog 15 #[(.int .i64 e)] w (Ret w (fun _ : Unit => True) (fun _ => .int .i64 e) (fun _ => [])) := by
  refine enter (M := None) (L := []) (n := 4) (l := [(0, (.int .i64 e))]) Try.func15 rfl rfl (Args.cons rfl (Args.nil _)) (Hp.start _ _) ?_
  refine GC.seq ?_
  refine GC.region ?_
  refine GL.val (Ex.assign rfl) (by decide) ?_
  refine GL.nil ?_
  refine GE.thenN ?_
  refine GC.seq ?_
  refine GC.region ?_
  refine GL.val (Ex.move rfl) (by decide) ?_
  refine GL.val (Ex.assign rfl) (by decide) ?_
  refine GL.nil ?_
  refine GE.thenN ?_
  refine GC.ret ?_
  refine GC.ret1 rfl (Rv.tmp rfl) (fun wN HN => ?_)
  exact HN.ret () trivial rfl (List.nil_sublist _) rfl

set_option maxRecDepth 100000 in
set_option maxHeartbeats 1000000 in
theorem split (a : Int) (w : World) (ha : 0 ≤ a ∧ a < 4294967296) :
    Calls Try.prog 71 #[(.int .u32 a)] w (Ret w (fun _ : Unit => True) (fun _ => (.agg #[(.bool (decide (2147483648 ≤ a))), (.int .i64 (a / 8388608 % 256)), (.int .i64 (a % 8388608))])) (fun _ => [])) := by
  refine enter (M := None) (L := []) (n := 13) (l := [(0, (.int .u32 a))]) Try.func71 rfl rfl (Args.cons rfl (Args.nil _)) (Hp.start _ _) ?_
  refine GC.seq ?_
  refine GC.region ?_
  refine GL.step (Stp.alloc T.zr116 (by decide)) (fun bq1 _ => ?_)
  refine GL.nil ?_
  refine GE.thenN ?_
  refine GC.seq ?_
  refine GC.region ?_
  refine GL.val (Ex.move rfl) (by decide) ?_
  refine GL.val (v := (.bool (decide (2147483648 ≤ a)))) (Ex.geq rfl rfl) (by decide) ?_
  refine GL.val (Ex.move rfl) (by decide) ?_
  refine GL.val (v := (.int .u32 (a / 8388608))) (Ex.shr rfl (m := 23) rfl (by decide) (Z := a / 8388608) rfl) (by decide) ?_
  refine GL.val (v := (.int .u32 ((a / 8388608) % 256))) (Ex.bits rfl rfl (by simp) (Z := (a / 8388608) % 256) (andm 8 (by omega) (by omega) (by decide) rfl rfl)) (by decide) ?_
  refine GL.val (v := (.int .i64 ((a / 8388608) % 256))) (Ex.conv rfl Try.underlying63 Try.underlying3 (Z := (a / 8388608) % 256) (w64 (by omega))) (by decide) ?_
  refine GL.val (Ex.move rfl) (by decide) ?_
  refine GL.val (v := (.int .u32 (a % 8388608))) (Ex.bits rfl rfl (by simp) (Z := a % 8388608) (andm 23 (by omega) (by omega) (by decide) rfl rfl)) (by decide) ?_
  refine GL.val (v := (.int .i64 (a % 8388608))) (Ex.conv rfl Try.underlying63 Try.underlying3 (Z := a % 8388608) (w64 (by omega))) (by decide) ?_
  refine GL.val (v := (.agg #[(.bool (decide (2147483648 ≤ a))), (.int .i64 ((a / 8388608) % 256)), (.int .i64 (a % 8388608))])) (Ex.build (vs := [(0, (.bool (decide (2147483648 ≤ a)))), (1, (.int .i64 ((a / 8388608) % 256))), (2, (.int .i64 (a % 8388608)))]) rfl (by first | rfl | kernel_rfl)) (by decide) ?_
  refine GL.step (Stp.st0 (cs' := [(.bool (decide (2147483648 ≤ a))), (.int .i64 ((a / 8388608) % 256)), (.int .i64 (a % 8388608))]) rfl rfl rfl T.sz116 rfl rfl rfl) (fun _ _ => ?_)
  refine GL.nil ?_
  refine GE.thenN ?_
  refine GC.ret ?_
  refine GC.ret1 rfl (Rv.cellA rfl T.ag116 T.sz116 (L := _) (i := 0) rfl (vs := [(.bool (decide (2147483648 ≤ a))), (.int .i64 ((a / 8388608) % 256)), (.int .i64 (a % 8388608))]) rfl rfl) (fun wN HN => ?_)
  exact HN.ret () trivial rfl (List.nil_sublist _) rfl

set_option maxRecDepth 100000 in
set_option maxHeartbeats 1000000 in
theorem cls_p (a : Int) (w : World) (ha : 0 ≤ a ∧ a < 4294967296) :
    Calls Try.prog 70 #[(.int .u32 a)] w (Ret w (fun _ : Unit => True) (fun _ => (.int .i64 (Bt.cls a))) (fun _ => [])) := by
  refine enter (M := None) (L := []) (n := 23) (l := [(0, (.int .u32 a))]) Try.func70 rfl rfl (Args.cons rfl (Args.nil _)) (Hp.start _ _) ?_
  refine GC.seq ?_
  refine GC.region ?_
  refine GL.val (Ex.assign rfl) (by decide) ?_
  refine GL.nil ?_
  refine GE.thenN ?_
  refine GC.seq ?_
  refine GC.region ?_
  refine GL.val (Ex.move rfl) (by decide) ?_
  refine GL.step (Stp.callR (vs := [(.int .u32 a)]) rfl rfl T.own71 (by decide) (fun wc hw => split a wc (by first | assumption | omega | exact Bt.lst_bd (by assumption) (by assumption) | exact Bt.gst_bd (by assumption) (by assumption) | exact Bt.key_bd (by assumption) | exact Bt.unkey_bd (by assumption) | exact Bt.nxt_bd (by assumption) | exact Bt.lst_bd (Bt.gst_bd (by assumption) (by assumption)) (by assumption) | exact Bt.btw_bd (by assumption) (Bt.lst_bd (by assumption) (by assumption)) (Bt.gst_bd (by assumption) (by assumption))))) (fun xq1 hq2 => ?_)
  refine GL.step (Stp.alloc T.zr116 (by decide)) (fun bq3 _ => ?_)
  refine GL.step (Stp.st0 (cs' := [(.bool (decide (2147483648 ≤ a))), (.int .i64 (a / 8388608 % 256)), (.int .i64 (a % 8388608))]) rfl rfl rfl T.sz116 rfl rfl rfl) (fun _ _ => ?_)
  refine GL.nil ?_
  refine GE.thenN ?_
  refine GC.seq ?_
  refine GC.region ?_
  refine GL.val (v := (.pointer (some ⟨bq3, 0, none⟩))) (Ex.cast (Ex.fieldAddr rfl Try.underlying116 rfl T.sz4 (by decide)) rfl) (by decide) ?_
  refine GL.step (Stp.st0 (cs' := [(.bool false), (.int .i64 (a / 8388608 % 256)), (.int .i64 (a % 8388608))]) rfl rfl rfl T.sz4 rfl rfl rfl) (fun _ _ => ?_)
  refine GL.nil ?_
  refine GE.thenN ?_
  refine GC.seq ?_
  refine GC.block ?_
  refine GC.seq ?_
  refine GC.region ?_
  refine GL.val (v := (.agg #[(.bool false), (.int .i64 (a / 8388608 % 256)), (.int .i64 (a % 8388608))])) (Ex.loadA rfl T.ag116 T.sz116 (i := 0) rfl (vs := [(.bool false), (.int .i64 (a / 8388608 % 256)), (.int .i64 (a % 8388608))]) rfl rfl) (by decide) ?_
  refine GL.val (v := (.agg #[(.bool false), (.int .i64 0), (.int .i64 0)])) (Ex.build (vs := []) rfl (by first | rfl | kernel_rfl)) (by decide) ?_
  refine GL.val (v := (.bool (decide ((a / 8388608 % 256) = 0 ∧ (a % 8388608) = 0)))) (Ex.eqS rfl rfl T.sfs116 (EqFs.cons rfl rfl (EqC.bool Try.underlying4) (EqFs.cons rfl rfl (EqC.int Try.underlying3) (EqFs.cons rfl rfl (EqC.int Try.underlying3) EqFs.nil))) (by simp [Bool.decide_and])) (by decide) ?_
  refine GL.val (Ex.assign rfl) (by decide) ?_
  refine GL.nil ?_
  refine GE.thenN ?_
  refine GC.cond rfl (fun hq4 => ?_) (fun hq4 => ?_)
  · replace hq4 := of_decide_eq_true hq4
    refine GC.seq ?_
    refine GC.region ?_
    refine GL.val (Ex.assign rfl) (by decide) ?_
    refine GL.nil ?_
    refine GE.thenN ?_
    refine GC.ret ?_
    refine GE.blockR ?_
    refine GE.thenR ?_
    refine GC.ret1 rfl (Rv.tmp rfl) (fun wN HN => ?_)
    exact HN.ret () trivial (by rw [show Bt.cls a = 5 from by first | (exfalso; omega) | (unfold Bt.cls; (repeat (first | rw [if_pos (by omega)] | rw [if_neg (by omega)])); try omega)]) (List.nil_sublist _) rfl
  · replace hq4 := of_decide_eq_false hq4
    refine GC.seq ?_
    refine GC.region ?_
    refine GL.val (v := (.agg #[(.bool false), (.int .i64 (a / 8388608 % 256)), (.int .i64 (a % 8388608))])) (Ex.loadA rfl T.ag116 T.sz116 (i := 0) rfl (vs := [(.bool false), (.int .i64 (a / 8388608 % 256)), (.int .i64 (a % 8388608))]) rfl rfl) (by decide) ?_
    refine GL.val (v := (.agg #[(.bool false), (.int .i64 255), (.int .i64 0)])) (Ex.build (vs := [(1, (.int .i64 255))]) rfl (by first | rfl | kernel_rfl)) (by decide) ?_
    refine GL.val (v := (.bool (decide ((a / 8388608 % 256) = 255 ∧ (a % 8388608) = 0)))) (Ex.eqS rfl rfl T.sfs116 (EqFs.cons rfl rfl (EqC.bool Try.underlying4) (EqFs.cons rfl rfl (EqC.int Try.underlying3) (EqFs.cons rfl rfl (EqC.int Try.underlying3) EqFs.nil))) (by simp [Bool.decide_and])) (by decide) ?_
    refine GL.val (Ex.assign rfl) (by decide) ?_
    refine GL.nil ?_
    refine GE.thenN ?_
    refine GC.cond rfl (fun hq5 => ?_) (fun hq5 => ?_)
    · replace hq5 := of_decide_eq_true hq5
      refine GC.seq ?_
      refine GC.region ?_
      refine GL.val (Ex.assign rfl) (by decide) ?_
      refine GL.nil ?_
      refine GE.thenN ?_
      refine GC.ret ?_
      refine GE.blockR ?_
      refine GE.thenR ?_
      refine GC.ret1 rfl (Rv.tmp rfl) (fun wN HN => ?_)
      exact HN.ret () trivial (by rw [show Bt.cls a = 2 from by first | (exfalso; omega) | (unfold Bt.cls; (repeat (first | rw [if_pos (by omega)] | rw [if_neg (by omega)])); try omega)]) (List.nil_sublist _) rfl
    · replace hq5 := of_decide_eq_false hq5
      refine GC.seq ?_
      refine GC.region ?_
      refine GL.val (v := (.pointer (some ⟨bq3, 1, none⟩))) (Ex.cast (Ex.fieldAddr rfl Try.underlying116 rfl T.sz3 (by decide)) rfl) (by decide) ?_
      refine GL.val (Ex.load rfl T.ag3 (i := 0) rfl rfl) (by decide) ?_
      refine GL.val (v := (.bool (decide ((a / 8388608 % 256) = 255)))) (Ex.eql rfl rfl) (by decide) ?_
      refine GL.val (Ex.assign rfl) (by decide) ?_
      refine GL.nil ?_
      refine GE.thenN ?_
      refine GC.cond rfl (fun hq6 => ?_) (fun hq6 => ?_)
      · replace hq6 := of_decide_eq_true hq6
        refine GC.seq ?_
        refine GC.region ?_
        refine GL.val (Ex.assign rfl) (by decide) ?_
        refine GL.nil ?_
        refine GE.thenN ?_
        refine GC.ret ?_
        refine GE.blockR ?_
        refine GE.thenR ?_
        refine GC.ret1 rfl (Rv.tmp rfl) (fun wN HN => ?_)
        exact HN.ret () trivial (by rw [show Bt.cls a = 1 from by first | (exfalso; omega) | (unfold Bt.cls; (repeat (first | rw [if_pos (by omega)] | rw [if_neg (by omega)])); try omega)]) (List.nil_sublist _) rfl
      · replace hq6 := of_decide_eq_false hq6
        refine GC.seq ?_
        refine GC.region ?_
        refine GL.val (v := (.pointer (some ⟨bq3, 1, none⟩))) (Ex.cast (Ex.fieldAddr rfl Try.underlying116 rfl T.sz3 (by decide)) rfl) (by decide) ?_
        refine GL.val (Ex.load rfl T.ag3 (i := 0) rfl rfl) (by decide) ?_
        refine GL.val (v := (.bool (decide ((a / 8388608 % 256) = 0)))) (Ex.eql rfl rfl) (by decide) ?_
        refine GL.val (Ex.assign rfl) (by decide) ?_
        refine GL.nil ?_
        refine GE.thenN ?_
        refine GC.cond rfl (fun hq7 => ?_) (fun hq7 => ?_)
        · replace hq7 := of_decide_eq_true hq7
          refine GC.seq ?_
          refine GC.region ?_
          refine GL.val (Ex.assign rfl) (by decide) ?_
          refine GL.nil ?_
          refine GE.thenN ?_
          refine GC.ret ?_
          refine GE.blockR ?_
          refine GE.thenR ?_
          refine GC.ret1 rfl (Rv.tmp rfl) (fun wN HN => ?_)
          exact HN.ret () trivial (by rw [show Bt.cls a = 4 from by first | (exfalso; omega) | (unfold Bt.cls; (repeat (first | rw [if_pos (by omega)] | rw [if_neg (by omega)])); try omega)]) (List.nil_sublist _) rfl
        · replace hq7 := of_decide_eq_false hq7
          refine GC.skip ?_
          refine GE.blockN ?_
          refine GE.thenN ?_
          refine GC.seq ?_
          refine GC.region ?_
          refine GL.val (Ex.assign rfl) (by decide) ?_
          refine GL.nil ?_
          refine GE.thenN ?_
          refine GC.ret ?_
          refine GC.ret1 rfl (Rv.tmp rfl) (fun wN HN => ?_)
          exact HN.ret () trivial (by rw [show Bt.cls a = 3 from by first | (exfalso; omega) | (unfold Bt.cls; (repeat (first | rw [if_pos (by omega)] | rw [if_neg (by omega)])); try omega)]) (List.nil_sublist _) rfl

set_option maxRecDepth 100000 in
set_option maxHeartbeats 1000000 in
theorem nan_p (a : Int) (w : World) (ha : 0 ≤ a ∧ a < 4294967296) :
    Calls Try.prog 69 #[(.int .u32 a)] w (Ret w (fun _ : Unit => True) (fun _ => (.bool (decide (Bt.cls a = 1)))) (fun _ => [])) := by
  refine enter (M := None) (L := []) (n := 6) (l := [(0, (.int .u32 a))]) Try.func69 rfl rfl (Args.cons rfl (Args.nil _)) (Hp.start _ _) ?_
  refine GC.seq ?_
  refine GC.region ?_
  refine GL.val (Ex.assign rfl) (by decide) ?_
  refine GL.nil ?_
  refine GE.thenN ?_
  refine GC.seq ?_
  refine GC.region ?_
  refine GL.val (Ex.move rfl) (by decide) ?_
  refine GL.step (Stp.callR (vs := [(.int .u32 a)]) rfl rfl T.own70 (by decide) (fun wc hw => cls_p a wc (by first | assumption | omega | exact Bt.lst_bd (by assumption) (by assumption) | exact Bt.gst_bd (by assumption) (by assumption) | exact Bt.key_bd (by assumption) | exact Bt.unkey_bd (by assumption) | exact Bt.nxt_bd (by assumption) | exact Bt.lst_bd (Bt.gst_bd (by assumption) (by assumption)) (by assumption) | exact Bt.btw_bd (by assumption) (Bt.lst_bd (by assumption) (by assumption)) (Bt.gst_bd (by assumption) (by assumption))))) (fun xq1 hq2 => ?_)
  refine GL.val (v := (.bool (decide ((Bt.cls a) = 1)))) (Ex.eql rfl rfl) (by decide) ?_
  refine GL.val (Ex.assign rfl) (by decide) ?_
  refine GL.nil ?_
  refine GE.thenN ?_
  refine GC.ret ?_
  refine GC.ret1 rfl (Rv.tmp rfl) (fun wN HN => ?_)
  exact HN.ret () trivial rfl (List.nil_sublist _) rfl

set_option maxRecDepth 100000 in
set_option maxHeartbeats 1000000 in
theorem made_p (a : Int) (w : World) (ha : 0 ≤ a ∧ a < 4294967296) :
    Calls Try.prog 67 #[(.int .u32 a)] w (Ret w (fun _ : Unit => True) (fun _ => (.int .u32 (Bt.mde a))) (fun _ => [])) := by
  refine enter (M := None) (L := []) (n := 6) (l := [(0, (.int .u32 a))]) Try.func67 rfl rfl (Args.cons rfl (Args.nil _)) (Hp.start _ _) ?_
  refine GC.seq ?_
  refine GC.region ?_
  refine GL.val (Ex.assign rfl) (by decide) ?_
  refine GL.nil ?_
  refine GE.thenN ?_
  refine GC.seq ?_
  refine GC.seq ?_
  refine GC.region ?_
  refine GL.val (Ex.move rfl) (by decide) ?_
  refine GL.step (Stp.callR (vs := [(.int .u32 a)]) rfl rfl T.own69 (by decide) (fun wc hw => nan_p a wc (by first | assumption | omega | exact Bt.lst_bd (by assumption) (by assumption) | exact Bt.gst_bd (by assumption) (by assumption) | exact Bt.key_bd (by assumption) | exact Bt.unkey_bd (by assumption) | exact Bt.nxt_bd (by assumption) | exact Bt.lst_bd (Bt.gst_bd (by assumption) (by assumption)) (by assumption) | exact Bt.btw_bd (by assumption) (Bt.lst_bd (by assumption) (by assumption)) (Bt.gst_bd (by assumption) (by assumption))))) (fun xq1 hq2 => ?_)
  refine GL.nil ?_
  refine GE.thenN ?_
  refine GC.cond rfl (fun hq3 => ?_) (fun hq3 => ?_)
  · replace hq3 := of_decide_eq_true hq3
    refine GC.seq ?_
    refine GC.region ?_
    refine GL.val (Ex.assign rfl) (by decide) ?_
    refine GL.nil ?_
    refine GE.thenN ?_
    refine GC.ret ?_
    refine GE.thenR ?_
    refine GC.ret1 rfl (Rv.tmp rfl) (fun wN HN => ?_)
    exact HN.ret () trivial (by rw [show Bt.mde a = 2143289344 from by first | (exfalso; omega) | (unfold Bt.mde; (repeat (first | rw [if_pos (by omega)] | rw [if_neg (by omega)])); try omega)]) (List.nil_sublist _) rfl
  · replace hq3 := of_decide_eq_false hq3
    refine GC.skip ?_
    refine GE.thenN ?_
    refine GC.seq ?_
    refine GC.region ?_
    refine GL.val (Ex.move rfl) (by decide) ?_
    refine GL.val (Ex.assign rfl) (by decide) ?_
    refine GL.nil ?_
    refine GE.thenN ?_
    refine GC.ret ?_
    refine GC.ret1 rfl (Rv.tmp rfl) (fun wN HN => ?_)
    exact HN.ret () trivial (by rw [show Bt.mde a = a from by first | (exfalso; omega) | (unfold Bt.mde; (repeat (first | rw [if_pos (by omega)] | rw [if_neg (by omega)])); try omega)]) (List.nil_sublist _) rfl

set_option maxRecDepth 100000 in
set_option maxHeartbeats 1000000 in
theorem value_p (a : Int) (w : World) :
    Calls Try.prog 58 #[(.int .u32 a)] w (Ret w (fun z : Nat => Fv.Is .f64 z (Fv.V a)) (fun z => .float .f64 z) (fun _ => [])) := by
  refine enter (M := None) (L := []) (n := 6) (l := [(0, (.int .u32 a))]) Try.func58 rfl rfl (Args.cons rfl (Args.nil _)) (Hp.start _ _) ?_
  refine GC.seq ?_
  refine GC.region ?_
  refine GL.val (Ex.assign rfl) (by decide) ?_
  refine GL.nil ?_
  refine GE.thenN ?_
  refine GC.seq ?_
  refine GC.region ?_
  refine GL.val (Ex.move rfl) (by decide) ?_
  refine GL.val (v := (.float .f32 a.toNat)) (Ex.ext (vs := [(.int .u32 a)]) rfl rfl T.ext55 (fun _ => rfl)) (by decide) ?_
  refine GL.step (Stp.fcv (fx := (Fv.rd .f32 a.toNat)) (by decide) rfl Try.underlying98 Try.underlying61 (Fv.Is.rd _ _) Fv.holds_up (by decide)) (fun xq1 hq2 => ?_)
  refine GL.val (Ex.assign rfl) (by decide) ?_
  refine GL.nil ?_
  refine GE.thenN ?_
  refine GC.ret ?_
  refine GC.ret1 rfl (Rv.tmp rfl) (fun wN HN => ?_)
  exact HN.ret xq1 hq2.1 rfl (List.nil_sublist _) rfl

set_option maxRecDepth 100000 in
set_option maxHeartbeats 1000000 in
theorem value_l (a : Int) (w : World) :
    Calls Try.prog 30 #[(.int .u32 a)] w (Ret w (fun z : Nat => Fv.Is .f64 z (Fv.V a)) (fun z => .float .f64 z) (fun _ => [])) := by
  refine enter (M := None) (L := []) (n := 6) (l := [(0, (.int .u32 a))]) Try.func30 rfl rfl (Args.cons rfl (Args.nil _)) (Hp.start _ _) ?_
  refine GC.seq ?_
  refine GC.region ?_
  refine GL.val (Ex.assign rfl) (by decide) ?_
  refine GL.nil ?_
  refine GE.thenN ?_
  refine GC.seq ?_
  refine GC.region ?_
  refine GL.val (Ex.move rfl) (by decide) ?_
  refine GL.val (v := (.float .f32 a.toNat)) (Ex.ext (vs := [(.int .u32 a)]) rfl rfl T.ext55 (fun _ => rfl)) (by decide) ?_
  refine GL.step (Stp.fcv (fx := (Fv.rd .f32 a.toNat)) (by decide) rfl Try.underlying98 Try.underlying61 (Fv.Is.rd _ _) Fv.holds_up (by decide)) (fun xq1 hq2 => ?_)
  refine GL.val (Ex.assign rfl) (by decide) ?_
  refine GL.nil ?_
  refine GE.thenN ?_
  refine GC.ret ?_
  refine GC.ret1 rfl (Rv.tmp rfl) (fun wN HN => ?_)
  exact HN.ret xq1 hq2.1 rfl (List.nil_sublist _) rfl

set_option maxRecDepth 100000 in
set_option maxHeartbeats 1000000 in
theorem told_p (z : Nat) (fx : Option Nat) (w : World) (hz : Fv.Is .f64 z fx) (hH : Fv.Holds .f64 .f32 fx) :
    Calls Try.prog 59 #[(.float .f64 z)] w (Ret w (fun _ : Unit => True) (fun _ => (.int .u32 ((Fv.T fx)))) (fun _ => [])) := by
  refine enter (M := None) (L := []) (n := 7) (l := [(0, (.float .f64 z))]) Try.func59 rfl rfl (Args.cons rfl (Args.nil _)) (Hp.start _ _) ?_
  refine GC.seq ?_
  refine GC.region ?_
  refine GL.val (Ex.assign rfl) (by decide) ?_
  refine GL.nil ?_
  refine GE.thenN ?_
  refine GC.seq ?_
  refine GC.region ?_
  refine GL.val (Ex.move rfl) (by decide) ?_
  refine GL.step (Stp.fcv (fx := fx) (by decide) rfl Try.underlying61 Try.underlying98 hz hH (by decide)) (fun xq1 hq2 => ?_)
  refine GL.val (v := (.int .u32 (((xq1 : Nat) : Int)))) (Ex.ext (vs := [(.float .f32 xq1)]) rfl rfl T.ext66 (fun _ => rfl)) (by decide) ?_
  refine GL.step (Stp.callR (σ := Unit) (p := fun rz => True) (v := fun rz => (.int .u32 ((Fv.T32 (Fv.cv .f64 .f32 fx))))) (N := fun rz => []) (vs := [(.int .u32 (((xq1 : Nat) : Int)))]) rfl rfl T.own67 (by decide) (fun wc hw => (by have h := made_p ((xq1 : Nat) : Int) wc (Bg.isb_lt hq2); rw [Bl.mde_is hq2] at h; exact h))) (fun xq3 hq4 => ?_)
  refine GL.val (Ex.assign rfl) (by decide) ?_
  refine GL.nil ?_
  refine GE.thenN ?_
  refine GC.ret ?_
  refine GC.ret1 rfl (Rv.tmp rfl) (fun wN HN => ?_)
  exact HN.ret () trivial rfl (List.nil_sublist _) rfl

set_option maxRecDepth 100000 in
set_option maxHeartbeats 1000000 in
theorem size (pw ph : Int) (w : World) :
    Calls Try.prog 60 #[(.int .i64 pw), (.int .i64 ph)] w (Ret w (fun _ : Unit => True) (fun _ => .bool (sizeB pw ph)) (fun _ => [])) := by
  refine enter (M := None) (L := []) (n := 25) (l := [(0, (.int .i64 pw)), (1, (.int .i64 ph))]) Try.func60 rfl rfl (Args.cons rfl (Args.cons rfl (Args.nil _))) (Hp.start _ _) ?_
  refine GC.seq ?_
  refine GC.region ?_
  refine GL.val (Ex.assign rfl) (by decide) ?_
  refine GL.nil ?_
  refine GE.thenN ?_
  refine GC.seq ?_
  refine GC.region ?_
  refine GL.val (Ex.move rfl) (by decide) ?_
  by_cases hq1 : 1 ≤ pw
  · refine GL.val (v := (.bool true)) (Ex.cast (Ex.geq rfl rfl) (congrArg Value.bool (decide_eq_true hq1))) (by decide) ?_
    refine GL.val (Ex.move rfl) (by decide) ?_
    refine GL.stepG (tj := 7) rfl rfl (Ex.wp (v := (.int .i64 ph)) (Ex.move rfl) (by decide)) (fun _ _ => ?_)
    by_cases hq2 : 1 ≤ ph
    · refine GL.stepG (tj := 7) rfl rfl (Ex.wp (v := (.bool true)) (Ex.cast (Ex.geq rfl rfl) (congrArg Value.bool (decide_eq_true hq2))) (by decide)) (fun _ _ => ?_)
      refine GL.val (v := (.bool true)) (Ex.pickT rfl rfl) (by decide) ?_
      refine GL.val (Ex.move rfl) (by decide) ?_
      refine GL.stepG (tj := 11) rfl rfl (Ex.wp (v := (.int .i64 pw)) (Ex.move rfl) (by decide)) (fun _ _ => ?_)
      by_cases hq3 : pw ≤ 1024
      · refine GL.stepG (tj := 11) rfl rfl (Ex.wp (v := (.bool true)) (Ex.cast (Ex.leq rfl rfl) (congrArg Value.bool (decide_eq_true hq3))) (by decide)) (fun _ _ => ?_)
        refine GL.val (v := (.bool true)) (Ex.pickT rfl rfl) (by decide) ?_
        refine GL.val (Ex.move rfl) (by decide) ?_
        refine GL.stepG (tj := 15) rfl rfl (Ex.wp (v := (.int .i64 ph)) (Ex.move rfl) (by decide)) (fun _ _ => ?_)
        by_cases hq4 : ph ≤ 1024
        · have hm := mul_bd (w := pw) (h := ph) (by omega) (by omega) (by omega) (by omega)
          refine GL.stepG (tj := 15) rfl rfl (Ex.wp (v := (.bool true)) (Ex.cast (Ex.leq rfl rfl) (congrArg Value.bool (decide_eq_true hq4))) (by decide)) (fun _ _ => ?_)
          refine GL.val (v := (.bool true)) (Ex.pickT rfl rfl) (by decide) ?_
          refine GL.val (Ex.move rfl) (by decide) ?_
          refine GL.stepG (tj := 19) rfl rfl (Ex.wp (v := (.int .i64 pw)) (Ex.move rfl) (by decide)) (fun _ _ => ?_)
          refine GL.stepG (tj := 19) rfl rfl (Ex.wp (v := (.int .i64 ph)) (Ex.move rfl) (by decide)) (fun _ _ => ?_)
          refine GL.stepG (tj := 19) rfl rfl (Ex.wp (v := (.int .i64 (pw * ph))) (Ex.mul rfl rfl (Z := pw * ph) (w64 (by omega))) (by decide)) (fun _ _ => ?_)
          refine GL.stepG (tj := 19) rfl rfl (Ex.wp (v := (.bool (decide ((pw * ph) ≤ 65536)))) (Ex.leq rfl rfl) (by decide)) (fun _ _ => ?_)
          refine GL.val (v := (.bool (decide ((pw * ph) ≤ 65536)))) (Ex.pickT rfl rfl) (by decide) ?_
          refine GL.val (Ex.assign rfl) (by decide) ?_
          refine GL.nil ?_
          refine GE.thenN ?_
          refine GC.ret ?_
          refine GC.ret1 rfl (Rv.tmp rfl) (fun wN HN => ?_)
          exact HN.ret () trivial (by simp only [sizeB]; congr 1; apply decide_eq_decide.2; omega) (List.nil_sublist _) rfl
        · refine GL.stepG (tj := 15) rfl rfl (Ex.wp (v := (.bool false)) (Ex.cast (Ex.leq rfl rfl) (congrArg Value.bool (decide_eq_false hq4))) (by decide)) (fun _ _ => ?_)
          refine GL.val (v := (.bool false)) (Ex.pickT rfl rfl) (by decide) ?_
          refine GL.val (Ex.move rfl) (by decide) ?_
          refine GL.skipG (tj := 19) rfl rfl rfl (by decide) ?_
          refine GL.skipG (tj := 19) rfl rfl rfl (by decide) ?_
          refine GL.skipG (tj := 19) rfl rfl rfl (by decide) ?_
          refine GL.skipG (tj := 19) rfl rfl rfl (by decide) ?_
          refine GL.val (v := (.bool false)) (Ex.pickF rfl rfl) (by decide) ?_
          refine GL.val (Ex.assign rfl) (by decide) ?_
          refine GL.nil ?_
          refine GE.thenN ?_
          refine GC.ret ?_
          refine GC.ret1 rfl (Rv.tmp rfl) (fun wN HN => ?_)
          exact HN.ret () trivial (by simp only [sizeB]; rw [decide_eq_false (by omega)]) (List.nil_sublist _) rfl
      · refine GL.stepG (tj := 11) rfl rfl (Ex.wp (v := (.bool false)) (Ex.cast (Ex.leq rfl rfl) (congrArg Value.bool (decide_eq_false hq3))) (by decide)) (fun _ _ => ?_)
        refine GL.val (v := (.bool false)) (Ex.pickT rfl rfl) (by decide) ?_
        refine GL.val (Ex.move rfl) (by decide) ?_
        refine GL.skipG (tj := 15) rfl rfl rfl (by decide) ?_
        refine GL.skipG (tj := 15) rfl rfl rfl (by decide) ?_
        refine GL.val (v := (.bool false)) (Ex.pickF rfl rfl) (by decide) ?_
        refine GL.val (Ex.move rfl) (by decide) ?_
        refine GL.skipG (tj := 19) rfl rfl rfl (by decide) ?_
        refine GL.skipG (tj := 19) rfl rfl rfl (by decide) ?_
        refine GL.skipG (tj := 19) rfl rfl rfl (by decide) ?_
        refine GL.skipG (tj := 19) rfl rfl rfl (by decide) ?_
        refine GL.val (v := (.bool false)) (Ex.pickF rfl rfl) (by decide) ?_
        refine GL.val (Ex.assign rfl) (by decide) ?_
        refine GL.nil ?_
        refine GE.thenN ?_
        refine GC.ret ?_
        refine GC.ret1 rfl (Rv.tmp rfl) (fun wN HN => ?_)
        exact HN.ret () trivial (by simp only [sizeB]; rw [decide_eq_false (by omega)]) (List.nil_sublist _) rfl
    · refine GL.stepG (tj := 7) rfl rfl (Ex.wp (v := (.bool false)) (Ex.cast (Ex.geq rfl rfl) (congrArg Value.bool (decide_eq_false hq2))) (by decide)) (fun _ _ => ?_)
      refine GL.val (v := (.bool false)) (Ex.pickT rfl rfl) (by decide) ?_
      refine GL.val (Ex.move rfl) (by decide) ?_
      refine GL.skipG (tj := 11) rfl rfl rfl (by decide) ?_
      refine GL.skipG (tj := 11) rfl rfl rfl (by decide) ?_
      refine GL.val (v := (.bool false)) (Ex.pickF rfl rfl) (by decide) ?_
      refine GL.val (Ex.move rfl) (by decide) ?_
      refine GL.skipG (tj := 15) rfl rfl rfl (by decide) ?_
      refine GL.skipG (tj := 15) rfl rfl rfl (by decide) ?_
      refine GL.val (v := (.bool false)) (Ex.pickF rfl rfl) (by decide) ?_
      refine GL.val (Ex.move rfl) (by decide) ?_
      refine GL.skipG (tj := 19) rfl rfl rfl (by decide) ?_
      refine GL.skipG (tj := 19) rfl rfl rfl (by decide) ?_
      refine GL.skipG (tj := 19) rfl rfl rfl (by decide) ?_
      refine GL.skipG (tj := 19) rfl rfl rfl (by decide) ?_
      refine GL.val (v := (.bool false)) (Ex.pickF rfl rfl) (by decide) ?_
      refine GL.val (Ex.assign rfl) (by decide) ?_
      refine GL.nil ?_
      refine GE.thenN ?_
      refine GC.ret ?_
      refine GC.ret1 rfl (Rv.tmp rfl) (fun wN HN => ?_)
      exact HN.ret () trivial (by simp only [sizeB]; rw [decide_eq_false (by omega)]) (List.nil_sublist _) rfl
  · refine GL.val (v := (.bool false)) (Ex.cast (Ex.geq rfl rfl) (congrArg Value.bool (decide_eq_false hq1))) (by decide) ?_
    refine GL.val (Ex.move rfl) (by decide) ?_
    refine GL.skipG (tj := 7) rfl rfl rfl (by decide) ?_
    refine GL.skipG (tj := 7) rfl rfl rfl (by decide) ?_
    refine GL.val (v := (.bool false)) (Ex.pickF rfl rfl) (by decide) ?_
    refine GL.val (Ex.move rfl) (by decide) ?_
    refine GL.skipG (tj := 11) rfl rfl rfl (by decide) ?_
    refine GL.skipG (tj := 11) rfl rfl rfl (by decide) ?_
    refine GL.val (v := (.bool false)) (Ex.pickF rfl rfl) (by decide) ?_
    refine GL.val (Ex.move rfl) (by decide) ?_
    refine GL.skipG (tj := 15) rfl rfl rfl (by decide) ?_
    refine GL.skipG (tj := 15) rfl rfl rfl (by decide) ?_
    refine GL.val (v := (.bool false)) (Ex.pickF rfl rfl) (by decide) ?_
    refine GL.val (Ex.move rfl) (by decide) ?_
    refine GL.skipG (tj := 19) rfl rfl rfl (by decide) ?_
    refine GL.skipG (tj := 19) rfl rfl rfl (by decide) ?_
    refine GL.skipG (tj := 19) rfl rfl rfl (by decide) ?_
    refine GL.skipG (tj := 19) rfl rfl rfl (by decide) ?_
    refine GL.val (v := (.bool false)) (Ex.pickF rfl rfl) (by decide) ?_
    refine GL.val (Ex.assign rfl) (by decide) ?_
    refine GL.nil ?_
    refine GE.thenN ?_
    refine GC.ret ?_
    refine GC.ret1 rfl (Rv.tmp rfl) (fun wN HN => ?_)
    exact HN.ret () trivial (by simp only [sizeB]; rw [decide_eq_false (by omega)]) (List.nil_sublist _) rfl

set_option maxRecDepth 100000 in
set_option maxHeartbeats 1000000 in
theorem check (W H : Int) (ad : Option Addr) (n cap : Nat) (w : World) :
    Calls Try.prog 46 #[(.agg #[(.int .i64 W), (.int .i64 H), (.slice ad n cap)])] w (Ret w (fun _ : Unit => True) (fun _ => .int .i64 (chk W H n)) (fun _ => [])) := by
  refine enter (M := None) (L := []) (n := 20) (l := [(0, (.agg #[(.int .i64 W), (.int .i64 H), (.slice ad n cap)]))]) Try.func46 rfl rfl (Args.cons rfl (Args.nil _)) (Hp.start _ _) ?_
  refine GC.seq ?_
  refine GC.region ?_
  refine GL.step (Stp.box (cs := [(.int .i64 W), (.int .i64 H), (.slice ad n cap)]) rfl rfl (by decide)) (fun bq1 _ => ?_)
  refine GL.val (Ex.assign rfl) (by decide) ?_
  refine GL.nil ?_
  refine GE.thenN ?_
  refine GC.seq ?_
  refine GC.block ?_
  refine GC.seq ?_
  refine GC.region ?_
  refine GL.val (v := (.pointer (some ⟨bq1, 0, none⟩))) (Ex.cast (Ex.fieldAddr rfl Try.underlying43 rfl T.sz3 (by decide)) rfl) (by decide) ?_
  refine GL.val (Ex.load rfl T.ag3 (i := 0) rfl rfl) (by decide) ?_
  refine GL.val (v := (.pointer (some ⟨bq1, 1, none⟩))) (Ex.cast (Ex.fieldAddr rfl Try.underlying43 rfl T.sz3 (by decide)) rfl) (by decide) ?_
  refine GL.val (Ex.load rfl T.ag3 (i := 0) rfl rfl) (by decide) ?_
  refine GL.step (Stp.callR (vs := [(.int .i64 W), (.int .i64 H)]) rfl rfl T.own60 (by decide) (fun wc hw => size W H wc)) (fun xq2 hq3 => ?_)
  refine GL.val (v := (.bool (!(sizeB W H)))) (Ex.not rfl) (by decide) ?_
  refine GL.val (Ex.assign rfl) (by decide) ?_
  refine GL.nil ?_
  refine GE.thenN ?_
  refine GC.cond rfl (fun hq4 => ?_) (fun hq4 => ?_)
  · have hs : sizeB W H = false := by simpa using hq4
    refine GC.seq ?_
    refine GC.region ?_
    refine GL.val (Ex.assign rfl) (by decide) ?_
    refine GL.nil ?_
    refine GE.thenN ?_
    refine GC.ret ?_
    refine GE.blockR ?_
    refine GE.thenR ?_
    refine GC.ret1 rfl (Rv.tmp rfl) (fun wN HN => ?_)
    exact HN.ret () trivial (by simp [chk, *]) (List.nil_sublist _) rfl
  · have hs : sizeB W H = true := by simpa using hq4
    refine GC.seq ?_
    have hm := sizeB_mul hs
    refine GC.region ?_
    refine GL.val (v := (.pointer (some ⟨bq1, 2, none⟩))) (Ex.cast (Ex.fieldAddr rfl Try.underlying43 rfl T.sz41 (by decide)) rfl) (by decide) ?_
    refine GL.val (Ex.load rfl T.ag41 (i := 0) rfl rfl) (by decide) ?_
    refine GL.val (v := (.int .i64 ((n : Int)))) (Ex.len rfl Try.underlying41) (by decide) ?_
    refine GL.val (v := (.pointer (some ⟨bq1, 0, none⟩))) (Ex.cast (Ex.fieldAddr rfl Try.underlying43 rfl T.sz3 (by decide)) rfl) (by decide) ?_
    refine GL.val (Ex.load rfl T.ag3 (i := 0) rfl rfl) (by decide) ?_
    refine GL.val (v := (.pointer (some ⟨bq1, 1, none⟩))) (Ex.cast (Ex.fieldAddr rfl Try.underlying43 rfl T.sz3 (by decide)) rfl) (by decide) ?_
    refine GL.val (Ex.load rfl T.ag3 (i := 0) rfl rfl) (by decide) ?_
    refine GL.val (v := (.int .i64 (W * H))) (Ex.mul rfl rfl (Z := W * H) (w64 (by omega))) (by decide) ?_
    refine GL.val (v := (.bool (decide (((n : Int)) ≠ (W * H))))) (Ex.neq rfl rfl) (by decide) ?_
    refine GL.val (Ex.assign rfl) (by decide) ?_
    refine GL.nil ?_
    refine GE.thenN ?_
    refine GC.cond rfl (fun hq5 => ?_) (fun hq5 => ?_)
    · replace hq5 := of_decide_eq_true hq5
      refine GC.seq ?_
      refine GC.region ?_
      refine GL.val (Ex.assign rfl) (by decide) ?_
      refine GL.nil ?_
      refine GE.thenN ?_
      refine GC.ret ?_
      refine GE.blockR ?_
      refine GE.thenR ?_
      refine GC.ret1 rfl (Rv.tmp rfl) (fun wN HN => ?_)
      exact HN.ret () trivial (by simp [chk, *]) (List.nil_sublist _) rfl
    · replace hq5 := of_decide_eq_false hq5
      refine GC.skip ?_
      refine GE.blockN ?_
      refine GE.thenN ?_
      refine GC.seq ?_
      refine GC.region ?_
      refine GL.val (Ex.assign rfl) (by decide) ?_
      refine GL.nil ?_
      refine GE.thenN ?_
      refine GC.ret ?_
      refine GC.ret1 rfl (Rv.tmp rfl) (fun wN HN => ?_)
      exact HN.ret () trivial (by simp [chk, *]) (List.nil_sublist _) rfl

set_option maxRecDepth 100000 in
set_option maxHeartbeats 1000000 in
theorem borders_p (k : Int) (w : World) :
    Calls Try.prog 47 #[(.int .i64 k)] w (Ret w (fun _ : Unit => True) (fun _ => .int .i64 (bord k 1 0).2) (fun _ => [])) := by
  refine enter (M := None) (L := []) (n := 11) (l := [(0, (.int .i64 k))]) Try.func47 rfl rfl (Args.cons rfl (Args.nil _)) (Hp.start _ _) ?_
  refine GC.seq ?_
  refine GC.region ?_
  refine GL.val (Ex.assign rfl) (by decide) ?_
  refine GL.nil ?_
  refine GE.thenN ?_
  refine GC.seq ?_
  refine GC.region ?_
  refine GL.val (Ex.move rfl) (by decide) ?_
  refine GL.step (Stp.callR (vs := [(.int .i64 k), (.int .i64 1), (.int .i64 0)]) rfl rfl T.own37 (by decide) (fun wc hw => border k 1 0 wc)) (fun xq1 hq2 => ?_)
  refine GL.val (Ex.move rfl) (by decide) ?_
  refine GL.val (Ex.extract rfl rfl) (by decide) ?_
  refine GL.val (Ex.extract rfl rfl) (by decide) ?_
  refine GL.val (Ex.assign rfl) (by decide) ?_
  refine GL.val (Ex.assign rfl) (by decide) ?_
  refine GL.nil ?_
  refine GE.thenN ?_
  refine GC.seq ?_
  refine GC.region ?_
  refine GL.val (Ex.move rfl) (by decide) ?_
  refine GL.val (Ex.assign rfl) (by decide) ?_
  refine GL.nil ?_
  refine GE.thenN ?_
  refine GC.ret ?_
  refine GC.ret1 rfl (Rv.tmp rfl) (fun wN HN => ?_)
  exact HN.ret () trivial rfl (List.nil_sublist _) rfl

set_option maxRecDepth 100000 in
set_option maxHeartbeats 1000000 in
theorem slope_x (W H n cap b o : Nat) (k : Int) (xs : List Int) (x y : Nat) (w : World) (hk : 1 ≤ k ∧ k ≤ 3) (hok : okP W H) (hn : n = W * H) (hx0 : xs.length = n) (hu : ∀ v ∈ xs, 0 ≤ v ∧ v < 4294967296) (hr : Rd w b o (xs.map u32)) (hx : x < W) (hy : y < H) :
    Calls Try.prog 54 #[(.iface 108 (.agg #[(.int .i64 (((W : Nat) : Int))), (.int .i64 (((H : Nat) : Int))), (.slice (some ⟨b, o, none⟩) n cap), (.int .i64 k), (.int .i64 (((x : Nat) : Int))), (.int .i64 (((y : Nat) : Int))), (.bool false)])), (.agg #[])] w (Ret w (fun _ : Unit => True) (fun _ => (.int .u32 ((Bg.slx xs W k x y)))) (fun _ => [])) := by
  have hW1 := hok.1
  have hH1 := hok.2.1
  have hW2 := hok.2.2.1
  have hH2 := hok.2.2.2.1
  have hA := hok.2.2.2.2
  refine enter (M := None) (L := []) (n := 14) (l := [(0, (.iface 108 (.agg #[(.int .i64 (((W : Nat) : Int))), (.int .i64 (((H : Nat) : Int))), (.slice (some ⟨b, o, none⟩) n cap), (.int .i64 k), (.int .i64 (((x : Nat) : Int))), (.int .i64 (((y : Nat) : Int))), (.bool false)]))), (1, (.agg #[]))]) Try.func54 rfl rfl (Args.cons rfl (Args.cons rfl (Args.nil _))) (Hp.start _ _) ?_
  refine GC.seq ?_
  refine GC.region ?_
  refine GL.step (Stp.box (cs := []) rfl rfl (by decide)) (fun bq1 _ => ?_)
  refine GL.val (Ex.assign rfl) (by decide) ?_
  refine GL.nil ?_
  refine GE.thenN ?_
  refine GC.seq ?_
  refine GC.region ?_
  refine GL.val (Ex.move rfl) (by decide) ?_
  refine GL.step (Stp.invokeR (σ := Unit) (p := fun rz => True) (v := fun rz => (.int .u32 ((smp xs W (bord k W (x + 1)).1.toNat y)))) (N := fun rz => []) (vs := [(.int .i64 1)]) rfl rfl (fun w => T.mth88 _ _ w) (by decide) (fun wc hw => at_x W n cap b o y xs k 1 H x wc hk (by omega) (by omega) (Bg.at_lt hok hn (by first | exact Bg.bX hk hok | assumption) hy) (by omega) hx0 (hw.rd hr (fun x => x)))) (fun xq2 hq3 => ?_)
  refine GL.step (Stp.callR (vs := [(.int .u32 ((smp xs W (bord k W (x + 1)).1.toNat y)))]) rfl rfl T.own58 (by decide) (fun wc hw => value_p ((smp xs W (bord k W (x + 1)).1.toNat y)) wc)) (fun xq4 hq5 => ?_)
  refine GL.val (Ex.move rfl) (by decide) ?_
  refine GL.step (Stp.invokeR (σ := Unit) (p := fun rz => True) (v := fun rz => (.int .u32 ((smp xs W (bord k W (x + (-1))).1.toNat y)))) (N := fun rz => []) (vs := [(.int .i64 (-1))]) rfl rfl (fun w => T.mth88 _ _ w) (by decide) (fun wc hw => at_x W n cap b o y xs k (-1) H x wc hk (by omega) (by omega) (Bg.at_lt hok hn (by first | exact Bg.bX hk hok | assumption) hy) (by omega) hx0 (hw.rd hr (fun x => x)))) (fun xq6 hq7 => ?_)
  refine GL.step (Stp.callR (vs := [(.int .u32 ((smp xs W (bord k W (x + (-1))).1.toNat y)))]) rfl rfl T.own58 (by decide) (fun wc hw => value_p ((smp xs W (bord k W (x + (-1))).1.toNat y)) wc)) (fun xq8 hq9 => ?_)
  refine GL.step (Stp.fop (fx := (Fv.V ((smp xs W (bord k W (x + 1)).1.toNat y)))) (fy := (Fv.V ((smp xs W (bord k W (x + (-1))).1.toNat y)))) rfl rfl rfl hq5 hq9 (by decide)) (fun xq10 hq11 => ?_)
  refine GL.step (Stp.fop (fx := (Fv.op .sub .f64 (Fv.V ((smp xs W (bord k W (x + 1)).1.toNat y))) (Fv.V ((smp xs W (bord k W (x + (-1))).1.toNat y))))) (fy := (some 4611686018427387904)) rfl rfl rfl hq11 ⟨rfl, by decide +kernel⟩ (by decide)) (fun xq12 hq13 => ?_)
  refine GL.step (Stp.callR (vs := [(.float .f64 xq12)]) rfl rfl T.own59 (by decide) (fun wc hw => told_p xq12 (Fv.op .quo .f64 (Fv.op .sub .f64 (Fv.V ((smp xs W (bord k W (x + 1)).1.toNat y))) (Fv.V ((smp xs W (bord k W (x + (-1))).1.toNat y)))) (some 4611686018427387904)) wc hq13 (Bg.slp_ok hu W _ _ _ _))) (fun xq14 hq15 => ?_)
  refine GL.val (Ex.assign rfl) (by decide) ?_
  refine GL.nil ?_
  refine GE.thenN ?_
  refine GC.ret ?_
  refine GC.ret1 rfl (Rv.tmp rfl) (fun wN HN => ?_)
  exact HN.ret () trivial rfl (List.nil_sublist _) rfl

set_option maxRecDepth 100000 in
set_option maxHeartbeats 1000000 in
theorem slope_y (W H n cap b o : Nat) (k : Int) (xs : List Int) (x y : Nat) (w : World) (hk : 1 ≤ k ∧ k ≤ 3) (hok : okP W H) (hn : n = W * H) (hx0 : xs.length = n) (hu : ∀ v ∈ xs, 0 ≤ v ∧ v < 4294967296) (hr : Rd w b o (xs.map u32)) (hx : x < W) (hy : y < H) :
    Calls Try.prog 54 #[(.iface 108 (.agg #[(.int .i64 (((W : Nat) : Int))), (.int .i64 (((H : Nat) : Int))), (.slice (some ⟨b, o, none⟩) n cap), (.int .i64 k), (.int .i64 (((x : Nat) : Int))), (.int .i64 (((y : Nat) : Int))), (.bool true)])), (.agg #[])] w (Ret w (fun _ : Unit => True) (fun _ => (.int .u32 ((Bg.sly xs W H k x y)))) (fun _ => [])) := by
  have hW1 := hok.1
  have hH1 := hok.2.1
  have hW2 := hok.2.2.1
  have hH2 := hok.2.2.2.1
  have hA := hok.2.2.2.2
  refine enter (M := None) (L := []) (n := 14) (l := [(0, (.iface 108 (.agg #[(.int .i64 (((W : Nat) : Int))), (.int .i64 (((H : Nat) : Int))), (.slice (some ⟨b, o, none⟩) n cap), (.int .i64 k), (.int .i64 (((x : Nat) : Int))), (.int .i64 (((y : Nat) : Int))), (.bool true)]))), (1, (.agg #[]))]) Try.func54 rfl rfl (Args.cons rfl (Args.cons rfl (Args.nil _))) (Hp.start _ _) ?_
  refine GC.seq ?_
  refine GC.region ?_
  refine GL.step (Stp.box (cs := []) rfl rfl (by decide)) (fun bq1 _ => ?_)
  refine GL.val (Ex.assign rfl) (by decide) ?_
  refine GL.nil ?_
  refine GE.thenN ?_
  refine GC.seq ?_
  refine GC.region ?_
  refine GL.val (Ex.move rfl) (by decide) ?_
  refine GL.step (Stp.invokeR (σ := Unit) (p := fun rz => True) (v := fun rz => (.int .u32 ((smp xs W x (bord k H (y + 1)).1.toNat)))) (N := fun rz => []) (vs := [(.int .i64 1)]) rfl rfl (fun w => T.mth88 _ _ w) (by decide) (fun wc hw => at_y W n cap b o H x xs k 1 y wc hk (by omega) (by omega) (Bg.at_lt hok hn hx (by first | exact Bg.bY hk hok | assumption)) (by omega) hx0 (hw.rd hr (fun x => x)))) (fun xq2 hq3 => ?_)
  refine GL.step (Stp.callR (vs := [(.int .u32 ((smp xs W x (bord k H (y + 1)).1.toNat)))]) rfl rfl T.own58 (by decide) (fun wc hw => value_p ((smp xs W x (bord k H (y + 1)).1.toNat)) wc)) (fun xq4 hq5 => ?_)
  refine GL.val (Ex.move rfl) (by decide) ?_
  refine GL.step (Stp.invokeR (σ := Unit) (p := fun rz => True) (v := fun rz => (.int .u32 ((smp xs W x (bord k H (y + (-1))).1.toNat)))) (N := fun rz => []) (vs := [(.int .i64 (-1))]) rfl rfl (fun w => T.mth88 _ _ w) (by decide) (fun wc hw => at_y W n cap b o H x xs k (-1) y wc hk (by omega) (by omega) (Bg.at_lt hok hn hx (by first | exact Bg.bY hk hok | assumption)) (by omega) hx0 (hw.rd hr (fun x => x)))) (fun xq6 hq7 => ?_)
  refine GL.step (Stp.callR (vs := [(.int .u32 ((smp xs W x (bord k H (y + (-1))).1.toNat)))]) rfl rfl T.own58 (by decide) (fun wc hw => value_p ((smp xs W x (bord k H (y + (-1))).1.toNat)) wc)) (fun xq8 hq9 => ?_)
  refine GL.step (Stp.fop (fx := (Fv.V ((smp xs W x (bord k H (y + 1)).1.toNat)))) (fy := (Fv.V ((smp xs W x (bord k H (y + (-1))).1.toNat)))) rfl rfl rfl hq5 hq9 (by decide)) (fun xq10 hq11 => ?_)
  refine GL.step (Stp.fop (fx := (Fv.op .sub .f64 (Fv.V ((smp xs W x (bord k H (y + 1)).1.toNat))) (Fv.V ((smp xs W x (bord k H (y + (-1))).1.toNat))))) (fy := (some 4611686018427387904)) rfl rfl rfl hq11 ⟨rfl, by decide +kernel⟩ (by decide)) (fun xq12 hq13 => ?_)
  refine GL.step (Stp.callR (vs := [(.float .f64 xq12)]) rfl rfl T.own59 (by decide) (fun wc hw => told_p xq12 (Fv.op .quo .f64 (Fv.op .sub .f64 (Fv.V ((smp xs W x (bord k H (y + 1)).1.toNat))) (Fv.V ((smp xs W x (bord k H (y + (-1))).1.toNat)))) (some 4611686018427387904)) wc hq13 (Bg.slp_ok hu W _ _ _ _))) (fun xq14 hq15 => ?_)
  refine GL.val (Ex.assign rfl) (by decide) ?_
  refine GL.nil ?_
  refine GE.thenN ?_
  refine GC.ret ?_
  refine GC.ret1 rfl (Rv.tmp rfl) (fun wN HN => ?_)
  exact HN.ret () trivial rfl (List.nil_sublist _) rfl

set_option maxRecDepth 100000 in
set_option maxHeartbeats 1000000 in
theorem grad_ok (W H n cap b o : Nat) (k : Int) (xs : List Int) (w : World) (hk : 1 ≤ k ∧ k ≤ 3) (hok : okP W H) (hn : n = W * H) (hx0 : xs.length = n) (hu : ∀ v ∈ xs, 0 ≤ v ∧ v < 4294967296) (hr : Rd w b o (xs.map u32)) :
    Calls Try.prog 26 #[(.agg #[(.int .i64 (((W : Nat) : Int))), (.int .i64 (((H : Nat) : Int))), (.slice (some ⟨b, o, none⟩) n cap)]), (.int .i64 k)] w (Ret w (fun _ : Nat × Nat => True) (fun p => .tuple #[(.agg #[(.int .i64 (((W : Nat) : Int))), (.int .i64 (((H : Nat) : Int))), (.slice (some ⟨p.1, 0, none⟩) (W * H) (W * H))]), (.agg #[(.int .i64 (((W : Nat) : Int))), (.int .i64 (((H : Nat) : Int))), (.slice (some ⟨p.2, 0, none⟩) (W * H) (W * H))]), .int .i64 0]) (fun p => [⟨p.2, (tab W (fun x y => Bg.sly xs W H k x y) (W * H)).map u32, 63, true⟩, ⟨p.1, (tab W (fun x y => Bg.slx xs W k x y) (W * H)).map u32, 63, true⟩])) := by
  have hW1 := hok.1
  have hH1 := hok.2.1
  have hW2 := hok.2.2.1
  have hH2 := hok.2.2.2.1
  have hA := hok.2.2.2.2
  refine enter (M := None) (L := []) (n := 31) (l := [(0, (.agg #[(.int .i64 (((W : Nat) : Int))), (.int .i64 (((H : Nat) : Int))), (.slice (some ⟨b, o, none⟩) n cap)])), (1, (.int .i64 k))]) Try.func26 rfl rfl (Args.cons rfl (Args.cons rfl (Args.nil _))) (Hp.start _ _) ?_
  refine GC.seq ?_
  refine GC.region ?_
  refine GL.step (Stp.box (cs := [(.int .i64 (((W : Nat) : Int))), (.int .i64 (((H : Nat) : Int))), (.slice (some ⟨b, o, none⟩) n cap)]) rfl rfl (by decide)) (fun bq1 _ => ?_)
  refine GL.step (Stp.alloc T.zr43 (by decide)) (fun bq2 _ => ?_)
  refine GL.step (Stp.alloc T.zr43 (by decide)) (fun bq3 _ => ?_)
  refine GL.val (Ex.assign rfl) (by decide) ?_
  refine GL.nil ?_
  refine GE.thenN ?_
  refine GC.seq ?_
  refine GC.seq ?_
  refine GC.region ?_
  refine GL.val (v := (.agg #[(.int .i64 (((W : Nat) : Int))), (.int .i64 (((H : Nat) : Int))), (.slice (some ⟨b, o, none⟩) n cap)])) (Ex.loadA rfl T.ag43 T.sz43 (i := 2) rfl (vs := [(.int .i64 (((W : Nat) : Int))), (.int .i64 (((H : Nat) : Int))), (.slice (some ⟨b, o, none⟩) n cap)]) rfl rfl) (by decide) ?_
  refine GL.step (Stp.callR (σ := Unit) (p := fun rz => True) (v := fun rz => (.int .i64 0)) (N := fun rz => []) (vs := [(.agg #[(.int .i64 (((W : Nat) : Int))), (.int .i64 (((H : Nat) : Int))), (.slice (some ⟨b, o, none⟩) n cap)])]) rfl rfl T.own46 (by decide) (fun wc hw => (by have h := check (((W : Nat) : Int)) (((H : Nat) : Int)) (some ⟨b, o, none⟩) n cap wc; rw [show chk (((W : Nat) : Int)) (((H : Nat) : Int)) (n) = 0 from (by rw [hn]; exact chk_ok hok)] at h; exact h))) (fun xq4 hq5 => ?_)
  refine GL.val (Ex.assign rfl) (by decide) ?_
  refine GL.nil ?_
  refine GE.thenN ?_
  refine GC.seq ?_
  refine GC.region ?_
  refine GL.val (Ex.move rfl) (by decide) ?_
  refine GL.val (v := (.bool false)) (Ex.cast (Ex.neq rfl rfl) rfl) (by decide) ?_
  refine GL.nil ?_
  refine GE.thenN ?_
  refine GC.cond rfl (fun hq6 => by cases hq6) (fun _ => ?_)
  refine GC.skip ?_
  refine GE.thenN ?_
  refine GC.seq ?_
  refine GC.seq ?_
  refine GC.region ?_
  refine GL.val (Ex.move rfl) (by decide) ?_
  refine GL.step (Stp.callR (vs := [(.int .i64 k)]) rfl rfl T.own47 (by decide) (fun wc hw => borders_p k wc)) (fun xq7 hq8 => ?_)
  refine GL.val (Ex.assign rfl) (by decide) ?_
  refine GL.nil ?_
  refine GE.thenN ?_
  refine GC.seq ?_
  refine GC.region ?_
  refine GL.val (Ex.move rfl) (by decide) ?_
  refine GL.val (v := (.bool false)) (Ex.cast (Ex.neq rfl rfl) (congrArg Value.bool (decide_eq_false (by rw [(bord_ok (i := 0) hk.1 hk.2 (show (1 : Int) ≤ 1 by decide) (by decide)).1]; decide)))) (by decide) ?_
  refine GL.nil ?_
  refine GE.thenN ?_
  refine GC.cond rfl (fun hq9 => by cases hq9) (fun _ => ?_)
  refine GC.skip ?_
  refine GE.thenN ?_
  refine GC.seq ?_
  refine GC.drawP [⟨bq1, [(.int .i64 (((W : Nat) : Int))), (.int .i64 (((H : Nat) : Int))), (.slice (some ⟨b, o, none⟩) n cap)], 43, true⟩] T.mixed (by kernel_rfl) (by kernel_rfl) (fuel := 10) rfl rfl ?_
  refine GH.take 0 (v := (.agg #[(.int .i64 (((W : Nat) : Int))), (.int .i64 (((H : Nat) : Int))), (.slice (some ⟨b, o, none⟩) n cap)])) rfl (by kernel_rfl) (by kernel_rfl) (by kernel_rfl) (fun _ _ _ h => h) (Ex.loadA rfl T.ag43 T.sz43 (i := 0) rfl (vs := [(.int .i64 (((W : Nat) : Int))), (.int .i64 (((H : Nat) : Int))), (.slice (some ⟨b, o, none⟩) n cap)]) rfl rfl) (ulS (ulS (ulC ulN))) (by decide) ?_
  refine GH.take 1 (v := (.int .i64 k)) rfl (by kernel_rfl) (by kernel_rfl) (by kernel_rfl) (fun _ _ _ h => h) (Ex.move rfl) (ulS (ulS (ulC ulN))) (by decide) ?_
  refine GH.take 2 (v := (.agg #[])) rfl (by kernel_rfl) (by kernel_rfl) (by kernel_rfl) (fun _ _ _ h => h) (Ex.build (vs := []) rfl (by first | rfl | kernel_rfl)) (ulS (ulS (ulC ulN))) (by decide) ?_
  refine GH.take 4 (v := (.agg #[(.int .i64 (((W : Nat) : Int))), (.int .i64 (((H : Nat) : Int))), (.slice (some ⟨b, o, none⟩) n cap)])) rfl (by kernel_rfl) (by kernel_rfl) (by kernel_rfl) (fun _ _ _ h => h) (Ex.loadA rfl T.ag43 T.sz43 (i := 0) rfl (vs := [(.int .i64 (((W : Nat) : Int))), (.int .i64 (((H : Nat) : Int))), (.slice (some ⟨b, o, none⟩) n cap)]) rfl rfl) (ulS (ulS (ulC ulN))) (by decide) ?_
  refine GH.take 5 (v := (.int .i64 k)) rfl (by kernel_rfl) (by kernel_rfl) (by kernel_rfl) (fun _ _ _ h => h) (Ex.move rfl) (ulS (ulS (ulC ulN))) (by decide) ?_
  refine GH.take 6 (v := (.agg #[])) rfl (by kernel_rfl) (by kernel_rfl) (by kernel_rfl) (fun _ _ _ h => h) (Ex.build (vs := []) rfl (by first | rfl | kernel_rfl)) (ulS (ulS (ulC ulN))) (by decide) ?_
  refine GH.one 3 rfl (by kernel_rfl) (Stp.callR (vs := [(.agg #[(.int .i64 (((W : Nat) : Int))), (.int .i64 (((H : Nat) : Int))), (.slice (some ⟨b, o, none⟩) n cap)]), (.int .i64 k), (.bool false), (.agg #[]), (.func (.func 54) #[] #[])]) rfl rfl T.own53 (by decide) (fun wc hw => sweepZ W H n cap (some ⟨b, o, none⟩) k false 54 (fun x y => Bg.slx xs W k x y) wc hn ⟨T.own54, fun x y w' hx hy hkp => slope_x W H n cap b o k xs x y w' hk hok hn hx0 hu ((hw.rd hr (fun x => x)).later hkp) hx hy⟩ hW2 hH2 hA)) (fun _ => (ulS (ulS (ulS (ulC ulN))))) (fun xq10 hq11 => ?_)
  refine GH.one 7 rfl (by kernel_rfl) (Stp.callR (vs := [(.agg #[(.int .i64 (((W : Nat) : Int))), (.int .i64 (((H : Nat) : Int))), (.slice (some ⟨b, o, none⟩) n cap)]), (.int .i64 k), (.bool true), (.agg #[]), (.func (.func 54) #[] #[])]) rfl rfl T.own53 (by decide) (fun wc hw => sweepZ W H n cap (some ⟨b, o, none⟩) k true 54 (fun x y => Bg.sly xs W H k x y) wc hn ⟨T.own54, fun x y w' hx hy hkp => slope_y W H n cap b o k xs x y w' hk hok hn hx0 hu ((hw.rd hr (fun x => x)).later hkp) hx hy⟩ hW2 hH2 hA)) (fun _ => (ulS (ulS (ulS (ulS (ulC ulN)))))) (fun xq12 hq13 => ?_)
  refine GH.one 8 rfl (by kernel_rfl) (Stp.st3 (cs' := [(.int .i64 (((W : Nat) : Int))), (.int .i64 (((H : Nat) : Int))), (.slice (some ⟨xq10, 0, none⟩) (W * H) (W * H))]) rfl rfl rfl T.sz43 rfl rfl rfl) (fun _ => (ulS (ulS (ulS (ulS (ulC ulN)))))) (fun _ _ => ?_)
  refine GH.one 9 rfl (by kernel_rfl) (Stp.st2 (cs' := [(.int .i64 (((W : Nat) : Int))), (.int .i64 (((H : Nat) : Int))), (.slice (some ⟨xq12, 0, none⟩) (W * H) (W * H))]) rfl rfl rfl T.sz43 rfl rfl rfl) (fun _ => (ulS (ulS (ulS (ulS (ulC ulN)))))) (fun _ _ => ?_)
  refine GH.done (by kernel_rfl) ?_
  refine GE.thenN ?_
  refine GE.tail rfl (Ex.wp (v := (.int .i64 0)) (Ex.assign rfl) (by decide)) (fun _ _ => ?_)
  refine GE.thenN ?_
  refine GC.ret ?_
  refine GC.ret3 rfl (Rv.cellA rfl T.ag43 T.sz43 (L := _) (i := 3) rfl (vs := [(.int .i64 (((W : Nat) : Int))), (.int .i64 (((H : Nat) : Int))), (.slice (some ⟨xq10, 0, none⟩) (W * H) (W * H))]) rfl rfl) (Rv.cellA rfl T.ag43 T.sz43 (L := _) (i := 2) rfl (vs := [(.int .i64 (((W : Nat) : Int))), (.int .i64 (((H : Nat) : Int))), (.slice (some ⟨xq12, 0, none⟩) (W * H) (W * H))]) rfl rfl) (Rv.tmp rfl) (fun wN HN => ?_)
  exact HN.ret (xq10, xq12) trivial rfl (ulC (ulC (ulS (ulS (ulS ulN))))) rfl

set_option maxRecDepth 100000 in
set_option maxHeartbeats 1000000 in
theorem words_eq (b1 o1 b2 o2 n c1 c2 : Nat) (xs : List Int) (w : World) (hx : xs.length = n) (hb : n ≤ 65536) (hr1 : Rd w b1 o1 (xs.map u32)) (hr2 : Rd w b2 o2 (xs.map u32)) :
    Calls Try.prog 50 #[(.slice (some ⟨b1, o1, none⟩) n c1), (.slice (some ⟨b2, o2, none⟩) n c2)] w (Ret w (fun _ : Unit => True) (fun _ => .bool true) (fun _ => [])) := by
  refine enter (M := None) (L := []) (n := 26) (l := [(0, (.slice (some ⟨b1, o1, none⟩) n c1)), (1, (.slice (some ⟨b2, o2, none⟩) n c2))]) Try.func50 rfl rfl (Args.cons rfl (Args.cons rfl (Args.nil _))) (Hp.start _ _) ?_
  refine GC.seq ?_
  refine GC.region ?_
  refine GL.val (Ex.assign rfl) (by decide) ?_
  refine GL.nil ?_
  refine GE.thenN ?_
  refine GC.seq ?_
  refine GC.seq ?_
  refine GC.region ?_
  refine GL.val (Ex.move rfl) (by decide) ?_
  refine GL.val (v := (.int .i64 ((n : Int)))) (Ex.len rfl Try.underlying41) (by decide) ?_
  refine GL.val (Ex.move rfl) (by decide) ?_
  refine GL.val (v := (.int .i64 ((n : Int)))) (Ex.len rfl Try.underlying41) (by decide) ?_
  refine GL.val (v := (.bool false)) (Ex.cast (Ex.neq rfl rfl) (congrArg Value.bool (decide_eq_false (by simp)))) (by decide) ?_
  refine GL.nil ?_
  refine GE.thenN ?_
  refine GC.cond rfl (fun hq1 => by cases hq1) (fun _ => ?_)
  refine GC.skip ?_
  refine GE.thenN ?_
  refine GC.seq ?_
  refine GC.seq ?_
  refine GC.region ?_
  refine GL.val (Ex.assign rfl) (by decide) ?_
  refine GL.nil ?_
  refine GE.thenN ?_
  refine GC.block ?_
  refine GC.loop (σ := Nat) (fun k => k ≤ n) (fun k => [(0, (.slice (some ⟨b1, o1, none⟩) n c1)), (1, (.slice (some ⟨b2, o2, none⟩) n c2)), (4, (.bool false)), (5, (.int .i64 (((k : Nat) : Int))))]) (fun k => []) (fun k => n - k) (0) (Nat.zero_le _) ((sub_cons rfl ((sub_cons rfl ((sub_cons rfl ((sub_cons rfl ((sub_nil _)))))))))) ulN (fun k hp => ?_)
  refine GC.seq ?_
  refine GC.seq ?_
  refine GC.region ?_
  refine GL.val (Ex.move rfl) (by decide) ?_
  refine GL.val (Ex.move rfl) (by decide) ?_
  refine GL.val (v := (.int .i64 ((n : Int)))) (Ex.len rfl Try.underlying41) (by decide) ?_
  refine GL.val (v := (.bool (decide ((((k : Nat) : Int)) < ((n : Int)))))) (Ex.lss rfl rfl) (by decide) ?_
  refine GL.nil ?_
  refine GE.thenN ?_
  refine GC.cond rfl (fun hq2 => ?_) (fun hq2 => ?_)
  · replace hq2 := of_decide_eq_true hq2
    refine GC.skip ?_
    refine GE.thenN ?_
    refine GC.seq ?_
    refine GC.block ?_
    refine GC.seq ?_
    refine GC.draw [] T.mixed (fuel := 9) rfl rfl ?_
    refine GH.take 0 (v := (.slice (some ⟨b1, o1, none⟩) n c1)) rfl (by kernel_rfl) (by kernel_rfl) (by kernel_rfl) (fun _ _ _ h => h) (Ex.move rfl) ulN (by decide) ?_
    refine GH.take 1 (v := (.int .i64 (((k : Nat) : Int)))) rfl (by kernel_rfl) (by kernel_rfl) (by kernel_rfl) (fun _ _ _ h => h) (Ex.move rfl) ulN (by decide) ?_
    refine GH.take 2 (v := (.pointer (some ⟨b1, o1 + k, none⟩))) rfl (by kernel_rfl) (by kernel_rfl) (by kernel_rfl) (fun _ _ _ h => h) (Ex.cast (Ex.indexAddr rfl rfl Try.underlying41 T.sz63 (by omega) (by omega)) (by simp)) ulN (by decide) ?_
    refine GH.take 3 (v := (.int .u32 ((xs.getD k 0)))) rfl (by kernel_rfl) (by kernel_rfl) (by kernel_rfl) (fun _ _ _ h => h) (Ex.loadO rfl T.ag63 (Rd.at hr1 (by omega)) (fun x => x)) ulN (by decide) ?_
    refine GH.take 4 (v := (.slice (some ⟨b2, o2, none⟩) n c2)) rfl (by kernel_rfl) (by kernel_rfl) (by kernel_rfl) (fun _ _ _ h => h) (Ex.move rfl) ulN (by decide) ?_
    refine GH.take 5 (v := (.int .i64 (((k : Nat) : Int)))) rfl (by kernel_rfl) (by kernel_rfl) (by kernel_rfl) (fun _ _ _ h => h) (Ex.move rfl) ulN (by decide) ?_
    refine GH.take 6 (v := (.pointer (some ⟨b2, o2 + k, none⟩))) rfl (by kernel_rfl) (by kernel_rfl) (by kernel_rfl) (fun _ _ _ h => h) (Ex.cast (Ex.indexAddr rfl rfl Try.underlying41 T.sz63 (by omega) (by omega)) (by simp)) ulN (by decide) ?_
    refine GH.take 7 (v := (.int .u32 ((xs.getD k 0)))) rfl (by kernel_rfl) (by kernel_rfl) (by kernel_rfl) (fun _ _ _ h => h) (Ex.loadO rfl T.ag63 (Rd.at hr2 (by omega)) (fun x => x)) ulN (by decide) ?_
    refine GH.take 8 (v := (.bool false)) rfl (by kernel_rfl) (by kernel_rfl) (by kernel_rfl) (fun _ _ _ h => h) (Ex.cast (Ex.neq rfl rfl) (congrArg Value.bool (decide_eq_false (by simp)))) ulN (by decide) ?_
    refine GH.done (by kernel_rfl) ?_
    refine GE.thenN ?_
    refine GC.cond rfl (fun hq3 => by cases hq3) (fun _ => ?_)
    refine GC.skip ?_
    refine GE.blockN ?_
    refine GE.thenN ?_
    refine GC.region ?_
    refine GL.val (Ex.move rfl) (by decide) ?_
    refine GL.val (v := (.int .i64 (((k + 1 : Nat) : Int)))) (Ex.add rfl rfl (Z := ((k + 1 : Nat) : Int)) (addN (b := 1) (by omega))) (by decide) ?_
    refine GL.val (Ex.assign rfl) (by decide) ?_
    refine GL.nil ?_
    refine GE.thenN ?_
    exact Head.mk (k + 1) (by omega) (by omega) ((sub_cons rfl ((sub_cons rfl ((sub_cons rfl ((sub_cons rfl ((sub_nil _)))))))))) ulN
  · replace hq2 := of_decide_eq_false hq2
    refine GC.exit ?_
    refine GE.thenE ?_
    refine GE.thenE ?_
    refine GE.blockE ?_
    refine GE.thenN ?_
    refine GC.seq ?_
    refine GC.region ?_
    refine GL.val (Ex.assign rfl) (by decide) ?_
    refine GL.nil ?_
    refine GE.thenN ?_
    refine GC.ret ?_
    refine GC.ret1 rfl (Rv.tmp rfl) (fun wN HN => ?_)
    exact HN.ret () trivial rfl (List.nil_sublist _) rfl

set_option maxRecDepth 100000 in
set_option maxHeartbeats 1000000 in
theorem help_eq (W H : Int) (b1 o1 b2 o2 n c1 c2 : Nat) (xs : List Int) (w : World) (hx : xs.length = n) (hb : n ≤ 65536) (hr1 : Rd w b1 o1 (xs.map u32)) (hr2 : Rd w b2 o2 (xs.map u32)) :
    Calls Try.prog 22 #[(.agg #[(.int .i64 W), (.int .i64 H), (.slice (some ⟨b1, o1, none⟩) n c1)]), (.agg #[(.int .i64 W), (.int .i64 H), (.slice (some ⟨b2, o2, none⟩) n c2)])] w (Ret w (fun _ : Unit => True) (fun _ => .bool true) (fun _ => [])) := by
  refine enter (M := None) (L := []) (n := 24) (l := [(0, (.agg #[(.int .i64 W), (.int .i64 H), (.slice (some ⟨b1, o1, none⟩) n c1)])), (1, (.agg #[(.int .i64 W), (.int .i64 H), (.slice (some ⟨b2, o2, none⟩) n c2)]))]) Try.func22 rfl rfl (Args.cons rfl (Args.cons rfl (Args.nil _))) (Hp.start _ _) ?_
  refine GC.seq ?_
  refine GC.region ?_
  refine GL.step (Stp.box (cs := [(.int .i64 W), (.int .i64 H), (.slice (some ⟨b1, o1, none⟩) n c1)]) rfl rfl (by decide)) (fun bq1 _ => ?_)
  refine GL.step (Stp.box (cs := [(.int .i64 W), (.int .i64 H), (.slice (some ⟨b2, o2, none⟩) n c2)]) rfl rfl (by decide)) (fun bq2 _ => ?_)
  refine GL.val (Ex.assign rfl) (by decide) ?_
  refine GL.nil ?_
  refine GE.thenN ?_
  refine GC.seq ?_
  refine GC.region ?_
  refine GL.val (v := (.pointer (some ⟨bq1, 0, none⟩))) (Ex.cast (Ex.fieldAddr rfl Try.underlying43 rfl T.sz3 (by decide)) rfl) (by decide) ?_
  refine GL.val (Ex.load rfl T.ag3 (i := 1) rfl rfl) (by decide) ?_
  refine GL.val (v := (.pointer (some ⟨bq2, 0, none⟩))) (Ex.cast (Ex.fieldAddr rfl Try.underlying43 rfl T.sz3 (by decide)) rfl) (by decide) ?_
  refine GL.val (Ex.load rfl T.ag3 (i := 0) rfl rfl) (by decide) ?_
  refine GL.val (v := (.bool true)) (Ex.cast (Ex.eql rfl rfl) (congrArg Value.bool (decide_eq_true (by simp)))) (by decide) ?_
  refine GL.val (Ex.move rfl) (by decide) ?_
  refine GL.stepG (tj := 10) rfl rfl (Ex.wp (v := (.pointer (some ⟨bq1, 1, none⟩))) (Ex.cast (Ex.fieldAddr rfl Try.underlying43 rfl T.sz3 (by decide)) rfl) (by decide)) (fun _ _ => ?_)
  refine GL.stepG (tj := 10) rfl rfl (Ex.wp (v := (.int .i64 H)) (Ex.load rfl T.ag3 (i := 1) rfl rfl) (by decide)) (fun _ _ => ?_)
  refine GL.stepG (tj := 10) rfl rfl (Ex.wp (v := (.pointer (some ⟨bq2, 1, none⟩))) (Ex.cast (Ex.fieldAddr rfl Try.underlying43 rfl T.sz3 (by decide)) rfl) (by decide)) (fun _ _ => ?_)
  refine GL.stepG (tj := 10) rfl rfl (Ex.wp (v := (.int .i64 H)) (Ex.load rfl T.ag3 (i := 0) rfl rfl) (by decide)) (fun _ _ => ?_)
  refine GL.stepG (tj := 10) rfl rfl (Ex.wp (v := (.bool true)) (Ex.cast (Ex.eql rfl rfl) (congrArg Value.bool (decide_eq_true (by simp)))) (by decide)) (fun _ _ => ?_)
  refine GL.val (v := (.bool true)) (Ex.pickT rfl rfl) (by decide) ?_
  refine GL.val (Ex.move rfl) (by decide) ?_
  refine GL.stepG (tj := 17) rfl rfl (Ex.wp (v := (.pointer (some ⟨bq1, 2, none⟩))) (Ex.cast (Ex.fieldAddr rfl Try.underlying43 rfl T.sz41 (by decide)) rfl) (by decide)) (fun _ _ => ?_)
  refine GL.stepG (tj := 17) rfl rfl (Ex.wp (v := (.slice (some ⟨b1, o1, none⟩) n c1)) (Ex.load rfl T.ag41 (i := 1) rfl rfl) (by decide)) (fun _ _ => ?_)
  refine GL.stepG (tj := 17) rfl rfl (Ex.wp (v := (.pointer (some ⟨bq2, 2, none⟩))) (Ex.cast (Ex.fieldAddr rfl Try.underlying43 rfl T.sz41 (by decide)) rfl) (by decide)) (fun _ _ => ?_)
  refine GL.stepG (tj := 17) rfl rfl (Ex.wp (v := (.slice (some ⟨b2, o2, none⟩) n c2)) (Ex.load rfl T.ag41 (i := 0) rfl rfl) (by decide)) (fun _ _ => ?_)
  refine GL.stepG (tj := 17) rfl rfl (Stp.callR (vs := [(.slice (some ⟨b1, o1, none⟩) n c1), (.slice (some ⟨b2, o2, none⟩) n c2)]) rfl rfl T.own50 (by decide) (fun wc hw => words_eq b1 o1 b2 o2 n c1 c2 xs wc hx hb (hw.rd hr1 (fun x => x)) (hw.rd hr2 (fun x => x)))) (fun xq3 hq4 => ?_)
  refine GL.val (v := (.bool true)) (Ex.pickT rfl rfl) (by decide) ?_
  refine GL.val (Ex.assign rfl) (by decide) ?_
  refine GL.nil ?_
  refine GE.thenN ?_
  refine GC.ret ?_
  refine GC.ret1 rfl (Rv.tmp rfl) (fun wN HN => ?_)
  exact HN.ret () trivial rfl (List.nil_sublist _) rfl

set_option maxRecDepth 100000 in
set_option maxHeartbeats 1000000 in
theorem weigh_x (W H n cap b o : Nat) (k : Int) (xs : List Int) (x y : Nat) (bw cw : Nat) (g : Nat → Int) (r : Nat) (w : World) (hk : 1 ≤ k ∧ k ≤ 3) (hok : okP W H) (hn : n = W * H) (hx0 : xs.length = n) (hu : ∀ v ∈ xs, 0 ≤ v ∧ v < 4294967296) (hr : Rd w b o (xs.map u32)) (hx : x < W) (hy : y < H) (hrr : r ≤ 7) (hg : ∀ i, i < 2 * r + 1 → 1 ≤ g i ∧ g i ≤ 16384) (hh : Has w [⟨bw, wl (2 * r + 1) g, 3, false⟩]) :
    Calls Try.prog 49 #[(.iface 108 (.agg #[(.int .i64 (((W : Nat) : Int))), (.int .i64 (((H : Nat) : Int))), (.slice (some ⟨b, o, none⟩) n cap), (.int .i64 k), (.int .i64 (((x : Nat) : Int))), (.int .i64 (((y : Nat) : Int))), (.bool false)])), (.slice (some ⟨bw, 0, none⟩) (2 * r + 1) cw)] w (Ret w (fun _ : Unit => True) (fun _ => (.int .u32 ((Bg.blx g r xs W k x y)))) (fun _ => [])) := by
  have hW1 := hok.1
  have hH1 := hok.2.1
  have hW2 := hok.2.2.1
  have hH2 := hok.2.2.2.1
  have hA := hok.2.2.2.2
  have ha0 : Fv.Is .f64 0 (Bl.acc g (fun i => Fv.V (Bg.nx xs W k x y (((i : Nat) : Int) - ((r : Nat) : Int)))) 0) := (show Fv.Is .f64 0 (some 0) from ⟨rfl, by decide +kernel⟩)
  refine enter (M := None) (L := [⟨bw, wl (2 * r + 1) g, 3, false⟩]) (n := 43) (l := [(0, (.iface 108 (.agg #[(.int .i64 (((W : Nat) : Int))), (.int .i64 (((H : Nat) : Int))), (.slice (some ⟨b, o, none⟩) n cap), (.int .i64 k), (.int .i64 (((x : Nat) : Int))), (.int .i64 (((y : Nat) : Int))), (.bool false)]))), (1, (.slice (some ⟨bw, 0, none⟩) (2 * r + 1) cw))]) Try.func49 rfl rfl (Args.cons rfl (Args.cons rfl (Args.nil _))) (Hp.reads hh rfl) ?_
  refine GC.seq ?_
  refine GC.region ?_
  refine GL.val (Ex.assign rfl) (by decide) ?_
  refine GL.nil ?_
  refine GE.thenN ?_
  refine GC.seq ?_
  refine GC.region ?_
  refine GL.val (Ex.assign rfl) (by decide) ?_
  refine GL.val (Ex.assign rfl) (by decide) ?_
  refine GL.nil ?_
  refine GE.thenN ?_
  refine GC.seq ?_
  refine GC.seq ?_
  refine GC.region ?_
  refine GL.val (Ex.move rfl) (by decide) ?_
  refine GL.val (v := (.int .i64 (((2 * r + 1) : Int)))) (Ex.len rfl Try.underlying28) (by decide) ?_
  refine GL.val (Ex.move rfl) (by decide) ?_
  refine GL.nil ?_
  refine GE.thenN ?_
  refine GC.block ?_
  refine GC.loop (σ := Nat × Nat) (fun q => (q.1) ≤ 2 * r + 1 ∧ Fv.Is .f64 (q.2) (Bl.acc g (fun i => Fv.V (Bg.nx xs W k x y (((i : Nat) : Int) - ((r : Nat) : Int)))) ((q.1)))) (fun q => [(0, (.iface 108 (.agg #[(.int .i64 (((W : Nat) : Int))), (.int .i64 (((H : Nat) : Int))), (.slice (some ⟨b, o, none⟩) n cap), (.int .i64 k), (.int .i64 (((x : Nat) : Int))), (.int .i64 (((y : Nat) : Int))), (.bool false)]))), (1, (.slice (some ⟨bw, 0, none⟩) (2 * r + 1) cw)), (5, (.float .f64 ((q.2)))), (6, (.int .i64 ((Bl.sm g ((q.1)))))), (10, (.slice (some ⟨bw, 0, none⟩) (2 * r + 1) cw)), (11, (.int .i64 (((2 * r + 1 : Nat) : Int)))), (12, (.int .i64 ((((q.1) : Nat) : Int))))]) (fun q => [⟨bw, wl (2 * r + 1) g, 3, false⟩]) (fun q => 2 * r + 1 - (q.1)) ((0, 0)) ⟨Nat.zero_le _, ha0⟩ ((sub_cons rfl ((sub_cons rfl ((sub_cons rfl ((sub_cons rfl ((sub_cons rfl ((sub_cons rfl ((sub_cons rfl ((sub_nil _)))))))))))))))) (ulC ulN) (fun q hp => ?_)
  obtain ⟨k', z⟩ := q
  have hp : k' ≤ 2 * r + 1 ∧ Fv.Is .f64 z (Bl.acc g (fun i => Fv.V (Bg.nx xs W k x y (((i : Nat) : Int) - ((r : Nat) : Int)))) k') := hp
  refine GC.seq ?_
  refine GC.region ?_
  refine GL.val (v := (.bool (decide ((((k' : Nat) : Int)) < (((2 * r + 1 : Nat) : Int)))))) (Ex.lss rfl rfl) (by decide) ?_
  refine GL.nil ?_
  refine GE.thenN ?_
  refine GC.seq ?_
  refine GC.cond rfl (fun hq1 => ?_) (fun hq1 => ?_)
  · replace hq1 := of_decide_eq_true hq1
    refine GC.skip ?_
    refine GE.thenN ?_
    refine GC.seq ?_
    refine GC.block ?_
    refine GC.seq ?_
    refine GC.region ?_
    refine GL.val (Ex.move rfl) (by decide) ?_
    refine GL.val (v := (.pointer (some ⟨bw, (((k' : Nat) : Int)).toNat, none⟩))) (Ex.cast (Ex.indexAddr rfl rfl Try.underlying28 T.sz3 (by omega) (by omega)) (by simp)) (by decide) ?_
    refine GL.val (Ex.load rfl T.ag3 (i := 0) rfl (wl_at (by omega))) (by decide) ?_
    refine GL.val (Ex.assign rfl) (by decide) ?_
    refine GL.val (Ex.assign rfl) (by decide) ?_
    refine GL.nil ?_
    refine GE.thenN ?_
    refine GC.seq ?_
    refine GC.region ?_
    refine GL.val (Ex.move rfl) (by decide) ?_
    refine GL.val (v := (.float .f64 ((floatOfInt .f64 ((g k')))))) (Ex.cif rfl Try.underlying3 Try.underlying61) (by decide) ?_
    refine GL.val (Ex.move rfl) (by decide) ?_
    refine GL.val (Ex.move rfl) (by decide) ?_
    refine GL.val (Ex.move rfl) (by decide) ?_
    refine GL.val (v := (.int .i64 (((2 * r + 1) : Int)))) (Ex.len rfl Try.underlying28) (by decide) ?_
    refine GL.val (v := (.int .i64 (((r : Nat) : Int)))) (Ex.quo rfl rfl (Z := ((r : Nat) : Int)) (by omega) (Bg.quo_half r hrr)) (by decide) ?_
    refine GL.val (v := (.int .i64 ((((k' : Nat) : Int) - ((r : Nat) : Int))))) (Ex.sub' rfl rfl (Z := (((k' : Nat) : Int) - ((r : Nat) : Int))) (w64 (by omega))) (by decide) ?_
    refine GL.step (Stp.invokeR (σ := Unit) (p := fun rz => True) (v := fun rz => (.int .u32 ((smp xs W (bord k W (x + ((((k' : Nat) : Int) - ((r : Nat) : Int))))).1.toNat y)))) (N := fun rz => []) (vs := [(.int .i64 ((((k' : Nat) : Int) - ((r : Nat) : Int))))]) rfl rfl (fun w => T.mth88 _ _ w) (by decide) (fun wc hw => at_x W n cap b o y xs k ((((k' : Nat) : Int) - ((r : Nat) : Int))) H x wc hk (by omega) (by omega) (Bg.at_lt hok hn (by first | exact Bg.bX hk hok | assumption) hy) (by omega) hx0 (hw.rd hr (fun x => x)))) (fun xq2 hq3 => ?_)
    refine GL.step (Stp.callR (vs := [(.int .u32 ((smp xs W (bord k W (x + ((((k' : Nat) : Int) - ((r : Nat) : Int))))).1.toNat y)))]) rfl rfl T.own58 (by decide) (fun wc hw => value_p ((smp xs W (bord k W (x + ((((k' : Nat) : Int) - ((r : Nat) : Int))))).1.toNat y)) wc)) (fun xq4 hq5 => ?_)
    refine GL.step (Stp.fop (fx := (some (floatOfInt .f64 ((g k'))))) (fy := (Fv.V ((smp xs W (bord k W (x + ((((k' : Nat) : Int) - ((r : Nat) : Int))))).1.toNat y)))) rfl rfl rfl ⟨rfl, Fv.ofInt_ne _ _⟩ hq5 (by decide)) (fun xq6 hq7 => ?_)
    refine GL.val (Ex.assign rfl) (by decide) ?_
    refine GL.nil ?_
    refine GE.thenN ?_
    refine GC.seq ?_
    refine GC.region ?_
    refine GL.val (Ex.move rfl) (by decide) ?_
    refine GL.val (Ex.move rfl) (by decide) ?_
    refine GL.val (v := (.int .i64 ((Bl.sm g (k' + 1))))) (Ex.add rfl rfl (Z := (Bl.sm g (k' + 1))) (Bl.sm_add (by omega) (fun i hi => hg i (by omega)))) (by decide) ?_
    refine GL.val (Ex.assign rfl) (by decide) ?_
    refine GL.nil ?_
    refine GE.thenN ?_
    refine GC.seq ?_
    refine GC.seq ?_
    refine GC.region ?_
    refine GL.val (Ex.move rfl) (by decide) ?_
    refine GL.val (v := (.bool (decide ((((k' : Nat) : Int)) = 0)))) (Ex.eql rfl rfl) (by decide) ?_
    refine GL.nil ?_
    refine GE.thenN ?_
    refine GC.cond rfl (fun hq8 => ?_) (fun hq8 => ?_)
    · replace hq8 := of_decide_eq_true hq8
      refine GC.seq ?_
      refine GC.region ?_
      refine GL.val (Ex.move rfl) (by decide) ?_
      refine GL.val (Ex.assign rfl) (by decide) ?_
      refine GL.nil ?_
      refine GE.thenN ?_
      refine GC.exit ?_
      refine GE.thenE ?_
      refine GE.blockE ?_
      refine GE.thenN ?_
      refine GC.region ?_
      refine GL.val (v := (.int .i64 (((k' + 1 : Nat) : Int)))) (Ex.add rfl rfl (Z := ((k' + 1 : Nat) : Int)) (addN (b := 1) (by omega))) (by decide) ?_
      refine GL.val (Ex.move rfl) (by decide) ?_
      refine GL.nil ?_
      refine GE.thenN ?_
      exact Head.mk ((k' + 1, xq6)) ⟨(by show k' + 1 ≤ 2 * r + 1; omega), (by show Fv.Is .f64 xq6 (Bl.acc g (fun i => Fv.V (Bg.nx xs W k x y (((i : Nat) : Int) - ((r : Nat) : Int)))) (k' + 1)); rw [Bl.acc_first (by omega)]; exact hq7)⟩ (by show 2 * r + 1 - (k' + 1) < 2 * r + 1 - k'; omega) ((sub_cons rfl ((sub_cons rfl ((sub_cons rfl ((sub_cons rfl ((sub_cons rfl ((sub_cons rfl ((sub_cons rfl ((sub_nil _)))))))))))))))) (ulC ulN)
    · replace hq8 := of_decide_eq_false hq8
      refine GC.skip ?_
      refine GE.thenN ?_
      refine GC.region ?_
      refine GL.val (Ex.move rfl) (by decide) ?_
      refine GL.val (Ex.move rfl) (by decide) ?_
      refine GL.step (Stp.fop (fx := (Bl.acc g (fun i => Fv.V (Bg.nx xs W k x y (((i : Nat) : Int) - ((r : Nat) : Int)))) k')) (fy := (Fv.op .mul .f64 (some (floatOfInt .f64 ((g k')))) (Fv.V ((smp xs W (bord k W (x + ((((k' : Nat) : Int) - ((r : Nat) : Int))))).1.toNat y))))) rfl rfl rfl hp.2 hq7 (by decide)) (fun xq9 hq10 => ?_)
      refine GL.val (Ex.assign rfl) (by decide) ?_
      refine GL.nil ?_
      refine GE.blockN ?_
      refine GE.thenN ?_
      refine GC.region ?_
      refine GL.val (v := (.int .i64 (((k' + 1 : Nat) : Int)))) (Ex.add rfl rfl (Z := ((k' + 1 : Nat) : Int)) (addN (b := 1) (by omega))) (by decide) ?_
      refine GL.val (Ex.move rfl) (by decide) ?_
      refine GL.nil ?_
      refine GE.thenN ?_
      exact Head.mk ((k' + 1, xq9)) ⟨(by show k' + 1 ≤ 2 * r + 1; omega), (by show Fv.Is .f64 xq9 (Bl.acc g (fun i => Fv.V (Bg.nx xs W k x y (((i : Nat) : Int) - ((r : Nat) : Int)))) (k' + 1)); rw [Bl.acc_next (by omega)]; exact hq10)⟩ (by show 2 * r + 1 - (k' + 1) < 2 * r + 1 - k'; omega) ((sub_cons rfl ((sub_cons rfl ((sub_cons rfl ((sub_cons rfl ((sub_cons rfl ((sub_cons rfl ((sub_cons rfl ((sub_nil _)))))))))))))))) (ulC ulN)
  · replace hq1 := of_decide_eq_false hq1
    have ek : k' = 2 * r + 1 := by omega
    refine GC.exit ?_
    refine GE.thenE ?_
    refine GE.thenE ?_
    refine GE.blockE ?_
    refine GE.thenN ?_
    refine GC.seq ?_
    refine GC.region ?_
    refine GL.val (Ex.move rfl) (by decide) ?_
    refine GL.val (Ex.move rfl) (by decide) ?_
    refine GL.val (v := (.float .f64 ((floatOfInt .f64 ((Bl.sm g k')))))) (Ex.cif rfl Try.underlying3 Try.underlying61) (by decide) ?_
    refine GL.step (Stp.fop (fx := (Bl.acc g (fun i => Fv.V (Bg.nx xs W k x y (((i : Nat) : Int) - ((r : Nat) : Int)))) k')) (fy := (some (floatOfInt .f64 ((Bl.sm g k'))))) rfl rfl rfl hp.2 ⟨rfl, Fv.ofInt_ne _ _⟩ (by decide)) (fun xq11 hq12 => ?_)
    refine GL.step (Stp.callR (vs := [(.float .f64 xq11)]) rfl rfl T.own59 (by decide) (fun wc hw => told_p xq11 (Fv.op .quo .f64 (Bl.acc g (fun i => Fv.V (Bg.nx xs W k x y (((i : Nat) : Int) - ((r : Nat) : Int)))) k') (some (floatOfInt .f64 ((Bl.sm g k'))))) wc hq12 (by rw [ek]; exact Bl.wq_holds (g := g) (l := (fun i => Bg.nx xs W k x y (((i : Nat) : Int) - ((r : Nat) : Int)))) (m := 2 * r + 1) (by omega) (by omega) hg (fun i hi => Bg.smp_bd hu W _ _)))) (fun xq13 hq14 => ?_)
    refine GL.val (Ex.assign rfl) (by decide) ?_
    refine GL.nil ?_
    refine GE.thenN ?_
    refine GC.ret ?_
    refine GC.ret1 rfl (Rv.tmp rfl) (fun wN HN => ?_)
    exact HN.ret () trivial (by rw [ek]; rfl) (List.nil_sublist _) rfl

set_option maxRecDepth 100000 in
set_option maxHeartbeats 1000000 in
theorem weigh_y (W H n cap b o : Nat) (k : Int) (xs : List Int) (x y : Nat) (bw cw : Nat) (g : Nat → Int) (r : Nat) (w : World) (hk : 1 ≤ k ∧ k ≤ 3) (hok : okP W H) (hn : n = W * H) (hx0 : xs.length = n) (hu : ∀ v ∈ xs, 0 ≤ v ∧ v < 4294967296) (hr : Rd w b o (xs.map u32)) (hx : x < W) (hy : y < H) (hrr : r ≤ 7) (hg : ∀ i, i < 2 * r + 1 → 1 ≤ g i ∧ g i ≤ 16384) (hh : Has w [⟨bw, wl (2 * r + 1) g, 3, false⟩]) :
    Calls Try.prog 49 #[(.iface 108 (.agg #[(.int .i64 (((W : Nat) : Int))), (.int .i64 (((H : Nat) : Int))), (.slice (some ⟨b, o, none⟩) n cap), (.int .i64 k), (.int .i64 (((x : Nat) : Int))), (.int .i64 (((y : Nat) : Int))), (.bool true)])), (.slice (some ⟨bw, 0, none⟩) (2 * r + 1) cw)] w (Ret w (fun _ : Unit => True) (fun _ => (.int .u32 ((Bg.bly g r xs W H k x y)))) (fun _ => [])) := by
  have hW1 := hok.1
  have hH1 := hok.2.1
  have hW2 := hok.2.2.1
  have hH2 := hok.2.2.2.1
  have hA := hok.2.2.2.2
  have ha0 : Fv.Is .f64 0 (Bl.acc g (fun i => Fv.V (Bg.ny xs W H k x y (((i : Nat) : Int) - ((r : Nat) : Int)))) 0) := (show Fv.Is .f64 0 (some 0) from ⟨rfl, by decide +kernel⟩)
  refine enter (M := None) (L := [⟨bw, wl (2 * r + 1) g, 3, false⟩]) (n := 43) (l := [(0, (.iface 108 (.agg #[(.int .i64 (((W : Nat) : Int))), (.int .i64 (((H : Nat) : Int))), (.slice (some ⟨b, o, none⟩) n cap), (.int .i64 k), (.int .i64 (((x : Nat) : Int))), (.int .i64 (((y : Nat) : Int))), (.bool true)]))), (1, (.slice (some ⟨bw, 0, none⟩) (2 * r + 1) cw))]) Try.func49 rfl rfl (Args.cons rfl (Args.cons rfl (Args.nil _))) (Hp.reads hh rfl) ?_
  refine GC.seq ?_
  refine GC.region ?_
  refine GL.val (Ex.assign rfl) (by decide) ?_
  refine GL.nil ?_
  refine GE.thenN ?_
  refine GC.seq ?_
  refine GC.region ?_
  refine GL.val (Ex.assign rfl) (by decide) ?_
  refine GL.val (Ex.assign rfl) (by decide) ?_
  refine GL.nil ?_
  refine GE.thenN ?_
  refine GC.seq ?_
  refine GC.seq ?_
  refine GC.region ?_
  refine GL.val (Ex.move rfl) (by decide) ?_
  refine GL.val (v := (.int .i64 (((2 * r + 1) : Int)))) (Ex.len rfl Try.underlying28) (by decide) ?_
  refine GL.val (Ex.move rfl) (by decide) ?_
  refine GL.nil ?_
  refine GE.thenN ?_
  refine GC.block ?_
  refine GC.loop (σ := Nat × Nat) (fun q => (q.1) ≤ 2 * r + 1 ∧ Fv.Is .f64 (q.2) (Bl.acc g (fun i => Fv.V (Bg.ny xs W H k x y (((i : Nat) : Int) - ((r : Nat) : Int)))) ((q.1)))) (fun q => [(0, (.iface 108 (.agg #[(.int .i64 (((W : Nat) : Int))), (.int .i64 (((H : Nat) : Int))), (.slice (some ⟨b, o, none⟩) n cap), (.int .i64 k), (.int .i64 (((x : Nat) : Int))), (.int .i64 (((y : Nat) : Int))), (.bool true)]))), (1, (.slice (some ⟨bw, 0, none⟩) (2 * r + 1) cw)), (5, (.float .f64 ((q.2)))), (6, (.int .i64 ((Bl.sm g ((q.1)))))), (10, (.slice (some ⟨bw, 0, none⟩) (2 * r + 1) cw)), (11, (.int .i64 (((2 * r + 1 : Nat) : Int)))), (12, (.int .i64 ((((q.1) : Nat) : Int))))]) (fun q => [⟨bw, wl (2 * r + 1) g, 3, false⟩]) (fun q => 2 * r + 1 - (q.1)) ((0, 0)) ⟨Nat.zero_le _, ha0⟩ ((sub_cons rfl ((sub_cons rfl ((sub_cons rfl ((sub_cons rfl ((sub_cons rfl ((sub_cons rfl ((sub_cons rfl ((sub_nil _)))))))))))))))) (ulC ulN) (fun q hp => ?_)
  obtain ⟨k', z⟩ := q
  have hp : k' ≤ 2 * r + 1 ∧ Fv.Is .f64 z (Bl.acc g (fun i => Fv.V (Bg.ny xs W H k x y (((i : Nat) : Int) - ((r : Nat) : Int)))) k') := hp
  refine GC.seq ?_
  refine GC.region ?_
  refine GL.val (v := (.bool (decide ((((k' : Nat) : Int)) < (((2 * r + 1 : Nat) : Int)))))) (Ex.lss rfl rfl) (by decide) ?_
  refine GL.nil ?_
  refine GE.thenN ?_
  refine GC.seq ?_
  refine GC.cond rfl (fun hq1 => ?_) (fun hq1 => ?_)
  · replace hq1 := of_decide_eq_true hq1
    refine GC.skip ?_
    refine GE.thenN ?_
    refine GC.seq ?_
    refine GC.block ?_
    refine GC.seq ?_
    refine GC.region ?_
    refine GL.val (Ex.move rfl) (by decide) ?_
    refine GL.val (v := (.pointer (some ⟨bw, (((k' : Nat) : Int)).toNat, none⟩))) (Ex.cast (Ex.indexAddr rfl rfl Try.underlying28 T.sz3 (by omega) (by omega)) (by simp)) (by decide) ?_
    refine GL.val (Ex.load rfl T.ag3 (i := 0) rfl (wl_at (by omega))) (by decide) ?_
    refine GL.val (Ex.assign rfl) (by decide) ?_
    refine GL.val (Ex.assign rfl) (by decide) ?_
    refine GL.nil ?_
    refine GE.thenN ?_
    refine GC.seq ?_
    refine GC.region ?_
    refine GL.val (Ex.move rfl) (by decide) ?_
    refine GL.val (v := (.float .f64 ((floatOfInt .f64 ((g k')))))) (Ex.cif rfl Try.underlying3 Try.underlying61) (by decide) ?_
    refine GL.val (Ex.move rfl) (by decide) ?_
    refine GL.val (Ex.move rfl) (by decide) ?_
    refine GL.val (Ex.move rfl) (by decide) ?_
    refine GL.val (v := (.int .i64 (((2 * r + 1) : Int)))) (Ex.len rfl Try.underlying28) (by decide) ?_
    refine GL.val (v := (.int .i64 (((r : Nat) : Int)))) (Ex.quo rfl rfl (Z := ((r : Nat) : Int)) (by omega) (Bg.quo_half r hrr)) (by decide) ?_
    refine GL.val (v := (.int .i64 ((((k' : Nat) : Int) - ((r : Nat) : Int))))) (Ex.sub' rfl rfl (Z := (((k' : Nat) : Int) - ((r : Nat) : Int))) (w64 (by omega))) (by decide) ?_
    refine GL.step (Stp.invokeR (σ := Unit) (p := fun rz => True) (v := fun rz => (.int .u32 ((smp xs W x (bord k H (y + ((((k' : Nat) : Int) - ((r : Nat) : Int))))).1.toNat)))) (N := fun rz => []) (vs := [(.int .i64 ((((k' : Nat) : Int) - ((r : Nat) : Int))))]) rfl rfl (fun w => T.mth88 _ _ w) (by decide) (fun wc hw => at_y W n cap b o H x xs k ((((k' : Nat) : Int) - ((r : Nat) : Int))) y wc hk (by omega) (by omega) (Bg.at_lt hok hn hx (by first | exact Bg.bY hk hok | assumption)) (by omega) hx0 (hw.rd hr (fun x => x)))) (fun xq2 hq3 => ?_)
    refine GL.step (Stp.callR (vs := [(.int .u32 ((smp xs W x (bord k H (y + ((((k' : Nat) : Int) - ((r : Nat) : Int))))).1.toNat)))]) rfl rfl T.own58 (by decide) (fun wc hw => value_p ((smp xs W x (bord k H (y + ((((k' : Nat) : Int) - ((r : Nat) : Int))))).1.toNat)) wc)) (fun xq4 hq5 => ?_)
    refine GL.step (Stp.fop (fx := (some (floatOfInt .f64 ((g k'))))) (fy := (Fv.V ((smp xs W x (bord k H (y + ((((k' : Nat) : Int) - ((r : Nat) : Int))))).1.toNat)))) rfl rfl rfl ⟨rfl, Fv.ofInt_ne _ _⟩ hq5 (by decide)) (fun xq6 hq7 => ?_)
    refine GL.val (Ex.assign rfl) (by decide) ?_
    refine GL.nil ?_
    refine GE.thenN ?_
    refine GC.seq ?_
    refine GC.region ?_
    refine GL.val (Ex.move rfl) (by decide) ?_
    refine GL.val (Ex.move rfl) (by decide) ?_
    refine GL.val (v := (.int .i64 ((Bl.sm g (k' + 1))))) (Ex.add rfl rfl (Z := (Bl.sm g (k' + 1))) (Bl.sm_add (by omega) (fun i hi => hg i (by omega)))) (by decide) ?_
    refine GL.val (Ex.assign rfl) (by decide) ?_
    refine GL.nil ?_
    refine GE.thenN ?_
    refine GC.seq ?_
    refine GC.seq ?_
    refine GC.region ?_
    refine GL.val (Ex.move rfl) (by decide) ?_
    refine GL.val (v := (.bool (decide ((((k' : Nat) : Int)) = 0)))) (Ex.eql rfl rfl) (by decide) ?_
    refine GL.nil ?_
    refine GE.thenN ?_
    refine GC.cond rfl (fun hq8 => ?_) (fun hq8 => ?_)
    · replace hq8 := of_decide_eq_true hq8
      refine GC.seq ?_
      refine GC.region ?_
      refine GL.val (Ex.move rfl) (by decide) ?_
      refine GL.val (Ex.assign rfl) (by decide) ?_
      refine GL.nil ?_
      refine GE.thenN ?_
      refine GC.exit ?_
      refine GE.thenE ?_
      refine GE.blockE ?_
      refine GE.thenN ?_
      refine GC.region ?_
      refine GL.val (v := (.int .i64 (((k' + 1 : Nat) : Int)))) (Ex.add rfl rfl (Z := ((k' + 1 : Nat) : Int)) (addN (b := 1) (by omega))) (by decide) ?_
      refine GL.val (Ex.move rfl) (by decide) ?_
      refine GL.nil ?_
      refine GE.thenN ?_
      exact Head.mk ((k' + 1, xq6)) ⟨(by show k' + 1 ≤ 2 * r + 1; omega), (by show Fv.Is .f64 xq6 (Bl.acc g (fun i => Fv.V (Bg.ny xs W H k x y (((i : Nat) : Int) - ((r : Nat) : Int)))) (k' + 1)); rw [Bl.acc_first (by omega)]; exact hq7)⟩ (by show 2 * r + 1 - (k' + 1) < 2 * r + 1 - k'; omega) ((sub_cons rfl ((sub_cons rfl ((sub_cons rfl ((sub_cons rfl ((sub_cons rfl ((sub_cons rfl ((sub_cons rfl ((sub_nil _)))))))))))))))) (ulC ulN)
    · replace hq8 := of_decide_eq_false hq8
      refine GC.skip ?_
      refine GE.thenN ?_
      refine GC.region ?_
      refine GL.val (Ex.move rfl) (by decide) ?_
      refine GL.val (Ex.move rfl) (by decide) ?_
      refine GL.step (Stp.fop (fx := (Bl.acc g (fun i => Fv.V (Bg.ny xs W H k x y (((i : Nat) : Int) - ((r : Nat) : Int)))) k')) (fy := (Fv.op .mul .f64 (some (floatOfInt .f64 ((g k')))) (Fv.V ((smp xs W x (bord k H (y + ((((k' : Nat) : Int) - ((r : Nat) : Int))))).1.toNat))))) rfl rfl rfl hp.2 hq7 (by decide)) (fun xq9 hq10 => ?_)
      refine GL.val (Ex.assign rfl) (by decide) ?_
      refine GL.nil ?_
      refine GE.blockN ?_
      refine GE.thenN ?_
      refine GC.region ?_
      refine GL.val (v := (.int .i64 (((k' + 1 : Nat) : Int)))) (Ex.add rfl rfl (Z := ((k' + 1 : Nat) : Int)) (addN (b := 1) (by omega))) (by decide) ?_
      refine GL.val (Ex.move rfl) (by decide) ?_
      refine GL.nil ?_
      refine GE.thenN ?_
      exact Head.mk ((k' + 1, xq9)) ⟨(by show k' + 1 ≤ 2 * r + 1; omega), (by show Fv.Is .f64 xq9 (Bl.acc g (fun i => Fv.V (Bg.ny xs W H k x y (((i : Nat) : Int) - ((r : Nat) : Int)))) (k' + 1)); rw [Bl.acc_next (by omega)]; exact hq10)⟩ (by show 2 * r + 1 - (k' + 1) < 2 * r + 1 - k'; omega) ((sub_cons rfl ((sub_cons rfl ((sub_cons rfl ((sub_cons rfl ((sub_cons rfl ((sub_cons rfl ((sub_cons rfl ((sub_nil _)))))))))))))))) (ulC ulN)
  · replace hq1 := of_decide_eq_false hq1
    have ek : k' = 2 * r + 1 := by omega
    refine GC.exit ?_
    refine GE.thenE ?_
    refine GE.thenE ?_
    refine GE.blockE ?_
    refine GE.thenN ?_
    refine GC.seq ?_
    refine GC.region ?_
    refine GL.val (Ex.move rfl) (by decide) ?_
    refine GL.val (Ex.move rfl) (by decide) ?_
    refine GL.val (v := (.float .f64 ((floatOfInt .f64 ((Bl.sm g k')))))) (Ex.cif rfl Try.underlying3 Try.underlying61) (by decide) ?_
    refine GL.step (Stp.fop (fx := (Bl.acc g (fun i => Fv.V (Bg.ny xs W H k x y (((i : Nat) : Int) - ((r : Nat) : Int)))) k')) (fy := (some (floatOfInt .f64 ((Bl.sm g k'))))) rfl rfl rfl hp.2 ⟨rfl, Fv.ofInt_ne _ _⟩ (by decide)) (fun xq11 hq12 => ?_)
    refine GL.step (Stp.callR (vs := [(.float .f64 xq11)]) rfl rfl T.own59 (by decide) (fun wc hw => told_p xq11 (Fv.op .quo .f64 (Bl.acc g (fun i => Fv.V (Bg.ny xs W H k x y (((i : Nat) : Int) - ((r : Nat) : Int)))) k') (some (floatOfInt .f64 ((Bl.sm g k'))))) wc hq12 (by rw [ek]; exact Bl.wq_holds (g := g) (l := (fun i => Bg.ny xs W H k x y (((i : Nat) : Int) - ((r : Nat) : Int)))) (m := 2 * r + 1) (by omega) (by omega) hg (fun i hi => Bg.smp_bd hu W _ _)))) (fun xq13 hq14 => ?_)
    refine GL.val (Ex.assign rfl) (by decide) ?_
    refine GL.nil ?_
    refine GE.thenN ?_
    refine GC.ret ?_
    refine GC.ret1 rfl (Rv.tmp rfl) (fun wN HN => ?_)
    exact HN.ret () trivial (by rw [ek]; rfl) (List.nil_sublist _) rfl

theorem weights_any (kd : Int) (r : Nat) (w : World) (hr : r ≤ 7) (hkd : kd = 1 ∨ kd = 2) : Calls Try.prog 14 #[.int .i64 kd, .int .i64 ((r : Nat) : Int)] w (Ret w (fun _ : Nat => True) (fun b => .tuple #[.slice (some ⟨b, 0, none⟩) (2 * r + 1) (2 * r + 1), .int .i64 0]) (fun b => [⟨b, wl (2 * r + 1) (Bg.gk kd r), 3, true⟩])) := by
  rcases hkd with rfl | rfl
  · rw [show Bg.gk 1 r = pv (2 * r) from if_pos rfl]; exact weights1 r w hr
  · rw [show Bg.gk 2 r = fun _ => 1 from if_neg (by decide)]; exact weights2 r w hr

set_option maxRecDepth 100000 in
set_option maxHeartbeats 1000000 in
theorem blur_ok (W H n cap b o : Nat) (k kd : Int) (r : Nat) (xs : List Int) (w : World) (hk : 1 ≤ k ∧ k ≤ 3) (hok : okP W H) (hn : n = W * H) (hx0 : xs.length = n) (hu : ∀ v ∈ xs, 0 ≤ v ∧ v < 4294967296) (hr : Rd w b o (xs.map u32)) (hkd : kd = 1 ∨ kd = 2) (hrr : r ≤ 7) :
    Calls Try.prog 21 #[(.agg #[(.int .i64 (((W : Nat) : Int))), (.int .i64 (((H : Nat) : Int))), (.slice (some ⟨b, o, none⟩) n cap)]), (.int .i64 kd), (.int .i64 (((r : Nat) : Int))), (.int .i64 k)] w (Ret w (fun _ : Nat => True) (fun p => .tuple #[(.agg #[(.int .i64 (((W : Nat) : Int))), (.int .i64 (((H : Nat) : Int))), (.slice (some ⟨p, 0, none⟩) (W * H) (W * H))]), .int .i64 0]) (fun p => [⟨p, (tab W (Bg.blr (Bg.gk kd r) r xs W H k) (W * H)).map u32, 63, true⟩])) := by
  have hW1 := hok.1
  have hH1 := hok.2.1
  have hW2 := hok.2.2.1
  have hH2 := hok.2.2.2.1
  have hA := hok.2.2.2.2
  refine enter (M := None) (L := []) (n := 45) (l := [(0, (.agg #[(.int .i64 (((W : Nat) : Int))), (.int .i64 (((H : Nat) : Int))), (.slice (some ⟨b, o, none⟩) n cap)])), (1, (.int .i64 kd)), (2, (.int .i64 (((r : Nat) : Int)))), (3, (.int .i64 k))]) Try.func21 rfl rfl (Args.cons rfl (Args.cons rfl (Args.cons rfl (Args.cons rfl (Args.nil _))))) (Hp.start _ _) ?_
  refine GC.seq ?_
  refine GC.region ?_
  refine GL.step (Stp.box (cs := [(.int .i64 (((W : Nat) : Int))), (.int .i64 (((H : Nat) : Int))), (.slice (some ⟨b, o, none⟩) n cap)]) rfl rfl (by decide)) (fun bq1 _ => ?_)
  refine GL.step (Stp.alloc T.zr43 (by decide)) (fun bq2 _ => ?_)
  refine GL.val (Ex.assign rfl) (by decide) ?_
  refine GL.nil ?_
  refine GE.thenN ?_
  refine GC.seq ?_
  refine GC.seq ?_
  refine GC.region ?_
  refine GL.val (v := (.agg #[(.int .i64 (((W : Nat) : Int))), (.int .i64 (((H : Nat) : Int))), (.slice (some ⟨b, o, none⟩) n cap)])) (Ex.loadA rfl T.ag43 T.sz43 (i := 1) rfl (vs := [(.int .i64 (((W : Nat) : Int))), (.int .i64 (((H : Nat) : Int))), (.slice (some ⟨b, o, none⟩) n cap)]) rfl rfl) (by decide) ?_
  refine GL.step (Stp.callR (σ := Unit) (p := fun rz => True) (v := fun rz => (.int .i64 0)) (N := fun rz => []) (vs := [(.agg #[(.int .i64 (((W : Nat) : Int))), (.int .i64 (((H : Nat) : Int))), (.slice (some ⟨b, o, none⟩) n cap)])]) rfl rfl T.own46 (by decide) (fun wc hw => (by have h := check (((W : Nat) : Int)) (((H : Nat) : Int)) (some ⟨b, o, none⟩) n cap wc; rw [show chk (((W : Nat) : Int)) (((H : Nat) : Int)) (n) = 0 from (by rw [hn]; exact chk_ok hok)] at h; exact h))) (fun xq3 hq4 => ?_)
  refine GL.val (Ex.assign rfl) (by decide) ?_
  refine GL.nil ?_
  refine GE.thenN ?_
  refine GC.seq ?_
  refine GC.region ?_
  refine GL.val (Ex.move rfl) (by decide) ?_
  refine GL.val (v := (.bool false)) (Ex.cast (Ex.neq rfl rfl) rfl) (by decide) ?_
  refine GL.nil ?_
  refine GE.thenN ?_
  refine GC.cond rfl (fun hq5 => by cases hq5) (fun _ => ?_)
  refine GC.skip ?_
  refine GE.thenN ?_
  refine GC.seq ?_
  refine GC.region ?_
  refine GL.val (Ex.move rfl) (by decide) ?_
  refine GL.val (Ex.move rfl) (by decide) ?_
  refine GL.step (Stp.callR (vs := [(.int .i64 kd), (.int .i64 (((r : Nat) : Int)))]) rfl rfl T.own14 (by decide) (fun wc hw => weights_any kd r wc hrr hkd)) (fun xq6 hq7 => ?_)
  refine GL.val (Ex.move rfl) (by decide) ?_
  refine GL.val (Ex.extract rfl rfl) (by decide) ?_
  refine GL.val (Ex.extract rfl rfl) (by decide) ?_
  refine GL.val (Ex.assign rfl) (by decide) ?_
  refine GL.val (Ex.assign rfl) (by decide) ?_
  refine GL.nil ?_
  refine GE.thenN ?_
  refine GC.seq ?_
  refine GC.seq ?_
  refine GC.region ?_
  refine GL.val (Ex.move rfl) (by decide) ?_
  refine GL.val (v := (.bool false)) (Ex.cast (Ex.neq rfl rfl) rfl) (by decide) ?_
  refine GL.nil ?_
  refine GE.thenN ?_
  refine GC.cond rfl (fun hq8 => by cases hq8) (fun _ => ?_)
  refine GC.skip ?_
  refine GE.thenN ?_
  refine GC.seq ?_
  refine GC.seq ?_
  refine GC.region ?_
  refine GL.val (Ex.move rfl) (by decide) ?_
  refine GL.step (Stp.callR (vs := [(.int .i64 k)]) rfl rfl T.own47 (by decide) (fun wc hw => borders_p k wc)) (fun xq9 hq10 => ?_)
  refine GL.val (Ex.assign rfl) (by decide) ?_
  refine GL.nil ?_
  refine GE.thenN ?_
  refine GC.seq ?_
  refine GC.region ?_
  refine GL.val (Ex.move rfl) (by decide) ?_
  refine GL.val (v := (.bool false)) (Ex.cast (Ex.neq rfl rfl) (congrArg Value.bool (decide_eq_false (by rw [(bord_ok (i := 0) hk.1 hk.2 (show (1 : Int) ≤ 1 by decide) (by decide)).1]; decide)))) (by decide) ?_
  refine GL.nil ?_
  refine GE.thenN ?_
  refine GC.cond rfl (fun hq11 => by cases hq11) (fun _ => ?_)
  refine GC.skip ?_
  refine GE.thenN ?_
  refine GC.seq ?_
  refine GC.region ?_
  refine GL.val (v := (.agg #[(.int .i64 (((W : Nat) : Int))), (.int .i64 (((H : Nat) : Int))), (.slice (some ⟨b, o, none⟩) n cap)])) (Ex.loadA rfl T.ag43 T.sz43 (i := 2) rfl (vs := [(.int .i64 (((W : Nat) : Int))), (.int .i64 (((H : Nat) : Int))), (.slice (some ⟨b, o, none⟩) n cap)]) rfl rfl) (by decide) ?_
  refine GL.val (Ex.move rfl) (by decide) ?_
  refine GL.val (Ex.move rfl) (by decide) ?_
  refine GL.step (Stp.callR (vs := [(.agg #[(.int .i64 (((W : Nat) : Int))), (.int .i64 (((H : Nat) : Int))), (.slice (some ⟨b, o, none⟩) n cap)]), (.int .i64 k), (.bool false), (.slice (some ⟨xq6, 0, none⟩) (2 * r + 1) (2 * r + 1)), (.func (.func 49) #[] #[])]) rfl rfl T.own48 (by decide) (fun wc hw => sweepW W H n cap (some ⟨b, o, none⟩) k false 49 (.slice (some ⟨xq6, 0, none⟩) (2 * r + 1) (2 * r + 1)) (Bg.blx (Bg.gk kd r) r xs W k) wc hn ⟨T.own49, fun x y w' hx hy hkp => weigh_x W H n cap b o k xs x y xq6 (2 * r + 1) (Bg.gk kd r) r w' hk hok hn hx0 hu ((hw.rd hr (fun x => x)).later hkp) hx hy hrr (Bg.gk_bd hrr) ((Has.cons (hw.hasOf (i := 0) rfl) (Has.nil _)).later hkp)⟩ hW2 hH2 hA)) (fun xq12 hq13 => ?_)
  refine GL.step (Stp.alloc T.zr43 (by decide)) (fun bq14 _ => ?_)
  refine GL.step (Stp.st0 (cs' := [(.int .i64 (((W : Nat) : Int))), (.int .i64 (((H : Nat) : Int))), (.slice (some ⟨xq12, 0, none⟩) (W * H) (W * H))]) rfl rfl rfl T.sz43 rfl rfl rfl) (fun _ _ => ?_)
  refine GL.nil ?_
  refine GE.thenN ?_
  refine GC.seq ?_
  refine GC.region ?_
  refine GL.val (v := (.agg #[(.int .i64 (((W : Nat) : Int))), (.int .i64 (((H : Nat) : Int))), (.slice (some ⟨xq12, 0, none⟩) (W * H) (W * H))])) (Ex.loadA rfl T.ag43 T.sz43 (i := 0) rfl (vs := [(.int .i64 (((W : Nat) : Int))), (.int .i64 (((H : Nat) : Int))), (.slice (some ⟨xq12, 0, none⟩) (W * H) (W * H))]) rfl rfl) (by decide) ?_
  refine GL.val (Ex.move rfl) (by decide) ?_
  refine GL.val (Ex.move rfl) (by decide) ?_
  refine GL.step (Stp.callR (vs := [(.agg #[(.int .i64 (((W : Nat) : Int))), (.int .i64 (((H : Nat) : Int))), (.slice (some ⟨xq12, 0, none⟩) (W * H) (W * H))]), (.int .i64 k), (.bool true), (.slice (some ⟨xq6, 0, none⟩) (2 * r + 1) (2 * r + 1)), (.func (.func 49) #[] #[])]) rfl rfl T.own48 (by decide) (fun wc hw => sweepW W H (W * H) (W * H) (some ⟨xq12, 0, none⟩) k true 49 (.slice (some ⟨xq6, 0, none⟩) (2 * r + 1) (2 * r + 1)) (Bg.blr (Bg.gk kd r) r xs W H k) wc rfl ⟨T.own49, fun x y w' hx hy hkp => weigh_y W H (W * H) (W * H) xq12 0 k (tab W (Bg.blx (Bg.gk kd r) r xs W k) (W * H)) x y xq6 (2 * r + 1) (Bg.gk kd r) r w' hk hok rfl (tab_len _ _ _) (Bg.tab_bd (fun x y => Bg.blx_bd x y)) ((hw.rdOf (i := 1) rfl 0).later hkp) hx hy hrr (Bg.gk_bd hrr) ((Has.cons (hw.hasOf (i := 2) rfl) (Has.nil _)).later hkp)⟩ hW2 hH2 hA)) (fun xq15 hq16 => ?_)
  refine GL.step (Stp.st4 (cs' := [(.int .i64 (((W : Nat) : Int))), (.int .i64 (((H : Nat) : Int))), (.slice (some ⟨xq15, 0, none⟩) (W * H) (W * H))]) rfl rfl rfl T.sz43 rfl rfl rfl) (fun _ _ => ?_)
  refine GL.val (Ex.assign rfl) (by decide) ?_
  refine GL.nil ?_
  refine GE.thenN ?_
  refine GC.ret ?_
  refine GC.ret2 rfl (Rv.cellA rfl T.ag43 T.sz43 (L := _) (i := 4) rfl (vs := [(.int .i64 (((W : Nat) : Int))), (.int .i64 (((H : Nat) : Int))), (.slice (some ⟨xq15, 0, none⟩) (W * H) (W * H))]) rfl rfl) (Rv.tmp rfl) (fun wN HN => ?_)
  exact HN.ret xq15 trivial rfl (ulC (ulS (ulS (ulS (ulS (ulS ulN)))))) rfl

set_option maxRecDepth 100000 in
set_option maxHeartbeats 1000000 in
theorem r38_1 (c0 : Nat) (w : World) (hh : Has w [⟨c0, [(.int .u32 0), (.int .u32 0), (.int .u32 1065353216), (.int .u32 0), (.int .u32 0)], 63, false⟩]) :
    Calls Try.prog 38 #[(.slice (some ⟨c0, 0, none⟩) 5 5)] w (Ret w (fun _ : Unit => True) (fun rz => (.agg #[(.int .i64 5), (.int .i64 1), (.slice (some ⟨c0, 0, none⟩) 5 5)])) (fun rz => [])) := by
  refine enter (M := None) (L := [⟨c0, [(.int .u32 0), (.int .u32 0), (.int .u32 1065353216), (.int .u32 0), (.int .u32 0)], 63, false⟩]) (n := 7) (l := [(0, (.slice (some ⟨c0, 0, none⟩) 5 5))]) Try.func38 rfl rfl (Args.cons rfl (Args.nil _)) (Hp.reads hh rfl) ?_
  refine GC.seq ?_
  refine GC.region ?_
  refine GL.step (Stp.alloc T.zr43 (by decide)) (fun bq1 _ => ?_)
  refine GL.nil ?_
  refine GE.thenN ?_
  refine GC.seq ?_
  refine GC.region ?_
  refine GL.val (Ex.move rfl) (by decide) ?_
  refine GL.val (v := (.int .i64 5)) (Ex.len rfl Try.underlying41) (by decide) ?_
  refine GL.val (Ex.move rfl) (by decide) ?_
  refine GL.val (v := (.agg #[(.int .i64 5), (.int .i64 1), (.slice (some ⟨c0, 0, none⟩) 5 5)])) (Ex.build (vs := [(0, (.int .i64 5)), (1, (.int .i64 1)), (2, (.slice (some ⟨c0, 0, none⟩) 5 5))]) rfl (by first | rfl | kernel_rfl)) (by decide) ?_
  refine GL.step (Stp.st0 (cs' := [(.int .i64 5), (.int .i64 1), (.slice (some ⟨c0, 0, none⟩) 5 5)]) rfl rfl rfl T.sz43 rfl rfl rfl) (fun _ _ => ?_)
  refine GL.nil ?_
  refine GE.thenN ?_
  refine GC.ret ?_
  refine GC.ret1 rfl (Rv.cellA rfl T.ag43 T.sz43 (L := _) (i := 0) rfl (vs := [(.int .i64 5), (.int .i64 1), (.slice (some ⟨c0, 0, none⟩) 5 5)]) rfl rfl) (fun wN HN => ?_)
  exact HN.ret () trivial rfl (ulS (ulS ulN)) rfl

set_option maxRecDepth 100000 in
set_option maxHeartbeats 1000000 in
theorem r38_2 (c0 : Nat) (w : World) (hh : Has w [⟨c0, [(.int .u32 1077936128), (.int .u32 0), (.int .u32 0)], 63, false⟩]) :
    Calls Try.prog 38 #[(.slice (some ⟨c0, 0, none⟩) 3 3)] w (Ret w (fun _ : Unit => True) (fun rz => (.agg #[(.int .i64 3), (.int .i64 1), (.slice (some ⟨c0, 0, none⟩) 3 3)])) (fun rz => [])) := by
  refine enter (M := None) (L := [⟨c0, [(.int .u32 1077936128), (.int .u32 0), (.int .u32 0)], 63, false⟩]) (n := 7) (l := [(0, (.slice (some ⟨c0, 0, none⟩) 3 3))]) Try.func38 rfl rfl (Args.cons rfl (Args.nil _)) (Hp.reads hh rfl) ?_
  refine GC.seq ?_
  refine GC.region ?_
  refine GL.step (Stp.alloc T.zr43 (by decide)) (fun bq1 _ => ?_)
  refine GL.nil ?_
  refine GE.thenN ?_
  refine GC.seq ?_
  refine GC.region ?_
  refine GL.val (Ex.move rfl) (by decide) ?_
  refine GL.val (v := (.int .i64 3)) (Ex.len rfl Try.underlying41) (by decide) ?_
  refine GL.val (Ex.move rfl) (by decide) ?_
  refine GL.val (v := (.agg #[(.int .i64 3), (.int .i64 1), (.slice (some ⟨c0, 0, none⟩) 3 3)])) (Ex.build (vs := [(0, (.int .i64 3)), (1, (.int .i64 1)), (2, (.slice (some ⟨c0, 0, none⟩) 3 3))]) rfl (by first | rfl | kernel_rfl)) (by decide) ?_
  refine GL.step (Stp.st0 (cs' := [(.int .i64 3), (.int .i64 1), (.slice (some ⟨c0, 0, none⟩) 3 3)]) rfl rfl rfl T.sz43 rfl rfl rfl) (fun _ _ => ?_)
  refine GL.nil ?_
  refine GE.thenN ?_
  refine GC.ret ?_
  refine GC.ret1 rfl (Rv.cellA rfl T.ag43 T.sz43 (L := _) (i := 0) rfl (vs := [(.int .i64 3), (.int .i64 1), (.slice (some ⟨c0, 0, none⟩) 3 3)]) rfl rfl) (fun wN HN => ?_)
  exact HN.ret () trivial rfl (ulS (ulS ulN)) rfl

set_option maxRecDepth 100000 in
set_option maxHeartbeats 1000000 in
theorem r38_3 (c0 : Nat) (w : World) (hh : Has w [⟨c0, [(.int .u32 1065353216), (.int .u32 1073741824), (.int .u32 1082130432)], 63, false⟩]) :
    Calls Try.prog 38 #[(.slice (some ⟨c0, 0, none⟩) 3 3)] w (Ret w (fun _ : Unit => True) (fun rz => (.agg #[(.int .i64 3), (.int .i64 1), (.slice (some ⟨c0, 0, none⟩) 3 3)])) (fun rz => [])) := by
  refine enter (M := None) (L := [⟨c0, [(.int .u32 1065353216), (.int .u32 1073741824), (.int .u32 1082130432)], 63, false⟩]) (n := 7) (l := [(0, (.slice (some ⟨c0, 0, none⟩) 3 3))]) Try.func38 rfl rfl (Args.cons rfl (Args.nil _)) (Hp.reads hh rfl) ?_
  refine GC.seq ?_
  refine GC.region ?_
  refine GL.step (Stp.alloc T.zr43 (by decide)) (fun bq1 _ => ?_)
  refine GL.nil ?_
  refine GE.thenN ?_
  refine GC.seq ?_
  refine GC.region ?_
  refine GL.val (Ex.move rfl) (by decide) ?_
  refine GL.val (v := (.int .i64 3)) (Ex.len rfl Try.underlying41) (by decide) ?_
  refine GL.val (Ex.move rfl) (by decide) ?_
  refine GL.val (v := (.agg #[(.int .i64 3), (.int .i64 1), (.slice (some ⟨c0, 0, none⟩) 3 3)])) (Ex.build (vs := [(0, (.int .i64 3)), (1, (.int .i64 1)), (2, (.slice (some ⟨c0, 0, none⟩) 3 3))]) rfl (by first | rfl | kernel_rfl)) (by decide) ?_
  refine GL.step (Stp.st0 (cs' := [(.int .i64 3), (.int .i64 1), (.slice (some ⟨c0, 0, none⟩) 3 3)]) rfl rfl rfl T.sz43 rfl rfl rfl) (fun _ _ => ?_)
  refine GL.nil ?_
  refine GE.thenN ?_
  refine GC.ret ?_
  refine GC.ret1 rfl (Rv.cellA rfl T.ag43 T.sz43 (L := _) (i := 0) rfl (vs := [(.int .i64 3), (.int .i64 1), (.slice (some ⟨c0, 0, none⟩) 3 3)]) rfl rfl) (fun wN HN => ?_)
  exact HN.ret () trivial rfl (ulS (ulS ulN)) rfl

set_option maxRecDepth 100000 in
set_option maxHeartbeats 1000000 in
theorem r38_4 (c0 : Nat) (w : World) (hh : Has w [⟨c0, [(.int .u32 0), (.int .u32 1048576000), (.int .u32 1056964608), (.int .u32 1048576000), (.int .u32 0)], 63, false⟩]) :
    Calls Try.prog 38 #[(.slice (some ⟨c0, 0, none⟩) 5 5)] w (Ret w (fun _ : Unit => True) (fun rz => (.agg #[(.int .i64 5), (.int .i64 1), (.slice (some ⟨c0, 0, none⟩) 5 5)])) (fun rz => [])) := by
  refine enter (M := None) (L := [⟨c0, [(.int .u32 0), (.int .u32 1048576000), (.int .u32 1056964608), (.int .u32 1048576000), (.int .u32 0)], 63, false⟩]) (n := 7) (l := [(0, (.slice (some ⟨c0, 0, none⟩) 5 5))]) Try.func38 rfl rfl (Args.cons rfl (Args.nil _)) (Hp.reads hh rfl) ?_
  refine GC.seq ?_
  refine GC.region ?_
  refine GL.step (Stp.alloc T.zr43 (by decide)) (fun bq1 _ => ?_)
  refine GL.nil ?_
  refine GE.thenN ?_
  refine GC.seq ?_
  refine GC.region ?_
  refine GL.val (Ex.move rfl) (by decide) ?_
  refine GL.val (v := (.int .i64 5)) (Ex.len rfl Try.underlying41) (by decide) ?_
  refine GL.val (Ex.move rfl) (by decide) ?_
  refine GL.val (v := (.agg #[(.int .i64 5), (.int .i64 1), (.slice (some ⟨c0, 0, none⟩) 5 5)])) (Ex.build (vs := [(0, (.int .i64 5)), (1, (.int .i64 1)), (2, (.slice (some ⟨c0, 0, none⟩) 5 5))]) rfl (by first | rfl | kernel_rfl)) (by decide) ?_
  refine GL.step (Stp.st0 (cs' := [(.int .i64 5), (.int .i64 1), (.slice (some ⟨c0, 0, none⟩) 5 5)]) rfl rfl rfl T.sz43 rfl rfl rfl) (fun _ _ => ?_)
  refine GL.nil ?_
  refine GE.thenN ?_
  refine GC.ret ?_
  refine GC.ret1 rfl (Rv.cellA rfl T.ag43 T.sz43 (L := _) (i := 0) rfl (vs := [(.int .i64 5), (.int .i64 1), (.slice (some ⟨c0, 0, none⟩) 5 5)]) rfl rfl) (fun wN HN => ?_)
  exact HN.ret () trivial rfl (ulS (ulS ulN)) rfl

set_option maxRecDepth 100000 in
set_option maxHeartbeats 1000000 in
theorem r38_5 (c0 : Nat) (w : World) (hh : Has w [⟨c0, [(.int .u32 1065353216), (.int .u32 1065353216), (.int .u32 1065353216)], 63, false⟩]) :
    Calls Try.prog 38 #[(.slice (some ⟨c0, 0, none⟩) 3 3)] w (Ret w (fun _ : Unit => True) (fun rz => (.agg #[(.int .i64 3), (.int .i64 1), (.slice (some ⟨c0, 0, none⟩) 3 3)])) (fun rz => [])) := by
  refine enter (M := None) (L := [⟨c0, [(.int .u32 1065353216), (.int .u32 1065353216), (.int .u32 1065353216)], 63, false⟩]) (n := 7) (l := [(0, (.slice (some ⟨c0, 0, none⟩) 3 3))]) Try.func38 rfl rfl (Args.cons rfl (Args.nil _)) (Hp.reads hh rfl) ?_
  refine GC.seq ?_
  refine GC.region ?_
  refine GL.step (Stp.alloc T.zr43 (by decide)) (fun bq1 _ => ?_)
  refine GL.nil ?_
  refine GE.thenN ?_
  refine GC.seq ?_
  refine GC.region ?_
  refine GL.val (Ex.move rfl) (by decide) ?_
  refine GL.val (v := (.int .i64 3)) (Ex.len rfl Try.underlying41) (by decide) ?_
  refine GL.val (Ex.move rfl) (by decide) ?_
  refine GL.val (v := (.agg #[(.int .i64 3), (.int .i64 1), (.slice (some ⟨c0, 0, none⟩) 3 3)])) (Ex.build (vs := [(0, (.int .i64 3)), (1, (.int .i64 1)), (2, (.slice (some ⟨c0, 0, none⟩) 3 3))]) rfl (by first | rfl | kernel_rfl)) (by decide) ?_
  refine GL.step (Stp.st0 (cs' := [(.int .i64 3), (.int .i64 1), (.slice (some ⟨c0, 0, none⟩) 3 3)]) rfl rfl rfl T.sz43 rfl rfl rfl) (fun _ _ => ?_)
  refine GL.nil ?_
  refine GE.thenN ?_
  refine GC.ret ?_
  refine GC.ret1 rfl (Rv.cellA rfl T.ag43 T.sz43 (L := _) (i := 0) rfl (vs := [(.int .i64 3), (.int .i64 1), (.slice (some ⟨c0, 0, none⟩) 3 3)]) rfl rfl) (fun wN HN => ?_)
  exact HN.ret () trivial rfl (ulS (ulS ulN)) rfl

set_option maxRecDepth 100000 in
set_option maxHeartbeats 1000000 in
theorem r38_6 (c0 : Nat) (w : World) (hh : Has w [⟨c0, [(.int .u32 1056964608), (.int .u32 1069547520), (.int .u32 1065353216)], 63, false⟩]) :
    Calls Try.prog 38 #[(.slice (some ⟨c0, 0, none⟩) 3 3)] w (Ret w (fun _ : Unit => True) (fun rz => (.agg #[(.int .i64 3), (.int .i64 1), (.slice (some ⟨c0, 0, none⟩) 3 3)])) (fun rz => [])) := by
  refine enter (M := None) (L := [⟨c0, [(.int .u32 1056964608), (.int .u32 1069547520), (.int .u32 1065353216)], 63, false⟩]) (n := 7) (l := [(0, (.slice (some ⟨c0, 0, none⟩) 3 3))]) Try.func38 rfl rfl (Args.cons rfl (Args.nil _)) (Hp.reads hh rfl) ?_
  refine GC.seq ?_
  refine GC.region ?_
  refine GL.step (Stp.alloc T.zr43 (by decide)) (fun bq1 _ => ?_)
  refine GL.nil ?_
  refine GE.thenN ?_
  refine GC.seq ?_
  refine GC.region ?_
  refine GL.val (Ex.move rfl) (by decide) ?_
  refine GL.val (v := (.int .i64 3)) (Ex.len rfl Try.underlying41) (by decide) ?_
  refine GL.val (Ex.move rfl) (by decide) ?_
  refine GL.val (v := (.agg #[(.int .i64 3), (.int .i64 1), (.slice (some ⟨c0, 0, none⟩) 3 3)])) (Ex.build (vs := [(0, (.int .i64 3)), (1, (.int .i64 1)), (2, (.slice (some ⟨c0, 0, none⟩) 3 3))]) rfl (by first | rfl | kernel_rfl)) (by decide) ?_
  refine GL.step (Stp.st0 (cs' := [(.int .i64 3), (.int .i64 1), (.slice (some ⟨c0, 0, none⟩) 3 3)]) rfl rfl rfl T.sz43 rfl rfl rfl) (fun _ _ => ?_)
  refine GL.nil ?_
  refine GE.thenN ?_
  refine GC.ret ?_
  refine GC.ret1 rfl (Rv.cellA rfl T.ag43 T.sz43 (L := _) (i := 0) rfl (vs := [(.int .i64 3), (.int .i64 1), (.slice (some ⟨c0, 0, none⟩) 3 3)]) rfl rfl) (fun wN HN => ?_)
  exact HN.ret () trivial rfl (ulS (ulS ulN)) rfl

set_option maxRecDepth 100000 in
set_option maxHeartbeats 1000000 in
theorem r38_7 (c0 : Nat) (w : World) (hh : Has w [⟨c0, [(.int .u32 0), (.int .u32 0), (.int .u32 0)], 63, false⟩]) :
    Calls Try.prog 38 #[(.slice (some ⟨c0, 0, none⟩) 3 3)] w (Ret w (fun _ : Unit => True) (fun rz => (.agg #[(.int .i64 3), (.int .i64 1), (.slice (some ⟨c0, 0, none⟩) 3 3)])) (fun rz => [])) := by
  refine enter (M := None) (L := [⟨c0, [(.int .u32 0), (.int .u32 0), (.int .u32 0)], 63, false⟩]) (n := 7) (l := [(0, (.slice (some ⟨c0, 0, none⟩) 3 3))]) Try.func38 rfl rfl (Args.cons rfl (Args.nil _)) (Hp.reads hh rfl) ?_
  refine GC.seq ?_
  refine GC.region ?_
  refine GL.step (Stp.alloc T.zr43 (by decide)) (fun bq1 _ => ?_)
  refine GL.nil ?_
  refine GE.thenN ?_
  refine GC.seq ?_
  refine GC.region ?_
  refine GL.val (Ex.move rfl) (by decide) ?_
  refine GL.val (v := (.int .i64 3)) (Ex.len rfl Try.underlying41) (by decide) ?_
  refine GL.val (Ex.move rfl) (by decide) ?_
  refine GL.val (v := (.agg #[(.int .i64 3), (.int .i64 1), (.slice (some ⟨c0, 0, none⟩) 3 3)])) (Ex.build (vs := [(0, (.int .i64 3)), (1, (.int .i64 1)), (2, (.slice (some ⟨c0, 0, none⟩) 3 3))]) rfl (by first | rfl | kernel_rfl)) (by decide) ?_
  refine GL.step (Stp.st0 (cs' := [(.int .i64 3), (.int .i64 1), (.slice (some ⟨c0, 0, none⟩) 3 3)]) rfl rfl rfl T.sz43 rfl rfl rfl) (fun _ _ => ?_)
  refine GL.nil ?_
  refine GE.thenN ?_
  refine GC.ret ?_
  refine GC.ret1 rfl (Rv.cellA rfl T.ag43 T.sz43 (L := _) (i := 0) rfl (vs := [(.int .i64 3), (.int .i64 1), (.slice (some ⟨c0, 0, none⟩) 3 3)]) rfl rfl) (fun wN HN => ?_)
  exact HN.ret () trivial rfl (ulS (ulS ulN)) rfl

set_option maxRecDepth 100000 in
set_option maxHeartbeats 1000000 in
theorem known (w : World) :
    Calls Try.prog 12 #[] w (Ret w (fun _ : Unit => True) (fun _ => .bool true) (fun _ => [])) := by
  refine enter (M := None) (L := []) (n := 82) (l := []) Try.func12 rfl rfl (Args.nil _) (Hp.start _ _) ?_
  refine GC.seq ?_
  refine GC.region ?_
  refine GL.val (Ex.assign rfl) (by decide) ?_
  refine GL.nil ?_
  refine GE.thenN ?_
  refine GC.seq ?_
  refine GC.region ?_
  refine GL.step (Stp.callR (σ := Nat) (p := fun rz => True) (v := fun rz => (.tuple #[(.slice (some ⟨rz, 0, none⟩) 5 5), (.int .i64 0)])) (N := fun rz => [⟨rz, [(.int .i64 1), (.int .i64 4), (.int .i64 6), (.int .i64 4), (.int .i64 1)], 3, true⟩]) (vs := [(.int .i64 1), (.int .i64 2)]) rfl rfl T.own14 (by decide) (fun wc hw => (by have h := weights1 2 wc (by decide); rw [show wl (2 * 2 + 1) (pv (2 * 2)) = [(Value.int .i64 1), (Value.int .i64 4), (Value.int .i64 6), (Value.int .i64 4), (Value.int .i64 1)] from by kernel_rfl] at h; exact h))) (fun xq1 hq2 => ?_)
  refine GL.val (Ex.move rfl) (by decide) ?_
  refine GL.val (Ex.extract rfl rfl) (by decide) ?_
  refine GL.val (Ex.extract rfl rfl) (by decide) ?_
  refine GL.val (Ex.assign rfl) (by decide) ?_
  refine GL.val (Ex.assign rfl) (by decide) ?_
  refine GL.nil ?_
  refine GE.thenN ?_
  refine GC.seq ?_
  refine GC.region ?_
  refine GL.step (Stp.callR (σ := Nat) (p := fun rz => True) (v := fun rz => (.tuple #[(.slice (some ⟨rz, 0, none⟩) 3 3), (.int .i64 0)])) (N := fun rz => [⟨rz, [(.int .i64 1), (.int .i64 1), (.int .i64 1)], 3, true⟩]) (vs := [(.int .i64 2), (.int .i64 1)]) rfl rfl T.own14 (by decide) (fun wc hw => (by have h := weights2 1 wc (by decide); rw [show wl (2 * 1 + 1) (fun _ => 1) = [(Value.int .i64 1), (Value.int .i64 1), (Value.int .i64 1)] from by kernel_rfl] at h; exact h))) (fun xq3 hq4 => ?_)
  refine GL.val (Ex.move rfl) (by decide) ?_
  refine GL.val (Ex.extract rfl rfl) (by decide) ?_
  refine GL.val (Ex.extract rfl rfl) (by decide) ?_
  refine GL.val (Ex.assign rfl) (by decide) ?_
  refine GL.val (Ex.assign rfl) (by decide) ?_
  refine GL.nil ?_
  refine GE.thenN ?_
  refine GC.seq ?_
  refine GC.region ?_
  refine GL.step (Stp.buildSlice (cs := [(.int .u32 0), (.int .u32 0), (.int .u32 1065353216), (.int .u32 0), (.int .u32 0)]) (vs := [(0, (.int .u32 0)), (1, (.int .u32 0)), (2, (.int .u32 1065353216)), (3, (.int .u32 0)), (4, (.int .u32 0))]) Try.underlying41 T.zr63 T.sz63 rfl (by decide) (by decide) (by first | rfl | kernel_rfl) (by decide)) (fun bq5 _ => ?_)
  refine GL.step (Stp.callR (vs := [(.slice (some ⟨bq5, 0, none⟩) 5 5)]) rfl rfl T.own38 (by decide) (fun wc hw => r38_1 bq5 wc (Has.cons (hw.hasOf (i := 0) rfl) (Has.nil _)))) (fun xq6 hq7 => ?_)
  refine GL.step (Stp.callR (σ := Nat) (p := fun rz => True) (v := fun rz => (.tuple #[(.agg #[(.int .i64 5), (.int .i64 1), (.slice (some ⟨rz, 0, none⟩) 5 5)]), (.int .i64 0)])) (N := fun rz => [⟨rz, [(.int .u32 0), (.int .u32 1048576000), (.int .u32 1056964608), (.int .u32 1048576000), (.int .u32 0)], 63, true⟩]) (vs := [(.agg #[(.int .i64 5), (.int .i64 1), (.slice (some ⟨bq5, 0, none⟩) 5 5)]), (.int .i64 1), (.int .i64 1), (.int .i64 1)]) rfl rfl T.own21 (by decide) (fun wc hw => (by have h := blur_ok 5 1 5 5 bq5 0 1 1 1 [0, 0, 1065353216, 0, 0] wc (by decide) (by decide) rfl rfl (by decide) (show Rd _ _ _ (List.map u32 [0, 0, 1065353216, 0, 0]) from hw.rdOf (i := 0) rfl 0) (by decide) (by decide); rw [show tab 5 (Bg.blr (Bg.gk 1 1) 1 [0, 0, 1065353216, 0, 0] 5 1 1) (5 * 1) = [0, 1048576000, 1056964608, 1048576000, 0] from by decide +kernel] at h; exact h))) (fun xq8 hq9 => ?_)
  refine GL.val (Ex.move rfl) (by decide) ?_
  refine GL.val (Ex.extract rfl rfl) (by decide) ?_
  refine GL.val (Ex.extract rfl rfl) (by decide) ?_
  refine GL.step (Stp.alloc T.zr43 (by decide)) (fun bq10 _ => ?_)
  refine GL.step (Stp.st0 (cs' := [(.int .i64 5), (.int .i64 1), (.slice (some ⟨xq8, 0, none⟩) 5 5)]) rfl rfl rfl T.sz43 rfl rfl rfl) (fun _ _ => ?_)
  refine GL.val (Ex.assign rfl) (by decide) ?_
  refine GL.nil ?_
  refine GE.thenN ?_
  refine GC.seq ?_
  refine GC.region ?_
  refine GL.step (Stp.buildSlice (cs := [(.int .u32 1077936128), (.int .u32 0), (.int .u32 0)]) (vs := [(0, (.int .u32 1077936128)), (1, (.int .u32 0)), (2, (.int .u32 0))]) Try.underlying41 T.zr63 T.sz63 rfl (by decide) (by decide) (by first | rfl | kernel_rfl) (by decide)) (fun bq11 _ => ?_)
  refine GL.step (Stp.callR (vs := [(.slice (some ⟨bq11, 0, none⟩) 3 3)]) rfl rfl T.own38 (by decide) (fun wc hw => r38_2 bq11 wc (Has.cons (hw.hasOf (i := 0) rfl) (Has.nil _)))) (fun xq12 hq13 => ?_)
  refine GL.step (Stp.callR (σ := Nat) (p := fun rz => True) (v := fun rz => (.tuple #[(.agg #[(.int .i64 3), (.int .i64 1), (.slice (some ⟨rz, 0, none⟩) 3 3)]), (.int .i64 0)])) (N := fun rz => [⟨rz, [(.int .u32 1065353216), (.int .u32 1065353216), (.int .u32 1065353216)], 63, true⟩]) (vs := [(.agg #[(.int .i64 3), (.int .i64 1), (.slice (some ⟨bq11, 0, none⟩) 3 3)]), (.int .i64 2), (.int .i64 1), (.int .i64 3)]) rfl rfl T.own21 (by decide) (fun wc hw => (by have h := blur_ok 3 1 3 3 bq11 0 3 2 1 [1077936128, 0, 0] wc (by decide) (by decide) rfl rfl (by decide) (show Rd _ _ _ (List.map u32 [1077936128, 0, 0]) from hw.rdOf (i := 0) rfl 0) (by decide) (by decide); rw [show tab 3 (Bg.blr (Bg.gk 2 1) 1 [1077936128, 0, 0] 3 1 3) (3 * 1) = [1065353216, 1065353216, 1065353216] from by decide +kernel] at h; exact h))) (fun xq14 hq15 => ?_)
  refine GL.val (Ex.move rfl) (by decide) ?_
  refine GL.val (Ex.extract rfl rfl) (by decide) ?_
  refine GL.val (Ex.extract rfl rfl) (by decide) ?_
  refine GL.step (Stp.alloc T.zr43 (by decide)) (fun bq16 _ => ?_)
  refine GL.step (Stp.st0 (cs' := [(.int .i64 3), (.int .i64 1), (.slice (some ⟨xq14, 0, none⟩) 3 3)]) rfl rfl rfl T.sz43 rfl rfl rfl) (fun _ _ => ?_)
  refine GL.val (Ex.assign rfl) (by decide) ?_
  refine GL.nil ?_
  refine GE.thenN ?_
  refine GC.seq ?_
  refine GC.region ?_
  refine GL.step (Stp.buildSlice (cs := [(.int .u32 1065353216), (.int .u32 1073741824), (.int .u32 1082130432)]) (vs := [(0, (.int .u32 1065353216)), (1, (.int .u32 1073741824)), (2, (.int .u32 1082130432))]) Try.underlying41 T.zr63 T.sz63 rfl (by decide) (by decide) (by first | rfl | kernel_rfl) (by decide)) (fun bq17 _ => ?_)
  refine GL.step (Stp.callR (vs := [(.slice (some ⟨bq17, 0, none⟩) 3 3)]) rfl rfl T.own38 (by decide) (fun wc hw => r38_3 bq17 wc (Has.cons (hw.hasOf (i := 0) rfl) (Has.nil _)))) (fun xq18 hq19 => ?_)
  refine GL.step (Stp.callR (σ := Nat × Nat) (p := fun rz => True) (v := fun rz => (.tuple #[(.agg #[(.int .i64 3), (.int .i64 1), (.slice (some ⟨rz.1, 0, none⟩) 3 3)]), (.agg #[(.int .i64 3), (.int .i64 1), (.slice (some ⟨rz.2, 0, none⟩) 3 3)]), (.int .i64 0)])) (N := fun rz => [⟨rz.2, [(.int .u32 0), (.int .u32 0), (.int .u32 0)], 63, true⟩, ⟨rz.1, [(.int .u32 1056964608), (.int .u32 1069547520), (.int .u32 1065353216)], 63, true⟩]) (vs := [(.agg #[(.int .i64 3), (.int .i64 1), (.slice (some ⟨bq17, 0, none⟩) 3 3)]), (.int .i64 1)]) rfl rfl T.own26 (by decide) (fun wc hw => (by have h := grad_ok 3 1 3 3 bq17 0 1 [1065353216, 1073741824, 1082130432] wc (by decide) (by decide) rfl rfl (by decide) (show Rd _ _ _ (List.map u32 [1065353216, 1073741824, 1082130432]) from hw.rdOf (i := 0) rfl 0); rw [show tab 3 (Bg.slx [1065353216, 1073741824, 1082130432] 3 1) (3 * 1) = [1056964608, 1069547520, 1065353216] from by decide +kernel, show tab 3 (Bg.sly [1065353216, 1073741824, 1082130432] 3 1 1) (3 * 1) = [0, 0, 0] from by decide +kernel] at h; exact h))) (fun xq20 hq21 => ?_)
  refine GL.val (Ex.move rfl) (by decide) ?_
  refine GL.val (Ex.extract rfl rfl) (by decide) ?_
  refine GL.val (Ex.extract rfl rfl) (by decide) ?_
  refine GL.val (Ex.extract rfl rfl) (by decide) ?_
  refine GL.step (Stp.alloc T.zr43 (by decide)) (fun bq22 _ => ?_)
  refine GL.step (Stp.alloc T.zr43 (by decide)) (fun bq23 _ => ?_)
  refine GL.step (Stp.st1 (cs' := [(.int .i64 3), (.int .i64 1), (.slice (some ⟨xq20.1, 0, none⟩) 3 3)]) rfl rfl rfl T.sz43 rfl rfl rfl) (fun _ _ => ?_)
  refine GL.step (Stp.st0 (cs' := [(.int .i64 3), (.int .i64 1), (.slice (some ⟨xq20.2, 0, none⟩) 3 3)]) rfl rfl rfl T.sz43 rfl rfl rfl) (fun _ _ => ?_)
  refine GL.val (Ex.assign rfl) (by decide) ?_
  refine GL.nil ?_
  refine GE.thenN ?_
  refine GC.seq ?_
  refine GC.seq ?_
  refine GC.region ?_
  refine GL.val (Ex.move rfl) (by decide) ?_
  refine GL.step (Stp.callR (vs := [(.int .i64 0)]) rfl rfl T.own15 (by decide) (fun wc hw => num 0 wc)) (fun xq24 hq25 => ?_)
  refine GL.val (Ex.move rfl) (by decide) ?_
  refine GL.step (Stp.callR (vs := [(.int .i64 0)]) rfl rfl T.own15 (by decide) (fun wc hw => num 0 wc)) (fun xq26 hq27 => ?_)
  refine GL.val (v := (.int .i64 0)) (Ex.add rfl rfl (Z := 0) (by decide)) (by decide) ?_
  refine GL.val (Ex.move rfl) (by decide) ?_
  refine GL.step (Stp.callR (vs := [(.int .i64 0)]) rfl rfl T.own15 (by decide) (fun wc hw => num 0 wc)) (fun xq28 hq29 => ?_)
  refine GL.val (v := (.int .i64 0)) (Ex.add rfl rfl (Z := 0) (by decide)) (by decide) ?_
  refine GL.val (v := (.bool false)) (Ex.cast (Ex.neq rfl rfl) rfl) (by decide) ?_
  refine GL.val (Ex.move rfl) (by decide) ?_
  refine GL.stepG (tj := 48) rfl rfl (Ex.wp (v := (.slice (some ⟨xq1, 0, none⟩) 5 5)) (Ex.move rfl) (by decide)) (fun _ _ => ?_)
  refine GL.stepG (tj := 48) rfl rfl (Stp.buildSlice (cs := [(.int .i64 1), (.int .i64 4), (.int .i64 6), (.int .i64 4), (.int .i64 1)]) (vs := [(0, (.int .i64 1)), (1, (.int .i64 4)), (2, (.int .i64 6)), (3, (.int .i64 4)), (4, (.int .i64 1))]) Try.underlying28 T.zr3 T.sz3 rfl (by decide) (by decide) (by first | rfl | kernel_rfl) (by decide)) (fun bq30 _ => ?_)
  refine GL.stepG (tj := 48) rfl rfl (Stp.callR (vs := [(.slice (some ⟨xq1, 0, none⟩) 5 5), (.slice (some ⟨bq30, 0, none⟩) 5 5)]) rfl rfl T.own16 (by decide) (fun wc hw => ints_eq xq1 bq30 5 5 5 (pv (2 * 2)) [] wc (by decide) (show Has _ [⟨xq1, wl 5 (pv (2 * 2)), 3, false⟩, ⟨bq30, wl 5 (pv (2 * 2)) ++ [], 3, false⟩] from Has.cons (hw.hasOf (i := 13) rfl) (Has.cons (hw.hasOf (i := 0) rfl) (Has.nil _))))) (fun xq31 hq32 => ?_)
  refine GL.stepG (tj := 48) rfl rfl (Ex.wp (v := (.bool false)) (Ex.cast (Ex.not rfl) rfl) (by decide)) (fun _ _ => ?_)
  refine GL.val (v := (.bool false)) (Ex.pickF rfl rfl) (by decide) ?_
  refine GL.val (Ex.move rfl) (by decide) ?_
  refine GL.stepG (tj := 54) rfl rfl (Ex.wp (v := (.slice (some ⟨xq3, 0, none⟩) 3 3)) (Ex.move rfl) (by decide)) (fun _ _ => ?_)
  refine GL.stepG (tj := 54) rfl rfl (Stp.buildSlice (cs := [(.int .i64 1), (.int .i64 1), (.int .i64 1)]) (vs := [(0, (.int .i64 1)), (1, (.int .i64 1)), (2, (.int .i64 1))]) Try.underlying28 T.zr3 T.sz3 rfl (by decide) (by decide) (by first | rfl | kernel_rfl) (by decide)) (fun bq33 _ => ?_)
  refine GL.stepG (tj := 54) rfl rfl (Stp.callR (vs := [(.slice (some ⟨xq3, 0, none⟩) 3 3), (.slice (some ⟨bq33, 0, none⟩) 3 3)]) rfl rfl T.own16 (by decide) (fun wc hw => ints_eq xq3 bq33 3 3 3 (fun _ => 1) [] wc (by decide) (show Has _ [⟨xq3, wl 3 (fun _ => 1), 3, false⟩, ⟨bq33, wl 3 (fun _ => 1) ++ [], 3, false⟩] from Has.cons (hw.hasOf (i := 13) rfl) (Has.cons (hw.hasOf (i := 0) rfl) (Has.nil _))))) (fun xq34 hq35 => ?_)
  refine GL.stepG (tj := 54) rfl rfl (Ex.wp (v := (.bool false)) (Ex.cast (Ex.not rfl) rfl) (by decide)) (fun _ _ => ?_)
  refine GL.val (v := (.bool false)) (Ex.pickF rfl rfl) (by decide) ?_
  refine GL.nil ?_
  refine GE.thenN ?_
  refine GC.cond rfl (fun hq36 => by cases hq36) (fun _ => ?_)
  refine GC.skip ?_
  refine GE.thenN ?_
  refine GC.seq ?_
  refine GC.drawP [⟨bq33, [(.int .i64 1), (.int .i64 1), (.int .i64 1)], 3, true⟩, ⟨bq30, [(.int .i64 1), (.int .i64 4), (.int .i64 6), (.int .i64 4), (.int .i64 1)], 3, true⟩, ⟨bq23, [(.int .i64 3), (.int .i64 1), (.slice (some ⟨xq20.2, 0, none⟩) 3 3)], 43, true⟩, ⟨bq22, [(.int .i64 3), (.int .i64 1), (.slice (some ⟨xq20.1, 0, none⟩) 3 3)], 43, true⟩, ⟨xq20.2, [(.int .u32 0), (.int .u32 0), (.int .u32 0)], 63, true⟩, ⟨xq20.1, [(.int .u32 1056964608), (.int .u32 1069547520), (.int .u32 1065353216)], 63, true⟩, ⟨bq17, [(.int .u32 1065353216), (.int .u32 1073741824), (.int .u32 1082130432)], 63, true⟩, ⟨bq16, [(.int .i64 3), (.int .i64 1), (.slice (some ⟨xq14, 0, none⟩) 3 3)], 43, true⟩, ⟨xq14, [(.int .u32 1065353216), (.int .u32 1065353216), (.int .u32 1065353216)], 63, true⟩, ⟨bq11, [(.int .u32 1077936128), (.int .u32 0), (.int .u32 0)], 63, true⟩, ⟨bq10, [(.int .i64 5), (.int .i64 1), (.slice (some ⟨xq8, 0, none⟩) 5 5)], 43, true⟩, ⟨xq8, [(.int .u32 0), (.int .u32 1048576000), (.int .u32 1056964608), (.int .u32 1048576000), (.int .u32 0)], 63, true⟩, ⟨bq5, [(.int .u32 0), (.int .u32 0), (.int .u32 1065353216), (.int .u32 0), (.int .u32 0)], 63, true⟩, ⟨xq3, [(.int .i64 1), (.int .i64 1), (.int .i64 1)], 3, true⟩, ⟨xq1, [(.int .i64 1), (.int .i64 4), (.int .i64 6), (.int .i64 4), (.int .i64 1)], 3, true⟩] T.mixed (by kernel_rfl) (by kernel_rfl) (fuel := 22) rfl rfl ?_
  refine GH.take 0 (v := (.agg #[(.int .i64 5), (.int .i64 1), (.slice (some ⟨xq8, 0, none⟩) 5 5)])) rfl (by kernel_rfl) (by kernel_rfl) (by kernel_rfl) (fun _ _ _ h => h) (Ex.loadA rfl T.ag43 T.sz43 (i := 10) rfl (vs := [(.int .i64 5), (.int .i64 1), (.slice (some ⟨xq8, 0, none⟩) 5 5)]) rfl rfl) (ulC (ulC (ulC (ulC (ulC (ulC (ulC (ulC (ulC (ulC (ulC (ulC (ulC (ulC (ulC ulN))))))))))))))) (by decide) ?_
  refine GH.one 1 rfl (by kernel_rfl) (Stp.buildSlice (cs := [(.int .u32 0), (.int .u32 1048576000), (.int .u32 1056964608), (.int .u32 1048576000), (.int .u32 0)]) (vs := [(0, (.int .u32 0)), (1, (.int .u32 1048576000)), (2, (.int .u32 1056964608)), (3, (.int .u32 1048576000)), (4, (.int .u32 0))]) Try.underlying41 T.zr63 T.sz63 rfl (by decide) (by decide) (by first | rfl | kernel_rfl) (by decide)) (fun _ => (ulS (ulC (ulC (ulC (ulC (ulC (ulC (ulC (ulC (ulC (ulC (ulC (ulC (ulC (ulC (ulC ulN))))))))))))))))) (fun bq37 _ => ?_)
  refine GH.one 2 rfl (by kernel_rfl) (Stp.callR (vs := [(.slice (some ⟨bq37, 0, none⟩) 5 5)]) rfl rfl T.own38 (by decide) (fun wc hw => r38_4 bq37 wc (Has.cons (hw.hasOf (i := 0) rfl) (Has.nil _)))) (fun _ => (ulS (ulC (ulC (ulC (ulC (ulC (ulC (ulC (ulC (ulC (ulC (ulC (ulC (ulC (ulC (ulC ulN))))))))))))))))) (fun xq38 hq39 => ?_)
  refine GH.one 3 rfl (by kernel_rfl) (Stp.callR (vs := [(.agg #[(.int .i64 5), (.int .i64 1), (.slice (some ⟨xq8, 0, none⟩) 5 5)]), (.agg #[(.int .i64 5), (.int .i64 1), (.slice (some ⟨bq37, 0, none⟩) 5 5)])]) rfl rfl T.own22 (by decide) (fun wc hw => help_eq 5 1 xq8 0 bq37 0 5 5 5 [0, 1048576000, 1056964608, 1048576000, 0] wc rfl (by decide) (show Rd _ _ _ (List.map u32 [0, 1048576000, 1056964608, 1048576000, 0]) from hw.rdOf (i := 12) rfl 0) (show Rd _ _ _ (List.map u32 [0, 1048576000, 1056964608, 1048576000, 0]) from hw.rdOf (i := 0) rfl 0))) (fun _ => (ulS (ulC (ulC (ulC (ulC (ulC (ulC (ulC (ulC (ulC (ulC (ulC (ulC (ulC (ulC (ulC ulN))))))))))))))))) (fun xq40 hq41 => ?_)
  refine GH.take 4 (v := (.bool true)) rfl (by kernel_rfl) (by kernel_rfl) (by kernel_rfl) (fun _ _ _ h => h) (Ex.move rfl) (ulS (ulC (ulC (ulC (ulC (ulC (ulC (ulC (ulC (ulC (ulC (ulC (ulC (ulC (ulC (ulC ulN)))))))))))))))) (by decide) ?_
  refine GH.takeG 5 (tj := 64) (v := (.agg #[(.int .i64 3), (.int .i64 1), (.slice (some ⟨xq14, 0, none⟩) 3 3)])) rfl rfl rfl (by kernel_rfl) (by kernel_rfl) (by kernel_rfl) (fun _ _ _ h => h) (Ex.loadA rfl T.ag43 T.sz43 (i := 7) rfl (vs := [(.int .i64 3), (.int .i64 1), (.slice (some ⟨xq14, 0, none⟩) 3 3)]) rfl rfl) (ulS (ulC (ulC (ulC (ulC (ulC (ulC (ulC (ulC (ulC (ulC (ulC (ulC (ulC (ulC (ulC ulN)))))))))))))))) (by decide) ?_
  refine GH.oneG 6 (tj := 64) rfl rfl rfl (by kernel_rfl) (Stp.buildSlice (cs := [(.int .u32 1065353216), (.int .u32 1065353216), (.int .u32 1065353216)]) (vs := [(0, (.int .u32 1065353216)), (1, (.int .u32 1065353216)), (2, (.int .u32 1065353216))]) Try.underlying41 T.zr63 T.sz63 rfl (by decide) (by decide) (by first | rfl | kernel_rfl) (by decide)) (fun _ => (ulS (ulS (ulC (ulC (ulC (ulC (ulC (ulC (ulC (ulC (ulC (ulC (ulC (ulC (ulC (ulC (ulC ulN)))))))))))))))))) (fun bq42 _ => ?_)
  refine GH.oneG 7 (tj := 64) rfl rfl rfl (by kernel_rfl) (Stp.callR (vs := [(.slice (some ⟨bq42, 0, none⟩) 3 3)]) rfl rfl T.own38 (by decide) (fun wc hw => r38_5 bq42 wc (Has.cons (hw.hasOf (i := 0) rfl) (Has.nil _)))) (fun _ => (ulS (ulS (ulC (ulC (ulC (ulC (ulC (ulC (ulC (ulC (ulC (ulC (ulC (ulC (ulC (ulC (ulC ulN)))))))))))))))))) (fun xq43 hq44 => ?_)
  refine GH.oneG 8 (tj := 64) rfl rfl rfl (by kernel_rfl) (Stp.callR (vs := [(.agg #[(.int .i64 3), (.int .i64 1), (.slice (some ⟨xq14, 0, none⟩) 3 3)]), (.agg #[(.int .i64 3), (.int .i64 1), (.slice (some ⟨bq42, 0, none⟩) 3 3)])]) rfl rfl T.own22 (by decide) (fun wc hw => help_eq 3 1 xq14 0 bq42 0 3 3 3 [1065353216, 1065353216, 1065353216] wc rfl (by decide) (show Rd _ _ _ (List.map u32 [1065353216, 1065353216, 1065353216]) from hw.rdOf (i := 10) rfl 0) (show Rd _ _ _ (List.map u32 [1065353216, 1065353216, 1065353216]) from hw.rdOf (i := 0) rfl 0))) (fun _ => (ulS (ulS (ulC (ulC (ulC (ulC (ulC (ulC (ulC (ulC (ulC (ulC (ulC (ulC (ulC (ulC (ulC ulN)))))))))))))))))) (fun xq45 hq46 => ?_)
  refine GH.take 9 (v := (.bool true)) rfl (by kernel_rfl) (by kernel_rfl) (by kernel_rfl) (fun _ _ _ h => h) (Ex.pickT rfl rfl) (ulS (ulS (ulC (ulC (ulC (ulC (ulC (ulC (ulC (ulC (ulC (ulC (ulC (ulC (ulC (ulC (ulC ulN))))))))))))))))) (by decide) ?_
  refine GH.take 10 (v := (.bool true)) rfl (by kernel_rfl) (by kernel_rfl) (by kernel_rfl) (fun _ _ _ h => h) (Ex.move rfl) (ulS (ulS (ulC (ulC (ulC (ulC (ulC (ulC (ulC (ulC (ulC (ulC (ulC (ulC (ulC (ulC (ulC ulN))))))))))))))))) (by decide) ?_
  refine GH.takeG 11 (tj := 70) (v := (.agg #[(.int .i64 3), (.int .i64 1), (.slice (some ⟨xq20.1, 0, none⟩) 3 3)])) rfl rfl rfl (by kernel_rfl) (by kernel_rfl) (by kernel_rfl) (fun _ _ _ h => h) (Ex.loadA rfl T.ag43 T.sz43 (i := 3) rfl (vs := [(.int .i64 3), (.int .i64 1), (.slice (some ⟨xq20.1, 0, none⟩) 3 3)]) rfl rfl) (ulS (ulS (ulC (ulC (ulC (ulC (ulC (ulC (ulC (ulC (ulC (ulC (ulC (ulC (ulC (ulC (ulC ulN))))))))))))))))) (by decide) ?_
  refine GH.oneG 12 (tj := 70) rfl rfl rfl (by kernel_rfl) (Stp.buildSlice (cs := [(.int .u32 1056964608), (.int .u32 1069547520), (.int .u32 1065353216)]) (vs := [(0, (.int .u32 1056964608)), (1, (.int .u32 1069547520)), (2, (.int .u32 1065353216))]) Try.underlying41 T.zr63 T.sz63 rfl (by decide) (by decide) (by first | rfl | kernel_rfl) (by decide)) (fun _ => (ulS (ulS (ulS (ulC (ulC (ulC (ulC (ulC (ulC (ulC (ulC (ulC (ulC (ulC (ulC (ulC (ulC (ulC ulN))))))))))))))))))) (fun bq47 _ => ?_)
  refine GH.oneG 13 (tj := 70) rfl rfl rfl (by kernel_rfl) (Stp.callR (vs := [(.slice (some ⟨bq47, 0, none⟩) 3 3)]) rfl rfl T.own38 (by decide) (fun wc hw => r38_6 bq47 wc (Has.cons (hw.hasOf (i := 0) rfl) (Has.nil _)))) (fun _ => (ulS (ulS (ulS (ulC (ulC (ulC (ulC (ulC (ulC (ulC (ulC (ulC (ulC (ulC (ulC (ulC (ulC (ulC ulN))))))))))))))))))) (fun xq48 hq49 => ?_)
  refine GH.oneG 14 (tj := 70) rfl rfl rfl (by kernel_rfl) (Stp.callR (vs := [(.agg #[(.int .i64 3), (.int .i64 1), (.slice (some ⟨xq20.1, 0, none⟩) 3 3)]), (.agg #[(.int .i64 3), (.int .i64 1), (.slice (some ⟨bq47, 0, none⟩) 3 3)])]) rfl rfl T.own22 (by decide) (fun wc hw => help_eq 3 1 xq20.1 0 bq47 0 3 3 3 [1056964608, 1069547520, 1065353216] wc rfl (by decide) (show Rd _ _ _ (List.map u32 [1056964608, 1069547520, 1065353216]) from hw.rdOf (i := 8) rfl 0) (show Rd _ _ _ (List.map u32 [1056964608, 1069547520, 1065353216]) from hw.rdOf (i := 0) rfl 0))) (fun _ => (ulS (ulS (ulS (ulC (ulC (ulC (ulC (ulC (ulC (ulC (ulC (ulC (ulC (ulC (ulC (ulC (ulC (ulC ulN))))))))))))))))))) (fun xq50 hq51 => ?_)
  refine GH.take 15 (v := (.bool true)) rfl (by kernel_rfl) (by kernel_rfl) (by kernel_rfl) (fun _ _ _ h => h) (Ex.pickT rfl rfl) (ulS (ulS (ulS (ulC (ulC (ulC (ulC (ulC (ulC (ulC (ulC (ulC (ulC (ulC (ulC (ulC (ulC (ulC ulN)))))))))))))))))) (by decide) ?_
  refine GH.take 16 (v := (.bool true)) rfl (by kernel_rfl) (by kernel_rfl) (by kernel_rfl) (fun _ _ _ h => h) (Ex.move rfl) (ulS (ulS (ulS (ulC (ulC (ulC (ulC (ulC (ulC (ulC (ulC (ulC (ulC (ulC (ulC (ulC (ulC (ulC ulN)))))))))))))))))) (by decide) ?_
  refine GH.takeG 17 (tj := 76) (v := (.agg #[(.int .i64 3), (.int .i64 1), (.slice (some ⟨xq20.2, 0, none⟩) 3 3)])) rfl rfl rfl (by kernel_rfl) (by kernel_rfl) (by kernel_rfl) (fun _ _ _ h => h) (Ex.loadA rfl T.ag43 T.sz43 (i := 2) rfl (vs := [(.int .i64 3), (.int .i64 1), (.slice (some ⟨xq20.2, 0, none⟩) 3 3)]) rfl rfl) (ulS (ulS (ulS (ulC (ulC (ulC (ulC (ulC (ulC (ulC (ulC (ulC (ulC (ulC (ulC (ulC (ulC (ulC ulN)))))))))))))))))) (by decide) ?_
  refine GH.oneG 18 (tj := 76) rfl rfl rfl (by kernel_rfl) (Stp.buildSlice (cs := [(.int .u32 0), (.int .u32 0), (.int .u32 0)]) (vs := [(0, (.int .u32 0)), (1, (.int .u32 0)), (2, (.int .u32 0))]) Try.underlying41 T.zr63 T.sz63 rfl (by decide) (by decide) (by first | rfl | kernel_rfl) (by decide)) (fun _ => (ulS (ulS (ulS (ulS (ulC (ulC (ulC (ulC (ulC (ulC (ulC (ulC (ulC (ulC (ulC (ulC (ulC (ulC (ulC ulN)))))))))))))))))))) (fun bq52 _ => ?_)
  refine GH.oneG 19 (tj := 76) rfl rfl rfl (by kernel_rfl) (Stp.callR (vs := [(.slice (some ⟨bq52, 0, none⟩) 3 3)]) rfl rfl T.own38 (by decide) (fun wc hw => r38_7 bq52 wc (Has.cons (hw.hasOf (i := 0) rfl) (Has.nil _)))) (fun _ => (ulS (ulS (ulS (ulS (ulC (ulC (ulC (ulC (ulC (ulC (ulC (ulC (ulC (ulC (ulC (ulC (ulC (ulC (ulC ulN)))))))))))))))))))) (fun xq53 hq54 => ?_)
  refine GH.oneG 20 (tj := 76) rfl rfl rfl (by kernel_rfl) (Stp.callR (vs := [(.agg #[(.int .i64 3), (.int .i64 1), (.slice (some ⟨xq20.2, 0, none⟩) 3 3)]), (.agg #[(.int .i64 3), (.int .i64 1), (.slice (some ⟨bq52, 0, none⟩) 3 3)])]) rfl rfl T.own22 (by decide) (fun wc hw => help_eq 3 1 xq20.2 0 bq52 0 3 3 3 [0, 0, 0] wc rfl (by decide) (show Rd _ _ _ (List.map u32 [0, 0, 0]) from hw.rdOf (i := 8) rfl 0) (show Rd _ _ _ (List.map u32 [0, 0, 0]) from hw.rdOf (i := 0) rfl 0))) (fun _ => (ulS (ulS (ulS (ulS (ulC (ulC (ulC (ulC (ulC (ulC (ulC (ulC (ulC (ulC (ulC (ulC (ulC (ulC (ulC ulN)))))))))))))))))))) (fun xq55 hq56 => ?_)
  refine GH.take 21 (v := (.bool true)) rfl (by kernel_rfl) (by kernel_rfl) (by kernel_rfl) (fun _ _ _ h => h) (Ex.pickT rfl rfl) (ulS (ulS (ulS (ulS (ulC (ulC (ulC (ulC (ulC (ulC (ulC (ulC (ulC (ulC (ulC (ulC (ulC (ulC (ulC ulN))))))))))))))))))) (by decide) ?_
  refine GH.done (by kernel_rfl) ?_
  refine GE.thenN ?_
  refine GE.tail rfl (Ex.wp (v := (.bool true)) (Ex.assign rfl) (by decide)) (fun _ _ => ?_)
  refine GE.thenN ?_
  refine GC.ret ?_
  refine GC.ret1 rfl (Rv.tmp rfl) (fun wN HN => ?_)
  exact HN.ret () trivial (by first | rfl | simp) (List.nil_sublist _) rfl

set_option maxRecDepth 100000 in
set_option maxHeartbeats 1000000 in
theorem size_h (pw ph : Int) (w : World) :
    Calls Try.prog 35 #[(.int .i64 pw), (.int .i64 ph)] w (Ret w (fun _ : Unit => True) (fun _ => .bool (sizeB pw ph)) (fun _ => [])) := by
  refine enter (M := None) (L := []) (n := 25) (l := [(0, (.int .i64 pw)), (1, (.int .i64 ph))]) Try.func35 rfl rfl (Args.cons rfl (Args.cons rfl (Args.nil _))) (Hp.start _ _) ?_
  refine GC.seq ?_
  refine GC.region ?_
  refine GL.val (Ex.assign rfl) (by decide) ?_
  refine GL.nil ?_
  refine GE.thenN ?_
  refine GC.seq ?_
  refine GC.region ?_
  refine GL.val (Ex.move rfl) (by decide) ?_
  by_cases hq1 : 1 ≤ pw
  · refine GL.val (v := (.bool true)) (Ex.cast (Ex.geq rfl rfl) (congrArg Value.bool (decide_eq_true hq1))) (by decide) ?_
    refine GL.val (Ex.move rfl) (by decide) ?_
    refine GL.stepG (tj := 7) rfl rfl (Ex.wp (v := (.int .i64 ph)) (Ex.move rfl) (by decide)) (fun _ _ => ?_)
    by_cases hq2 : 1 ≤ ph
    · refine GL.stepG (tj := 7) rfl rfl (Ex.wp (v := (.bool true)) (Ex.cast (Ex.geq rfl rfl) (congrArg Value.bool (decide_eq_true hq2))) (by decide)) (fun _ _ => ?_)
      refine GL.val (v := (.bool true)) (Ex.pickT rfl rfl) (by decide) ?_
      refine GL.val (Ex.move rfl) (by decide) ?_
      refine GL.stepG (tj := 11) rfl rfl (Ex.wp (v := (.int .i64 pw)) (Ex.move rfl) (by decide)) (fun _ _ => ?_)
      by_cases hq3 : pw ≤ 1024
      · refine GL.stepG (tj := 11) rfl rfl (Ex.wp (v := (.bool true)) (Ex.cast (Ex.leq rfl rfl) (congrArg Value.bool (decide_eq_true hq3))) (by decide)) (fun _ _ => ?_)
        refine GL.val (v := (.bool true)) (Ex.pickT rfl rfl) (by decide) ?_
        refine GL.val (Ex.move rfl) (by decide) ?_
        refine GL.stepG (tj := 15) rfl rfl (Ex.wp (v := (.int .i64 ph)) (Ex.move rfl) (by decide)) (fun _ _ => ?_)
        by_cases hq4 : ph ≤ 1024
        · have hm := mul_bd (w := pw) (h := ph) (by omega) (by omega) (by omega) (by omega)
          refine GL.stepG (tj := 15) rfl rfl (Ex.wp (v := (.bool true)) (Ex.cast (Ex.leq rfl rfl) (congrArg Value.bool (decide_eq_true hq4))) (by decide)) (fun _ _ => ?_)
          refine GL.val (v := (.bool true)) (Ex.pickT rfl rfl) (by decide) ?_
          refine GL.val (Ex.move rfl) (by decide) ?_
          refine GL.stepG (tj := 19) rfl rfl (Ex.wp (v := (.int .i64 pw)) (Ex.move rfl) (by decide)) (fun _ _ => ?_)
          refine GL.stepG (tj := 19) rfl rfl (Ex.wp (v := (.int .i64 ph)) (Ex.move rfl) (by decide)) (fun _ _ => ?_)
          refine GL.stepG (tj := 19) rfl rfl (Ex.wp (v := (.int .i64 (pw * ph))) (Ex.mul rfl rfl (Z := pw * ph) (w64 (by omega))) (by decide)) (fun _ _ => ?_)
          refine GL.stepG (tj := 19) rfl rfl (Ex.wp (v := (.bool (decide ((pw * ph) ≤ 65536)))) (Ex.leq rfl rfl) (by decide)) (fun _ _ => ?_)
          refine GL.val (v := (.bool (decide ((pw * ph) ≤ 65536)))) (Ex.pickT rfl rfl) (by decide) ?_
          refine GL.val (Ex.assign rfl) (by decide) ?_
          refine GL.nil ?_
          refine GE.thenN ?_
          refine GC.ret ?_
          refine GC.ret1 rfl (Rv.tmp rfl) (fun wN HN => ?_)
          exact HN.ret () trivial (by simp only [sizeB]; congr 1; apply decide_eq_decide.2; omega) (List.nil_sublist _) rfl
        · refine GL.stepG (tj := 15) rfl rfl (Ex.wp (v := (.bool false)) (Ex.cast (Ex.leq rfl rfl) (congrArg Value.bool (decide_eq_false hq4))) (by decide)) (fun _ _ => ?_)
          refine GL.val (v := (.bool false)) (Ex.pickT rfl rfl) (by decide) ?_
          refine GL.val (Ex.move rfl) (by decide) ?_
          refine GL.skipG (tj := 19) rfl rfl rfl (by decide) ?_
          refine GL.skipG (tj := 19) rfl rfl rfl (by decide) ?_
          refine GL.skipG (tj := 19) rfl rfl rfl (by decide) ?_
          refine GL.skipG (tj := 19) rfl rfl rfl (by decide) ?_
          refine GL.val (v := (.bool false)) (Ex.pickF rfl rfl) (by decide) ?_
          refine GL.val (Ex.assign rfl) (by decide) ?_
          refine GL.nil ?_
          refine GE.thenN ?_
          refine GC.ret ?_
          refine GC.ret1 rfl (Rv.tmp rfl) (fun wN HN => ?_)
          exact HN.ret () trivial (by simp only [sizeB]; rw [decide_eq_false (by omega)]) (List.nil_sublist _) rfl
      · refine GL.stepG (tj := 11) rfl rfl (Ex.wp (v := (.bool false)) (Ex.cast (Ex.leq rfl rfl) (congrArg Value.bool (decide_eq_false hq3))) (by decide)) (fun _ _ => ?_)
        refine GL.val (v := (.bool false)) (Ex.pickT rfl rfl) (by decide) ?_
        refine GL.val (Ex.move rfl) (by decide) ?_
        refine GL.skipG (tj := 15) rfl rfl rfl (by decide) ?_
        refine GL.skipG (tj := 15) rfl rfl rfl (by decide) ?_
        refine GL.val (v := (.bool false)) (Ex.pickF rfl rfl) (by decide) ?_
        refine GL.val (Ex.move rfl) (by decide) ?_
        refine GL.skipG (tj := 19) rfl rfl rfl (by decide) ?_
        refine GL.skipG (tj := 19) rfl rfl rfl (by decide) ?_
        refine GL.skipG (tj := 19) rfl rfl rfl (by decide) ?_
        refine GL.skipG (tj := 19) rfl rfl rfl (by decide) ?_
        refine GL.val (v := (.bool false)) (Ex.pickF rfl rfl) (by decide) ?_
        refine GL.val (Ex.assign rfl) (by decide) ?_
        refine GL.nil ?_
        refine GE.thenN ?_
        refine GC.ret ?_
        refine GC.ret1 rfl (Rv.tmp rfl) (fun wN HN => ?_)
        exact HN.ret () trivial (by simp only [sizeB]; rw [decide_eq_false (by omega)]) (List.nil_sublist _) rfl
    · refine GL.stepG (tj := 7) rfl rfl (Ex.wp (v := (.bool false)) (Ex.cast (Ex.geq rfl rfl) (congrArg Value.bool (decide_eq_false hq2))) (by decide)) (fun _ _ => ?_)
      refine GL.val (v := (.bool false)) (Ex.pickT rfl rfl) (by decide) ?_
      refine GL.val (Ex.move rfl) (by decide) ?_
      refine GL.skipG (tj := 11) rfl rfl rfl (by decide) ?_
      refine GL.skipG (tj := 11) rfl rfl rfl (by decide) ?_
      refine GL.val (v := (.bool false)) (Ex.pickF rfl rfl) (by decide) ?_
      refine GL.val (Ex.move rfl) (by decide) ?_
      refine GL.skipG (tj := 15) rfl rfl rfl (by decide) ?_
      refine GL.skipG (tj := 15) rfl rfl rfl (by decide) ?_
      refine GL.val (v := (.bool false)) (Ex.pickF rfl rfl) (by decide) ?_
      refine GL.val (Ex.move rfl) (by decide) ?_
      refine GL.skipG (tj := 19) rfl rfl rfl (by decide) ?_
      refine GL.skipG (tj := 19) rfl rfl rfl (by decide) ?_
      refine GL.skipG (tj := 19) rfl rfl rfl (by decide) ?_
      refine GL.skipG (tj := 19) rfl rfl rfl (by decide) ?_
      refine GL.val (v := (.bool false)) (Ex.pickF rfl rfl) (by decide) ?_
      refine GL.val (Ex.assign rfl) (by decide) ?_
      refine GL.nil ?_
      refine GE.thenN ?_
      refine GC.ret ?_
      refine GC.ret1 rfl (Rv.tmp rfl) (fun wN HN => ?_)
      exact HN.ret () trivial (by simp only [sizeB]; rw [decide_eq_false (by omega)]) (List.nil_sublist _) rfl
  · refine GL.val (v := (.bool false)) (Ex.cast (Ex.geq rfl rfl) (congrArg Value.bool (decide_eq_false hq1))) (by decide) ?_
    refine GL.val (Ex.move rfl) (by decide) ?_
    refine GL.skipG (tj := 7) rfl rfl rfl (by decide) ?_
    refine GL.skipG (tj := 7) rfl rfl rfl (by decide) ?_
    refine GL.val (v := (.bool false)) (Ex.pickF rfl rfl) (by decide) ?_
    refine GL.val (Ex.move rfl) (by decide) ?_
    refine GL.skipG (tj := 11) rfl rfl rfl (by decide) ?_
    refine GL.skipG (tj := 11) rfl rfl rfl (by decide) ?_
    refine GL.val (v := (.bool false)) (Ex.pickF rfl rfl) (by decide) ?_
    refine GL.val (Ex.move rfl) (by decide) ?_
    refine GL.skipG (tj := 15) rfl rfl rfl (by decide) ?_
    refine GL.skipG (tj := 15) rfl rfl rfl (by decide) ?_
    refine GL.val (v := (.bool false)) (Ex.pickF rfl rfl) (by decide) ?_
    refine GL.val (Ex.move rfl) (by decide) ?_
    refine GL.skipG (tj := 19) rfl rfl rfl (by decide) ?_
    refine GL.skipG (tj := 19) rfl rfl rfl (by decide) ?_
    refine GL.skipG (tj := 19) rfl rfl rfl (by decide) ?_
    refine GL.skipG (tj := 19) rfl rfl rfl (by decide) ?_
    refine GL.val (v := (.bool false)) (Ex.pickF rfl rfl) (by decide) ?_
    refine GL.val (Ex.assign rfl) (by decide) ?_
    refine GL.nil ?_
    refine GE.thenN ?_
    refine GC.ret ?_
    refine GC.ret1 rfl (Rv.tmp rfl) (fun wN HN => ?_)
    exact HN.ret () trivial (by simp only [sizeB]; rw [decide_eq_false (by omega)]) (List.nil_sublist _) rfl

set_option maxRecDepth 100000 in
set_option maxHeartbeats 1000000 in
theorem may (W H : Int) (ad : Option Addr) (n cap : Nat) (w : World) :
    Calls Try.prog 28 #[(.agg #[(.int .i64 W), (.int .i64 H), (.slice ad n cap)])] w (Ret w (fun _ : Unit => True) (fun _ => .int .i64 (chk W H n)) (fun _ => [])) := by
  refine enter (M := None) (L := []) (n := 18) (l := [(0, (.agg #[(.int .i64 W), (.int .i64 H), (.slice ad n cap)]))]) Try.func28 rfl rfl (Args.cons rfl (Args.nil _)) (Hp.start _ _) ?_
  refine GC.seq ?_
  refine GC.region ?_
  refine GL.step (Stp.box (cs := [(.int .i64 W), (.int .i64 H), (.slice ad n cap)]) rfl rfl (by decide)) (fun bq1 _ => ?_)
  refine GL.val (Ex.assign rfl) (by decide) ?_
  refine GL.nil ?_
  refine GE.thenN ?_
  refine GC.seq ?_
  refine GC.seq ?_
  refine GC.region ?_
  refine GL.val (v := (.pointer (some ⟨bq1, 0, none⟩))) (Ex.cast (Ex.fieldAddr rfl Try.underlying43 rfl T.sz3 (by decide)) rfl) (by decide) ?_
  refine GL.val (Ex.load rfl T.ag3 (i := 0) rfl rfl) (by decide) ?_
  refine GL.val (v := (.pointer (some ⟨bq1, 1, none⟩))) (Ex.cast (Ex.fieldAddr rfl Try.underlying43 rfl T.sz3 (by decide)) rfl) (by decide) ?_
  refine GL.val (Ex.load rfl T.ag3 (i := 0) rfl rfl) (by decide) ?_
  refine GL.step (Stp.callR (vs := [(.int .i64 W), (.int .i64 H)]) rfl rfl T.own35 (by decide) (fun wc hw => size_h W H wc)) (fun xq2 hq3 => ?_)
  refine GL.val (v := (.bool (!(sizeB W H)))) (Ex.not rfl) (by decide) ?_
  refine GL.nil ?_
  refine GE.thenN ?_
  refine GC.cond rfl (fun hq4 => ?_) (fun hq4 => ?_)
  · have hs : sizeB W H = false := by simpa using hq4
    refine GC.seq ?_
    refine GC.region ?_
    refine GL.val (Ex.assign rfl) (by decide) ?_
    refine GL.nil ?_
    refine GE.thenN ?_
    refine GC.ret ?_
    refine GE.thenR ?_
    refine GC.ret1 rfl (Rv.tmp rfl) (fun wN HN => ?_)
    exact HN.ret () trivial (by simp [chk, *]) (List.nil_sublist _) rfl
  · have hs : sizeB W H = true := by simpa using hq4
    refine GC.skip ?_
    refine GE.thenN ?_
    refine GC.seq ?_
    refine GC.seq ?_
    have hm := sizeB_mul hs
    refine GC.region ?_
    refine GL.val (v := (.pointer (some ⟨bq1, 2, none⟩))) (Ex.cast (Ex.fieldAddr rfl Try.underlying43 rfl T.sz41 (by decide)) rfl) (by decide) ?_
    refine GL.val (Ex.load rfl T.ag41 (i := 0) rfl rfl) (by decide) ?_
    refine GL.val (v := (.int .i64 ((n : Int)))) (Ex.len rfl Try.underlying41) (by decide) ?_
    refine GL.val (v := (.pointer (some ⟨bq1, 0, none⟩))) (Ex.cast (Ex.fieldAddr rfl Try.underlying43 rfl T.sz3 (by decide)) rfl) (by decide) ?_
    refine GL.val (Ex.load rfl T.ag3 (i := 0) rfl rfl) (by decide) ?_
    refine GL.val (v := (.pointer (some ⟨bq1, 1, none⟩))) (Ex.cast (Ex.fieldAddr rfl Try.underlying43 rfl T.sz3 (by decide)) rfl) (by decide) ?_
    refine GL.val (Ex.load rfl T.ag3 (i := 0) rfl rfl) (by decide) ?_
    refine GL.val (v := (.int .i64 (W * H))) (Ex.mul rfl rfl (Z := W * H) (w64 (by omega))) (by decide) ?_
    refine GL.val (v := (.bool (decide (((n : Int)) ≠ (W * H))))) (Ex.neq rfl rfl) (by decide) ?_
    refine GL.nil ?_
    refine GE.thenN ?_
    refine GC.cond rfl (fun hq5 => ?_) (fun hq5 => ?_)
    · replace hq5 := of_decide_eq_true hq5
      refine GC.seq ?_
      refine GC.region ?_
      refine GL.val (Ex.assign rfl) (by decide) ?_
      refine GL.nil ?_
      refine GE.thenN ?_
      refine GC.ret ?_
      refine GE.thenR ?_
      refine GC.ret1 rfl (Rv.tmp rfl) (fun wN HN => ?_)
      exact HN.ret () trivial (by simp [chk, *]) (List.nil_sublist _) rfl
    · replace hq5 := of_decide_eq_false hq5
      refine GC.skip ?_
      refine GE.thenN ?_
      refine GC.seq ?_
      refine GC.region ?_
      refine GL.val (Ex.assign rfl) (by decide) ?_
      refine GL.nil ?_
      refine GE.thenN ?_
      refine GC.ret ?_
      refine GC.ret1 rfl (Rv.tmp rfl) (fun wN HN => ?_)
      exact HN.ret () trivial (by simp [chk, *]) (List.nil_sublist _) rfl

end Go.Proofs.Ytjbpdhofhhinhaa.C
