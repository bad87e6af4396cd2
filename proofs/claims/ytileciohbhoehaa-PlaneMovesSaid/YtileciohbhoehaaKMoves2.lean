/- PlaneMoves: what its code does, walked. -/
import Derived.Test.YtileciohbhoehaaKMoves1
namespace Go.Proofs.Ytileciohbhoehaa.C
open Go Go.RowKit Sx
set_option linter.unusedVariables false
set_option maxRecDepth 100000 in
set_option maxHeartbeats 1000000 in
theorem border (k n i : Int) (w : World) :
    Calls Try.prog 14 #[(.int .i64 k), (.int .i64 n), (.int .i64 i)] w (Ret w (fun _ : Unit => True) (fun _ => .tuple #[.int .i64 (bord k n i).1, .int .i64 (bord k n i).2]) (fun _ => [])) := by
  refine enter (M := None) (L := []) (n := 52) (l := [(0, (.int .i64 k)), (1, (.int .i64 n)), (2, (.int .i64 i))]) Try.func14 rfl rfl (Args.cons rfl (Args.cons rfl (Args.cons rfl (Args.nil _)))) (Hp.start _ _) ?_
  refine GC.seq ?_
  refine GC.region ?_
  refine GL.val (Ex.assign rfl) (by decide) ?_
  refine GL.val (Ex.assign rfl) (by decide) ?_
  refine GL.nil ?_
  refine GE.thenN ?_
  refine GC.seq ?_
  refine GC.block ?_
  refine GC.seq ?_
  refine GC.region ?_
  refine GL.val (Ex.move rfl) (by decide) ?_
  by_cases hq1 : k < 1
  · refine GL.val (v := (.bool true)) (Ex.cast (Ex.lss rfl rfl) (congrArg Value.bool (decide_eq_true hq1))) (by decide) ?_
    refine GL.val (Ex.move rfl) (by decide) ?_
    refine GL.skipG (tj := 12) rfl rfl rfl (by decide) ?_
    refine GL.skipG (tj := 12) rfl rfl rfl (by decide) ?_
    refine GL.val (v := (.bool true)) (Ex.pickT rfl rfl) (by decide) ?_
    refine GL.val (Ex.assign rfl) (by decide) ?_
    refine GL.nil ?_
    refine GE.thenN ?_
    refine GC.cond rfl (fun _ => ?_) (fun hq2 => by cases hq2)
    refine GC.seq ?_
    refine GC.region ?_
    refine GL.val (Ex.assign rfl) (by decide) ?_
    refine GL.val (Ex.assign rfl) (by decide) ?_
    refine GL.nil ?_
    refine GE.thenN ?_
    refine GC.ret ?_
    refine GE.blockR ?_
    refine GE.thenR ?_
    refine GC.ret2 rfl (Rv.tmp rfl) (Rv.tmp rfl) (fun wN HN => ?_)
    exact HN.ret () trivial (by simp only [bord]; (repeat (first | rfl | (rw [if_pos (by omega)]) | (rw [if_neg (by omega)])))) (List.nil_sublist _) rfl
  · refine GL.val (v := (.bool false)) (Ex.cast (Ex.lss rfl rfl) (congrArg Value.bool (decide_eq_false hq1))) (by decide) ?_
    refine GL.val (Ex.move rfl) (by decide) ?_
    refine GL.stepG (tj := 12) rfl rfl (Ex.wp (v := (.int .i64 k)) (Ex.move rfl) (by decide)) (fun _ _ => ?_)
    refine GL.stepG (tj := 12) rfl rfl (Ex.wp (v := (.bool (decide (3 < k)))) (Ex.gtr rfl rfl) (by decide)) (fun _ _ => ?_)
    refine GL.val (v := (.bool (decide (3 < k)))) (Ex.pickF rfl rfl) (by decide) ?_
    refine GL.val (Ex.assign rfl) (by decide) ?_
    refine GL.nil ?_
    refine GE.thenN ?_
    refine GC.cond rfl (fun hq3 => ?_) (fun hq3 => ?_)
    · replace hq3 := of_decide_eq_true hq3
      refine GC.seq ?_
      refine GC.region ?_
      refine GL.val (Ex.assign rfl) (by decide) ?_
      refine GL.val (Ex.assign rfl) (by decide) ?_
      refine GL.nil ?_
      refine GE.thenN ?_
      refine GC.ret ?_
      refine GE.blockR ?_
      refine GE.thenR ?_
      refine GC.ret2 rfl (Rv.tmp rfl) (Rv.tmp rfl) (fun wN HN => ?_)
      exact HN.ret () trivial (by simp only [bord]; (repeat (first | rfl | (rw [if_pos (by omega)]) | (rw [if_neg (by omega)])))) (List.nil_sublist _) rfl
    · replace hq3 := of_decide_eq_false hq3
      refine GC.seq ?_
      refine GC.region ?_
      refine GL.val (Ex.move rfl) (by decide) ?_
      by_cases hq4 : n < 1
      · refine GL.val (v := (.bool true)) (Ex.cast (Ex.lss rfl rfl) (congrArg Value.bool (decide_eq_true hq4))) (by decide) ?_
        refine GL.val (Ex.move rfl) (by decide) ?_
        refine GL.skipG (tj := 19) rfl rfl rfl (by decide) ?_
        refine GL.skipG (tj := 19) rfl rfl rfl (by decide) ?_
        refine GL.val (v := (.bool true)) (Ex.pickT rfl rfl) (by decide) ?_
        refine GL.val (Ex.assign rfl) (by decide) ?_
        refine GL.nil ?_
        refine GE.thenN ?_
        refine GC.cond rfl (fun _ => ?_) (fun hq5 => by cases hq5)
        refine GC.seq ?_
        refine GC.region ?_
        refine GL.val (Ex.assign rfl) (by decide) ?_
        refine GL.val (Ex.assign rfl) (by decide) ?_
        refine GL.nil ?_
        refine GE.thenN ?_
        refine GC.ret ?_
        refine GE.blockR ?_
        refine GE.thenR ?_
        refine GC.ret2 rfl (Rv.tmp rfl) (Rv.tmp rfl) (fun wN HN => ?_)
        exact HN.ret () trivial (by simp only [bord]; (repeat (first | rfl | (rw [if_pos (by omega)]) | (rw [if_neg (by omega)])))) (List.nil_sublist _) rfl
      · refine GL.val (v := (.bool false)) (Ex.cast (Ex.lss rfl rfl) (congrArg Value.bool (decide_eq_false hq4))) (by decide) ?_
        refine GL.val (Ex.move rfl) (by decide) ?_
        refine GL.stepG (tj := 19) rfl rfl (Ex.wp (v := (.int .i64 n)) (Ex.move rfl) (by decide)) (fun _ _ => ?_)
        refine GL.stepG (tj := 19) rfl rfl (Ex.wp (v := (.bool (decide (1024 < n)))) (Ex.gtr rfl rfl) (by decide)) (fun _ _ => ?_)
        refine GL.val (v := (.bool (decide (1024 < n)))) (Ex.pickF rfl rfl) (by decide) ?_
        refine GL.val (Ex.assign rfl) (by decide) ?_
        refine GL.nil ?_
        refine GE.thenN ?_
        refine GC.cond rfl (fun hq6 => ?_) (fun hq6 => ?_)
        · replace hq6 := of_decide_eq_true hq6
          refine GC.seq ?_
          refine GC.region ?_
          refine GL.val (Ex.assign rfl) (by decide) ?_
          refine GL.val (Ex.assign rfl) (by decide) ?_
          refine GL.nil ?_
          refine GE.thenN ?_
          refine GC.ret ?_
          refine GE.blockR ?_
          refine GE.thenR ?_
          refine GC.ret2 rfl (Rv.tmp rfl) (Rv.tmp rfl) (fun wN HN => ?_)
          exact HN.ret () trivial (by simp only [bord]; (repeat (first | rfl | (rw [if_pos (by omega)]) | (rw [if_neg (by omega)])))) (List.nil_sublist _) rfl
        · replace hq6 := of_decide_eq_false hq6
          refine GC.seq ?_
          refine GC.region ?_
          refine GL.val (Ex.move rfl) (by decide) ?_
          refine GL.val (v := (.bool (decide (k = 1)))) (Ex.eql rfl rfl) (by decide) ?_
          refine GL.val (Ex.assign rfl) (by decide) ?_
          refine GL.nil ?_
          refine GE.thenN ?_
          refine GC.cond rfl (fun hq7 => ?_) (fun hq7 => ?_)
          · replace hq7 := of_decide_eq_true hq7
            refine GC.seq ?_
            refine GC.region ?_
            refine GL.val (Ex.move rfl) (by decide) ?_
            refine GL.val (v := (.int .i64 (max i 0))) (Ex.maxI rfl rfl (Z := max i 0) (max64 _ _)) (by decide) ?_
            refine GL.val (Ex.move rfl) (by decide) ?_
            refine GL.val (v := (.int .i64 (n - 1))) (Ex.sub' rfl rfl (Z := n - 1) (w64 (by omega))) (by decide) ?_
            refine GL.val (v := (.int .i64 (min (max i 0) (n - 1)))) (Ex.minI rfl rfl (Z := min (max i 0) (n - 1)) (min64 _ _)) (by decide) ?_
            refine GL.val (Ex.assign rfl) (by decide) ?_
            refine GL.val (Ex.assign rfl) (by decide) ?_
            refine GL.nil ?_
            refine GE.thenN ?_
            refine GC.ret ?_
            refine GE.blockR ?_
            refine GE.thenR ?_
            refine GC.ret2 rfl (Rv.tmp rfl) (Rv.tmp rfl) (fun wN HN => ?_)
            exact HN.ret () trivial (by simp only [bord]; (repeat (first | rfl | (rw [if_pos (by omega)]) | (rw [if_neg (by omega)])))) (List.nil_sublist _) rfl
          · replace hq7 := of_decide_eq_false hq7
            refine GC.seq ?_
            refine GC.region ?_
            refine GL.val (Ex.move rfl) (by decide) ?_
            refine GL.val (v := (.bool (decide (k = 3)))) (Ex.eql rfl rfl) (by decide) ?_
            refine GL.val (Ex.assign rfl) (by decide) ?_
            refine GL.nil ?_
            refine GE.thenN ?_
            refine GC.cond rfl (fun hq8 => ?_) (fun hq8 => ?_)
            · replace hq8 := of_decide_eq_true hq8
              refine GC.seq ?_
              refine GC.region ?_
              refine GL.val (Ex.move rfl) (by decide) ?_
              refine GL.val (Ex.move rfl) (by decide) ?_
              refine GL.step (Stp.callR (vs := [(.int .i64 i), (.int .i64 n)]) rfl rfl T.own45 (by decide) (fun wc hw => rest i n wc (by omega))) (fun xq9 hq10 => ?_)
              refine GL.val (Ex.assign rfl) (by decide) ?_
              refine GL.val (Ex.assign rfl) (by decide) ?_
              refine GL.nil ?_
              refine GE.thenN ?_
              refine GC.ret ?_
              refine GE.blockR ?_
              refine GE.thenR ?_
              refine GC.ret2 rfl (Rv.tmp rfl) (Rv.tmp rfl) (fun wN HN => ?_)
              exact HN.ret () trivial (by simp only [bord]; (repeat (first | rfl | (rw [if_pos (by omega)]) | (rw [if_neg (by omega)])))) (List.nil_sublist _) rfl
            · replace hq8 := of_decide_eq_false hq8
              refine GC.seq ?_
              refine GC.region ?_
              refine GL.val (Ex.move rfl) (by decide) ?_
              refine GL.val (v := (.bool (decide (n = 1)))) (Ex.eql rfl rfl) (by decide) ?_
              refine GL.val (Ex.assign rfl) (by decide) ?_
              refine GL.nil ?_
              refine GE.thenN ?_
              refine GC.cond rfl (fun hq11 => ?_) (fun hq11 => ?_)
              · replace hq11 := of_decide_eq_true hq11
                refine GC.seq ?_
                refine GC.region ?_
                refine GL.val (Ex.assign rfl) (by decide) ?_
                refine GL.val (Ex.assign rfl) (by decide) ?_
                refine GL.nil ?_
                refine GE.thenN ?_
                refine GC.ret ?_
                refine GE.blockR ?_
                refine GE.thenR ?_
                refine GC.ret2 rfl (Rv.tmp rfl) (Rv.tmp rfl) (fun wN HN => ?_)
                exact HN.ret () trivial (by simp only [bord]; (repeat (first | rfl | (rw [if_pos (by omega)]) | (rw [if_neg (by omega)])))) (List.nil_sublist _) rfl
              · replace hq11 := of_decide_eq_false hq11
                refine GC.skip ?_
                refine GE.blockN ?_
                refine GE.thenN ?_
                refine GC.seq ?_
                have hb := rst_bd i (show 1 ≤ 2 * (n - 1) by omega)
                refine GC.region ?_
                refine GL.val (Ex.move rfl) (by decide) ?_
                refine GL.val (Ex.move rfl) (by decide) ?_
                refine GL.val (v := (.int .i64 (n - 1))) (Ex.sub' rfl rfl (Z := n - 1) (w64 (by omega))) (by decide) ?_
                refine GL.val (v := (.int .i64 (2 * (n - 1)))) (Ex.mul rfl rfl (Z := 2 * (n - 1)) (w64 (by omega))) (by decide) ?_
                refine GL.step (Stp.callR (vs := [(.int .i64 i), (.int .i64 (2 * (n - 1)))]) rfl rfl T.own45 (by decide) (fun wc hw => rest i (2 * (n - 1)) wc (by omega))) (fun xq12 hq13 => ?_)
                refine GL.val (Ex.assign rfl) (by decide) ?_
                refine GL.nil ?_
                refine GE.thenN ?_
                refine GC.seq ?_
                refine GC.region ?_
                refine GL.val (Ex.move rfl) (by decide) ?_
                refine GL.val (Ex.move rfl) (by decide) ?_
                refine GL.val (v := (.int .i64 (n - 1))) (Ex.sub' rfl rfl (Z := n - 1) (w64 (by omega))) (by decide) ?_
                refine GL.val (v := (.int .i64 (2 * (n - 1)))) (Ex.mul rfl rfl (Z := 2 * (n - 1)) (w64 (by omega))) (by decide) ?_
                refine GL.val (Ex.move rfl) (by decide) ?_
                refine GL.val (v := (.int .i64 ((2 * (n - 1)) - (rst i (2 * (n - 1)))))) (Ex.sub' rfl rfl (Z := (2 * (n - 1)) - (rst i (2 * (n - 1)))) (w64 (by omega))) (by decide) ?_
                refine GL.val (v := (.int .i64 (min (rst i (2 * (n - 1))) ((2 * (n - 1)) - (rst i (2 * (n - 1))))))) (Ex.minI rfl rfl (Z := min (rst i (2 * (n - 1))) ((2 * (n - 1)) - (rst i (2 * (n - 1))))) (min64 _ _)) (by decide) ?_
                refine GL.val (Ex.assign rfl) (by decide) ?_
                refine GL.val (Ex.assign rfl) (by decide) ?_
                refine GL.nil ?_
                refine GE.thenN ?_
                refine GC.ret ?_
                refine GC.ret2 rfl (Rv.tmp rfl) (Rv.tmp rfl) (fun wN HN => ?_)
                exact HN.ret () trivial (by simp only [bord]; (repeat (first | rfl | (rw [if_pos (by omega)]) | (rw [if_neg (by omega)])))) (List.nil_sublist _) rfl

set_option maxRecDepth 100000 in
set_option maxHeartbeats 1000000 in
theorem extC (x y W H n cap b o Lf Tp bk bp bl bt bf : Nat) (k : Int) (fid : FuncId) (caps : Array Value) (g : Nat → Nat → Int) (w : World) (h1 : w.heap[bk]? = some (.cells #[(.int .i64 k)] 3 (0, 0))) (h2 : w.heap[bp]? = some (.cells #[(.int .i64 ((W : Int))), (.int .i64 ((H : Int))), (.slice (some ⟨b, o, none⟩) n cap)] 32 (0, 0))) (h3 : w.heap[bl]? = some (.cells #[(.int .i64 ((Lf : Int)))] 3 (0, 0))) (h4 : w.heap[bt]? = some (.cells #[(.int .i64 ((Tp : Int)))] 3 (0, 0))) (h5 : w.heap[bf]? = some (.cells #[(.func (.func fid) #[] caps)] 88 (0, 0)))
    (hf : Fn2 Try.prog w fid caps W H g) (hk : 1 ≤ k ∧ k ≤ 3) (hW : 1 ≤ W ∧ W ≤ 1024) (hH : 1 ≤ H ∧ H ≤ 1024) (hx : x ≤ 1024) (hy : y ≤ 1024) (hl : Lf ≤ 1024) (ht : Tp ≤ 1024) :
    Calls Try.prog 54 #[(.int .i64 ((x : Int))), (.int .i64 ((y : Int))), (.pointer (some ⟨bk, 0, none⟩)), (.pointer (some ⟨bp, 0, none⟩)), (.pointer (some ⟨bl, 0, none⟩)), (.pointer (some ⟨bt, 0, none⟩)), (.pointer (some ⟨bf, 0, none⟩))] w (Ret w (fun _ : Unit => True) (fun _ => .int .u32 (g (bord k W ((x : Int) - Lf)).1.toNat (bord k H ((y : Int) - Tp)).1.toNat)) (fun _ => [])) := by
  have hb1 := bord_ok (i := (x : Int) - Lf) hk.1 hk.2 (by omega : (1 : Int) ≤ W) (by omega)
  have hb2 := bord_ok (i := (y : Int) - Tp) hk.1 hk.2 (by omega : (1 : Int) ≤ H) (by omega)
  refine enter (M := None) (L := [⟨bk, [(.int .i64 k)], 3, false⟩, ⟨bp, [(.int .i64 ((W : Int))), (.int .i64 ((H : Int))), (.slice (some ⟨b, o, none⟩) n cap)], 32, false⟩, ⟨bl, [(.int .i64 ((Lf : Int)))], 3, false⟩, ⟨bt, [(.int .i64 ((Tp : Int)))], 3, false⟩, ⟨bf, [(.func (.func fid) #[] caps)], 88, false⟩]) (n := 38) (l := [(0, (.int .i64 ((x : Int)))), (1, (.int .i64 ((y : Int)))), (2, (.pointer (some ⟨bk, 0, none⟩))), (3, (.pointer (some ⟨bp, 0, none⟩))), (4, (.pointer (some ⟨bl, 0, none⟩))), (5, (.pointer (some ⟨bt, 0, none⟩))), (6, (.pointer (some ⟨bf, 0, none⟩)))]) Try.func54 rfl rfl (Args.cons rfl (Args.cons rfl (Args.cons rfl (Args.cons rfl (Args.cons rfl (Args.cons rfl (Args.cons rfl (Args.nil _)))))))) (Hp.reads (Has.cons h1 (Has.cons h2 (Has.cons h3 (Has.cons h4 (Has.cons h5 (Has.nil _)))))) rfl) ?_
  refine GC.seq ?_
  refine GC.region ?_
  refine GL.val (Ex.assign rfl) (by decide) ?_
  refine GL.nil ?_
  refine GE.thenN ?_
  refine GC.seq ?_
  refine GC.region ?_
  refine GL.val (Ex.load rfl T.ag3 (i := 0) rfl rfl) (by decide) ?_
  refine GL.val (v := (.pointer (some ⟨bp, 0, none⟩))) (Ex.cast (Ex.fieldAddr rfl Try.underlying32 rfl T.sz3 (by decide)) rfl) (by decide) ?_
  refine GL.val (Ex.load rfl T.ag3 (i := 1) rfl rfl) (by decide) ?_
  refine GL.val (Ex.move rfl) (by decide) ?_
  refine GL.val (Ex.load rfl T.ag3 (i := 2) rfl rfl) (by decide) ?_
  refine GL.val (v := (.int .i64 (((x : Int)) - ((Lf : Int))))) (Ex.sub' rfl rfl (Z := ((x : Int)) - ((Lf : Int))) (w64 (by omega))) (by decide) ?_
  refine GL.step (Stp.callR (vs := [(.int .i64 k), (.int .i64 ((W : Int))), (.int .i64 (((x : Int)) - ((Lf : Int))))]) rfl rfl T.own14 (by decide) (fun wc hw => border k ((W : Int)) (((x : Int)) - ((Lf : Int))) wc)) (fun xq1 hq2 => ?_)
  refine GL.val (Ex.move rfl) (by decide) ?_
  refine GL.val (Ex.extract rfl rfl) (by decide) ?_
  refine GL.val (Ex.extract rfl rfl) (by decide) ?_
  refine GL.val (Ex.assign rfl) (by decide) ?_
  refine GL.val (Ex.assign rfl) (by decide) ?_
  refine GL.nil ?_
  refine GE.thenN ?_
  refine GC.seq ?_
  refine GC.region ?_
  refine GL.val (Ex.load rfl T.ag3 (i := 0) rfl rfl) (by decide) ?_
  refine GL.val (v := (.pointer (some ⟨bp, 1, none⟩))) (Ex.cast (Ex.fieldAddr rfl Try.underlying32 rfl T.sz3 (by decide)) rfl) (by decide) ?_
  refine GL.val (Ex.load rfl T.ag3 (i := 1) rfl rfl) (by decide) ?_
  refine GL.val (Ex.move rfl) (by decide) ?_
  refine GL.val (Ex.load rfl T.ag3 (i := 3) rfl rfl) (by decide) ?_
  refine GL.val (v := (.int .i64 (((y : Int)) - ((Tp : Int))))) (Ex.sub' rfl rfl (Z := ((y : Int)) - ((Tp : Int))) (w64 (by omega))) (by decide) ?_
  refine GL.step (Stp.callR (vs := [(.int .i64 k), (.int .i64 ((H : Int))), (.int .i64 (((y : Int)) - ((Tp : Int))))]) rfl rfl T.own14 (by decide) (fun wc hw => border k ((H : Int)) (((y : Int)) - ((Tp : Int))) wc)) (fun xq3 hq4 => ?_)
  refine GL.val (Ex.move rfl) (by decide) ?_
  refine GL.val (Ex.extract rfl rfl) (by decide) ?_
  refine GL.val (Ex.extract rfl rfl) (by decide) ?_
  refine GL.val (Ex.assign rfl) (by decide) ?_
  refine GL.val (Ex.assign rfl) (by decide) ?_
  refine GL.nil ?_
  refine GE.thenN ?_
  refine GC.seq ?_
  refine GC.region ?_
  refine GL.val (Ex.load rfl T.ag88 (i := 4) rfl rfl) (by decide) ?_
  refine GL.val (Ex.move rfl) (by decide) ?_
  refine GL.val (Ex.move rfl) (by decide) ?_
  refine GL.step (Stp.callR (vs := [(.int .i64 ((bord k ((W : Int)) (((x : Int)) - ((Lf : Int)))).1)), (.int .i64 ((bord k ((H : Int)) (((y : Int)) - ((Tp : Int)))).1))]) rfl rfl hf.1 (by decide) (fun wc hw => by have h := hf.2 (bord k W ((x : Int) - Lf)).1.toNat (bord k H ((y : Int) - Tp)).1.toNat (by omega) (by omega) wc hw.1; rw [Int.toNat_of_nonneg hb1.2.1, Int.toNat_of_nonneg hb2.2.1] at h; exact h)) (fun xq5 hq6 => ?_)
  refine GL.val (Ex.assign rfl) (by decide) ?_
  refine GL.nil ?_
  refine GE.thenN ?_
  refine GC.ret ?_
  refine GC.ret1 rfl (Rv.tmp rfl) (fun wN HN => ?_)
  exact HN.ret () trivial (by first | rfl | (congr 1; done)) (List.nil_sublist _) rfl

set_option maxRecDepth 100000 in
set_option maxHeartbeats 1000000 in
theorem extend (W H n cap b o Lf Tp Rg Bt : Nat) (xs : List Int) (k : Int) (w : World) (hok : okP W H) (hn : n = W * H) (hx : xs.length = n) (hr : Rd w b o (xs.map u32)) (hkk : 1 ≤ k ∧ k ≤ 3) (hl : Lf ≤ 1024 ∧ Tp ≤ 1024 ∧ Rg ≤ 1024 ∧ Bt ≤ 1024) (hok2 : okP (Lf + W + Rg) (Tp + H + Bt)) :
    Calls Try.prog 19 #[(.agg #[(.int .i64 ((W : Int))), (.int .i64 ((H : Int))), (.slice (some ⟨b, o, none⟩) n cap)]), (.int .i64 k), (.int .i64 ((Lf : Int))), (.int .i64 ((Tp : Int))), (.int .i64 ((Rg : Int))), (.int .i64 ((Bt : Int)))] w (Ret w (fun _ : Nat => True) (fun r => .tuple #[.agg #[.int .i64 ((Lf + W + Rg : Nat) : Int), .int .i64 ((Tp + H + Bt : Nat) : Int), .slice (some ⟨r, 0, none⟩) ((Lf + W + Rg) * (Tp + H + Bt)) ((Lf + W + Rg) * (Tp + H + Bt))], .int .i64 0]) (fun r => [⟨r, (tab (Lf + W + Rg) (fun x y => smp xs W (bord k W ((x : Int) - Lf)).1.toNat (bord k H ((y : Int) - Tp)).1.toNat) ((Lf + W + Rg) * (Tp + H + Bt))).map u32, 72, true⟩])) := by
  obtain ⟨q1, q2, q3, q4, _⟩ := id hok
  obtain ⟨r1, r2, r3, r4, _⟩ := id hok2
  have hsz := sizeB_ok hok2
  refine enter (M := None) (L := []) (n := 80) (l := [(0, (.agg #[(.int .i64 ((W : Int))), (.int .i64 ((H : Int))), (.slice (some ⟨b, o, none⟩) n cap)])), (1, (.int .i64 k)), (2, (.int .i64 ((Lf : Int)))), (3, (.int .i64 ((Tp : Int)))), (4, (.int .i64 ((Rg : Int)))), (5, (.int .i64 ((Bt : Int))))]) Try.func19 rfl rfl (Args.cons rfl (Args.cons rfl (Args.cons rfl (Args.cons rfl (Args.cons rfl (Args.cons rfl (Args.nil _))))))) (Hp.start _ _) ?_
  refine GC.seq ?_
  refine GC.region ?_
  refine GL.step (Stp.box (cs := [(.int .i64 ((W : Int))), (.int .i64 ((H : Int))), (.slice (some ⟨b, o, none⟩) n cap)]) rfl rfl (by decide)) (fun bq1 _ => ?_)
  refine GL.step (Stp.box (cs := [(.int .i64 k)]) rfl rfl (by decide)) (fun bq2 _ => ?_)
  refine GL.step (Stp.box (cs := [(.int .i64 ((Lf : Int)))]) rfl rfl (by decide)) (fun bq3 _ => ?_)
  refine GL.step (Stp.box (cs := [(.int .i64 ((Tp : Int)))]) rfl rfl (by decide)) (fun bq4 _ => ?_)
  refine GL.step (Stp.alloc T.zr32 (by decide)) (fun bq5 _ => ?_)
  refine GL.val (Ex.assign rfl) (by decide) ?_
  refine GL.nil ?_
  refine GE.thenN ?_
  refine GC.seq ?_
  refine GC.seq ?_
  refine GC.region ?_
  refine GL.val (v := (.agg #[(.int .i64 ((W : Int))), (.int .i64 ((H : Int))), (.slice (some ⟨b, o, none⟩) n cap)])) (Ex.loadA rfl T.ag32 T.sz32 (i := 4) rfl (vs := [(.int .i64 ((W : Int))), (.int .i64 ((H : Int))), (.slice (some ⟨b, o, none⟩) n cap)]) rfl rfl) (by decide) ?_
  refine GL.step (Stp.callR (vs := [(.agg #[(.int .i64 ((W : Int))), (.int .i64 ((H : Int))), (.slice (some ⟨b, o, none⟩) n cap)])]) rfl rfl T.own36 (by decide) (fun wc hw => (check_ok W H (some ⟨b, o, none⟩) n cap wc hok hn))) (fun xq6 hq7 => ?_)
  refine GL.val (Ex.assign rfl) (by decide) ?_
  refine GL.nil ?_
  refine GE.thenN ?_
  refine GC.seq ?_
  refine GC.region ?_
  refine GL.val (Ex.move rfl) (by decide) ?_
  refine GL.val (v := (.bool false)) (Ex.cast (Ex.neq rfl rfl) rfl) (by decide) ?_
  refine GL.nil ?_
  refine GE.thenN ?_
  refine GC.cond rfl (fun hq8 => by cases hq8) (fun _ => ?_)
  refine GC.skip ?_
  refine GE.thenN ?_
  refine GC.seq ?_
  refine GC.seq ?_
  refine GC.region ?_
  refine GL.val (Ex.load rfl T.ag3 (i := 3) rfl rfl) (by decide) ?_
  refine GL.step (Stp.callR (vs := [(.int .i64 k), (.int .i64 1), (.int .i64 0)]) rfl rfl T.own14 (by decide) (fun wc hw => border k 1 0 wc)) (fun xq9 hq10 => ?_)
  refine GL.val (Ex.move rfl) (by decide) ?_
  refine GL.val (Ex.extract rfl rfl) (by decide) ?_
  refine GL.val (Ex.extract rfl rfl) (by decide) ?_
  refine GL.val (Ex.assign rfl) (by decide) ?_
  refine GL.val (Ex.assign rfl) (by decide) ?_
  refine GL.nil ?_
  refine GE.thenN ?_
  refine GC.seq ?_
  refine GC.region ?_
  refine GL.val (Ex.move rfl) (by decide) ?_
  refine GL.val (v := (.bool (decide (((bord k 1 0).2) ≠ 0)))) (Ex.neq rfl rfl) (by decide) ?_
  refine GL.nil ?_
  refine GE.thenN ?_
  refine GC.cond rfl (fun hq11 => by exfalso; have hq11 := of_decide_eq_true hq11; have := (bord_ok (i := 0) hkk.1 hkk.2 (by omega : (1 : Int) ≤ 1) (by omega)).1; omega) (fun _ => ?_)
  refine GC.skip ?_
  refine GE.thenN ?_
  refine GC.seq ?_
  refine GC.region ?_
  refine GL.val (Ex.load rfl T.ag3 (i := 2) rfl rfl) (by decide) ?_
  refine GL.val (Ex.load rfl T.ag3 (i := 1) rfl rfl) (by decide) ?_
  refine GL.val (Ex.move rfl) (by decide) ?_
  refine GL.val (Ex.move rfl) (by decide) ?_
  refine GL.step (Stp.buildSlice (cs := [(.int .i64 ((Lf : Int))), (.int .i64 ((Tp : Int))), (.int .i64 ((Rg : Int))), (.int .i64 ((Bt : Int)))]) (vs := [(0, (.int .i64 ((Lf : Int)))), (1, (.int .i64 ((Tp : Int)))), (2, (.int .i64 ((Rg : Int)))), (3, (.int .i64 ((Bt : Int))))]) Try.underlying38 T.zr3 T.sz3 rfl (by decide) (by decide) (by first | rfl | kernel_rfl) (by decide)) (fun bq12 _ => ?_)
  refine GL.val (Ex.assign rfl) (by decide) ?_
  refine GL.nil ?_
  refine GE.thenN ?_
  refine GC.seq ?_
  refine GC.seq ?_
  refine GC.region ?_
  refine GL.val (Ex.move rfl) (by decide) ?_
  refine GL.step (Stp.callR (vs := [(.slice (some ⟨bq12, 0, none⟩) 4 4)]) rfl rfl T.own50 (by decide) (fun wc hw => min4 bq12 ((Lf : Int)) ((Tp : Int)) ((Rg : Int)) ((Bt : Int)) wc (hw.get (i := 0) rfl))) (fun xq13 hq14 => ?_)
  refine GL.val (v := (.bool (decide ((min (min (min ((Lf : Int)) ((Tp : Int))) ((Rg : Int))) ((Bt : Int))) < 0)))) (Ex.lss rfl rfl) (by decide) ?_
  refine GL.nil ?_
  refine GE.thenN ?_
  refine GC.cond rfl (fun hq15 => by exfalso; have hq15 := of_decide_eq_true hq15; omega) (fun _ => ?_)
  refine GC.skip ?_
  refine GE.thenN ?_
  refine GC.seq ?_
  refine GC.seq ?_
  refine GC.region ?_
  refine GL.val (Ex.move rfl) (by decide) ?_
  refine GL.step (Stp.callR (vs := [(.slice (some ⟨bq12, 0, none⟩) 4 4)]) rfl rfl T.own51 (by decide) (fun wc hw => max4 bq12 ((Lf : Int)) ((Tp : Int)) ((Rg : Int)) ((Bt : Int)) wc (hw.get (i := 0) rfl))) (fun xq16 hq17 => ?_)
  refine GL.val (v := (.bool false)) (Ex.cast (Ex.gtr rfl rfl) (congrArg Value.bool (decide_eq_false (by omega)))) (by decide) ?_
  refine GL.val (Ex.move rfl) (by decide) ?_
  refine GL.stepG (tj := 46) rfl rfl (Ex.wp (v := (.int .i64 ((Lf : Int)))) (Ex.load rfl T.ag3 (i := 3) rfl rfl) (by decide)) (fun _ _ => ?_)
  refine GL.stepG (tj := 46) rfl rfl (Ex.wp (v := (.pointer (some ⟨bq1, 0, none⟩))) (Ex.cast (Ex.fieldAddr rfl Try.underlying32 rfl T.sz3 (by decide)) rfl) (by decide)) (fun _ _ => ?_)
  refine GL.stepG (tj := 46) rfl rfl (Ex.wp (v := (.int .i64 ((W : Int)))) (Ex.load rfl T.ag3 (i := 5) rfl rfl) (by decide)) (fun _ _ => ?_)
  refine GL.stepG (tj := 46) rfl rfl (Ex.wp (v := (.int .i64 (((Lf + W : Nat) : Int)))) (Ex.add rfl rfl (Z := ((Lf + W : Nat) : Int)) (by rw [w64 (by omega)]; omega)) (by decide)) (fun _ _ => ?_)
  refine GL.stepG (tj := 46) rfl rfl (Ex.wp (v := (.int .i64 ((Rg : Int)))) (Ex.move rfl) (by decide)) (fun _ _ => ?_)
  refine GL.stepG (tj := 46) rfl rfl (Ex.wp (v := (.int .i64 (((Lf + W + Rg : Nat) : Int)))) (Ex.add rfl rfl (Z := ((Lf + W + Rg : Nat) : Int)) (by rw [w64 (by omega)]; omega)) (by decide)) (fun _ _ => ?_)
  refine GL.stepG (tj := 46) rfl rfl (Ex.wp (v := (.int .i64 ((Tp : Int)))) (Ex.load rfl T.ag3 (i := 2) rfl rfl) (by decide)) (fun _ _ => ?_)
  refine GL.stepG (tj := 46) rfl rfl (Ex.wp (v := (.pointer (some ⟨bq1, 1, none⟩))) (Ex.cast (Ex.fieldAddr rfl Try.underlying32 rfl T.sz3 (by decide)) rfl) (by decide)) (fun _ _ => ?_)
  refine GL.stepG (tj := 46) rfl rfl (Ex.wp (v := (.int .i64 ((H : Int)))) (Ex.load rfl T.ag3 (i := 5) rfl rfl) (by decide)) (fun _ _ => ?_)
  refine GL.stepG (tj := 46) rfl rfl (Ex.wp (v := (.int .i64 (((Tp + H : Nat) : Int)))) (Ex.add rfl rfl (Z := ((Tp + H : Nat) : Int)) (by rw [w64 (by omega)]; omega)) (by decide)) (fun _ _ => ?_)
  refine GL.stepG (tj := 46) rfl rfl (Ex.wp (v := (.int .i64 ((Bt : Int)))) (Ex.move rfl) (by decide)) (fun _ _ => ?_)
  refine GL.stepG (tj := 46) rfl rfl (Ex.wp (v := (.int .i64 (((Tp + H + Bt : Nat) : Int)))) (Ex.add rfl rfl (Z := ((Tp + H + Bt : Nat) : Int)) (by rw [w64 (by omega)]; omega)) (by decide)) (fun _ _ => ?_)
  refine GL.stepG (tj := 46) rfl rfl (Stp.callR (vs := [(.int .i64 (((Lf + W + Rg : Nat) : Int))), (.int .i64 (((Tp + H + Bt : Nat) : Int)))]) rfl rfl T.own52 (by decide) (fun wc hw => size (((Lf + W + Rg : Nat) : Int)) (((Tp + H + Bt : Nat) : Int)) wc)) (fun xq18 hq19 => ?_)
  refine GL.stepG (tj := 46) rfl rfl (Ex.wp (v := (.bool (!(sizeB (((Lf + W + Rg : Nat) : Int)) (((Tp + H + Bt : Nat) : Int)))))) (Ex.not rfl) (by decide)) (fun _ _ => ?_)
  refine GL.val (v := (.bool (!(sizeB (((Lf + W + Rg : Nat) : Int)) (((Tp + H + Bt : Nat) : Int)))))) (Ex.pickF rfl rfl) (by decide) ?_
  refine GL.nil ?_
  refine GE.thenN ?_
  refine GC.cond rfl (fun hq20 => by exfalso; rw [hsz] at hq20; cases hq20) (fun _ => ?_)
  refine GC.skip ?_
  refine GE.thenN ?_
  refine GC.seq ?_
  refine GC.region ?_
  refine GL.val (v := (.agg #[(.int .i64 ((W : Int))), (.int .i64 ((H : Int))), (.slice (some ⟨b, o, none⟩) n cap)])) (Ex.loadA rfl T.ag32 T.sz32 (i := 5) rfl (vs := [(.int .i64 ((W : Int))), (.int .i64 ((H : Int))), (.slice (some ⟨b, o, none⟩) n cap)]) rfl rfl) (by decide) ?_
  refine GL.step (Stp.callR (vs := [(.agg #[(.int .i64 ((W : Int))), (.int .i64 ((H : Int))), (.slice (some ⟨b, o, none⟩) n cap)])]) rfl rfl T.own53 (by decide) (fun wc hw => of W H n cap b o wc)) (fun xq21 hq22 => ?_)
  refine GL.step (Stp.alloc T.zr88 (by decide)) (fun bq23 _ => ?_)
  refine GL.step (Stp.st0 (cs' := [(.func (.func 75) #[] #[(.pointer (some ⟨xq21, 0, none⟩))])]) rfl rfl rfl T.sz88 rfl rfl rfl) (fun _ _ => ?_)
  refine GL.nil ?_
  refine GE.thenN ?_
  refine GC.seq ?_
  refine GC.region ?_
  refine GL.val (Ex.load rfl T.ag3 (i := 5) rfl rfl) (by decide) ?_
  refine GL.val (v := (.pointer (some ⟨bq1, 0, none⟩))) (Ex.cast (Ex.fieldAddr rfl Try.underlying32 rfl T.sz3 (by decide)) rfl) (by decide) ?_
  refine GL.val (Ex.load rfl T.ag3 (i := 7) rfl rfl) (by decide) ?_
  refine GL.val (v := (.int .i64 (((Lf + W : Nat) : Int)))) (Ex.add rfl rfl (Z := ((Lf + W : Nat) : Int)) (by rw [w64 (by omega)]; omega)) (by decide) ?_
  refine GL.val (Ex.move rfl) (by decide) ?_
  refine GL.val (v := (.int .i64 (((Lf + W + Rg : Nat) : Int)))) (Ex.add rfl rfl (Z := ((Lf + W + Rg : Nat) : Int)) (by rw [w64 (by omega)]; omega)) (by decide) ?_
  refine GL.val (Ex.load rfl T.ag3 (i := 4) rfl rfl) (by decide) ?_
  refine GL.val (v := (.pointer (some ⟨bq1, 1, none⟩))) (Ex.cast (Ex.fieldAddr rfl Try.underlying32 rfl T.sz3 (by decide)) rfl) (by decide) ?_
  refine GL.val (Ex.load rfl T.ag3 (i := 7) rfl rfl) (by decide) ?_
  refine GL.val (v := (.int .i64 (((Tp + H : Nat) : Int)))) (Ex.add rfl rfl (Z := ((Tp + H : Nat) : Int)) (by rw [w64 (by omega)]; omega)) (by decide) ?_
  refine GL.val (Ex.move rfl) (by decide) ?_
  refine GL.val (v := (.int .i64 (((Tp + H + Bt : Nat) : Int)))) (Ex.add rfl rfl (Z := ((Tp + H + Bt : Nat) : Int)) (by rw [w64 (by omega)]; omega)) (by decide) ?_
  refine GL.val (v := (.func (.func 54) #[] #[(.pointer (some ⟨bq2, 0, none⟩)), (.pointer (some ⟨bq1, 0, none⟩)), (.pointer (some ⟨bq3, 0, none⟩)), (.pointer (some ⟨bq4, 0, none⟩)), (.pointer (some ⟨bq23, 0, none⟩))])) (Ex.func (cs := [(.pointer (some ⟨bq2, 0, none⟩)), (.pointer (some ⟨bq1, 0, none⟩)), (.pointer (some ⟨bq3, 0, none⟩)), (.pointer (some ⟨bq4, 0, none⟩)), (.pointer (some ⟨bq23, 0, none⟩))]) rfl (fun _ hF => hF.evals _ _ rfl)) (by decide) ?_
  refine GL.val (v := (.agg #[(.int .i64 (((Lf + W + Rg : Nat) : Int))), (.int .i64 (((Tp + H + Bt : Nat) : Int))), (.func (.func 54) #[] #[(.pointer (some ⟨bq2, 0, none⟩)), (.pointer (some ⟨bq1, 0, none⟩)), (.pointer (some ⟨bq3, 0, none⟩)), (.pointer (some ⟨bq4, 0, none⟩)), (.pointer (some ⟨bq23, 0, none⟩))])])) (Ex.build (vs := [(0, (.int .i64 (((Lf + W + Rg : Nat) : Int)))), (1, (.int .i64 (((Tp + H + Bt : Nat) : Int)))), (2, (.func (.func 54) #[] #[(.pointer (some ⟨bq2, 0, none⟩)), (.pointer (some ⟨bq1, 0, none⟩)), (.pointer (some ⟨bq3, 0, none⟩)), (.pointer (some ⟨bq4, 0, none⟩)), (.pointer (some ⟨bq23, 0, none⟩))]))]) rfl (by first | rfl | kernel_rfl)) (by decide) ?_
  refine GL.step (Stp.callR (vs := [(.agg #[(.int .i64 (((Lf + W + Rg : Nat) : Int))), (.int .i64 (((Tp + H + Bt : Nat) : Int))), (.func (.func 54) #[] #[(.pointer (some ⟨bq2, 0, none⟩)), (.pointer (some ⟨bq1, 0, none⟩)), (.pointer (some ⟨bq3, 0, none⟩)), (.pointer (some ⟨bq4, 0, none⟩)), (.pointer (some ⟨bq23, 0, none⟩))])])]) rfl rfl T.own55 (by decide) (fun wc hw => made (Lf + W + Rg) (Tp + H + Bt) (54) (#[(.pointer (some ⟨bq2, 0, none⟩)), (.pointer (some ⟨bq1, 0, none⟩)), (.pointer (some ⟨bq3, 0, none⟩)), (.pointer (some ⟨bq4, 0, none⟩)), (.pointer (some ⟨bq23, 0, none⟩))]) (fun x y => smp xs W (bord k W ((x : Int) - Lf)).1.toNat (bord k H ((y : Int) - Tp)).1.toNat) wc ⟨T.own54, fun x y hx' hy' w3 hk3 => extC x y W H n cap b o Lf Tp bq2 bq1 bq3 bq4 bq23 k 75 #[.pointer (some ⟨xq21, 0, none⟩)] (smp xs W) w3 ((Has.cons (o := true) (hw.get (i := 6) rfl) (Has.nil _)).later hk3 _ List.mem_cons_self) ((Has.cons (o := true) (hw.get (i := 7) rfl) (Has.nil _)).later hk3 _ List.mem_cons_self) ((Has.cons (o := true) (hw.get (i := 5) rfl) (Has.nil _)).later hk3 _ List.mem_cons_self) ((Has.cons (o := true) (hw.get (i := 4) rfl) (Has.nil _)).later hk3 _ List.mem_cons_self) ((Has.cons (o := true) (hw.get (i := 0) rfl) (Has.nil _)).later hk3 _ List.mem_cons_self) ((of_fb W H n cap b o xq21 true xs w hok hn hx hr).fn2 (hw.1.two hk3) ((Has.cons (hw.get (i := 1) rfl) (Has.nil _)).later hk3)) hkk ⟨q1, q3⟩ ⟨q2, q4⟩ (by omega) (by omega) hl.1 hl.2.1⟩ hok2.2.2.1 hok2.2.2.2.1 hok2.2.2.2.2)) (fun xq24 hq25 => ?_)
  refine GL.step (Stp.st4 (cs' := [(.int .i64 (((Lf + W + Rg : Nat) : Int))), (.int .i64 (((Tp + H + Bt : Nat) : Int))), (.slice (some ⟨xq24, 0, none⟩) ((Lf + W + Rg) * (Tp + H + Bt)) ((Lf + W + Rg) * (Tp + H + Bt)))]) rfl rfl rfl T.sz32 rfl rfl rfl) (fun _ _ => ?_)
  refine GL.val (Ex.assign rfl) (by decide) ?_
  refine GL.nil ?_
  refine GE.thenN ?_
  refine GC.ret ?_
  refine GC.ret2 rfl (Rv.cellA rfl T.ag32 T.sz32 (L := _) (i := 4) rfl (vs := [(.int .i64 (((Lf + W + Rg : Nat) : Int))), (.int .i64 (((Tp + H + Bt : Nat) : Int))), (.slice (some ⟨xq24, 0, none⟩) ((Lf + W + Rg) * (Tp + H + Bt)) ((Lf + W + Rg) * (Tp + H + Bt)))]) rfl rfl) (Rv.tmp rfl) (fun wN HN => ?_)
  exact HN.ret (xq24) trivial rfl (ulC (ulS (ulS (ulS (ulS (ulS (ulS (ulS (ulS ulN))))))))) rfl

set_option maxRecDepth 100000 in
set_option maxHeartbeats 1000000 in
theorem ref_eq (W1 H1 W2 H2 : Int) (b1 o1 n1 cap1 b2 o2 n2 cap2 : Nat) (xs ys : List Int) (w : World) (hx1 : xs.length = n1) (hx2 : ys.length = n2) (hr1 : Rd w b1 o1 (xs.map u32)) (hr2 : Rd w b2 o2 (ys.map u32)) (hb1 : n1 ≤ 35184372088832) :
    Calls Try.prog 26 #[(.agg #[(.int .i64 W1), (.int .i64 H1), (.slice (some ⟨b1, o1, none⟩) n1 cap1)]), (.agg #[(.int .i64 W2), (.int .i64 H2), (.slice (some ⟨b2, o2, none⟩) n2 cap2)])] w (Ret w (fun _ : Unit => True) (fun _ => .bool (eqB W1 H1 xs W2 H2 ys)) (fun _ => [])) := by
  refine enter (M := None) (L := []) (n := 45) (l := [(0, (.agg #[(.int .i64 W1), (.int .i64 H1), (.slice (some ⟨b1, o1, none⟩) n1 cap1)])), (1, (.agg #[(.int .i64 W2), (.int .i64 H2), (.slice (some ⟨b2, o2, none⟩) n2 cap2)]))]) Try.func26 rfl rfl (Args.cons rfl (Args.cons rfl (Args.nil _))) (Hp.start _ _) ?_
  refine GC.seq ?_
  refine GC.region ?_
  refine GL.step (Stp.box (cs := [(.int .i64 W1), (.int .i64 H1), (.slice (some ⟨b1, o1, none⟩) n1 cap1)]) rfl rfl (by decide)) (fun bq1 _ => ?_)
  refine GL.step (Stp.box (cs := [(.int .i64 W2), (.int .i64 H2), (.slice (some ⟨b2, o2, none⟩) n2 cap2)]) rfl rfl (by decide)) (fun bq2 _ => ?_)
  refine GL.val (Ex.assign rfl) (by decide) ?_
  refine GL.nil ?_
  refine GE.thenN ?_
  refine GC.seq ?_
  refine GC.seq ?_
  refine GC.region ?_
  refine GL.val (v := (.pointer (some ⟨bq1, 0, none⟩))) (Ex.cast (Ex.fieldAddr rfl Try.underlying32 rfl T.sz3 (by decide)) rfl) (by decide) ?_
  refine GL.val (Ex.load rfl T.ag3 (i := 1) rfl rfl) (by decide) ?_
  refine GL.val (v := (.pointer (some ⟨bq2, 0, none⟩))) (Ex.cast (Ex.fieldAddr rfl Try.underlying32 rfl T.sz3 (by decide)) rfl) (by decide) ?_
  refine GL.val (Ex.load rfl T.ag3 (i := 0) rfl rfl) (by decide) ?_
  by_cases hq3 : W1 ≠ W2
  · refine GL.val (v := (.bool true)) (Ex.cast (Ex.neq rfl rfl) (congrArg Value.bool (decide_eq_true hq3))) (by decide) ?_
    refine GL.val (Ex.move rfl) (by decide) ?_
    refine GL.skipG (tj := 11) rfl rfl rfl (by decide) ?_
    refine GL.skipG (tj := 11) rfl rfl rfl (by decide) ?_
    refine GL.skipG (tj := 11) rfl rfl rfl (by decide) ?_
    refine GL.skipG (tj := 11) rfl rfl rfl (by decide) ?_
    refine GL.skipG (tj := 11) rfl rfl rfl (by decide) ?_
    refine GL.val (v := (.bool true)) (Ex.pickT rfl rfl) (by decide) ?_
    refine GL.val (Ex.move rfl) (by decide) ?_
    refine GL.skipG (tj := 18) rfl rfl rfl (by decide) ?_
    refine GL.skipG (tj := 18) rfl rfl rfl (by decide) ?_
    refine GL.skipG (tj := 18) rfl rfl rfl (by decide) ?_
    refine GL.skipG (tj := 18) rfl rfl rfl (by decide) ?_
    refine GL.skipG (tj := 18) rfl rfl rfl (by decide) ?_
    refine GL.skipG (tj := 18) rfl rfl rfl (by decide) ?_
    refine GL.skipG (tj := 18) rfl rfl rfl (by decide) ?_
    refine GL.val (v := (.bool true)) (Ex.pickT rfl rfl) (by decide) ?_
    refine GL.nil ?_
    refine GE.thenN ?_
    refine GC.cond rfl (fun _ => ?_) (fun hq4 => by cases hq4)
    refine GC.seq ?_
    refine GC.region ?_
    refine GL.val (Ex.assign rfl) (by decide) ?_
    refine GL.nil ?_
    refine GE.thenN ?_
    refine GC.ret ?_
    refine GE.thenR ?_
    refine GC.ret1 rfl (Rv.tmp rfl) (fun wN HN => ?_)
    exact HN.ret () trivial (by rw [eqB, decide_eq_false (fun h => by have := congrArg List.length h.2.2; omega)]) (List.nil_sublist _) rfl
  · refine GL.val (v := (.bool false)) (Ex.cast (Ex.neq rfl rfl) (congrArg Value.bool (decide_eq_false hq3))) (by decide) ?_
    refine GL.val (Ex.move rfl) (by decide) ?_
    refine GL.stepG (tj := 11) rfl rfl (Ex.wp (v := (.pointer (some ⟨bq1, 1, none⟩))) (Ex.cast (Ex.fieldAddr rfl Try.underlying32 rfl T.sz3 (by decide)) rfl) (by decide)) (fun _ _ => ?_)
    refine GL.stepG (tj := 11) rfl rfl (Ex.wp (v := (.int .i64 H1)) (Ex.load rfl T.ag3 (i := 1) rfl rfl) (by decide)) (fun _ _ => ?_)
    refine GL.stepG (tj := 11) rfl rfl (Ex.wp (v := (.pointer (some ⟨bq2, 1, none⟩))) (Ex.cast (Ex.fieldAddr rfl Try.underlying32 rfl T.sz3 (by decide)) rfl) (by decide)) (fun _ _ => ?_)
    refine GL.stepG (tj := 11) rfl rfl (Ex.wp (v := (.int .i64 H2)) (Ex.load rfl T.ag3 (i := 0) rfl rfl) (by decide)) (fun _ _ => ?_)
    by_cases hq5 : H1 ≠ H2
    · refine GL.stepG (tj := 11) rfl rfl (Ex.wp (v := (.bool true)) (Ex.cast (Ex.neq rfl rfl) (congrArg Value.bool (decide_eq_true hq5))) (by decide)) (fun _ _ => ?_)
      refine GL.val (v := (.bool true)) (Ex.pickF rfl rfl) (by decide) ?_
      refine GL.val (Ex.move rfl) (by decide) ?_
      refine GL.skipG (tj := 18) rfl rfl rfl (by decide) ?_
      refine GL.skipG (tj := 18) rfl rfl rfl (by decide) ?_
      refine GL.skipG (tj := 18) rfl rfl rfl (by decide) ?_
      refine GL.skipG (tj := 18) rfl rfl rfl (by decide) ?_
      refine GL.skipG (tj := 18) rfl rfl rfl (by decide) ?_
      refine GL.skipG (tj := 18) rfl rfl rfl (by decide) ?_
      refine GL.skipG (tj := 18) rfl rfl rfl (by decide) ?_
      refine GL.val (v := (.bool true)) (Ex.pickT rfl rfl) (by decide) ?_
      refine GL.nil ?_
      refine GE.thenN ?_
      refine GC.cond rfl (fun _ => ?_) (fun hq6 => by cases hq6)
      refine GC.seq ?_
      refine GC.region ?_
      refine GL.val (Ex.assign rfl) (by decide) ?_
      refine GL.nil ?_
      refine GE.thenN ?_
      refine GC.ret ?_
      refine GE.thenR ?_
      refine GC.ret1 rfl (Rv.tmp rfl) (fun wN HN => ?_)
      exact HN.ret () trivial (by rw [eqB, decide_eq_false (fun h => by have := congrArg List.length h.2.2; omega)]) (List.nil_sublist _) rfl
    · refine GL.stepG (tj := 11) rfl rfl (Ex.wp (v := (.bool false)) (Ex.cast (Ex.neq rfl rfl) (congrArg Value.bool (decide_eq_false hq5))) (by decide)) (fun _ _ => ?_)
      refine GL.val (v := (.bool false)) (Ex.pickF rfl rfl) (by decide) ?_
      refine GL.val (Ex.move rfl) (by decide) ?_
      refine GL.stepG (tj := 18) rfl rfl (Ex.wp (v := (.pointer (some ⟨bq1, 2, none⟩))) (Ex.cast (Ex.fieldAddr rfl Try.underlying32 rfl T.sz30 (by decide)) rfl) (by decide)) (fun _ _ => ?_)
      refine GL.stepG (tj := 18) rfl rfl (Ex.wp (v := (.slice (some ⟨b1, o1, none⟩) n1 cap1)) (Ex.load rfl T.ag30 (i := 1) rfl rfl) (by decide)) (fun _ _ => ?_)
      refine GL.stepG (tj := 18) rfl rfl (Ex.wp (v := (.int .i64 ((n1 : Int)))) (Ex.len rfl Try.underlying30) (by decide)) (fun _ _ => ?_)
      refine GL.stepG (tj := 18) rfl rfl (Ex.wp (v := (.pointer (some ⟨bq2, 2, none⟩))) (Ex.cast (Ex.fieldAddr rfl Try.underlying32 rfl T.sz30 (by decide)) rfl) (by decide)) (fun _ _ => ?_)
      refine GL.stepG (tj := 18) rfl rfl (Ex.wp (v := (.slice (some ⟨b2, o2, none⟩) n2 cap2)) (Ex.load rfl T.ag30 (i := 0) rfl rfl) (by decide)) (fun _ _ => ?_)
      refine GL.stepG (tj := 18) rfl rfl (Ex.wp (v := (.int .i64 ((n2 : Int)))) (Ex.len rfl Try.underlying30) (by decide)) (fun _ _ => ?_)
      refine GL.stepG (tj := 18) rfl rfl (Ex.wp (v := (.bool (decide (((n1 : Int)) ≠ ((n2 : Int)))))) (Ex.neq rfl rfl) (by decide)) (fun _ _ => ?_)
      refine GL.val (v := (.bool (decide (((n1 : Int)) ≠ ((n2 : Int)))))) (Ex.pickF rfl rfl) (by decide) ?_
      refine GL.nil ?_
      refine GE.thenN ?_
      refine GC.cond rfl (fun hq7 => ?_) (fun hq7 => ?_)
      · replace hq7 := of_decide_eq_true hq7
        refine GC.seq ?_
        refine GC.region ?_
        refine GL.val (Ex.assign rfl) (by decide) ?_
        refine GL.nil ?_
        refine GE.thenN ?_
        refine GC.ret ?_
        refine GE.thenR ?_
        refine GC.ret1 rfl (Rv.tmp rfl) (fun wN HN => ?_)
        exact HN.ret () trivial (by rw [eqB, decide_eq_false (fun h => by have := congrArg List.length h.2.2; omega)]) (List.nil_sublist _) rfl
      · replace hq7 := of_decide_eq_false hq7
        refine GC.skip ?_
        refine GE.thenN ?_
        refine GC.seq ?_
        refine GC.seq ?_
        refine GC.region ?_
        refine GL.val (Ex.assign rfl) (by decide) ?_
        refine GL.nil ?_
        refine GE.thenN ?_
        refine GC.block ?_
        refine GC.loop (σ := Nat) (fun k => k ≤ n1 ∧ ∀ j, j < k → xs.getD j 0 = ys.getD j 0) (fun k => [(2, (.pointer (some ⟨bq1, 0, none⟩))), (3, (.pointer (some ⟨bq2, 0, none⟩))), (5, (.int .i64 (((k : Nat) : Int))))]) (fun k => [⟨bq2, [(.int .i64 W2), (.int .i64 H2), (.slice (some ⟨b2, o2, none⟩) n2 cap2)], 32, true⟩, ⟨bq1, [(.int .i64 W1), (.int .i64 H1), (.slice (some ⟨b1, o1, none⟩) n1 cap1)], 32, true⟩]) (fun k => n1 - k) (0) ⟨Nat.zero_le _, fun j hj => absurd hj (Nat.not_lt_zero _)⟩ ((sub_cons rfl ((sub_cons rfl ((sub_cons rfl ((sub_nil _)))))))) (ulC (ulC ulN)) (fun k hp => ?_)
        obtain ⟨hp1, hp2⟩ := hp
        refine GC.seq ?_
        refine GC.seq ?_
        refine GC.region ?_
        refine GL.val (Ex.move rfl) (by decide) ?_
        refine GL.val (v := (.pointer (some ⟨bq1, 2, none⟩))) (Ex.cast (Ex.fieldAddr rfl Try.underlying32 rfl T.sz30 (by decide)) rfl) (by decide) ?_
        refine GL.val (Ex.load rfl T.ag30 (i := 1) rfl rfl) (by decide) ?_
        refine GL.val (v := (.int .i64 ((n1 : Int)))) (Ex.len rfl Try.underlying30) (by decide) ?_
        refine GL.val (v := (.bool (decide ((((k : Nat) : Int)) < ((n1 : Int)))))) (Ex.lss rfl rfl) (by decide) ?_
        refine GL.nil ?_
        refine GE.thenN ?_
        refine GC.cond rfl (fun hq8 => ?_) (fun hq8 => ?_)
        · replace hq8 := of_decide_eq_true hq8
          refine GC.skip ?_
          refine GE.thenN ?_
          refine GC.seq ?_
          refine GC.block ?_
          refine GC.seq ?_
          refine GC.draw [⟨bq2, [(.int .i64 W2), (.int .i64 H2), (.slice (some ⟨b2, o2, none⟩) n2 cap2)], 32, true⟩, ⟨bq1, [(.int .i64 W1), (.int .i64 H1), (.slice (some ⟨b1, o1, none⟩) n1 cap1)], 32, true⟩] T.mixed (fuel := 11) rfl rfl ?_
          refine GH.take 0 (v := (.pointer (some ⟨bq1, 2, none⟩))) rfl (by kernel_rfl) (by kernel_rfl) (by kernel_rfl) (fun _ _ _ h => h) (Ex.cast (Ex.fieldAddr rfl Try.underlying32 rfl T.sz30 (by decide)) rfl) (ulC (ulC ulN)) (by decide) ?_
          refine GH.take 1 (v := (.slice (some ⟨b1, o1, none⟩) n1 cap1)) rfl (by kernel_rfl) (by kernel_rfl) (by kernel_rfl) (fun _ _ _ h => h) (Ex.load rfl T.ag30 (i := 1) rfl rfl) (ulC (ulC ulN)) (by decide) ?_
          refine GH.take 2 (v := (.int .i64 (((k : Nat) : Int)))) rfl (by kernel_rfl) (by kernel_rfl) (by kernel_rfl) (fun _ _ _ h => h) (Ex.move rfl) (ulC (ulC ulN)) (by decide) ?_
          refine GH.take 3 (v := (.pointer (some ⟨b1, o1 + k, none⟩))) rfl (by kernel_rfl) (by kernel_rfl) (by kernel_rfl) (fun _ _ _ h => h) (Ex.cast (Ex.indexAddr rfl rfl Try.underlying30 T.sz72 (by omega) (by omega)) (by simp)) (ulC (ulC ulN)) (by decide) ?_
          refine GH.take 4 (v := (.int .u32 (xs.getD k 0))) rfl (by kernel_rfl) (by kernel_rfl) (by kernel_rfl) (fun _ _ _ h => h) (Ex.loadO rfl T.ag72 (Rd.at hr1 (by omega)) (fun x => x)) (ulC (ulC ulN)) (by decide) ?_
          refine GH.take 5 (v := (.pointer (some ⟨bq2, 2, none⟩))) rfl (by kernel_rfl) (by kernel_rfl) (by kernel_rfl) (fun _ _ _ h => h) (Ex.cast (Ex.fieldAddr rfl Try.underlying32 rfl T.sz30 (by decide)) rfl) (ulC (ulC ulN)) (by decide) ?_
          refine GH.take 6 (v := (.slice (some ⟨b2, o2, none⟩) n2 cap2)) rfl (by kernel_rfl) (by kernel_rfl) (by kernel_rfl) (fun _ _ _ h => h) (Ex.load rfl T.ag30 (i := 0) rfl rfl) (ulC (ulC ulN)) (by decide) ?_
          refine GH.take 7 (v := (.int .i64 (((k : Nat) : Int)))) rfl (by kernel_rfl) (by kernel_rfl) (by kernel_rfl) (fun _ _ _ h => h) (Ex.move rfl) (ulC (ulC ulN)) (by decide) ?_
          refine GH.take 8 (v := (.pointer (some ⟨b2, o2 + k, none⟩))) rfl (by kernel_rfl) (by kernel_rfl) (by kernel_rfl) (fun _ _ _ h => h) (Ex.cast (Ex.indexAddr rfl rfl Try.underlying30 T.sz72 (by omega) (by omega)) (by simp)) (ulC (ulC ulN)) (by decide) ?_
          refine GH.take 9 (v := (.int .u32 (ys.getD k 0))) rfl (by kernel_rfl) (by kernel_rfl) (by kernel_rfl) (fun _ _ _ h => h) (Ex.loadO rfl T.ag72 (Rd.at hr2 (by omega)) (fun x => x)) (ulC (ulC ulN)) (by decide) ?_
          refine GH.take 10 (v := (.bool (decide ((xs.getD k 0) ≠ (ys.getD k 0))))) rfl (by kernel_rfl) (by kernel_rfl) (by kernel_rfl) (fun _ _ _ h => h) (Ex.neq rfl rfl) (ulC (ulC ulN)) (by decide) ?_
          refine GH.done (by kernel_rfl) ?_
          refine GE.thenN ?_
          refine GC.cond rfl (fun hq9 => ?_) (fun hq9 => ?_)
          · replace hq9 := of_decide_eq_true hq9
            have hne := hq9
            refine GC.seq ?_
            refine GC.region ?_
            refine GL.val (Ex.assign rfl) (by decide) ?_
            refine GL.nil ?_
            refine GE.thenN ?_
            refine GC.ret ?_
            refine GE.blockR ?_
            refine GE.thenR ?_
            refine GE.thenR ?_
            refine GE.blockR ?_
            refine GE.thenR ?_
            refine GC.ret1 rfl (Rv.tmp rfl) (fun wN HN => ?_)
            exact HN.ret () trivial (by rw [eqB, decide_eq_false (fun h => hne (by rw [h.2.2]))]) (List.nil_sublist _) rfl
          · replace hq9 := of_decide_eq_false hq9
            have heq := hq9
            refine GC.skip ?_
            refine GE.blockN ?_
            refine GE.thenN ?_
            refine GC.region ?_
            refine GL.val (Ex.move rfl) (by decide) ?_
            refine GL.val (v := (.int .i64 (((k + 1 : Nat) : Int)))) (Ex.add rfl rfl (Z := ((k + 1 : Nat) : Int)) (w64 (by omega))) (by decide) ?_
            refine GL.val (Ex.assign rfl) (by decide) ?_
            refine GL.nil ?_
            refine GE.thenN ?_
            exact Head.mk (k + 1) ⟨by omega, fun j hj => by rcases Nat.lt_succ_iff_lt_or_eq.1 hj with hj | rfl; exact hp2 j hj; omega⟩ (by omega) ((sub_cons rfl ((sub_cons rfl ((sub_cons rfl ((sub_nil _)))))))) (ulC (ulC ulN))
        · replace hq8 := of_decide_eq_false hq8
          refine GC.exit ?_
          refine GE.thenE ?_
          refine GE.thenE ?_
          refine GE.blockE ?_
          refine GE.thenN ?_
          refine GC.seq ?_
          refine GC.region ?_
          refine GL.val (Ex.assign rfl) (by decide) ?_
          refine GL.nil ?_
          refine GE.thenN ?_
          refine GC.ret ?_
          refine GC.ret1 rfl (Rv.tmp rfl) (fun wN HN => ?_)
          exact HN.ret () trivial (by rw [eqB, decide_eq_true ⟨by omega, by omega, getD_ext (by omega) (fun j hj => hp2 j (by omega))⟩]) (List.nil_sublist _) rfl

set_option maxRecDepth 100000 in
set_option maxHeartbeats 1000000 in
theorem is_ (W1 H1 W2 H2 : Int) (b1 o1 n1 cap1 b2 o2 n2 cap2 : Nat) (xs ys : List Int) (w : World) (hx1 : xs.length = n1) (hx2 : ys.length = n2) (hr1 : Rd w b1 o1 (xs.map u32)) (hr2 : Rd w b2 o2 (ys.map u32)) (hb1 : n1 ≤ 35184372088832) :
    Calls Try.prog 44 #[(.agg #[(.int .i64 W1), (.int .i64 H1), (.slice (some ⟨b1, o1, none⟩) n1 cap1)]), (.int .i64 W2), (.int .i64 H2), (.slice (some ⟨b2, o2, none⟩) n2 cap2)] w (Ret w (fun _ : Unit => True) (fun _ => .bool (eqB W1 H1 xs W2 H2 ys)) (fun _ => [])) := by
  refine enter (M := None) (L := []) (n := 15) (l := [(0, (.agg #[(.int .i64 W1), (.int .i64 H1), (.slice (some ⟨b1, o1, none⟩) n1 cap1)])), (1, (.int .i64 W2)), (2, (.int .i64 H2)), (3, (.slice (some ⟨b2, o2, none⟩) n2 cap2))]) Try.func44 rfl rfl (Args.cons rfl (Args.cons rfl (Args.cons rfl (Args.cons rfl (Args.nil _))))) (Hp.start _ _) ?_
  refine GC.seq ?_
  refine GC.region ?_
  refine GL.step (Stp.box (cs := [(.int .i64 W1), (.int .i64 H1), (.slice (some ⟨b1, o1, none⟩) n1 cap1)]) rfl rfl (by decide)) (fun bq1 _ => ?_)
  refine GL.val (Ex.assign rfl) (by decide) ?_
  refine GL.nil ?_
  refine GE.thenN ?_
  refine GC.seq ?_
  refine GC.region ?_
  refine GL.val (v := (.agg #[(.int .i64 W1), (.int .i64 H1), (.slice (some ⟨b1, o1, none⟩) n1 cap1)])) (Ex.loadA rfl T.ag32 T.sz32 (i := 0) rfl (vs := [(.int .i64 W1), (.int .i64 H1), (.slice (some ⟨b1, o1, none⟩) n1 cap1)]) rfl rfl) (by decide) ?_
  refine GL.val (Ex.move rfl) (by decide) ?_
  refine GL.val (Ex.move rfl) (by decide) ?_
  refine GL.val (Ex.move rfl) (by decide) ?_
  refine GL.val (v := (.agg #[(.int .i64 W2), (.int .i64 H2), (.slice (some ⟨b2, o2, none⟩) n2 cap2)])) (Ex.build (vs := [(0, (.int .i64 W2)), (1, (.int .i64 H2)), (2, (.slice (some ⟨b2, o2, none⟩) n2 cap2))]) rfl (by first | rfl | kernel_rfl)) (by decide) ?_
  refine GL.step (Stp.callR (vs := [(.agg #[(.int .i64 W1), (.int .i64 H1), (.slice (some ⟨b1, o1, none⟩) n1 cap1)]), (.agg #[(.int .i64 W2), (.int .i64 H2), (.slice (some ⟨b2, o2, none⟩) n2 cap2)])]) rfl rfl T.own26 (by decide) (fun wc hw => ref_eq W1 H1 W2 H2 b1 o1 n1 cap1 b2 o2 n2 cap2 xs ys wc hx1 hx2 (hw.rd hr1 (fun x => x)) (hw.rd hr2 (fun x => x)) hb1)) (fun xq2 hq3 => ?_)
  refine GL.val (Ex.assign rfl) (by decide) ?_
  refine GL.nil ?_
  refine GE.thenN ?_
  refine GC.ret ?_
  refine GC.ret1 rfl (Rv.tmp rfl) (fun wN HN => ?_)
  exact HN.ret () trivial rfl (List.nil_sublist _) rfl

set_option maxRecDepth 100000 in
set_option maxHeartbeats 1000000 in
theorem num (e : Int) (w : World) :
    Calls Try.prog 16 #[(.int .i64 e)] w (Ret w (fun _ : Unit => True) (fun _ => .int .i64 e) (fun _ => [])) := by
  refine enter (M := None) (L := []) (n := 4) (l := [(0, (.int .i64 e))]) Try.func16 rfl rfl (Args.cons rfl (Args.nil _)) (Hp.start _ _) ?_
  refine GC.seq ?_
  refine GC.region ?_
  refine GL.val (Ex.assign rfl) (by decide) ?_
  refine GL.nil ?_
  refine GE.thenN ?_
  refine GC.seq ?_
  refine GC.region ?_
  refine GL.val (Ex.move rfl) (by decide) ?_
  refine GL.val (Ex.assign rfl) (by decide) ?_
  refine GL.nil ?_
  refine GE.thenN ?_
  refine GC.ret ?_
  refine GC.ret1 rfl (Rv.tmp rfl) (fun wN HN => ?_)
  exact HN.ret () trivial rfl (List.nil_sublist _) rfl

set_option maxRecDepth 100000 in
set_option maxHeartbeats 1000000 in
theorem known (w : World) :
    Calls Try.prog 13 #[] w (Ret w (fun _ : Unit => True) (fun _ => .bool true) (fun _ => [])) := by
  refine enter (M := None) (L := []) (n := 105) (l := []) Try.func13 rfl rfl (Args.nil _) (Hp.start _ _) ?_
  refine GC.seq ?_
  refine GC.region ?_
  refine GL.val (Ex.assign rfl) (by decide) ?_
  refine GL.nil ?_
  refine GE.thenN ?_
  refine GC.seq ?_
  refine GC.region ?_
  refine GL.step (Stp.buildSlice (cs := [(.int .u32 1), (.int .u32 2), (.int .u32 3), (.int .u32 4), (.int .u32 5), (.int .u32 6)]) (vs := [(0, (.int .u32 1)), (1, (.int .u32 2)), (2, (.int .u32 3)), (3, (.int .u32 4)), (4, (.int .u32 5)), (5, (.int .u32 6))]) Try.underlying30 T.zr72 T.sz72 rfl (by decide) (by decide) (by first | rfl | kernel_rfl) (by decide)) (fun bq1 _ => ?_)
  refine GL.val (v := (.agg #[(.int .i64 2), (.int .i64 3), (.slice (some ⟨bq1, 0, none⟩) 6 6)])) (Ex.build (vs := [(0, (.int .i64 2)), (1, (.int .i64 3)), (2, (.slice (some ⟨bq1, 0, none⟩) 6 6))]) rfl (by first | rfl | kernel_rfl)) (by decide) ?_
  refine GL.step (Stp.alloc T.zr32 (by decide)) (fun bq2 _ => ?_)
  refine GL.step (Stp.st0 (cs' := [(.int .i64 2), (.int .i64 3), (.slice (some ⟨bq1, 0, none⟩) 6 6)]) rfl rfl rfl T.sz32 rfl rfl rfl) (fun _ _ => ?_)
  refine GL.nil ?_
  refine GE.thenN ?_
  refine GC.seq ?_
  refine GC.region ?_
  refine GL.val (v := (.agg #[(.int .i64 2), (.int .i64 3), (.slice (some ⟨bq1, 0, none⟩) 6 6)])) (Ex.loadA rfl T.ag32 T.sz32 (i := 0) rfl (vs := [(.int .i64 2), (.int .i64 3), (.slice (some ⟨bq1, 0, none⟩) 6 6)]) rfl rfl) (by decide) ?_
  refine GL.step (Stp.callR (vs := [(.agg #[(.int .i64 2), (.int .i64 3), (.slice (some ⟨bq1, 0, none⟩) 6 6)]), (.int .i64 1)]) rfl rfl T.own33 (by decide) (fun wc hw => turn_1 2 3 6 6 bq1 0 [1, 2, 3, 4, 5, 6] 1 wc (by decide) rfl rfl (hw.rdOf (i := 1) rfl 0) (by decide) (by decide))) (fun xq3 hq4 => ?_)
  refine GL.val (Ex.move rfl) (by decide) ?_
  refine GL.val (Ex.extract rfl rfl) (by decide) ?_
  refine GL.val (Ex.extract rfl rfl) (by decide) ?_
  refine GL.step (Stp.alloc T.zr32 (by decide)) (fun bq5 _ => ?_)
  refine GL.step (Stp.st0 (cs' := [(.int .i64 (((3 : Nat) : Int))), (.int .i64 (((2 : Nat) : Int))), (.slice (some ⟨xq3, 0, none⟩) (3 * 2) (3 * 2))]) rfl rfl rfl T.sz32 rfl rfl rfl) (fun _ _ => ?_)
  refine GL.val (Ex.assign rfl) (by decide) ?_
  refine GL.nil ?_
  refine GE.thenN ?_
  refine GC.seq ?_
  refine GC.region ?_
  refine GL.val (v := (.agg #[(.int .i64 2), (.int .i64 3), (.slice (some ⟨bq1, 0, none⟩) 6 6)])) (Ex.loadA rfl T.ag32 T.sz32 (i := 2) rfl (vs := [(.int .i64 2), (.int .i64 3), (.slice (some ⟨bq1, 0, none⟩) 6 6)]) rfl rfl) (by decide) ?_
  refine GL.step (Stp.callR (vs := [(.agg #[(.int .i64 2), (.int .i64 3), (.slice (some ⟨bq1, 0, none⟩) 6 6)])]) rfl rfl T.own31 (by decide) (fun wc hw => transp 2 3 6 6 bq1 0 [1, 2, 3, 4, 5, 6] wc (by decide) rfl rfl (hw.rdOf (i := 3) rfl 0))) (fun xq6 hq7 => ?_)
  refine GL.val (Ex.move rfl) (by decide) ?_
  refine GL.val (Ex.extract rfl rfl) (by decide) ?_
  refine GL.val (Ex.extract rfl rfl) (by decide) ?_
  refine GL.step (Stp.alloc T.zr32 (by decide)) (fun bq8 _ => ?_)
  refine GL.step (Stp.st0 (cs' := [(.int .i64 (((3 : Nat) : Int))), (.int .i64 (((2 : Nat) : Int))), (.slice (some ⟨xq6, 0, none⟩) (3 * 2) (3 * 2))]) rfl rfl rfl T.sz32 rfl rfl rfl) (fun _ _ => ?_)
  refine GL.val (Ex.assign rfl) (by decide) ?_
  refine GL.nil ?_
  refine GE.thenN ?_
  refine GC.seq ?_
  refine GC.region ?_
  refine GL.val (v := (.agg #[(.int .i64 2), (.int .i64 3), (.slice (some ⟨bq1, 0, none⟩) 6 6)])) (Ex.loadA rfl T.ag32 T.sz32 (i := 4) rfl (vs := [(.int .i64 2), (.int .i64 3), (.slice (some ⟨bq1, 0, none⟩) 6 6)]) rfl rfl) (by decide) ?_
  refine GL.val (v := (.agg #[(.int .i64 1), (.int .i64 0), (.int .i64 2), (.int .i64 2)])) (Ex.build (vs := [(0, (.int .i64 1)), (2, (.int .i64 2)), (3, (.int .i64 2))]) rfl (by first | rfl | kernel_rfl)) (by decide) ?_
  refine GL.step (Stp.callR (vs := [(.agg #[(.int .i64 2), (.int .i64 3), (.slice (some ⟨bq1, 0, none⟩) 6 6)]), (.agg #[(.int .i64 1), (.int .i64 0), (.int .i64 2), (.int .i64 2)])]) rfl rfl T.own24 (by decide) (fun wc hw => crop_in 2 3 6 6 bq1 0 1 0 2 2 [1, 2, 3, 4, 5, 6] wc (by decide) rfl rfl (hw.rdOf (i := 5) rfl 0) (by decide) (by decide) (by decide) (by decide))) (fun xq9 hq10 => ?_)
  refine GL.val (Ex.move rfl) (by decide) ?_
  refine GL.val (Ex.extract rfl rfl) (by decide) ?_
  refine GL.val (Ex.extract rfl rfl) (by decide) ?_
  refine GL.step (Stp.alloc T.zr32 (by decide)) (fun bq11 _ => ?_)
  refine GL.step (Stp.st0 (cs' := [(.int .i64 ((((2 - 1) : Nat) : Int))), (.int .i64 ((((2 - 0) : Nat) : Int))), (.slice (some ⟨xq9, 0, none⟩) ((2 - 1) * (2 - 0)) ((2 - 1) * (2 - 0)))]) rfl rfl rfl T.sz32 rfl rfl rfl) (fun _ _ => ?_)
  refine GL.val (Ex.assign rfl) (by decide) ?_
  refine GL.nil ?_
  refine GE.thenN ?_
  refine GC.seq ?_
  refine GC.region ?_
  refine GL.val (v := (.agg #[(.int .i64 2), (.int .i64 3), (.slice (some ⟨bq1, 0, none⟩) 6 6)])) (Ex.loadA rfl T.ag32 T.sz32 (i := 6) rfl (vs := [(.int .i64 2), (.int .i64 3), (.slice (some ⟨bq1, 0, none⟩) 6 6)]) rfl rfl) (by decide) ?_
  refine GL.step (Stp.buildSlice (cs := [(.int .u32 9), (.int .u32 9)]) (vs := [(0, (.int .u32 9)), (1, (.int .u32 9))]) Try.underlying30 T.zr72 T.sz72 rfl (by decide) (by decide) (by first | rfl | kernel_rfl) (by decide)) (fun bq12 _ => ?_)
  refine GL.val (v := (.agg #[(.int .i64 1), (.int .i64 2), (.slice (some ⟨bq12, 0, none⟩) 2 2)])) (Ex.build (vs := [(0, (.int .i64 1)), (1, (.int .i64 2)), (2, (.slice (some ⟨bq12, 0, none⟩) 2 2))]) rfl (by first | rfl | kernel_rfl)) (by decide) ?_
  refine GL.step (Stp.callR (vs := [(.agg #[(.int .i64 2), (.int .i64 3), (.slice (some ⟨bq1, 0, none⟩) 6 6)]), (.agg #[(.int .i64 1), (.int .i64 2), (.slice (some ⟨bq12, 0, none⟩) 2 2)]), (.int .i64 1), (.int .i64 (-1))]) rfl rfl T.own25 (by decide) (fun wc hw => paste 2 3 6 6 bq1 0 1 2 2 2 bq12 0 [1, 2, 3, 4, 5, 6] [9, 9] 1 (-1) wc (by decide) rfl rfl (hw.rdOf (i := 8) rfl 0) (by decide) rfl rfl (hw.rdOf (i := 0) rfl 0) (by decide) (by decide))) (fun xq13 hq14 => ?_)
  refine GL.val (Ex.move rfl) (by decide) ?_
  refine GL.val (Ex.extract rfl rfl) (by decide) ?_
  refine GL.val (Ex.extract rfl rfl) (by decide) ?_
  refine GL.step (Stp.alloc T.zr32 (by decide)) (fun bq15 _ => ?_)
  refine GL.step (Stp.st0 (cs' := [(.int .i64 (((2 : Nat) : Int))), (.int .i64 (((3 : Nat) : Int))), (.slice (some ⟨xq13, 0, none⟩) (2 * 3) (2 * 3))]) rfl rfl rfl T.sz32 rfl rfl rfl) (fun _ _ => ?_)
  refine GL.val (Ex.assign rfl) (by decide) ?_
  refine GL.nil ?_
  refine GE.thenN ?_
  refine GC.seq ?_
  refine GC.region ?_
  refine GL.val (v := (.agg #[(.int .i64 2), (.int .i64 3), (.slice (some ⟨bq1, 0, none⟩) 6 6)])) (Ex.loadA rfl T.ag32 T.sz32 (i := 9) rfl (vs := [(.int .i64 2), (.int .i64 3), (.slice (some ⟨bq1, 0, none⟩) 6 6)]) rfl rfl) (by decide) ?_
  refine GL.step (Stp.callR (vs := [(.agg #[(.int .i64 2), (.int .i64 3), (.slice (some ⟨bq1, 0, none⟩) 6 6)]), (.int .i64 2), (.int .i64 1), (.int .i64 0), (.int .i64 0), (.int .i64 0)]) rfl rfl T.own19 (by decide) (fun wc hw => extend 2 3 6 6 bq1 0 1 0 0 0 [1, 2, 3, 4, 5, 6] 2 wc (by decide) rfl rfl (hw.rdOf (i := 10) rfl 0) (by decide) (by decide) (by decide))) (fun xq16 hq17 => ?_)
  refine GL.val (Ex.move rfl) (by decide) ?_
  refine GL.val (Ex.extract rfl rfl) (by decide) ?_
  refine GL.val (Ex.extract rfl rfl) (by decide) ?_
  refine GL.step (Stp.alloc T.zr32 (by decide)) (fun bq18 _ => ?_)
  refine GL.step (Stp.st0 (cs' := [(.int .i64 ((((1 + 2 + 0) : Nat) : Int))), (.int .i64 ((((0 + 3 + 0) : Nat) : Int))), (.slice (some ⟨xq16, 0, none⟩) ((1 + 2 + 0) * (0 + 3 + 0)) ((1 + 2 + 0) * (0 + 3 + 0)))]) rfl rfl rfl T.sz32 rfl rfl rfl) (fun _ _ => ?_)
  refine GL.val (Ex.assign rfl) (by decide) ?_
  refine GL.nil ?_
  refine GE.thenN ?_
  refine GC.seq ?_
  refine GC.region ?_
  refine GL.step (Stp.callR (vs := [(.int .i64 2), (.int .i64 4), (.int .i64 (-1))]) rfl rfl T.own14 (by decide) (fun wc hw => by have h := border 2 4 (-1) wc; rw [show bord 2 4 (-1) = (1, 0) from by decide] at h; exact h)) (fun xq19 hq20 => ?_)
  refine GL.val (Ex.move rfl) (by decide) ?_
  refine GL.val (Ex.extract rfl rfl) (by decide) ?_
  refine GL.val (Ex.extract rfl rfl) (by decide) ?_
  refine GL.val (Ex.assign rfl) (by decide) ?_
  refine GL.val (Ex.assign rfl) (by decide) ?_
  refine GL.nil ?_
  refine GE.thenN ?_
  refine GC.seq ?_
  refine GC.region ?_
  refine GL.step (Stp.callR (vs := [(.int .i64 2), (.int .i64 4), (.int .i64 5)]) rfl rfl T.own14 (by decide) (fun wc hw => by have h := border 2 4 5 wc; rw [show bord 2 4 5 = (1, 0) from by decide] at h; exact h)) (fun xq21 hq22 => ?_)
  refine GL.val (Ex.move rfl) (by decide) ?_
  refine GL.val (Ex.extract rfl rfl) (by decide) ?_
  refine GL.val (Ex.extract rfl rfl) (by decide) ?_
  refine GL.val (Ex.assign rfl) (by decide) ?_
  refine GL.val (Ex.assign rfl) (by decide) ?_
  refine GL.nil ?_
  refine GE.thenN ?_
  refine GC.seq ?_
  refine GC.region ?_
  refine GL.step (Stp.callR (vs := [(.int .i64 2), (.int .i64 4), (.int .i64 6)]) rfl rfl T.own14 (by decide) (fun wc hw => by have h := border 2 4 6 wc; rw [show bord 2 4 6 = (0, 0) from by decide] at h; exact h)) (fun xq23 hq24 => ?_)
  refine GL.val (Ex.move rfl) (by decide) ?_
  refine GL.val (Ex.extract rfl rfl) (by decide) ?_
  refine GL.val (Ex.extract rfl rfl) (by decide) ?_
  refine GL.val (Ex.assign rfl) (by decide) ?_
  refine GL.val (Ex.assign rfl) (by decide) ?_
  refine GL.nil ?_
  refine GE.thenN ?_
  refine GC.seq ?_
  refine GC.region ?_
  refine GL.step (Stp.callR (vs := [(.int .i64 3), (.int .i64 4), (.int .i64 (-1))]) rfl rfl T.own14 (by decide) (fun wc hw => by have h := border 3 4 (-1) wc; rw [show bord 3 4 (-1) = (3, 0) from by decide] at h; exact h)) (fun xq25 hq26 => ?_)
  refine GL.val (Ex.move rfl) (by decide) ?_
  refine GL.val (Ex.extract rfl rfl) (by decide) ?_
  refine GL.val (Ex.extract rfl rfl) (by decide) ?_
  refine GL.val (Ex.assign rfl) (by decide) ?_
  refine GL.val (Ex.assign rfl) (by decide) ?_
  refine GL.nil ?_
  refine GE.thenN ?_
  refine GC.seq ?_
  refine GC.region ?_
  refine GL.val (v := (.agg #[(.int .i64 (((3 : Nat) : Int))), (.int .i64 (((2 : Nat) : Int))), (.slice (some ⟨xq3, 0, none⟩) (3 * 2) (3 * 2))])) (Ex.loadA rfl T.ag32 T.sz32 (i := 9) rfl (vs := [(.int .i64 (((3 : Nat) : Int))), (.int .i64 (((2 : Nat) : Int))), (.slice (some ⟨xq3, 0, none⟩) (3 * 2) (3 * 2))]) rfl rfl) (by decide) ?_
  refine GL.step (Stp.buildSlice (cs := [(.int .u32 5), (.int .u32 3), (.int .u32 1), (.int .u32 6), (.int .u32 4), (.int .u32 2)]) (vs := [(0, (.int .u32 5)), (1, (.int .u32 3)), (2, (.int .u32 1)), (3, (.int .u32 6)), (4, (.int .u32 4)), (5, (.int .u32 2))]) Try.underlying30 T.zr72 T.sz72 rfl (by decide) (by decide) (by first | rfl | kernel_rfl) (by decide)) (fun bq27 _ => ?_)
  refine GL.step (Stp.callR (vs := [(.agg #[(.int .i64 (((3 : Nat) : Int))), (.int .i64 (((2 : Nat) : Int))), (.slice (some ⟨xq3, 0, none⟩) (3 * 2) (3 * 2))]), (.int .i64 3), (.int .i64 2), (.slice (some ⟨bq27, 0, none⟩) 6 6)]) rfl rfl T.own44 (by decide) (fun wc hw => by have h := is_ 3 2 3 2 xq3 0 (3 * 2) (3 * 2) bq27 0 (6) (6) (tab 3 (fun x y => smp [1, 2, 3, 4, 5, 6] 2 y (3 - 1 - x)) (3 * 2)) [5, 3, 1, 6, 4, 2] wc rfl rfl (hw.rdOf (i := 11) rfl 0) (hw.rdOf (i := 0) rfl 0) (by decide); rw [show eqB 3 2 (tab 3 (fun x y => smp [1, 2, 3, 4, 5, 6] 2 y (3 - 1 - x)) (3 * 2)) 3 2 [5, 3, 1, 6, 4, 2] = true from by decide] at h; exact h)) (fun xq28 hq29 => ?_)
  refine GL.val (Ex.move rfl) (by decide) ?_
  refine GL.stepG (tj := 69) rfl rfl (Ex.wp (v := (.agg #[(.int .i64 (((3 : Nat) : Int))), (.int .i64 (((2 : Nat) : Int))), (.slice (some ⟨xq6, 0, none⟩) (3 * 2) (3 * 2))])) (Ex.loadA rfl T.ag32 T.sz32 (i := 8) rfl (vs := [(.int .i64 (((3 : Nat) : Int))), (.int .i64 (((2 : Nat) : Int))), (.slice (some ⟨xq6, 0, none⟩) (3 * 2) (3 * 2))]) rfl rfl) (by decide)) (fun _ _ => ?_)
  refine GL.stepG (tj := 69) rfl rfl (Stp.buildSlice (cs := [(.int .u32 1), (.int .u32 3), (.int .u32 5), (.int .u32 2), (.int .u32 4), (.int .u32 6)]) (vs := [(0, (.int .u32 1)), (1, (.int .u32 3)), (2, (.int .u32 5)), (3, (.int .u32 2)), (4, (.int .u32 4)), (5, (.int .u32 6))]) Try.underlying30 T.zr72 T.sz72 rfl (by decide) (by decide) (by first | rfl | kernel_rfl) (by decide)) (fun bq30 _ => ?_)
  refine GL.stepG (tj := 69) rfl rfl (Stp.callR (vs := [(.agg #[(.int .i64 (((3 : Nat) : Int))), (.int .i64 (((2 : Nat) : Int))), (.slice (some ⟨xq6, 0, none⟩) (3 * 2) (3 * 2))]), (.int .i64 3), (.int .i64 2), (.slice (some ⟨bq30, 0, none⟩) 6 6)]) rfl rfl T.own44 (by decide) (fun wc hw => by have h := is_ 3 2 3 2 xq6 0 (3 * 2) (3 * 2) bq30 0 (6) (6) (tab 3 (fun x y => smp [1, 2, 3, 4, 5, 6] 2 y x) (3 * 2)) [1, 3, 5, 2, 4, 6] wc rfl rfl (hw.rdOf (i := 10) rfl 0) (hw.rdOf (i := 0) rfl 0) (by decide); rw [show eqB 3 2 (tab 3 (fun x y => smp [1, 2, 3, 4, 5, 6] 2 y x) (3 * 2)) 3 2 [1, 3, 5, 2, 4, 6] = true from by decide] at h; exact h)) (fun xq31 hq32 => ?_)
  refine GL.val (v := (.bool true)) (Ex.pickT rfl rfl) (by decide) ?_
  refine GL.val (Ex.move rfl) (by decide) ?_
  refine GL.stepG (tj := 74) rfl rfl (Ex.wp (v := (.agg #[(.int .i64 ((((2 - 1) : Nat) : Int))), (.int .i64 ((((2 - 0) : Nat) : Int))), (.slice (some ⟨xq9, 0, none⟩) ((2 - 1) * (2 - 0)) ((2 - 1) * (2 - 0)))])) (Ex.loadA rfl T.ag32 T.sz32 (i := 7) rfl (vs := [(.int .i64 ((((2 - 1) : Nat) : Int))), (.int .i64 ((((2 - 0) : Nat) : Int))), (.slice (some ⟨xq9, 0, none⟩) ((2 - 1) * (2 - 0)) ((2 - 1) * (2 - 0)))]) rfl rfl) (by decide)) (fun _ _ => ?_)
  refine GL.stepG (tj := 74) rfl rfl (Stp.buildSlice (cs := [(.int .u32 2), (.int .u32 4)]) (vs := [(0, (.int .u32 2)), (1, (.int .u32 4))]) Try.underlying30 T.zr72 T.sz72 rfl (by decide) (by decide) (by first | rfl | kernel_rfl) (by decide)) (fun bq33 _ => ?_)
  refine GL.stepG (tj := 74) rfl rfl (Stp.callR (vs := [(.agg #[(.int .i64 ((((2 - 1) : Nat) : Int))), (.int .i64 ((((2 - 0) : Nat) : Int))), (.slice (some ⟨xq9, 0, none⟩) ((2 - 1) * (2 - 0)) ((2 - 1) * (2 - 0)))]), (.int .i64 1), (.int .i64 2), (.slice (some ⟨bq33, 0, none⟩) 2 2)]) rfl rfl T.own44 (by decide) (fun wc hw => by have h := is_ 1 2 1 2 xq9 0 ((2 - 1) * (2 - 0)) ((2 - 1) * (2 - 0)) bq33 0 (2) (2) (tab (2 - 1) (fun x y => smp [1, 2, 3, 4, 5, 6] 2 (1 + x) (0 + y)) ((2 - 1) * (2 - 0))) [2, 4] wc rfl rfl (hw.rdOf (i := 9) rfl 0) (hw.rdOf (i := 0) rfl 0) (by decide); rw [show eqB 1 2 (tab (2 - 1) (fun x y => smp [1, 2, 3, 4, 5, 6] 2 (1 + x) (0 + y)) ((2 - 1) * (2 - 0))) 1 2 [2, 4] = true from by decide] at h; exact h)) (fun xq34 hq35 => ?_)
  refine GL.val (v := (.bool true)) (Ex.pickT rfl rfl) (by decide) ?_
  refine GL.val (Ex.move rfl) (by decide) ?_
  refine GL.stepG (tj := 79) rfl rfl (Ex.wp (v := (.agg #[(.int .i64 (((2 : Nat) : Int))), (.int .i64 (((3 : Nat) : Int))), (.slice (some ⟨xq13, 0, none⟩) (2 * 3) (2 * 3))])) (Ex.loadA rfl T.ag32 T.sz32 (i := 5) rfl (vs := [(.int .i64 (((2 : Nat) : Int))), (.int .i64 (((3 : Nat) : Int))), (.slice (some ⟨xq13, 0, none⟩) (2 * 3) (2 * 3))]) rfl rfl) (by decide)) (fun _ _ => ?_)
  refine GL.stepG (tj := 79) rfl rfl (Stp.buildSlice (cs := [(.int .u32 1), (.int .u32 9), (.int .u32 3), (.int .u32 4), (.int .u32 5), (.int .u32 6)]) (vs := [(0, (.int .u32 1)), (1, (.int .u32 9)), (2, (.int .u32 3)), (3, (.int .u32 4)), (4, (.int .u32 5)), (5, (.int .u32 6))]) Try.underlying30 T.zr72 T.sz72 rfl (by decide) (by decide) (by first | rfl | kernel_rfl) (by decide)) (fun bq36 _ => ?_)
  refine GL.stepG (tj := 79) rfl rfl (Stp.callR (vs := [(.agg #[(.int .i64 (((2 : Nat) : Int))), (.int .i64 (((3 : Nat) : Int))), (.slice (some ⟨xq13, 0, none⟩) (2 * 3) (2 * 3))]), (.int .i64 2), (.int .i64 3), (.slice (some ⟨bq36, 0, none⟩) 6 6)]) rfl rfl T.own44 (by decide) (fun wc hw => by have h := is_ 2 3 2 3 xq13 0 (2 * 3) (2 * 3) bq36 0 (6) (6) (tab 2 (pst 1 (-1) 1 2 (smp [1, 2, 3, 4, 5, 6] 2) (smp [9, 9] 1)) (2 * 3)) [1, 9, 3, 4, 5, 6] wc rfl rfl (hw.rdOf (i := 7) rfl 0) (hw.rdOf (i := 0) rfl 0) (by decide); rw [show eqB 2 3 (tab 2 (pst 1 (-1) 1 2 (smp [1, 2, 3, 4, 5, 6] 2) (smp [9, 9] 1)) (2 * 3)) 2 3 [1, 9, 3, 4, 5, 6] = true from by decide] at h; exact h)) (fun xq37 hq38 => ?_)
  refine GL.val (v := (.bool true)) (Ex.pickT rfl rfl) (by decide) ?_
  refine GL.val (Ex.move rfl) (by decide) ?_
  refine GL.stepG (tj := 84) rfl rfl (Ex.wp (v := (.agg #[(.int .i64 ((((1 + 2 + 0) : Nat) : Int))), (.int .i64 ((((0 + 3 + 0) : Nat) : Int))), (.slice (some ⟨xq16, 0, none⟩) ((1 + 2 + 0) * (0 + 3 + 0)) ((1 + 2 + 0) * (0 + 3 + 0)))])) (Ex.loadA rfl T.ag32 T.sz32 (i := 4) rfl (vs := [(.int .i64 ((((1 + 2 + 0) : Nat) : Int))), (.int .i64 ((((0 + 3 + 0) : Nat) : Int))), (.slice (some ⟨xq16, 0, none⟩) ((1 + 2 + 0) * (0 + 3 + 0)) ((1 + 2 + 0) * (0 + 3 + 0)))]) rfl rfl) (by decide)) (fun _ _ => ?_)
  refine GL.stepG (tj := 84) rfl rfl (Stp.buildSlice (cs := [(.int .u32 2), (.int .u32 1), (.int .u32 2), (.int .u32 4), (.int .u32 3), (.int .u32 4), (.int .u32 6), (.int .u32 5), (.int .u32 6)]) (vs := [(0, (.int .u32 2)), (1, (.int .u32 1)), (2, (.int .u32 2)), (3, (.int .u32 4)), (4, (.int .u32 3)), (5, (.int .u32 4)), (6, (.int .u32 6)), (7, (.int .u32 5)), (8, (.int .u32 6))]) Try.underlying30 T.zr72 T.sz72 rfl (by decide) (by decide) (by first | rfl | kernel_rfl) (by decide)) (fun bq39 _ => ?_)
  refine GL.stepG (tj := 84) rfl rfl (Stp.callR (vs := [(.agg #[(.int .i64 ((((1 + 2 + 0) : Nat) : Int))), (.int .i64 ((((0 + 3 + 0) : Nat) : Int))), (.slice (some ⟨xq16, 0, none⟩) ((1 + 2 + 0) * (0 + 3 + 0)) ((1 + 2 + 0) * (0 + 3 + 0)))]), (.int .i64 3), (.int .i64 3), (.slice (some ⟨bq39, 0, none⟩) 9 9)]) rfl rfl T.own44 (by decide) (fun wc hw => by have h := is_ 3 3 3 3 xq16 0 ((1 + 2 + 0) * (0 + 3 + 0)) ((1 + 2 + 0) * (0 + 3 + 0)) bq39 0 (9) (9) (tab (1 + 2 + 0) (fun x y => smp [1, 2, 3, 4, 5, 6] 2 (bord 2 2 ((x : Int) - ((1 : Nat) : Int))).1.toNat (bord 2 3 ((y : Int) - ((0 : Nat) : Int))).1.toNat) ((1 + 2 + 0) * (0 + 3 + 0))) [2, 1, 2, 4, 3, 4, 6, 5, 6] wc rfl rfl (hw.rdOf (i := 6) rfl 0) (hw.rdOf (i := 0) rfl 0) (by decide); rw [show eqB 3 3 (tab (1 + 2 + 0) (fun x y => smp [1, 2, 3, 4, 5, 6] 2 (bord 2 2 ((x : Int) - ((1 : Nat) : Int))).1.toNat (bord 2 3 ((y : Int) - ((0 : Nat) : Int))).1.toNat) ((1 + 2 + 0) * (0 + 3 + 0))) 3 3 [2, 1, 2, 4, 3, 4, 6, 5, 6] = true from by decide] at h; exact h)) (fun xq40 hq41 => ?_)
  refine GL.val (v := (.bool true)) (Ex.pickT rfl rfl) (by decide) ?_
  refine GL.val (Ex.move rfl) (by decide) ?_
  refine GL.stepG (tj := 89) rfl rfl (Ex.wp (v := (.int .i64 1)) (Ex.move rfl) (by decide)) (fun _ _ => ?_)
  refine GL.stepG (tj := 89) rfl rfl (Ex.wp (v := (.bool true)) (Ex.cast (Ex.eql rfl rfl) rfl) (by decide)) (fun _ _ => ?_)
  refine GL.val (v := (.bool true)) (Ex.pickT rfl rfl) (by decide) ?_
  refine GL.val (Ex.move rfl) (by decide) ?_
  refine GL.stepG (tj := 93) rfl rfl (Ex.wp (v := (.int .i64 1)) (Ex.move rfl) (by decide)) (fun _ _ => ?_)
  refine GL.stepG (tj := 93) rfl rfl (Ex.wp (v := (.bool true)) (Ex.cast (Ex.eql rfl rfl) rfl) (by decide)) (fun _ _ => ?_)
  refine GL.val (v := (.bool true)) (Ex.pickT rfl rfl) (by decide) ?_
  refine GL.val (Ex.move rfl) (by decide) ?_
  refine GL.stepG (tj := 97) rfl rfl (Ex.wp (v := (.int .i64 0)) (Ex.move rfl) (by decide)) (fun _ _ => ?_)
  refine GL.stepG (tj := 97) rfl rfl (Ex.wp (v := (.bool true)) (Ex.cast (Ex.eql rfl rfl) rfl) (by decide)) (fun _ _ => ?_)
  refine GL.val (v := (.bool true)) (Ex.pickT rfl rfl) (by decide) ?_
  refine GL.val (Ex.move rfl) (by decide) ?_
  refine GL.stepG (tj := 101) rfl rfl (Ex.wp (v := (.int .i64 3)) (Ex.move rfl) (by decide)) (fun _ _ => ?_)
  refine GL.stepG (tj := 101) rfl rfl (Ex.wp (v := (.bool true)) (Ex.cast (Ex.eql rfl rfl) rfl) (by decide)) (fun _ _ => ?_)
  refine GL.val (v := (.bool true)) (Ex.pickT rfl rfl) (by decide) ?_
  refine GL.val (Ex.assign rfl) (by decide) ?_
  refine GL.nil ?_
  refine GE.thenN ?_
  refine GC.ret ?_
  refine GC.ret1 rfl (Rv.tmp rfl) (fun wN HN => ?_)
  exact HN.ret () trivial rfl (List.nil_sublist _) rfl

set_option maxRecDepth 100000 in
set_option maxHeartbeats 1000000 in
theorem ref_size (pw ph : Int) (w : World) :
    Calls Try.prog 47 #[(.int .i64 pw), (.int .i64 ph)] w (Ret w (fun _ : Unit => True) (fun _ => .bool (sizeB pw ph)) (fun _ => [])) := by
  refine enter (M := None) (L := []) (n := 25) (l := [(0, (.int .i64 pw)), (1, (.int .i64 ph))]) Try.func47 rfl rfl (Args.cons rfl (Args.cons rfl (Args.nil _))) (Hp.start _ _) ?_
  refine GC.seq ?_
  refine GC.region ?_
  refine GL.val (Ex.assign rfl) (by decide) ?_
  refine GL.nil ?_
  refine GE.thenN ?_
  refine GC.seq ?_
  refine GC.region ?_
  refine GL.val (Ex.move rfl) (by decide) ?_
  by_cases hq1 : 1 ≤ pw
  · refine GL.val (v := (.bool true)) (Ex.cast (Ex.geq rfl rfl) (congrArg Value.bool (decide_eq_true hq1))) (by decide) ?_
    refine GL.val (Ex.move rfl) (by decide) ?_
    refine GL.stepG (tj := 7) rfl rfl (Ex.wp (v := (.int .i64 pw)) (Ex.move rfl) (by decide)) (fun _ _ => ?_)
    by_cases hq2 : pw ≤ 1024
    · refine GL.stepG (tj := 7) rfl rfl (Ex.wp (v := (.bool true)) (Ex.cast (Ex.leq rfl rfl) (congrArg Value.bool (decide_eq_true hq2))) (by decide)) (fun _ _ => ?_)
      refine GL.val (v := (.bool true)) (Ex.pickT rfl rfl) (by decide) ?_
      refine GL.val (Ex.move rfl) (by decide) ?_
      refine GL.stepG (tj := 11) rfl rfl (Ex.wp (v := (.int .i64 ph)) (Ex.move rfl) (by decide)) (fun _ _ => ?_)
      by_cases hq3 : 1 ≤ ph
      · refine GL.stepG (tj := 11) rfl rfl (Ex.wp (v := (.bool true)) (Ex.cast (Ex.geq rfl rfl) (congrArg Value.bool (decide_eq_true hq3))) (by decide)) (fun _ _ => ?_)
        refine GL.val (v := (.bool true)) (Ex.pickT rfl rfl) (by decide) ?_
        refine GL.val (Ex.move rfl) (by decide) ?_
        refine GL.stepG (tj := 15) rfl rfl (Ex.wp (v := (.int .i64 ph)) (Ex.move rfl) (by decide)) (fun _ _ => ?_)
        by_cases hq4 : ph ≤ 1024
        · have hm := mul_bd (w := pw) (h := ph) (by omega) (by omega) (by omega) (by omega)
          refine GL.stepG (tj := 15) rfl rfl (Ex.wp (v := (.bool true)) (Ex.cast (Ex.leq rfl rfl) (congrArg Value.bool (decide_eq_true hq4))) (by decide)) (fun _ _ => ?_)
          refine GL.val (v := (.bool true)) (Ex.pickT rfl rfl) (by decide) ?_
          refine GL.val (Ex.move rfl) (by decide) ?_
          refine GL.stepG (tj := 19) rfl rfl (Ex.wp (v := (.int .i64 pw)) (Ex.move rfl) (by decide)) (fun _ _ => ?_)
          refine GL.stepG (tj := 19) rfl rfl (Ex.wp (v := (.int .i64 ph)) (Ex.move rfl) (by decide)) (fun _ _ => ?_)
          refine GL.stepG (tj := 19) rfl rfl (Ex.wp (v := (.int .i64 (pw * ph))) (Ex.mul rfl rfl (Z := pw * ph) (w64 (by omega))) (by decide)) (fun _ _ => ?_)
          refine GL.stepG (tj := 19) rfl rfl (Ex.wp (v := (.bool (decide ((pw * ph) ≤ 65536)))) (Ex.leq rfl rfl) (by decide)) (fun _ _ => ?_)
          refine GL.val (v := (.bool (decide ((pw * ph) ≤ 65536)))) (Ex.pickT rfl rfl) (by decide) ?_
          refine GL.val (Ex.assign rfl) (by decide) ?_
          refine GL.nil ?_
          refine GE.thenN ?_
          refine GC.ret ?_
          refine GC.ret1 rfl (Rv.tmp rfl) (fun wN HN => ?_)
          exact HN.ret () trivial (by simp only [sizeB]; congr 1; apply decide_eq_decide.2; omega) (List.nil_sublist _) rfl
        · refine GL.stepG (tj := 15) rfl rfl (Ex.wp (v := (.bool false)) (Ex.cast (Ex.leq rfl rfl) (congrArg Value.bool (decide_eq_false hq4))) (by decide)) (fun _ _ => ?_)
          refine GL.val (v := (.bool false)) (Ex.pickT rfl rfl) (by decide) ?_
          refine GL.val (Ex.move rfl) (by decide) ?_
          refine GL.skipG (tj := 19) rfl rfl rfl (by decide) ?_
          refine GL.skipG (tj := 19) rfl rfl rfl (by decide) ?_
          refine GL.skipG (tj := 19) rfl rfl rfl (by decide) ?_
          refine GL.skipG (tj := 19) rfl rfl rfl (by decide) ?_
          refine GL.val (v := (.bool false)) (Ex.pickF rfl rfl) (by decide) ?_
          refine GL.val (Ex.assign rfl) (by decide) ?_
          refine GL.nil ?_
          refine GE.thenN ?_
          refine GC.ret ?_
          refine GC.ret1 rfl (Rv.tmp rfl) (fun wN HN => ?_)
          exact HN.ret () trivial (by simp only [sizeB]; rw [decide_eq_false (by omega)]) (List.nil_sublist _) rfl
      · refine GL.stepG (tj := 11) rfl rfl (Ex.wp (v := (.bool false)) (Ex.cast (Ex.geq rfl rfl) (congrArg Value.bool (decide_eq_false hq3))) (by decide)) (fun _ _ => ?_)
        refine GL.val (v := (.bool false)) (Ex.pickT rfl rfl) (by decide) ?_
        refine GL.val (Ex.move rfl) (by decide) ?_
        refine GL.skipG (tj := 15) rfl rfl rfl (by decide) ?_
        refine GL.skipG (tj := 15) rfl rfl rfl (by decide) ?_
        refine GL.val (v := (.bool false)) (Ex.pickF rfl rfl) (by decide) ?_
        refine GL.val (Ex.move rfl) (by decide) ?_
        refine GL.skipG (tj := 19) rfl rfl rfl (by decide) ?_
        refine GL.skipG (tj := 19) rfl rfl rfl (by decide) ?_
        refine GL.skipG (tj := 19) rfl rfl rfl (by decide) ?_
        refine GL.skipG (tj := 19) rfl rfl rfl (by decide) ?_
        refine GL.val (v := (.bool false)) (Ex.pickF rfl rfl) (by decide) ?_
        refine GL.val (Ex.assign rfl) (by decide) ?_
        refine GL.nil ?_
        refine GE.thenN ?_
        refine GC.ret ?_
        refine GC.ret1 rfl (Rv.tmp rfl) (fun wN HN => ?_)
        exact HN.ret () trivial (by simp only [sizeB]; rw [decide_eq_false (by omega)]) (List.nil_sublist _) rfl
    · refine GL.stepG (tj := 7) rfl rfl (Ex.wp (v := (.bool false)) (Ex.cast (Ex.leq rfl rfl) (congrArg Value.bool (decide_eq_false hq2))) (by decide)) (fun _ _ => ?_)
      refine GL.val (v := (.bool false)) (Ex.pickT rfl rfl) (by decide) ?_
      refine GL.val (Ex.move rfl) (by decide) ?_
      refine GL.skipG (tj := 11) rfl rfl rfl (by decide) ?_
      refine GL.skipG (tj := 11) rfl rfl rfl (by decide) ?_
      refine GL.val (v := (.bool false)) (Ex.pickF rfl rfl) (by decide) ?_
      refine GL.val (Ex.move rfl) (by decide) ?_
      refine GL.skipG (tj := 15) rfl rfl rfl (by decide) ?_
      refine GL.skipG (tj := 15) rfl rfl rfl (by decide) ?_
      refine GL.val (v := (.bool false)) (Ex.pickF rfl rfl) (by decide) ?_
      refine GL.val (Ex.move rfl) (by decide) ?_
      refine GL.skipG (tj := 19) rfl rfl rfl (by decide) ?_
      refine GL.skipG (tj := 19) rfl rfl rfl (by decide) ?_
      refine GL.skipG (tj := 19) rfl rfl rfl (by decide) ?_
      refine GL.skipG (tj := 19) rfl rfl rfl (by decide) ?_
      refine GL.val (v := (.bool false)) (Ex.pickF rfl rfl) (by decide) ?_
      refine GL.val (Ex.assign rfl) (by decide) ?_
      refine GL.nil ?_
      refine GE.thenN ?_
      refine GC.ret ?_
      refine GC.ret1 rfl (Rv.tmp rfl) (fun wN HN => ?_)
      exact HN.ret () trivial (by simp only [sizeB]; rw [decide_eq_false (by omega)]) (List.nil_sublist _) rfl
  · refine GL.val (v := (.bool false)) (Ex.cast (Ex.geq rfl rfl) (congrArg Value.bool (decide_eq_false hq1))) (by decide) ?_
    refine GL.val (Ex.move rfl) (by decide) ?_
    refine GL.skipG (tj := 7) rfl rfl rfl (by decide) ?_
    refine GL.skipG (tj := 7) rfl rfl rfl (by decide) ?_
    refine GL.val (v := (.bool false)) (Ex.pickF rfl rfl) (by decide) ?_
    refine GL.val (Ex.move rfl) (by decide) ?_
    refine GL.skipG (tj := 11) rfl rfl rfl (by decide) ?_
    refine GL.skipG (tj := 11) rfl rfl rfl (by decide) ?_
    refine GL.val (v := (.bool false)) (Ex.pickF rfl rfl) (by decide) ?_
    refine GL.val (Ex.move rfl) (by decide) ?_
    refine GL.skipG (tj := 15) rfl rfl rfl (by decide) ?_
    refine GL.skipG (tj := 15) rfl rfl rfl (by decide) ?_
    refine GL.val (v := (.bool false)) (Ex.pickF rfl rfl) (by decide) ?_
    refine GL.val (Ex.move rfl) (by decide) ?_
    refine GL.skipG (tj := 19) rfl rfl rfl (by decide) ?_
    refine GL.skipG (tj := 19) rfl rfl rfl (by decide) ?_
    refine GL.skipG (tj := 19) rfl rfl rfl (by decide) ?_
    refine GL.skipG (tj := 19) rfl rfl rfl (by decide) ?_
    refine GL.val (v := (.bool false)) (Ex.pickF rfl rfl) (by decide) ?_
    refine GL.val (Ex.assign rfl) (by decide) ?_
    refine GL.nil ?_
    refine GE.thenN ?_
    refine GC.ret ?_
    refine GC.ret1 rfl (Rv.tmp rfl) (fun wN HN => ?_)
    exact HN.ret () trivial (by simp only [sizeB]; rw [decide_eq_false (by omega)]) (List.nil_sublist _) rfl

set_option maxRecDepth 100000 in
set_option maxHeartbeats 1000000 in
theorem ref_check (W H : Int) (ad : Option Addr) (n cap : Nat) (w : World) :
    Calls Try.prog 35 #[(.agg #[(.int .i64 W), (.int .i64 H), (.slice ad n cap)])] w (Ret w (fun _ : Unit => True) (fun _ => .int .i64 (chk W H n)) (fun _ => [])) := by
  refine enter (M := None) (L := []) (n := 18) (l := [(0, (.agg #[(.int .i64 W), (.int .i64 H), (.slice ad n cap)]))]) Try.func35 rfl rfl (Args.cons rfl (Args.nil _)) (Hp.start _ _) ?_
  refine GC.seq ?_
  refine GC.region ?_
  refine GL.step (Stp.box (cs := [(.int .i64 W), (.int .i64 H), (.slice ad n cap)]) rfl rfl (by decide)) (fun bq1 _ => ?_)
  refine GL.val (Ex.assign rfl) (by decide) ?_
  refine GL.nil ?_
  refine GE.thenN ?_
  refine GC.seq ?_
  refine GC.seq ?_
  refine GC.region ?_
  refine GL.val (v := (.pointer (some ⟨bq1, 0, none⟩))) (Ex.cast (Ex.fieldAddr rfl Try.underlying32 rfl T.sz3 (by decide)) rfl) (by decide) ?_
  refine GL.val (Ex.load rfl T.ag3 (i := 0) rfl rfl) (by decide) ?_
  refine GL.val (v := (.pointer (some ⟨bq1, 1, none⟩))) (Ex.cast (Ex.fieldAddr rfl Try.underlying32 rfl T.sz3 (by decide)) rfl) (by decide) ?_
  refine GL.val (Ex.load rfl T.ag3 (i := 0) rfl rfl) (by decide) ?_
  refine GL.step (Stp.callR (vs := [(.int .i64 W), (.int .i64 H)]) rfl rfl T.own47 (by decide) (fun wc hw => ref_size W H wc)) (fun xq2 hq3 => ?_)
  refine GL.val (v := (.bool (!(sizeB W H)))) (Ex.not rfl) (by decide) ?_
  refine GL.nil ?_
  refine GE.thenN ?_
  refine GC.cond rfl (fun hq4 => ?_) (fun hq4 => ?_)
  · have hs : sizeB W H = false := by simpa using hq4
    refine GC.seq ?_
    refine GC.region ?_
    refine GL.val (Ex.assign rfl) (by decide) ?_
    refine GL.nil ?_
    refine GE.thenN ?_
    refine GC.ret ?_
    refine GE.thenR ?_
    refine GC.ret1 rfl (Rv.tmp rfl) (fun wN HN => ?_)
    exact HN.ret () trivial (by simp [chk, *]) (List.nil_sublist _) rfl
  · have hs : sizeB W H = true := by simpa using hq4
    refine GC.skip ?_
    refine GE.thenN ?_
    refine GC.seq ?_
    refine GC.seq ?_
    have hm := sizeB_mul hs
    refine GC.region ?_
    refine GL.val (v := (.pointer (some ⟨bq1, 2, none⟩))) (Ex.cast (Ex.fieldAddr rfl Try.underlying32 rfl T.sz30 (by decide)) rfl) (by decide) ?_
    refine GL.val (Ex.load rfl T.ag30 (i := 0) rfl rfl) (by decide) ?_
    refine GL.val (v := (.int .i64 ((n : Int)))) (Ex.len rfl Try.underlying30) (by decide) ?_
    refine GL.val (v := (.pointer (some ⟨bq1, 0, none⟩))) (Ex.cast (Ex.fieldAddr rfl Try.underlying32 rfl T.sz3 (by decide)) rfl) (by decide) ?_
    refine GL.val (Ex.load rfl T.ag3 (i := 0) rfl rfl) (by decide) ?_
    refine GL.val (v := (.pointer (some ⟨bq1, 1, none⟩))) (Ex.cast (Ex.fieldAddr rfl Try.underlying32 rfl T.sz3 (by decide)) rfl) (by decide) ?_
    refine GL.val (Ex.load rfl T.ag3 (i := 0) rfl rfl) (by decide) ?_
    refine GL.val (v := (.int .i64 (W * H))) (Ex.mul rfl rfl (Z := W * H) (w64 (by omega))) (by decide) ?_
    refine GL.val (v := (.bool (decide (((n : Int)) ≠ (W * H))))) (Ex.neq rfl rfl) (by decide) ?_
    refine GL.nil ?_
    refine GE.thenN ?_
    refine GC.cond rfl (fun hq5 => ?_) (fun hq5 => ?_)
    · replace hq5 := of_decide_eq_true hq5
      refine GC.seq ?_
      refine GC.region ?_
      refine GL.val (Ex.assign rfl) (by decide) ?_
      refine GL.nil ?_
      refine GE.thenN ?_
      refine GC.ret ?_
      refine GE.thenR ?_
      refine GC.ret1 rfl (Rv.tmp rfl) (fun wN HN => ?_)
      exact HN.ret () trivial (by simp [chk, *]) (List.nil_sublist _) rfl
    · replace hq5 := of_decide_eq_false hq5
      refine GC.skip ?_
      refine GE.thenN ?_
      refine GC.seq ?_
      refine GC.region ?_
      refine GL.val (Ex.assign rfl) (by decide) ?_
      refine GL.nil ?_
      refine GE.thenN ?_
      refine GC.ret ?_
      refine GC.ret1 rfl (Rv.tmp rfl) (fun wN HN => ?_)
      exact HN.ret () trivial (by simp [chk, *]) (List.nil_sublist _) rfl

theorem turn_any (W H n cap b o : Nat) (xs : List Int) (q : Int) (r : Nat) (w : World) (hok : okP W H) (hn : n = W * H) (hx : xs.length = n) (hr : Rd w b o (xs.map u32)) (hr4 : r < 4) (hq : rst q 4 = (r : Int)) :
    Calls Try.prog 33 #[.agg #[.int .i64 (W : Int), .int .i64 (H : Int), .slice (some ⟨b, o, none⟩) n cap], .int .i64 q] w (Ret w (fun _ : Nat => True) (fun x => .tuple #[.agg #[.int .i64 ((tW r W H : Nat) : Int), .int .i64 ((tH r W H : Nat) : Int), .slice (some ⟨x, 0, none⟩) (tW r W H * tH r W H) (tW r W H * tH r W H)], .int .i64 0]) (fun x => [⟨x, (trn r xs W H).map u32, 72, true⟩])) := by
  have hb := tmod_bd q (show (1 : Int) ≤ 4 by decide)
  have hc : r = 0 ∨ r = 1 ∨ r = 2 ∨ r = 3 := by omega
  rcases hc with rfl | rfl | rfl | rfl
  · exact turn_0 W H n cap b o xs q w hok hn hx hr hq hb
  · exact turn_1 W H n cap b o xs q w hok hn hx hr hq hb
  · exact turn_2 W H n cap b o xs q w hok hn hx hr hq hb
  · exact turn_3 W H n cap b o xs q w hok hn hx hr hq hb

set_option maxRecDepth 100000 in
set_option maxHeartbeats 1000000 in
theorem room_s1 (w0 : World) (R : List Blk) (rb n cap : Nat) (ad : Option Addr) (xs : List Int) (n1 b1 c1 b2 c2 : Nat) (xs1 sp1 xs2 sp2 : List Value) (w : World) (hs : Lst w0 ad n xs) (hb : n ≤ 35184372087808) (hn1 : n1 ≤ 1000) (hx1 : xs1.length = n1) (hx2 : xs2.length = n1) (hc1 : (xs1 ++ sp1).length = c1 * 1) (hc2 : (xs2 ++ sp2).length = c2 * 1) (hp0 : Hp None w0 (⟨rb, [(.slice (some ⟨b1, 0, none⟩) n1 c1), (.slice (some ⟨b2, 0, none⟩) n1 c2), (.slice none 0 0), (.slice none 0 0), (.slice none 0 0), (.slice none 0 0), (.slice none 0 0), (.slice none 0 0)], 44, true⟩ :: ⟨b1, xs1 ++ sp1, 30, true⟩ :: ⟨b2, xs2 ++ sp2, 30, true⟩ :: R) w) :
    Calls Try.prog 46 #[(.pointer (some ⟨rb, 0, none⟩)), (.slice ad n cap)] w (Frm (σ := (Nat × Nat × List Value) × (Nat × Nat × List Value) × (Nat × Nat × List Value) × Nat) None w0 (fun x => (xs1 ++ [(Value.slice (some ⟨x.2.2.2, 0, none⟩) (n + 5) (n + 5))] ++ x.2.2.1.2.2 : List Value).length = x.2.2.1.2.1 * 1 ∧ (xs2 ++ [(Value.slice (some ⟨x.2.1.1, 0, none⟩) (n + 5) x.2.1.2.1)] ++ x.1.2.2 : List Value).length = x.1.2.1 * 1) (fun x => (.slice (some ⟨x.2.2.2, 0, none⟩) n (n + 5))) (fun x => (⟨x.1.1, xs2 ++ [(Value.slice (some ⟨x.2.1.1, 0, none⟩) (n + 5) x.2.1.2.1)] ++ x.1.2.2, 30, true⟩ :: ⟨x.2.1.1, (roomL xs).map u32 ++ x.2.1.2.2, 72, true⟩ :: ⟨x.2.2.1.1, xs1 ++ [(Value.slice (some ⟨x.2.2.2, 0, none⟩) (n + 5) (n + 5))] ++ x.2.2.1.2.2, 30, true⟩ :: ⟨x.2.2.2, (roomL xs).map u32, 72, true⟩ :: ⟨rb, [(.slice (some ⟨x.2.2.1.1, 0, none⟩) (n1 + 1) x.2.2.1.2.1), (.slice (some ⟨x.1.1, 0, none⟩) (n1 + 1) x.1.2.1), (.slice none 0 0), (.slice none 0 0), (.slice none 0 0), (.slice none 0 0), (.slice none 0 0), (.slice none 0 0)], 44, true⟩ :: R))) := by
  have hsl := hs.1
  refine enterF (w0 := w0) (M := None) (L := (⟨rb, [(.slice (some ⟨b1, 0, none⟩) n1 c1), (.slice (some ⟨b2, 0, none⟩) n1 c2), (.slice none 0 0), (.slice none 0 0), (.slice none 0 0), (.slice none 0 0), (.slice none 0 0), (.slice none 0 0)], 44, true⟩ :: ⟨b1, xs1 ++ sp1, 30, true⟩ :: ⟨b2, xs2 ++ sp2, 30, true⟩ :: R)) (n := 53) (l := [(0, (.pointer (some ⟨rb, 0, none⟩))), (1, (.slice ad n cap))]) Try.func46 rfl rfl (Args.cons rfl (Args.cons rfl (Args.nil _))) hp0 ?_
  refine GC.seq ?_
  refine GC.region ?_
  refine GL.val (Ex.assign rfl) (by decide) ?_
  refine GL.nil ?_
  refine GE.thenN ?_
  refine GC.seq ?_
  refine GC.region ?_
  refine GL.val (Ex.move rfl) (by decide) ?_
  refine GL.val (v := (.int .i64 ((n : Int)))) (Ex.len rfl Try.underlying30) (by decide) ?_
  refine GL.val (v := (.int .i64 (((n + 5 : Nat) : Int)))) (Ex.add rfl rfl (Z := ((n + 5 : Nat) : Int)) (by rw [w64 (by omega)]; rfl)) (by decide) ?_
  refine GL.step (Stp.makeSlice (a1 := n + 5) (c := n + 5) rfl rfl Try.underlying30 T.zr72 T.sz72 T.by72 rfl (Nat.le_refl _) (by omega) (by omega) (by decide)) (fun bq1 _ => ?_)
  rw [madeCells_one]
  refine GL.val (Ex.assign rfl) (by decide) ?_
  refine GL.nil ?_
  refine GE.thenN ?_
  refine GC.seq ?_
  refine GC.region ?_
  refine GL.val (Ex.move rfl) (by decide) ?_
  refine GL.val (Ex.move rfl) (by decide) ?_
  refine GL.step (Stp.copyO (i := 0) (vs := xs.map u32) (L1 := (⟨bq1, roomC xs 0, 72, true⟩ :: ⟨rb, [(.slice (some ⟨b1, 0, none⟩) n1 c1), (.slice (some ⟨b2, 0, none⟩) n1 c2), (.slice none 0 0), (.slice none 0 0), (.slice none 0 0), (.slice none 0 0), (.slice none 0 0), (.slice none 0 0)], 44, true⟩ :: ⟨b1, xs1 ++ sp1, 30, true⟩ :: ⟨b2, xs2 ++ sp2, 30, true⟩ :: R)) rfl rfl Try.underlying30 T.sz72 rfl (hs.2.2.2.imp id (fun ⟨b', o', e, hr⟩ => ⟨b', o', e, fun wz hz => hz.rd hr (fun x => x)⟩)) (by simpa using hs.1) (by omega) (by simp) (u32_one xs) (by rw [roomC_zero xs hs.1]; rfl) (by decide)) (fun _ _ => ?_)
  refine GL.nil ?_
  refine GE.thenN ?_
  refine GC.seq ?_
  refine GC.seq ?_
  refine GC.region ?_
  refine GL.val (Ex.move rfl) (by decide) ?_
  refine GL.val (v := (.int .i64 ((n : Int)))) (Ex.len rfl Try.underlying30) (by decide) ?_
  refine GL.val (Ex.assign rfl) (by decide) ?_
  refine GL.nil ?_
  refine GE.thenN ?_
  refine GC.block ?_
  refine GC.loop (σ := Nat) (fun k => k ≤ 5) (fun k => [(0, (.pointer (some ⟨rb, 0, none⟩))), (1, (.slice ad n cap)), (5, (.slice (some ⟨bq1, 0, none⟩) (n + 5) (n + 5))), (6, (.int .i64 (((n + k : Nat) : Int))))]) (fun k => (⟨bq1, roomC xs k, 72, true⟩ :: ⟨rb, [(.slice (some ⟨b1, 0, none⟩) n1 c1), (.slice (some ⟨b2, 0, none⟩) n1 c2), (.slice none 0 0), (.slice none 0 0), (.slice none 0 0), (.slice none 0 0), (.slice none 0 0), (.slice none 0 0)], 44, true⟩ :: ⟨b1, xs1 ++ sp1, 30, true⟩ :: ⟨b2, xs2 ++ sp2, 30, true⟩ :: R)) (fun k => 5 - k) (0) (by decide) ((sub_cons rfl ((sub_cons rfl ((sub_cons rfl ((sub_cons rfl ((sub_nil _)))))))))) (ulC (ulC (ulC (ulC ulR)))) (fun k hp => ?_)
  refine GC.seq ?_
  refine GC.seq ?_
  refine GC.region ?_
  refine GL.val (Ex.move rfl) (by decide) ?_
  refine GL.val (Ex.move rfl) (by decide) ?_
  refine GL.val (v := (.int .i64 (((n + 5) : Int)))) (Ex.len rfl Try.underlying30) (by decide) ?_
  refine GL.val (v := (.bool (decide ((((n + k : Nat) : Int)) < (((n + 5) : Int)))))) (Ex.lss rfl rfl) (by decide) ?_
  refine GL.nil ?_
  refine GE.thenN ?_
  refine GC.cond rfl (fun hq2 => ?_) (fun hq2 => ?_)
  · replace hq2 := of_decide_eq_true hq2
    refine GC.skip ?_
    refine GE.thenN ?_
    refine GC.seq ?_
    refine GC.block ?_
    refine GC.region ?_
    refine GL.val (Ex.move rfl) (by decide) ?_
    refine GL.val (Ex.move rfl) (by decide) ?_
    refine GL.val (Ex.move rfl) (by decide) ?_
    refine GL.val (v := (.int .i64 (2141192202 + (((n + k : Nat) : Int))))) (Ex.add rfl rfl (Z := 2141192202 + (((n + k : Nat) : Int))) (w64 (by omega))) (by decide) ?_
    refine GL.val (v := (.int .u32 (fil (n + k)))) (Ex.conv rfl Try.underlying3 Try.underlying72 (Z := fil (n + k)) (by rw [wu32]; rfl)) (by decide) ?_
    refine GL.val (v := (.pointer (some ⟨bq1, n + k, none⟩))) (Ex.cast (Ex.indexAddr rfl rfl Try.underlying30 T.sz72 (by omega) (by omega)) (by simp)) (by decide) ?_
    refine GL.step (Stp.storeL (i := 0) (cs := roomC xs k) (vs := [.int .u32 (fil (n + k))]) (o := n + k) (L1 := (⟨bq1, roomC xs (k + 1), 72, true⟩ :: ⟨rb, [(.slice (some ⟨b1, 0, none⟩) n1 c1), (.slice (some ⟨b2, 0, none⟩) n1 c2), (.slice none 0 0), (.slice none 0 0), (.slice none 0 0), (.slice none 0 0), (.slice none 0 0), (.slice none 0 0)], 44, true⟩ :: ⟨b1, xs1 ++ sp1, 30, true⟩ :: ⟨b2, xs2 ++ sp2, 30, true⟩ :: R)) rfl rfl rfl T.sz72 rfl (Nat.ble_eq_true_of_le (by rw [roomC_len (by omega)]; simp; omega)) rfl (by rw [roomC_store hs.1 (by omega)]; rfl)) (fun _ _ => ?_)
    refine GL.nil ?_
    refine GE.blockN ?_
    refine GE.thenN ?_
    refine GC.region ?_
    refine GL.val (Ex.move rfl) (by decide) ?_
    refine GL.val (v := (.int .i64 (((n + (k + 1) : Nat) : Int)))) (Ex.add rfl rfl (Z := ((n + (k + 1) : Nat) : Int)) (by rw [w64 (by omega)]; simp only [Int.natCast_add]; omega)) (by decide) ?_
    refine GL.val (Ex.assign rfl) (by decide) ?_
    refine GL.nil ?_
    refine GE.thenN ?_
    exact Head.mk (k + 1) (by omega) (by omega) ((sub_cons rfl ((sub_cons rfl ((sub_cons rfl ((sub_cons rfl ((sub_nil _)))))))))) (ulC (ulC (ulC (ulC ulR))))
  · replace hq2 := of_decide_eq_false hq2
    refine GC.exit ?_
    refine GE.thenE ?_
    refine GE.thenE ?_
    refine GE.blockE ?_
    refine GE.thenN ?_
    refine GC.seq ?_
    obtain rfl : k = 5 := by omega
    rw [roomC_full]
    refine GC.region ?_
    refine GL.val (Ex.move rfl) (by decide) ?_
    refine GL.val (Ex.move rfl) (by decide) ?_
    refine GL.val (v := (.pointer (some ⟨rb, 0, none⟩))) (Ex.nilCheck rfl) (by decide) ?_
    refine GL.val (v := (.pointer (some ⟨rb, 0, none⟩))) (Ex.cast (Ex.fieldAddr rfl Try.underlying44 rfl T.sz34 (by decide)) rfl) (by decide) ?_
    refine GL.val (Ex.load rfl T.ag34 (i := 1) rfl rfl) (by decide) ?_
    refine GL.val (Ex.move rfl) (by decide) ?_
    refine GL.step (Stp.buildSlice (cs := [(.slice (some ⟨bq1, 0, none⟩) (n + 5) (n + 5))]) (vs := [(0, (.slice (some ⟨bq1, 0, none⟩) (n + 5) (n + 5)))]) Try.underlying34 T.zr30 T.sz30 rfl (by decide) (by decide) (by first | rfl | kernel_rfl) (by decide)) (fun bq3 _ => ?_)
    refine GL.step (Stp.appendOwn (i := 3) (xs := xs1) (sp := sp1) (vs := [(.slice (some ⟨bq1, 0, none⟩) (n + 5) (n + 5))]) (L1 := (⟨bq3, [(.slice (some ⟨bq1, 0, none⟩) (n + 5) (n + 5))], 30, true⟩ :: ⟨bq1, (roomL xs).map u32, 72, true⟩ :: ⟨rb, [(.slice (some ⟨b1, 0, none⟩) n1 c1), (.slice (some ⟨b2, 0, none⟩) n1 c2), (.slice none 0 0), (.slice none 0 0), (.slice none 0 0), (.slice none 0 0), (.slice none 0 0), (.slice none 0 0)], 44, true⟩ :: ⟨b2, xs2 ++ sp2, 30, true⟩ :: R)) rfl rfl Try.underlying34 T.sz30 T.zr30 rfl T.by30 rfl (by omega) hc1 (fun wz hz => hz.rdOf (i := 0) rfl 0) rfl rfl (by omega) (by omega) rfl (by decide)) (fun xq4 hq5 => ?_)
    refine GL.val (v := (.pointer (some ⟨rb, 0, none⟩))) (Ex.nilCheck rfl) (by decide) ?_
    refine GL.val (v := (.pointer (some ⟨rb, 0, none⟩))) (Ex.cast (Ex.fieldAddr rfl Try.underlying44 rfl T.sz34 (by decide)) rfl) (by decide) ?_
    refine GL.step (Stp.st3 (cs' := [(.slice (some ⟨xq4.1, 0, none⟩) (n1 + 1) xq4.2.1), (.slice (some ⟨b2, 0, none⟩) n1 c2), (.slice none 0 0), (.slice none 0 0), (.slice none 0 0), (.slice none 0 0), (.slice none 0 0), (.slice none 0 0)]) rfl rfl rfl T.sz34 rfl rfl rfl) (fun _ _ => ?_)
    refine GL.nil ?_
    refine GE.thenN ?_
    refine GC.seq ?_
    refine GC.draw (⟨xq4.1, xs1 ++ [(.slice (some ⟨bq1, 0, none⟩) (n + 5) (n + 5))] ++ xq4.2.2, 30, true⟩ :: ⟨bq3, [(.slice (some ⟨bq1, 0, none⟩) (n + 5) (n + 5))], 30, true⟩ :: ⟨bq1, (roomL xs).map u32, 72, true⟩ :: R) T.mixed (fuel := 12) rfl rfl ?_
    refine GH.take 0 (v := (.pointer (some ⟨rb, 0, none⟩))) rfl (by kernel_rfl) (by kernel_rfl) (by kernel_rfl) (fun _ _ _ h => h) (Ex.move rfl) (ulC (ulC (ulC (ulS (ulS ulR))))) (by decide) ?_
    refine GH.take 1 (v := (.pointer (some ⟨rb, 0, none⟩))) rfl (by kernel_rfl) (by kernel_rfl) (by kernel_rfl) (fun _ _ _ h => h) (Ex.move rfl) (ulC (ulC (ulC (ulS (ulS ulR))))) (by decide) ?_
    refine GH.take 5 (v := (.slice (some ⟨bq1, 0, none⟩) (n + 5) (n + 5))) rfl (by kernel_rfl) (by kernel_rfl) (by kernel_rfl) (fun _ _ _ h => h) (Ex.move rfl) (ulC (ulC (ulC (ulS (ulS ulR))))) (by decide) ?_
    refine GH.many (rs := [2, 6]) (by kernel_rfl) (by simp) ?_
    refine GHs.cons rfl (Ex.wp (v := (.pointer (some ⟨rb, 0, none⟩))) (Ex.nilCheck rfl) (by decide)) (fun _ => (ulC (ulC (ulC (ulS (ulS ulR)))))) (fun _ _ => ?_) ?_
    · refine GH.take 3 (v := (.pointer (some ⟨rb, 1, none⟩))) rfl (by kernel_rfl) (by kernel_rfl) (by kernel_rfl) (fun _ _ _ h => h) (Ex.cast (Ex.fieldAddr rfl Try.underlying44 rfl T.sz34 (by decide)) rfl) (ulC (ulC (ulC (ulS (ulS ulR))))) (by decide) ?_
      refine GH.many (rs := [4, 6]) (by kernel_rfl) (by simp) ?_
      refine GHs.cons rfl (Ex.wp (v := (.slice (some ⟨b2, 0, none⟩) n1 c2)) (Ex.load rfl T.ag34 (i := 3) rfl rfl) (by decide)) (fun _ => (ulC (ulC (ulC (ulS (ulS ulR)))))) (fun _ _ => ?_) ?_
      · refine GH.one 6 rfl (by kernel_rfl) (Stp.appendNil (vs := (roomL xs).map u32) rfl rfl Try.underlying30 T.sz72 T.zr72 rfl T.by72 (fun wz hz => hz.rdOf (i := 2) rfl 0) (by simp [roomL_len, hs.1]) (by omega) (by omega) (by omega) (by decide)) (fun _ => (ulS (ulC (ulC (ulC (ulS (ulS ulR))))))) (fun xq6 hq7 => ?_)
        refine GH.one 7 rfl (by kernel_rfl) (Stp.buildSlice (cs := [(.slice (some ⟨xq6.1, 0, none⟩) (n + 5) xq6.2.1)]) (vs := [(0, (.slice (some ⟨xq6.1, 0, none⟩) (n + 5) xq6.2.1))]) Try.underlying34 T.zr30 T.sz30 rfl (by decide) (by decide) (by first | rfl | kernel_rfl) (by decide)) (fun _ => (ulS (ulS (ulC (ulC (ulC (ulS (ulS ulR)))))))) (fun bq8 _ => ?_)
        refine GH.one 8 rfl (by kernel_rfl) (Stp.appendOwn (i := 6) (xs := xs2) (sp := sp2) (vs := [(.slice (some ⟨xq6.1, 0, none⟩) (n + 5) xq6.2.1)]) (L1 := (⟨bq8, [(.slice (some ⟨xq6.1, 0, none⟩) (n + 5) xq6.2.1)], 30, true⟩ :: ⟨xq6.1, (roomL xs).map u32 ++ xq6.2.2, 72, true⟩ :: ⟨xq4.1, xs1 ++ [(.slice (some ⟨bq1, 0, none⟩) (n + 5) (n + 5))] ++ xq4.2.2, 30, true⟩ :: ⟨bq3, [(.slice (some ⟨bq1, 0, none⟩) (n + 5) (n + 5))], 30, true⟩ :: ⟨bq1, (roomL xs).map u32, 72, true⟩ :: ⟨rb, [(.slice (some ⟨xq4.1, 0, none⟩) (n1 + 1) xq4.2.1), (.slice (some ⟨b2, 0, none⟩) n1 c2), (.slice none 0 0), (.slice none 0 0), (.slice none 0 0), (.slice none 0 0), (.slice none 0 0), (.slice none 0 0)], 44, true⟩ :: R)) rfl rfl Try.underlying34 T.sz30 T.zr30 rfl T.by30 rfl (by omega) hc2 (fun wz hz => hz.rdOf (i := 0) rfl 0) rfl rfl (by omega) (by omega) rfl (by decide)) (fun _ => (ulS (ulS (ulS (ulC (ulC (ulC (ulS ulR)))))))) (fun xq9 hq10 => ?_)
        refine GH.one 9 rfl (by kernel_rfl) (Ex.wp (v := (.pointer (some ⟨rb, 0, none⟩))) (Ex.nilCheck rfl) (by decide)) (fun _ => (ulS (ulS (ulS (ulC (ulC (ulC (ulS ulR)))))))) (fun _ _ => ?_)
        refine GH.take 10 (v := (.pointer (some ⟨rb, 1, none⟩))) rfl (by kernel_rfl) (by kernel_rfl) (by kernel_rfl) (fun _ _ _ h => h) (Ex.cast (Ex.fieldAddr rfl Try.underlying44 rfl T.sz34 (by decide)) rfl) (ulS (ulS (ulS (ulC (ulC (ulC (ulS ulR))))))) (by decide) ?_
        refine GH.one 11 rfl (by kernel_rfl) (Stp.st6 (cs' := [(.slice (some ⟨xq4.1, 0, none⟩) (n1 + 1) xq4.2.1), (.slice (some ⟨xq9.1, 0, none⟩) (n1 + 1) xq9.2.1), (.slice none 0 0), (.slice none 0 0), (.slice none 0 0), (.slice none 0 0), (.slice none 0 0), (.slice none 0 0)]) rfl rfl rfl T.sz34 rfl rfl rfl) (fun _ => (ulS (ulS (ulS (ulC (ulC (ulC (ulS ulR)))))))) (fun _ _ => ?_)
        refine GH.done (by kernel_rfl) ?_
        refine GE.thenN ?_
        refine GC.seq ?_
        refine GC.region ?_
        refine GL.val (Ex.move rfl) (by decide) ?_
        refine GL.val (Ex.move rfl) (by decide) ?_
        refine GL.val (v := (.int .i64 ((n : Int)))) (Ex.len rfl Try.underlying30) (by decide) ?_
        refine GL.val (v := (.slice (some ⟨bq1, 0, none⟩) n (n + 5))) (Ex.sliceH (m := n) rfl rfl Try.underlying30 T.sz72 rfl (by omega)) (by decide) ?_
        refine GL.val (Ex.assign rfl) (by decide) ?_
        refine GL.nil ?_
        refine GE.thenN ?_
        refine GC.ret ?_
        refine GC.ret1 rfl (Rv.tmp rfl) (fun wN HN => ?_)
        exact HN.frm (xq9, xq6, xq4, bq1) ⟨hq5.1, hq10.1⟩ (by rfl) (ulC (ulS (ulC (ulC (ulS (ulC (ulC ulR)))))))
      refine GHs.cons rfl (Stp.appendNil (vs := (roomL xs).map u32) rfl rfl Try.underlying30 T.sz72 T.zr72 rfl T.by72 (fun wz hz => hz.rdOf (i := 2) rfl 0) (by simp [roomL_len, hs.1]) (by omega) (by omega) (by omega) (by decide)) (fun _ => (ulS (ulC (ulC (ulC (ulS (ulS ulR))))))) (fun xq11 hq12 => ?_) ?_
      · refine GH.many (rs := [4, 7]) (by kernel_rfl) (by simp) ?_
        refine GHs.cons rfl (Ex.wp (v := (.slice (some ⟨b2, 0, none⟩) n1 c2)) (Ex.load rfl T.ag34 (i := 4) rfl rfl) (by decide)) (fun _ => (ulS (ulC (ulC (ulC (ulS (ulS ulR))))))) (fun _ _ => ?_) ?_
        · refine GH.one 7 rfl (by kernel_rfl) (Stp.buildSlice (cs := [(.slice (some ⟨xq11.1, 0, none⟩) (n + 5) xq11.2.1)]) (vs := [(0, (.slice (some ⟨xq11.1, 0, none⟩) (n + 5) xq11.2.1))]) Try.underlying34 T.zr30 T.sz30 rfl (by decide) (by decide) (by first | rfl | kernel_rfl) (by decide)) (fun _ => (ulS (ulS (ulC (ulC (ulC (ulS (ulS ulR)))))))) (fun bq13 _ => ?_)
          refine GH.one 8 rfl (by kernel_rfl) (Stp.appendOwn (i := 6) (xs := xs2) (sp := sp2) (vs := [(.slice (some ⟨xq11.1, 0, none⟩) (n + 5) xq11.2.1)]) (L1 := (⟨bq13, [(.slice (some ⟨xq11.1, 0, none⟩) (n + 5) xq11.2.1)], 30, true⟩ :: ⟨xq11.1, (roomL xs).map u32 ++ xq11.2.2, 72, true⟩ :: ⟨xq4.1, xs1 ++ [(.slice (some ⟨bq1, 0, none⟩) (n + 5) (n + 5))] ++ xq4.2.2, 30, true⟩ :: ⟨bq3, [(.slice (some ⟨bq1, 0, none⟩) (n + 5) (n + 5))], 30, true⟩ :: ⟨bq1, (roomL xs).map u32, 72, true⟩ :: ⟨rb, [(.slice (some ⟨xq4.1, 0, none⟩) (n1 + 1) xq4.2.1), (.slice (some ⟨b2, 0, none⟩) n1 c2), (.slice none 0 0), (.slice none 0 0), (.slice none 0 0), (.slice none 0 0), (.slice none 0 0), (.slice none 0 0)], 44, true⟩ :: R)) rfl rfl Try.underlying34 T.sz30 T.zr30 rfl T.by30 rfl (by omega) hc2 (fun wz hz => hz.rdOf (i := 0) rfl 0) rfl rfl (by omega) (by omega) rfl (by decide)) (fun _ => (ulS (ulS (ulS (ulC (ulC (ulC (ulS ulR)))))))) (fun xq14 hq15 => ?_)
          refine GH.one 9 rfl (by kernel_rfl) (Ex.wp (v := (.pointer (some ⟨rb, 0, none⟩))) (Ex.nilCheck rfl) (by decide)) (fun _ => (ulS (ulS (ulS (ulC (ulC (ulC (ulS ulR)))))))) (fun _ _ => ?_)
          refine GH.take 10 (v := (.pointer (some ⟨rb, 1, none⟩))) rfl (by kernel_rfl) (by kernel_rfl) (by kernel_rfl) (fun _ _ _ h => h) (Ex.cast (Ex.fieldAddr rfl Try.underlying44 rfl T.sz34 (by decide)) rfl) (ulS (ulS (ulS (ulC (ulC (ulC (ulS ulR))))))) (by decide) ?_
          refine GH.one 11 rfl (by kernel_rfl) (Stp.st6 (cs' := [(.slice (some ⟨xq4.1, 0, none⟩) (n1 + 1) xq4.2.1), (.slice (some ⟨xq14.1, 0, none⟩) (n1 + 1) xq14.2.1), (.slice none 0 0), (.slice none 0 0), (.slice none 0 0), (.slice none 0 0), (.slice none 0 0), (.slice none 0 0)]) rfl rfl rfl T.sz34 rfl rfl rfl) (fun _ => (ulS (ulS (ulS (ulC (ulC (ulC (ulS ulR)))))))) (fun _ _ => ?_)
          refine GH.done (by kernel_rfl) ?_
          refine GE.thenN ?_
          refine GC.seq ?_
          refine GC.region ?_
          refine GL.val (Ex.move rfl) (by decide) ?_
          refine GL.val (Ex.move rfl) (by decide) ?_
          refine GL.val (v := (.int .i64 ((n : Int)))) (Ex.len rfl Try.underlying30) (by decide) ?_
          refine GL.val (v := (.slice (some ⟨bq1, 0, none⟩) n (n + 5))) (Ex.sliceH (m := n) rfl rfl Try.underlying30 T.sz72 rfl (by omega)) (by decide) ?_
          refine GL.val (Ex.assign rfl) (by decide) ?_
          refine GL.nil ?_
          refine GE.thenN ?_
          refine GC.ret ?_
          refine GC.ret1 rfl (Rv.tmp rfl) (fun wN HN => ?_)
          exact HN.frm (xq14, xq11, xq4, bq1) ⟨hq5.1, hq15.1⟩ (by rfl) (ulC (ulS (ulC (ulC (ulS (ulC (ulC ulR)))))))
        refine GHs.cons rfl (Stp.buildSlice (cs := [(.slice (some ⟨xq11.1, 0, none⟩) (n + 5) xq11.2.1)]) (vs := [(0, (.slice (some ⟨xq11.1, 0, none⟩) (n + 5) xq11.2.1))]) Try.underlying34 T.zr30 T.sz30 rfl (by decide) (by decide) (by first | rfl | kernel_rfl) (by decide)) (fun _ => (ulS (ulS (ulC (ulC (ulC (ulS (ulS ulR)))))))) (fun bq16 _ => ?_) ?_
        · refine GH.one 4 rfl (by kernel_rfl) (Ex.wp (v := (.slice (some ⟨b2, 0, none⟩) n1 c2)) (Ex.load rfl T.ag34 (i := 5) rfl rfl) (by decide)) (fun _ => (ulS (ulS (ulC (ulC (ulC (ulS (ulS ulR)))))))) (fun _ _ => ?_)
          refine GH.one 8 rfl (by kernel_rfl) (Stp.appendOwn (i := 6) (xs := xs2) (sp := sp2) (vs := [(.slice (some ⟨xq11.1, 0, none⟩) (n + 5) xq11.2.1)]) (L1 := (⟨bq16, [(.slice (some ⟨xq11.1, 0, none⟩) (n + 5) xq11.2.1)], 30, true⟩ :: ⟨xq11.1, (roomL xs).map u32 ++ xq11.2.2, 72, true⟩ :: ⟨xq4.1, xs1 ++ [(.slice (some ⟨bq1, 0, none⟩) (n + 5) (n + 5))] ++ xq4.2.2, 30, true⟩ :: ⟨bq3, [(.slice (some ⟨bq1, 0, none⟩) (n + 5) (n + 5))], 30, true⟩ :: ⟨bq1, (roomL xs).map u32, 72, true⟩ :: ⟨rb, [(.slice (some ⟨xq4.1, 0, none⟩) (n1 + 1) xq4.2.1), (.slice (some ⟨b2, 0, none⟩) n1 c2), (.slice none 0 0), (.slice none 0 0), (.slice none 0 0), (.slice none 0 0), (.slice none 0 0), (.slice none 0 0)], 44, true⟩ :: R)) rfl rfl Try.underlying34 T.sz30 T.zr30 rfl T.by30 rfl (by omega) hc2 (fun wz hz => hz.rdOf (i := 0) rfl 0) rfl rfl (by omega) (by omega) rfl (by decide)) (fun _ => (ulS (ulS (ulS (ulC (ulC (ulC (ulS ulR)))))))) (fun xq17 hq18 => ?_)
          refine GH.one 9 rfl (by kernel_rfl) (Ex.wp (v := (.pointer (some ⟨rb, 0, none⟩))) (Ex.nilCheck rfl) (by decide)) (fun _ => (ulS (ulS (ulS (ulC (ulC (ulC (ulS ulR)))))))) (fun _ _ => ?_)
          refine GH.take 10 (v := (.pointer (some ⟨rb, 1, none⟩))) rfl (by kernel_rfl) (by kernel_rfl) (by kernel_rfl) (fun _ _ _ h => h) (Ex.cast (Ex.fieldAddr rfl Try.underlying44 rfl T.sz34 (by decide)) rfl) (ulS (ulS (ulS (ulC (ulC (ulC (ulS ulR))))))) (by decide) ?_
          refine GH.one 11 rfl (by kernel_rfl) (Stp.st6 (cs' := [(.slice (some ⟨xq4.1, 0, none⟩) (n1 + 1) xq4.2.1), (.slice (some ⟨xq17.1, 0, none⟩) (n1 + 1) xq17.2.1), (.slice none 0 0), (.slice none 0 0), (.slice none 0 0), (.slice none 0 0), (.slice none 0 0), (.slice none 0 0)]) rfl rfl rfl T.sz34 rfl rfl rfl) (fun _ => (ulS (ulS (ulS (ulC (ulC (ulC (ulS ulR)))))))) (fun _ _ => ?_)
          refine GH.done (by kernel_rfl) ?_
          refine GE.thenN ?_
          refine GC.seq ?_
          refine GC.region ?_
          refine GL.val (Ex.move rfl) (by decide) ?_
          refine GL.val (Ex.move rfl) (by decide) ?_
          refine GL.val (v := (.int .i64 ((n : Int)))) (Ex.len rfl Try.underlying30) (by decide) ?_
          refine GL.val (v := (.slice (some ⟨bq1, 0, none⟩) n (n + 5))) (Ex.sliceH (m := n) rfl rfl Try.underlying30 T.sz72 rfl (by omega)) (by decide) ?_
          refine GL.val (Ex.assign rfl) (by decide) ?_
          refine GL.nil ?_
          refine GE.thenN ?_
          refine GC.ret ?_
          refine GC.ret1 rfl (Rv.tmp rfl) (fun wN HN => ?_)
          exact HN.frm (xq17, xq11, xq4, bq1) ⟨hq5.1, hq18.1⟩ (by rfl) (ulC (ulS (ulC (ulC (ulS (ulC (ulC ulR)))))))
        exact GHs.nil
      exact GHs.nil
    refine GHs.cons rfl (Stp.appendNil (vs := (roomL xs).map u32) rfl rfl Try.underlying30 T.sz72 T.zr72 rfl T.by72 (fun wz hz => hz.rdOf (i := 2) rfl 0) (by simp [roomL_len, hs.1]) (by omega) (by omega) (by omega) (by decide)) (fun _ => (ulS (ulC (ulC (ulC (ulS (ulS ulR))))))) (fun xq19 hq20 => ?_) ?_
    · refine GH.many (rs := [2, 7]) (by kernel_rfl) (by simp) ?_
      refine GHs.cons rfl (Ex.wp (v := (.pointer (some ⟨rb, 0, none⟩))) (Ex.nilCheck rfl) (by decide)) (fun _ => (ulS (ulC (ulC (ulC (ulS (ulS ulR))))))) (fun _ _ => ?_) ?_
      · refine GH.take 3 (v := (.pointer (some ⟨rb, 1, none⟩))) rfl (by kernel_rfl) (by kernel_rfl) (by kernel_rfl) (fun _ _ _ h => h) (Ex.cast (Ex.fieldAddr rfl Try.underlying44 rfl T.sz34 (by decide)) rfl) (ulS (ulC (ulC (ulC (ulS (ulS ulR)))))) (by decide) ?_
        refine GH.many (rs := [4, 7]) (by kernel_rfl) (by simp) ?_
        refine GHs.cons rfl (Ex.wp (v := (.slice (some ⟨b2, 0, none⟩) n1 c2)) (Ex.load rfl T.ag34 (i := 4) rfl rfl) (by decide)) (fun _ => (ulS (ulC (ulC (ulC (ulS (ulS ulR))))))) (fun _ _ => ?_) ?_
        · refine GH.one 7 rfl (by kernel_rfl) (Stp.buildSlice (cs := [(.slice (some ⟨xq19.1, 0, none⟩) (n + 5) xq19.2.1)]) (vs := [(0, (.slice (some ⟨xq19.1, 0, none⟩) (n + 5) xq19.2.1))]) Try.underlying34 T.zr30 T.sz30 rfl (by decide) (by decide) (by first | rfl | kernel_rfl) (by decide)) (fun _ => (ulS (ulS (ulC (ulC (ulC (ulS (ulS ulR)))))))) (fun bq21 _ => ?_)
          refine GH.one 8 rfl (by kernel_rfl) (Stp.appendOwn (i := 6) (xs := xs2) (sp := sp2) (vs := [(.slice (some ⟨xq19.1, 0, none⟩) (n + 5) xq19.2.1)]) (L1 := (⟨bq21, [(.slice (some ⟨xq19.1, 0, none⟩) (n + 5) xq19.2.1)], 30, true⟩ :: ⟨xq19.1, (roomL xs).map u32 ++ xq19.2.2, 72, true⟩ :: ⟨xq4.1, xs1 ++ [(.slice (some ⟨bq1, 0, none⟩) (n + 5) (n + 5))] ++ xq4.2.2, 30, true⟩ :: ⟨bq3, [(.slice (some ⟨bq1, 0, none⟩) (n + 5) (n + 5))], 30, true⟩ :: ⟨bq1, (roomL xs).map u32, 72, true⟩ :: ⟨rb, [(.slice (some ⟨xq4.1, 0, none⟩) (n1 + 1) xq4.2.1), (.slice (some ⟨b2, 0, none⟩) n1 c2), (.slice none 0 0), (.slice none 0 0), (.slice none 0 0), (.slice none 0 0), (.slice none 0 0), (.slice none 0 0)], 44, true⟩ :: R)) rfl rfl Try.underlying34 T.sz30 T.zr30 rfl T.by30 rfl (by omega) hc2 (fun wz hz => hz.rdOf (i := 0) rfl 0) rfl rfl (by omega) (by omega) rfl (by decide)) (fun _ => (ulS (ulS (ulS (ulC (ulC (ulC (ulS ulR)))))))) (fun xq22 hq23 => ?_)
          refine GH.one 9 rfl (by kernel_rfl) (Ex.wp (v := (.pointer (some ⟨rb, 0, none⟩))) (Ex.nilCheck rfl) (by decide)) (fun _ => (ulS (ulS (ulS (ulC (ulC (ulC (ulS ulR)))))))) (fun _ _ => ?_)
          refine GH.take 10 (v := (.pointer (some ⟨rb, 1, none⟩))) rfl (by kernel_rfl) (by kernel_rfl) (by kernel_rfl) (fun _ _ _ h => h) (Ex.cast (Ex.fieldAddr rfl Try.underlying44 rfl T.sz34 (by decide)) rfl) (ulS (ulS (ulS (ulC (ulC (ulC (ulS ulR))))))) (by decide) ?_
          refine GH.one 11 rfl (by kernel_rfl) (Stp.st6 (cs' := [(.slice (some ⟨xq4.1, 0, none⟩) (n1 + 1) xq4.2.1), (.slice (some ⟨xq22.1, 0, none⟩) (n1 + 1) xq22.2.1), (.slice none 0 0), (.slice none 0 0), (.slice none 0 0), (.slice none 0 0), (.slice none 0 0), (.slice none 0 0)]) rfl rfl rfl T.sz34 rfl rfl rfl) (fun _ => (ulS (ulS (ulS (ulC (ulC (ulC (ulS ulR)))))))) (fun _ _ => ?_)
          refine GH.done (by kernel_rfl) ?_
          refine GE.thenN ?_
          refine GC.seq ?_
          refine GC.region ?_
          refine GL.val (Ex.move rfl) (by decide) ?_
          refine GL.val (Ex.move rfl) (by decide) ?_
          refine GL.val (v := (.int .i64 ((n : Int)))) (Ex.len rfl Try.underlying30) (by decide) ?_
          refine GL.val (v := (.slice (some ⟨bq1, 0, none⟩) n (n + 5))) (Ex.sliceH (m := n) rfl rfl Try.underlying30 T.sz72 rfl (by omega)) (by decide) ?_
          refine GL.val (Ex.assign rfl) (by decide) ?_
          refine GL.nil ?_
          refine GE.thenN ?_
          refine GC.ret ?_
          refine GC.ret1 rfl (Rv.tmp rfl) (fun wN HN => ?_)
          exact HN.frm (xq22, xq19, xq4, bq1) ⟨hq5.1, hq23.1⟩ (by rfl) (ulC (ulS (ulC (ulC (ulS (ulC (ulC ulR)))))))
        refine GHs.cons rfl (Stp.buildSlice (cs := [(.slice (some ⟨xq19.1, 0, none⟩) (n + 5) xq19.2.1)]) (vs := [(0, (.slice (some ⟨xq19.1, 0, none⟩) (n + 5) xq19.2.1))]) Try.underlying34 T.zr30 T.sz30 rfl (by decide) (by decide) (by first | rfl | kernel_rfl) (by decide)) (fun _ => (ulS (ulS (ulC (ulC (ulC (ulS (ulS ulR)))))))) (fun bq24 _ => ?_) ?_
        · refine GH.one 4 rfl (by kernel_rfl) (Ex.wp (v := (.slice (some ⟨b2, 0, none⟩) n1 c2)) (Ex.load rfl T.ag34 (i := 5) rfl rfl) (by decide)) (fun _ => (ulS (ulS (ulC (ulC (ulC (ulS (ulS ulR)))))))) (fun _ _ => ?_)
          refine GH.one 8 rfl (by kernel_rfl) (Stp.appendOwn (i := 6) (xs := xs2) (sp := sp2) (vs := [(.slice (some ⟨xq19.1, 0, none⟩) (n + 5) xq19.2.1)]) (L1 := (⟨bq24, [(.slice (some ⟨xq19.1, 0, none⟩) (n + 5) xq19.2.1)], 30, true⟩ :: ⟨xq19.1, (roomL xs).map u32 ++ xq19.2.2, 72, true⟩ :: ⟨xq4.1, xs1 ++ [(.slice (some ⟨bq1, 0, none⟩) (n + 5) (n + 5))] ++ xq4.2.2, 30, true⟩ :: ⟨bq3, [(.slice (some ⟨bq1, 0, none⟩) (n + 5) (n + 5))], 30, true⟩ :: ⟨bq1, (roomL xs).map u32, 72, true⟩ :: ⟨rb, [(.slice (some ⟨xq4.1, 0, none⟩) (n1 + 1) xq4.2.1), (.slice (some ⟨b2, 0, none⟩) n1 c2), (.slice none 0 0), (.slice none 0 0), (.slice none 0 0), (.slice none 0 0), (.slice none 0 0), (.slice none 0 0)], 44, true⟩ :: R)) rfl rfl Try.underlying34 T.sz30 T.zr30 rfl T.by30 rfl (by omega) hc2 (fun wz hz => hz.rdOf (i := 0) rfl 0) rfl rfl (by omega) (by omega) rfl (by decide)) (fun _ => (ulS (ulS (ulS (ulC (ulC (ulC (ulS ulR)))))))) (fun xq25 hq26 => ?_)
          refine GH.one 9 rfl (by kernel_rfl) (Ex.wp (v := (.pointer (some ⟨rb, 0, none⟩))) (Ex.nilCheck rfl) (by decide)) (fun _ => (ulS (ulS (ulS (ulC (ulC (ulC (ulS ulR)))))))) (fun _ _ => ?_)
          refine GH.take 10 (v := (.pointer (some ⟨rb, 1, none⟩))) rfl (by kernel_rfl) (by kernel_rfl) (by kernel_rfl) (fun _ _ _ h => h) (Ex.cast (Ex.fieldAddr rfl Try.underlying44 rfl T.sz34 (by decide)) rfl) (ulS (ulS (ulS (ulC (ulC (ulC (ulS ulR))))))) (by decide) ?_
          refine GH.one 11 rfl (by kernel_rfl) (Stp.st6 (cs' := [(.slice (some ⟨xq4.1, 0, none⟩) (n1 + 1) xq4.2.1), (.slice (some ⟨xq25.1, 0, none⟩) (n1 + 1) xq25.2.1), (.slice none 0 0), (.slice none 0 0), (.slice none 0 0), (.slice none 0 0), (.slice none 0 0), (.slice none 0 0)]) rfl rfl rfl T.sz34 rfl rfl rfl) (fun _ => (ulS (ulS (ulS (ulC (ulC (ulC (ulS ulR)))))))) (fun _ _ => ?_)
          refine GH.done (by kernel_rfl) ?_
          refine GE.thenN ?_
          refine GC.seq ?_
          refine GC.region ?_
          refine GL.val (Ex.move rfl) (by decide) ?_
          refine GL.val (Ex.move rfl) (by decide) ?_
          refine GL.val (v := (.int .i64 ((n : Int)))) (Ex.len rfl Try.underlying30) (by decide) ?_
          refine GL.val (v := (.slice (some ⟨bq1, 0, none⟩) n (n + 5))) (Ex.sliceH (m := n) rfl rfl Try.underlying30 T.sz72 rfl (by omega)) (by decide) ?_
          refine GL.val (Ex.assign rfl) (by decide) ?_
          refine GL.nil ?_
          refine GE.thenN ?_
          refine GC.ret ?_
          refine GC.ret1 rfl (Rv.tmp rfl) (fun wN HN => ?_)
          exact HN.frm (xq25, xq19, xq4, bq1) ⟨hq5.1, hq26.1⟩ (by rfl) (ulC (ulS (ulC (ulC (ulS (ulC (ulC ulR)))))))
        exact GHs.nil
      refine GHs.cons rfl (Stp.buildSlice (cs := [(.slice (some ⟨xq19.1, 0, none⟩) (n + 5) xq19.2.1)]) (vs := [(0, (.slice (some ⟨xq19.1, 0, none⟩) (n + 5) xq19.2.1))]) Try.underlying34 T.zr30 T.sz30 rfl (by decide) (by decide) (by first | rfl | kernel_rfl) (by decide)) (fun _ => (ulS (ulS (ulC (ulC (ulC (ulS (ulS ulR)))))))) (fun bq27 _ => ?_) ?_
      · refine GH.one 2 rfl (by kernel_rfl) (Ex.wp (v := (.pointer (some ⟨rb, 0, none⟩))) (Ex.nilCheck rfl) (by decide)) (fun _ => (ulS (ulS (ulC (ulC (ulC (ulS (ulS ulR)))))))) (fun _ _ => ?_)
        refine GH.take 3 (v := (.pointer (some ⟨rb, 1, none⟩))) rfl (by kernel_rfl) (by kernel_rfl) (by kernel_rfl) (fun _ _ _ h => h) (Ex.cast (Ex.fieldAddr rfl Try.underlying44 rfl T.sz34 (by decide)) rfl) (ulS (ulS (ulC (ulC (ulC (ulS (ulS ulR))))))) (by decide) ?_
        refine GH.one 4 rfl (by kernel_rfl) (Ex.wp (v := (.slice (some ⟨b2, 0, none⟩) n1 c2)) (Ex.load rfl T.ag34 (i := 5) rfl rfl) (by decide)) (fun _ => (ulS (ulS (ulC (ulC (ulC (ulS (ulS ulR)))))))) (fun _ _ => ?_)
        refine GH.one 8 rfl (by kernel_rfl) (Stp.appendOwn (i := 6) (xs := xs2) (sp := sp2) (vs := [(.slice (some ⟨xq19.1, 0, none⟩) (n + 5) xq19.2.1)]) (L1 := (⟨bq27, [(.slice (some ⟨xq19.1, 0, none⟩) (n + 5) xq19.2.1)], 30, true⟩ :: ⟨xq19.1, (roomL xs).map u32 ++ xq19.2.2, 72, true⟩ :: ⟨xq4.1, xs1 ++ [(.slice (some ⟨bq1, 0, none⟩) (n + 5) (n + 5))] ++ xq4.2.2, 30, true⟩ :: ⟨bq3, [(.slice (some ⟨bq1, 0, none⟩) (n + 5) (n + 5))], 30, true⟩ :: ⟨bq1, (roomL xs).map u32, 72, true⟩ :: ⟨rb, [(.slice (some ⟨xq4.1, 0, none⟩) (n1 + 1) xq4.2.1), (.slice (some ⟨b2, 0, none⟩) n1 c2), (.slice none 0 0), (.slice none 0 0), (.slice none 0 0), (.slice none 0 0), (.slice none 0 0), (.slice none 0 0)], 44, true⟩ :: R)) rfl rfl Try.underlying34 T.sz30 T.zr30 rfl T.by30 rfl (by omega) hc2 (fun wz hz => hz.rdOf (i := 0) rfl 0) rfl rfl (by omega) (by omega) rfl (by decide)) (fun _ => (ulS (ulS (ulS (ulC (ulC (ulC (ulS ulR)))))))) (fun xq28 hq29 => ?_)
        refine GH.one 9 rfl (by kernel_rfl) (Ex.wp (v := (.pointer (some ⟨rb, 0, none⟩))) (Ex.nilCheck rfl) (by decide)) (fun _ => (ulS (ulS (ulS (ulC (ulC (ulC (ulS ulR)))))))) (fun _ _ => ?_)
        refine GH.take 10 (v := (.pointer (some ⟨rb, 1, none⟩))) rfl (by kernel_rfl) (by kernel_rfl) (by kernel_rfl) (fun _ _ _ h => h) (Ex.cast (Ex.fieldAddr rfl Try.underlying44 rfl T.sz34 (by decide)) rfl) (ulS (ulS (ulS (ulC (ulC (ulC (ulS ulR))))))) (by decide) ?_
        refine GH.one 11 rfl (by kernel_rfl) (Stp.st6 (cs' := [(.slice (some ⟨xq4.1, 0, none⟩) (n1 + 1) xq4.2.1), (.slice (some ⟨xq28.1, 0, none⟩) (n1 + 1) xq28.2.1), (.slice none 0 0), (.slice none 0 0), (.slice none 0 0), (.slice none 0 0), (.slice none 0 0), (.slice none 0 0)]) rfl rfl rfl T.sz34 rfl rfl rfl) (fun _ => (ulS (ulS (ulS (ulC (ulC (ulC (ulS ulR)))))))) (fun _ _ => ?_)
        refine GH.done (by kernel_rfl) ?_
        refine GE.thenN ?_
        refine GC.seq ?_
        refine GC.region ?_
        refine GL.val (Ex.move rfl) (by decide) ?_
        refine GL.val (Ex.move rfl) (by decide) ?_
        refine GL.val (v := (.int .i64 ((n : Int)))) (Ex.len rfl Try.underlying30) (by decide) ?_
        refine GL.val (v := (.slice (some ⟨bq1, 0, none⟩) n (n + 5))) (Ex.sliceH (m := n) rfl rfl Try.underlying30 T.sz72 rfl (by omega)) (by decide) ?_
        refine GL.val (Ex.assign rfl) (by decide) ?_
        refine GL.nil ?_
        refine GE.thenN ?_
        refine GC.ret ?_
        refine GC.ret1 rfl (Rv.tmp rfl) (fun wN HN => ?_)
        exact HN.frm (xq28, xq19, xq4, bq1) ⟨hq5.1, hq29.1⟩ (by rfl) (ulC (ulS (ulC (ulC (ulS (ulC (ulC ulR)))))))
      exact GHs.nil
    exact GHs.nil

set_option maxRecDepth 100000 in
set_option maxHeartbeats 1000000 in
theorem room_s0 (w0 : World) (R : List Blk) (rb n cap : Nat) (ad : Option Addr) (xs : List Int) (w : World) (hs : Lst w0 ad n xs) (hb : n ≤ 35184372087808) (hp0 : Hp None w0 (⟨rb, [(.slice none 0 0), (.slice none 0 0), (.slice none 0 0), (.slice none 0 0), (.slice none 0 0), (.slice none 0 0), (.slice none 0 0), (.slice none 0 0)], 44, true⟩ :: R) w) :
    Calls Try.prog 46 #[(.pointer (some ⟨rb, 0, none⟩)), (.slice ad n cap)] w (Frm (σ := (Nat × Nat × List Value) × (Nat × Nat × List Value) × (Nat × Nat × List Value) × Nat) None w0 (fun x => ([(Value.slice (some ⟨x.2.2.2, 0, none⟩) (n + 5) (n + 5))] ++ x.2.2.1.2.2 : List Value).length = x.2.2.1.2.1 * 1 ∧ ([(Value.slice (some ⟨x.2.1.1, 0, none⟩) (n + 5) x.2.1.2.1)] ++ x.1.2.2 : List Value).length = x.1.2.1 * 1) (fun x => (.slice (some ⟨x.2.2.2, 0, none⟩) n (n + 5))) (fun x => (⟨x.1.1, [(Value.slice (some ⟨x.2.1.1, 0, none⟩) (n + 5) x.2.1.2.1)] ++ x.1.2.2, 30, true⟩ :: ⟨x.2.1.1, (roomL xs).map u32 ++ x.2.1.2.2, 72, true⟩ :: ⟨x.2.2.1.1, [(Value.slice (some ⟨x.2.2.2, 0, none⟩) (n + 5) (n + 5))] ++ x.2.2.1.2.2, 30, true⟩ :: ⟨x.2.2.2, (roomL xs).map u32, 72, true⟩ :: ⟨rb, [(.slice (some ⟨x.2.2.1.1, 0, none⟩) 1 x.2.2.1.2.1), (.slice (some ⟨x.1.1, 0, none⟩) 1 x.1.2.1), (.slice none 0 0), (.slice none 0 0), (.slice none 0 0), (.slice none 0 0), (.slice none 0 0), (.slice none 0 0)], 44, true⟩ :: R))) := by
  have hsl := hs.1
  refine enterF (w0 := w0) (M := None) (L := (⟨rb, [(.slice none 0 0), (.slice none 0 0), (.slice none 0 0), (.slice none 0 0), (.slice none 0 0), (.slice none 0 0), (.slice none 0 0), (.slice none 0 0)], 44, true⟩ :: R)) (n := 53) (l := [(0, (.pointer (some ⟨rb, 0, none⟩))), (1, (.slice ad n cap))]) Try.func46 rfl rfl (Args.cons rfl (Args.cons rfl (Args.nil _))) hp0 ?_
  refine GC.seq ?_
  refine GC.region ?_
  refine GL.val (Ex.assign rfl) (by decide) ?_
  refine GL.nil ?_
  refine GE.thenN ?_
  refine GC.seq ?_
  refine GC.region ?_
  refine GL.val (Ex.move rfl) (by decide) ?_
  refine GL.val (v := (.int .i64 ((n : Int)))) (Ex.len rfl Try.underlying30) (by decide) ?_
  refine GL.val (v := (.int .i64 (((n + 5 : Nat) : Int)))) (Ex.add rfl rfl (Z := ((n + 5 : Nat) : Int)) (by rw [w64 (by omega)]; rfl)) (by decide) ?_
  refine GL.step (Stp.makeSlice (a1 := n + 5) (c := n + 5) rfl rfl Try.underlying30 T.zr72 T.sz72 T.by72 rfl (Nat.le_refl _) (by omega) (by omega) (by decide)) (fun bq1 _ => ?_)
  rw [madeCells_one]
  refine GL.val (Ex.assign rfl) (by decide) ?_
  refine GL.nil ?_
  refine GE.thenN ?_
  refine GC.seq ?_
  refine GC.region ?_
  refine GL.val (Ex.move rfl) (by decide) ?_
  refine GL.val (Ex.move rfl) (by decide) ?_
  refine GL.step (Stp.copyO (i := 0) (vs := xs.map u32) (L1 := (⟨bq1, roomC xs 0, 72, true⟩ :: ⟨rb, [(.slice none 0 0), (.slice none 0 0), (.slice none 0 0), (.slice none 0 0), (.slice none 0 0), (.slice none 0 0), (.slice none 0 0), (.slice none 0 0)], 44, true⟩ :: R)) rfl rfl Try.underlying30 T.sz72 rfl (hs.2.2.2.imp id (fun ⟨b', o', e, hr⟩ => ⟨b', o', e, fun wz hz => hz.rd hr (fun x => x)⟩)) (by simpa using hs.1) (by omega) (by simp) (u32_one xs) (by rw [roomC_zero xs hs.1]; rfl) (by decide)) (fun _ _ => ?_)
  refine GL.nil ?_
  refine GE.thenN ?_
  refine GC.seq ?_
  refine GC.seq ?_
  refine GC.region ?_
  refine GL.val (Ex.move rfl) (by decide) ?_
  refine GL.val (v := (.int .i64 ((n : Int)))) (Ex.len rfl Try.underlying30) (by decide) ?_
  refine GL.val (Ex.assign rfl) (by decide) ?_
  refine GL.nil ?_
  refine GE.thenN ?_
  refine GC.block ?_
  refine GC.loop (σ := Nat) (fun k => k ≤ 5) (fun k => [(0, (.pointer (some ⟨rb, 0, none⟩))), (1, (.slice ad n cap)), (5, (.slice (some ⟨bq1, 0, none⟩) (n + 5) (n + 5))), (6, (.int .i64 (((n + k : Nat) : Int))))]) (fun k => (⟨bq1, roomC xs k, 72, true⟩ :: ⟨rb, [(.slice none 0 0), (.slice none 0 0), (.slice none 0 0), (.slice none 0 0), (.slice none 0 0), (.slice none 0 0), (.slice none 0 0), (.slice none 0 0)], 44, true⟩ :: R)) (fun k => 5 - k) (0) (by decide) ((sub_cons rfl ((sub_cons rfl ((sub_cons rfl ((sub_cons rfl ((sub_nil _)))))))))) (ulC (ulC ulR)) (fun k hp => ?_)
  refine GC.seq ?_
  refine GC.seq ?_
  refine GC.region ?_
  refine GL.val (Ex.move rfl) (by decide) ?_
  refine GL.val (Ex.move rfl) (by decide) ?_
  refine GL.val (v := (.int .i64 (((n + 5) : Int)))) (Ex.len rfl Try.underlying30) (by decide) ?_
  refine GL.val (v := (.bool (decide ((((n + k : Nat) : Int)) < (((n + 5) : Int)))))) (Ex.lss rfl rfl) (by decide) ?_
  refine GL.nil ?_
  refine GE.thenN ?_
  refine GC.cond rfl (fun hq2 => ?_) (fun hq2 => ?_)
  · replace hq2 := of_decide_eq_true hq2
    refine GC.skip ?_
    refine GE.thenN ?_
    refine GC.seq ?_
    refine GC.block ?_
    refine GC.region ?_
    refine GL.val (Ex.move rfl) (by decide) ?_
    refine GL.val (Ex.move rfl) (by decide) ?_
    refine GL.val (Ex.move rfl) (by decide) ?_
    refine GL.val (v := (.int .i64 (2141192202 + (((n + k : Nat) : Int))))) (Ex.add rfl rfl (Z := 2141192202 + (((n + k : Nat) : Int))) (w64 (by omega))) (by decide) ?_
    refine GL.val (v := (.int .u32 (fil (n + k)))) (Ex.conv rfl Try.underlying3 Try.underlying72 (Z := fil (n + k)) (by rw [wu32]; rfl)) (by decide) ?_
    refine GL.val (v := (.pointer (some ⟨bq1, n + k, none⟩))) (Ex.cast (Ex.indexAddr rfl rfl Try.underlying30 T.sz72 (by omega) (by omega)) (by simp)) (by decide) ?_
    refine GL.step (Stp.storeL (i := 0) (cs := roomC xs k) (vs := [.int .u32 (fil (n + k))]) (o := n + k) (L1 := (⟨bq1, roomC xs (k + 1), 72, true⟩ :: ⟨rb, [(.slice none 0 0), (.slice none 0 0), (.slice none 0 0), (.slice none 0 0), (.slice none 0 0), (.slice none 0 0), (.slice none 0 0), (.slice none 0 0)], 44, true⟩ :: R)) rfl rfl rfl T.sz72 rfl (Nat.ble_eq_true_of_le (by rw [roomC_len (by omega)]; simp; omega)) rfl (by rw [roomC_store hs.1 (by omega)]; rfl)) (fun _ _ => ?_)
    refine GL.nil ?_
    refine GE.blockN ?_
    refine GE.thenN ?_
    refine GC.region ?_
    refine GL.val (Ex.move rfl) (by decide) ?_
    refine GL.val (v := (.int .i64 (((n + (k + 1) : Nat) : Int)))) (Ex.add rfl rfl (Z := ((n + (k + 1) : Nat) : Int)) (by rw [w64 (by omega)]; simp only [Int.natCast_add]; omega)) (by decide) ?_
    refine GL.val (Ex.assign rfl) (by decide) ?_
    refine GL.nil ?_
    refine GE.thenN ?_
    exact Head.mk (k + 1) (by omega) (by omega) ((sub_cons rfl ((sub_cons rfl ((sub_cons rfl ((sub_cons rfl ((sub_nil _)))))))))) (ulC (ulC ulR))
  · replace hq2 := of_decide_eq_false hq2
    refine GC.exit ?_
    refine GE.thenE ?_
    refine GE.thenE ?_
    refine GE.blockE ?_
    refine GE.thenN ?_
    refine GC.seq ?_
    obtain rfl : k = 5 := by omega
    rw [roomC_full]
    refine GC.region ?_
    refine GL.val (Ex.move rfl) (by decide) ?_
    refine GL.val (Ex.move rfl) (by decide) ?_
    refine GL.val (v := (.pointer (some ⟨rb, 0, none⟩))) (Ex.nilCheck rfl) (by decide) ?_
    refine GL.val (v := (.pointer (some ⟨rb, 0, none⟩))) (Ex.cast (Ex.fieldAddr rfl Try.underlying44 rfl T.sz34 (by decide)) rfl) (by decide) ?_
    refine GL.val (Ex.load rfl T.ag34 (i := 1) rfl rfl) (by decide) ?_
    refine GL.val (Ex.move rfl) (by decide) ?_
    refine GL.step (Stp.buildSlice (cs := [(.slice (some ⟨bq1, 0, none⟩) (n + 5) (n + 5))]) (vs := [(0, (.slice (some ⟨bq1, 0, none⟩) (n + 5) (n + 5)))]) Try.underlying34 T.zr30 T.sz30 rfl (by decide) (by decide) (by first | rfl | kernel_rfl) (by decide)) (fun bq3 _ => ?_)
    refine GL.step (Stp.appendNil (vs := [(.slice (some ⟨bq1, 0, none⟩) (n + 5) (n + 5))]) rfl rfl Try.underlying34 T.sz30 T.zr30 rfl T.by30 (fun wz hz => hz.rdOf (i := 0) rfl 0) rfl (by decide) (by decide) (by decide) (by decide)) (fun xq4 hq5 => ?_)
    refine GL.val (v := (.pointer (some ⟨rb, 0, none⟩))) (Ex.nilCheck rfl) (by decide) ?_
    refine GL.val (v := (.pointer (some ⟨rb, 0, none⟩))) (Ex.cast (Ex.fieldAddr rfl Try.underlying44 rfl T.sz34 (by decide)) rfl) (by decide) ?_
    refine GL.step (Stp.st3 (cs' := [(.slice (some ⟨xq4.1, 0, none⟩) 1 xq4.2.1), (.slice none 0 0), (.slice none 0 0), (.slice none 0 0), (.slice none 0 0), (.slice none 0 0), (.slice none 0 0), (.slice none 0 0)]) rfl rfl rfl T.sz34 rfl rfl rfl) (fun _ _ => ?_)
    refine GL.nil ?_
    refine GE.thenN ?_
    refine GC.seq ?_
    refine GC.draw (⟨xq4.1, [(.slice (some ⟨bq1, 0, none⟩) (n + 5) (n + 5))] ++ xq4.2.2, 30, true⟩ :: ⟨bq3, [(.slice (some ⟨bq1, 0, none⟩) (n + 5) (n + 5))], 30, true⟩ :: ⟨bq1, (roomL xs).map u32, 72, true⟩ :: R) T.mixed (fuel := 12) rfl rfl ?_
    refine GH.take 0 (v := (.pointer (some ⟨rb, 0, none⟩))) rfl (by kernel_rfl) (by kernel_rfl) (by kernel_rfl) (fun _ _ _ h => h) (Ex.move rfl) (ulC (ulC (ulC (ulS ulR)))) (by decide) ?_
    refine GH.take 1 (v := (.pointer (some ⟨rb, 0, none⟩))) rfl (by kernel_rfl) (by kernel_rfl) (by kernel_rfl) (fun _ _ _ h => h) (Ex.move rfl) (ulC (ulC (ulC (ulS ulR)))) (by decide) ?_
    refine GH.take 5 (v := (.slice (some ⟨bq1, 0, none⟩) (n + 5) (n + 5))) rfl (by kernel_rfl) (by kernel_rfl) (by kernel_rfl) (fun _ _ _ h => h) (Ex.move rfl) (ulC (ulC (ulC (ulS ulR)))) (by decide) ?_
    refine GH.many (rs := [2, 6]) (by kernel_rfl) (by simp) ?_
    refine GHs.cons rfl (Ex.wp (v := (.pointer (some ⟨rb, 0, none⟩))) (Ex.nilCheck rfl) (by decide)) (fun _ => (ulC (ulC (ulC (ulS ulR))))) (fun _ _ => ?_) ?_
    · refine GH.take 3 (v := (.pointer (some ⟨rb, 1, none⟩))) rfl (by kernel_rfl) (by kernel_rfl) (by kernel_rfl) (fun _ _ _ h => h) (Ex.cast (Ex.fieldAddr rfl Try.underlying44 rfl T.sz34 (by decide)) rfl) (ulC (ulC (ulC (ulS ulR)))) (by decide) ?_
      refine GH.many (rs := [4, 6]) (by kernel_rfl) (by simp) ?_
      refine GHs.cons rfl (Ex.wp (v := (.slice none 0 0)) (Ex.load rfl T.ag34 (i := 3) rfl rfl) (by decide)) (fun _ => (ulC (ulC (ulC (ulS ulR))))) (fun _ _ => ?_) ?_
      · refine GH.one 6 rfl (by kernel_rfl) (Stp.appendNil (vs := (roomL xs).map u32) rfl rfl Try.underlying30 T.sz72 T.zr72 rfl T.by72 (fun wz hz => hz.rdOf (i := 2) rfl 0) (by simp [roomL_len, hs.1]) (by omega) (by omega) (by omega) (by decide)) (fun _ => (ulS (ulC (ulC (ulC (ulS ulR)))))) (fun xq6 hq7 => ?_)
        refine GH.one 7 rfl (by kernel_rfl) (Stp.buildSlice (cs := [(.slice (some ⟨xq6.1, 0, none⟩) (n + 5) xq6.2.1)]) (vs := [(0, (.slice (some ⟨xq6.1, 0, none⟩) (n + 5) xq6.2.1))]) Try.underlying34 T.zr30 T.sz30 rfl (by decide) (by decide) (by first | rfl | kernel_rfl) (by decide)) (fun _ => (ulS (ulS (ulC (ulC (ulC (ulS ulR))))))) (fun bq8 _ => ?_)
        refine GH.one 8 rfl (by kernel_rfl) (Stp.appendNil (vs := [(.slice (some ⟨xq6.1, 0, none⟩) (n + 5) xq6.2.1)]) rfl rfl Try.underlying34 T.sz30 T.zr30 rfl T.by30 (fun wz hz => hz.rdOf (i := 0) rfl 0) rfl (by decide) (by decide) (by decide) (by decide)) (fun _ => (ulS (ulS (ulS (ulC (ulC (ulC (ulS ulR)))))))) (fun xq9 hq10 => ?_)
        refine GH.one 9 rfl (by kernel_rfl) (Ex.wp (v := (.pointer (some ⟨rb, 0, none⟩))) (Ex.nilCheck rfl) (by decide)) (fun _ => (ulS (ulS (ulS (ulC (ulC (ulC (ulS ulR)))))))) (fun _ _ => ?_)
        refine GH.take 10 (v := (.pointer (some ⟨rb, 1, none⟩))) rfl (by kernel_rfl) (by kernel_rfl) (by kernel_rfl) (fun _ _ _ h => h) (Ex.cast (Ex.fieldAddr rfl Try.underlying44 rfl T.sz34 (by decide)) rfl) (ulS (ulS (ulS (ulC (ulC (ulC (ulS ulR))))))) (by decide) ?_
        refine GH.one 11 rfl (by kernel_rfl) (Stp.st6 (cs' := [(.slice (some ⟨xq4.1, 0, none⟩) 1 xq4.2.1), (.slice (some ⟨xq9.1, 0, none⟩) 1 xq9.2.1), (.slice none 0 0), (.slice none 0 0), (.slice none 0 0), (.slice none 0 0), (.slice none 0 0), (.slice none 0 0)]) rfl rfl rfl T.sz34 rfl rfl rfl) (fun _ => (ulS (ulS (ulS (ulC (ulC (ulC (ulS ulR)))))))) (fun _ _ => ?_)
        refine GH.done (by kernel_rfl) ?_
        refine GE.thenN ?_
        refine GC.seq ?_
        refine GC.region ?_
        refine GL.val (Ex.move rfl) (by decide) ?_
        refine GL.val (Ex.move rfl) (by decide) ?_
        refine GL.val (v := (.int .i64 ((n : Int)))) (Ex.len rfl Try.underlying30) (by decide) ?_
        refine GL.val (v := (.slice (some ⟨bq1, 0, none⟩) n (n + 5))) (Ex.sliceH (m := n) rfl rfl Try.underlying30 T.sz72 rfl (by omega)) (by decide) ?_
        refine GL.val (Ex.assign rfl) (by decide) ?_
        refine GL.nil ?_
        refine GE.thenN ?_
        refine GC.ret ?_
        refine GC.ret1 rfl (Rv.tmp rfl) (fun wN HN => ?_)
        exact HN.frm (xq9, xq6, xq4, bq1) ⟨hq5.1, hq10.1⟩ (by rfl) (ulC (ulS (ulC (ulC (ulS (ulC (ulC ulR)))))))
      refine GHs.cons rfl (Stp.appendNil (vs := (roomL xs).map u32) rfl rfl Try.underlying30 T.sz72 T.zr72 rfl T.by72 (fun wz hz => hz.rdOf (i := 2) rfl 0) (by simp [roomL_len, hs.1]) (by omega) (by omega) (by omega) (by decide)) (fun _ => (ulS (ulC (ulC (ulC (ulS ulR)))))) (fun xq11 hq12 => ?_) ?_
      · refine GH.many (rs := [4, 7]) (by kernel_rfl) (by simp) ?_
        refine GHs.cons rfl (Ex.wp (v := (.slice none 0 0)) (Ex.load rfl T.ag34 (i := 4) rfl rfl) (by decide)) (fun _ => (ulS (ulC (ulC (ulC (ulS ulR)))))) (fun _ _ => ?_) ?_
        · refine GH.one 7 rfl (by kernel_rfl) (Stp.buildSlice (cs := [(.slice (some ⟨xq11.1, 0, none⟩) (n + 5) xq11.2.1)]) (vs := [(0, (.slice (some ⟨xq11.1, 0, none⟩) (n + 5) xq11.2.1))]) Try.underlying34 T.zr30 T.sz30 rfl (by decide) (by decide) (by first | rfl | kernel_rfl) (by decide)) (fun _ => (ulS (ulS (ulC (ulC (ulC (ulS ulR))))))) (fun bq13 _ => ?_)
          refine GH.one 8 rfl (by kernel_rfl) (Stp.appendNil (vs := [(.slice (some ⟨xq11.1, 0, none⟩) (n + 5) xq11.2.1)]) rfl rfl Try.underlying34 T.sz30 T.zr30 rfl T.by30 (fun wz hz => hz.rdOf (i := 0) rfl 0) rfl (by decide) (by decide) (by decide) (by decide)) (fun _ => (ulS (ulS (ulS (ulC (ulC (ulC (ulS ulR)))))))) (fun xq14 hq15 => ?_)
          refine GH.one 9 rfl (by kernel_rfl) (Ex.wp (v := (.pointer (some ⟨rb, 0, none⟩))) (Ex.nilCheck rfl) (by decide)) (fun _ => (ulS (ulS (ulS (ulC (ulC (ulC (ulS ulR)))))))) (fun _ _ => ?_)
          refine GH.take 10 (v := (.pointer (some ⟨rb, 1, none⟩))) rfl (by kernel_rfl) (by kernel_rfl) (by kernel_rfl) (fun _ _ _ h => h) (Ex.cast (Ex.fieldAddr rfl Try.underlying44 rfl T.sz34 (by decide)) rfl) (ulS (ulS (ulS (ulC (ulC (ulC (ulS ulR))))))) (by decide) ?_
          refine GH.one 11 rfl (by kernel_rfl) (Stp.st6 (cs' := [(.slice (some ⟨xq4.1, 0, none⟩) 1 xq4.2.1), (.slice (some ⟨xq14.1, 0, none⟩) 1 xq14.2.1), (.slice none 0 0), (.slice none 0 0), (.slice none 0 0), (.slice none 0 0), (.slice none 0 0), (.slice none 0 0)]) rfl rfl rfl T.sz34 rfl rfl rfl) (fun _ => (ulS (ulS (ulS (ulC (ulC (ulC (ulS ulR)))))))) (fun _ _ => ?_)
          refine GH.done (by kernel_rfl) ?_
          refine GE.thenN ?_
          refine GC.seq ?_
          refine GC.region ?_
          refine GL.val (Ex.move rfl) (by decide) ?_
          refine GL.val (Ex.move rfl) (by decide) ?_
          refine GL.val (v := (.int .i64 ((n : Int)))) (Ex.len rfl Try.underlying30) (by decide) ?_
          refine GL.val (v := (.slice (some ⟨bq1, 0, none⟩) n (n + 5))) (Ex.sliceH (m := n) rfl rfl Try.underlying30 T.sz72 rfl (by omega)) (by decide) ?_
          refine GL.val (Ex.assign rfl) (by decide) ?_
          refine GL.nil ?_
          refine GE.thenN ?_
          refine GC.ret ?_
          refine GC.ret1 rfl (Rv.tmp rfl) (fun wN HN => ?_)
          exact HN.frm (xq14, xq11, xq4, bq1) ⟨hq5.1, hq15.1⟩ (by rfl) (ulC (ulS (ulC (ulC (ulS (ulC (ulC ulR)))))))
        refine GHs.cons rfl (Stp.buildSlice (cs := [(.slice (some ⟨xq11.1, 0, none⟩) (n + 5) xq11.2.1)]) (vs := [(0, (.slice (some ⟨xq11.1, 0, none⟩) (n + 5) xq11.2.1))]) Try.underlying34 T.zr30 T.sz30 rfl (by decide) (by decide) (by first | rfl | kernel_rfl) (by decide)) (fun _ => (ulS (ulS (ulC (ulC (ulC (ulS ulR))))))) (fun bq16 _ => ?_) ?_
        · refine GH.one 4 rfl (by kernel_rfl) (Ex.wp (v := (.slice none 0 0)) (Ex.load rfl T.ag34 (i := 5) rfl rfl) (by decide)) (fun _ => (ulS (ulS (ulC (ulC (ulC (ulS ulR))))))) (fun _ _ => ?_)
          refine GH.one 8 rfl (by kernel_rfl) (Stp.appendNil (vs := [(.slice (some ⟨xq11.1, 0, none⟩) (n + 5) xq11.2.1)]) rfl rfl Try.underlying34 T.sz30 T.zr30 rfl T.by30 (fun wz hz => hz.rdOf (i := 0) rfl 0) rfl (by decide) (by decide) (by decide) (by decide)) (fun _ => (ulS (ulS (ulS (ulC (ulC (ulC (ulS ulR)))))))) (fun xq17 hq18 => ?_)
          refine GH.one 9 rfl (by kernel_rfl) (Ex.wp (v := (.pointer (some ⟨rb, 0, none⟩))) (Ex.nilCheck rfl) (by decide)) (fun _ => (ulS (ulS (ulS (ulC (ulC (ulC (ulS ulR)))))))) (fun _ _ => ?_)
          refine GH.take 10 (v := (.pointer (some ⟨rb, 1, none⟩))) rfl (by kernel_rfl) (by kernel_rfl) (by kernel_rfl) (fun _ _ _ h => h) (Ex.cast (Ex.fieldAddr rfl Try.underlying44 rfl T.sz34 (by decide)) rfl) (ulS (ulS (ulS (ulC (ulC (ulC (ulS ulR))))))) (by decide) ?_
          refine GH.one 11 rfl (by kernel_rfl) (Stp.st6 (cs' := [(.slice (some ⟨xq4.1, 0, none⟩) 1 xq4.2.1), (.slice (some ⟨xq17.1, 0, none⟩) 1 xq17.2.1), (.slice none 0 0), (.slice none 0 0), (.slice none 0 0), (.slice none 0 0), (.slice none 0 0), (.slice none 0 0)]) rfl rfl rfl T.sz34 rfl rfl rfl) (fun _ => (ulS (ulS (ulS (ulC (ulC (ulC (ulS ulR)))))))) (fun _ _ => ?_)
          refine GH.done (by kernel_rfl) ?_
          refine GE.thenN ?_
          refine GC.seq ?_
          refine GC.region ?_
          refine GL.val (Ex.move rfl) (by decide) ?_
          refine GL.val (Ex.move rfl) (by decide) ?_
          refine GL.val (v := (.int .i64 ((n : Int)))) (Ex.len rfl Try.underlying30) (by decide) ?_
          refine GL.val (v := (.slice (some ⟨bq1, 0, none⟩) n (n + 5))) (Ex.sliceH (m := n) rfl rfl Try.underlying30 T.sz72 rfl (by omega)) (by decide) ?_
          refine GL.val (Ex.assign rfl) (by decide) ?_
          refine GL.nil ?_
          refine GE.thenN ?_
          refine GC.ret ?_
          refine GC.ret1 rfl (Rv.tmp rfl) (fun wN HN => ?_)
          exact HN.frm (xq17, xq11, xq4, bq1) ⟨hq5.1, hq18.1⟩ (by rfl) (ulC (ulS (ulC (ulC (ulS (ulC (ulC ulR)))))))
        exact GHs.nil
      exact GHs.nil
    refine GHs.cons rfl (Stp.appendNil (vs := (roomL xs).map u32) rfl rfl Try.underlying30 T.sz72 T.zr72 rfl T.by72 (fun wz hz => hz.rdOf (i := 2) rfl 0) (by simp [roomL_len, hs.1]) (by omega) (by omega) (by omega) (by decide)) (fun _ => (ulS (ulC (ulC (ulC (ulS ulR)))))) (fun xq19 hq20 => ?_) ?_
    · refine GH.many (rs := [2, 7]) (by kernel_rfl) (by simp) ?_
      refine GHs.cons rfl (Ex.wp (v := (.pointer (some ⟨rb, 0, none⟩))) (Ex.nilCheck rfl) (by decide)) (fun _ => (ulS (ulC (ulC (ulC (ulS ulR)))))) (fun _ _ => ?_) ?_
      · refine GH.take 3 (v := (.pointer (some ⟨rb, 1, none⟩))) rfl (by kernel_rfl) (by kernel_rfl) (by kernel_rfl) (fun _ _ _ h => h) (Ex.cast (Ex.fieldAddr rfl Try.underlying44 rfl T.sz34 (by decide)) rfl) (ulS (ulC (ulC (ulC (ulS ulR))))) (by decide) ?_
        refine GH.many (rs := [4, 7]) (by kernel_rfl) (by simp) ?_
        refine GHs.cons rfl (Ex.wp (v := (.slice none 0 0)) (Ex.load rfl T.ag34 (i := 4) rfl rfl) (by decide)) (fun _ => (ulS (ulC (ulC (ulC (ulS ulR)))))) (fun _ _ => ?_) ?_
        · refine GH.one 7 rfl (by kernel_rfl) (Stp.buildSlice (cs := [(.slice (some ⟨xq19.1, 0, none⟩) (n + 5) xq19.2.1)]) (vs := [(0, (.slice (some ⟨xq19.1, 0, none⟩) (n + 5) xq19.2.1))]) Try.underlying34 T.zr30 T.sz30 rfl (by decide) (by decide) (by first | rfl | kernel_rfl) (by decide)) (fun _ => (ulS (ulS (ulC (ulC (ulC (ulS ulR))))))) (fun bq21 _ => ?_)
          refine GH.one 8 rfl (by kernel_rfl) (Stp.appendNil (vs := [(.slice (some ⟨xq19.1, 0, none⟩) (n + 5) xq19.2.1)]) rfl rfl Try.underlying34 T.sz30 T.zr30 rfl T.by30 (fun wz hz => hz.rdOf (i := 0) rfl 0) rfl (by decide) (by decide) (by decide) (by decide)) (fun _ => (ulS (ulS (ulS (ulC (ulC (ulC (ulS ulR)))))))) (fun xq22 hq23 => ?_)
          refine GH.one 9 rfl (by kernel_rfl) (Ex.wp (v := (.pointer (some ⟨rb, 0, none⟩))) (Ex.nilCheck rfl) (by decide)) (fun _ => (ulS (ulS (ulS (ulC (ulC (ulC (ulS ulR)))))))) (fun _ _ => ?_)
          refine GH.take 10 (v := (.pointer (some ⟨rb, 1, none⟩))) rfl (by kernel_rfl) (by kernel_rfl) (by kernel_rfl) (fun _ _ _ h => h) (Ex.cast (Ex.fieldAddr rfl Try.underlying44 rfl T.sz34 (by decide)) rfl) (ulS (ulS (ulS (ulC (ulC (ulC (ulS ulR))))))) (by decide) ?_
          refine GH.one 11 rfl (by kernel_rfl) (Stp.st6 (cs' := [(.slice (some ⟨xq4.1, 0, none⟩) 1 xq4.2.1), (.slice (some ⟨xq22.1, 0, none⟩) 1 xq22.2.1), (.slice none 0 0), (.slice none 0 0), (.slice none 0 0), (.slice none 0 0), (.slice none 0 0), (.slice none 0 0)]) rfl rfl rfl T.sz34 rfl rfl rfl) (fun _ => (ulS (ulS (ulS (ulC (ulC (ulC (ulS ulR)))))))) (fun _ _ => ?_)
          refine GH.done (by kernel_rfl) ?_
          refine GE.thenN ?_
          refine GC.seq ?_
          refine GC.region ?_
          refine GL.val (Ex.move rfl) (by decide) ?_
          refine GL.val (Ex.move rfl) (by decide) ?_
          refine GL.val (v := (.int .i64 ((n : Int)))) (Ex.len rfl Try.underlying30) (by decide) ?_
          refine GL.val (v := (.slice (some ⟨bq1, 0, none⟩) n (n + 5))) (Ex.sliceH (m := n) rfl rfl Try.underlying30 T.sz72 rfl (by omega)) (by decide) ?_
          refine GL.val (Ex.assign rfl) (by decide) ?_
          refine GL.nil ?_
          refine GE.thenN ?_
          refine GC.ret ?_
          refine GC.ret1 rfl (Rv.tmp rfl) (fun wN HN => ?_)
          exact HN.frm (xq22, xq19, xq4, bq1) ⟨hq5.1, hq23.1⟩ (by rfl) (ulC (ulS (ulC (ulC (ulS (ulC (ulC ulR)))))))
        refine GHs.cons rfl (Stp.buildSlice (cs := [(.slice (some ⟨xq19.1, 0, none⟩) (n + 5) xq19.2.1)]) (vs := [(0, (.slice (some ⟨xq19.1, 0, none⟩) (n + 5) xq19.2.1))]) Try.underlying34 T.zr30 T.sz30 rfl (by decide) (by decide) (by first | rfl | kernel_rfl) (by decide)) (fun _ => (ulS (ulS (ulC (ulC (ulC (ulS ulR))))))) (fun bq24 _ => ?_) ?_
        · refine GH.one 4 rfl (by kernel_rfl) (Ex.wp (v := (.slice none 0 0)) (Ex.load rfl T.ag34 (i := 5) rfl rfl) (by decide)) (fun _ => (ulS (ulS (ulC (ulC (ulC (ulS ulR))))))) (fun _ _ => ?_)
          refine GH.one 8 rfl (by kernel_rfl) (Stp.appendNil (vs := [(.slice (some ⟨xq19.1, 0, none⟩) (n + 5) xq19.2.1)]) rfl rfl Try.underlying34 T.sz30 T.zr30 rfl T.by30 (fun wz hz => hz.rdOf (i := 0) rfl 0) rfl (by decide) (by decide) (by decide) (by decide)) (fun _ => (ulS (ulS (ulS (ulC (ulC (ulC (ulS ulR)))))))) (fun xq25 hq26 => ?_)
          refine GH.one 9 rfl (by kernel_rfl) (Ex.wp (v := (.pointer (some ⟨rb, 0, none⟩))) (Ex.nilCheck rfl) (by decide)) (fun _ => (ulS (ulS (ulS (ulC (ulC (ulC (ulS ulR)))))))) (fun _ _ => ?_)
          refine GH.take 10 (v := (.pointer (some ⟨rb, 1, none⟩))) rfl (by kernel_rfl) (by kernel_rfl) (by kernel_rfl) (fun _ _ _ h => h) (Ex.cast (Ex.fieldAddr rfl Try.underlying44 rfl T.sz34 (by decide)) rfl) (ulS (ulS (ulS (ulC (ulC (ulC (ulS ulR))))))) (by decide) ?_
          refine GH.one 11 rfl (by kernel_rfl) (Stp.st6 (cs' := [(.slice (some ⟨xq4.1, 0, none⟩) 1 xq4.2.1), (.slice (some ⟨xq25.1, 0, none⟩) 1 xq25.2.1), (.slice none 0 0), (.slice none 0 0), (.slice none 0 0), (.slice none 0 0), (.slice none 0 0), (.slice none 0 0)]) rfl rfl rfl T.sz34 rfl rfl rfl) (fun _ => (ulS (ulS (ulS (ulC (ulC (ulC (ulS ulR)))))))) (fun _ _ => ?_)
          refine GH.done (by kernel_rfl) ?_
          refine GE.thenN ?_
          refine GC.seq ?_
          refine GC.region ?_
          refine GL.val (Ex.move rfl) (by decide) ?_
          refine GL.val (Ex.move rfl) (by decide) ?_
          refine GL.val (v := (.int .i64 ((n : Int)))) (Ex.len rfl Try.underlying30) (by decide) ?_
          refine GL.val (v := (.slice (some ⟨bq1, 0, none⟩) n (n + 5))) (Ex.sliceH (m := n) rfl rfl Try.underlying30 T.sz72 rfl (by omega)) (by decide) ?_
          refine GL.val (Ex.assign rfl) (by decide) ?_
          refine GL.nil ?_
          refine GE.thenN ?_
          refine GC.ret ?_
          refine GC.ret1 rfl (Rv.tmp rfl) (fun wN HN => ?_)
          exact HN.frm (xq25, xq19, xq4, bq1) ⟨hq5.1, hq26.1⟩ (by rfl) (ulC (ulS (ulC (ulC (ulS (ulC (ulC ulR)))))))
        exact GHs.nil
      refine GHs.cons rfl (Stp.buildSlice (cs := [(.slice (some ⟨xq19.1, 0, none⟩) (n + 5) xq19.2.1)]) (vs := [(0, (.slice (some ⟨xq19.1, 0, none⟩) (n + 5) xq19.2.1))]) Try.underlying34 T.zr30 T.sz30 rfl (by decide) (by decide) (by first | rfl | kernel_rfl) (by decide)) (fun _ => (ulS (ulS (ulC (ulC (ulC (ulS ulR))))))) (fun bq27 _ => ?_) ?_
      · refine GH.one 2 rfl (by kernel_rfl) (Ex.wp (v := (.pointer (some ⟨rb, 0, none⟩))) (Ex.nilCheck rfl) (by decide)) (fun _ => (ulS (ulS (ulC (ulC (ulC (ulS ulR))))))) (fun _ _ => ?_)
        refine GH.take 3 (v := (.pointer (some ⟨rb, 1, none⟩))) rfl (by kernel_rfl) (by kernel_rfl) (by kernel_rfl) (fun _ _ _ h => h) (Ex.cast (Ex.fieldAddr rfl Try.underlying44 rfl T.sz34 (by decide)) rfl) (ulS (ulS (ulC (ulC (ulC (ulS ulR)))))) (by decide) ?_
        refine GH.one 4 rfl (by kernel_rfl) (Ex.wp (v := (.slice none 0 0)) (Ex.load rfl T.ag34 (i := 5) rfl rfl) (by decide)) (fun _ => (ulS (ulS (ulC (ulC (ulC (ulS ulR))))))) (fun _ _ => ?_)
        refine GH.one 8 rfl (by kernel_rfl) (Stp.appendNil (vs := [(.slice (some ⟨xq19.1, 0, none⟩) (n + 5) xq19.2.1)]) rfl rfl Try.underlying34 T.sz30 T.zr30 rfl T.by30 (fun wz hz => hz.rdOf (i := 0) rfl 0) rfl (by decide) (by decide) (by decide) (by decide)) (fun _ => (ulS (ulS (ulS (ulC (ulC (ulC (ulS ulR)))))))) (fun xq28 hq29 => ?_)
        refine GH.one 9 rfl (by kernel_rfl) (Ex.wp (v := (.pointer (some ⟨rb, 0, none⟩))) (Ex.nilCheck rfl) (by decide)) (fun _ => (ulS (ulS (ulS (ulC (ulC (ulC (ulS ulR)))))))) (fun _ _ => ?_)
        refine GH.take 10 (v := (.pointer (some ⟨rb, 1, none⟩))) rfl (by kernel_rfl) (by kernel_rfl) (by kernel_rfl) (fun _ _ _ h => h) (Ex.cast (Ex.fieldAddr rfl Try.underlying44 rfl T.sz34 (by decide)) rfl) (ulS (ulS (ulS (ulC (ulC (ulC (ulS ulR))))))) (by decide) ?_
        refine GH.one 11 rfl (by kernel_rfl) (Stp.st6 (cs' := [(.slice (some ⟨xq4.1, 0, none⟩) 1 xq4.2.1), (.slice (some ⟨xq28.1, 0, none⟩) 1 xq28.2.1), (.slice none 0 0), (.slice none 0 0), (.slice none 0 0), (.slice none 0 0), (.slice none 0 0), (.slice none 0 0)]) rfl rfl rfl T.sz34 rfl rfl rfl) (fun _ => (ulS (ulS (ulS (ulC (ulC (ulC (ulS ulR)))))))) (fun _ _ => ?_)
        refine GH.done (by kernel_rfl) ?_
        refine GE.thenN ?_
        refine GC.seq ?_
        refine GC.region ?_
        refine GL.val (Ex.move rfl) (by decide) ?_
        refine GL.val (Ex.move rfl) (by decide) ?_
        refine GL.val (v := (.int .i64 ((n : Int)))) (Ex.len rfl Try.underlying30) (by decide) ?_
        refine GL.val (v := (.slice (some ⟨bq1, 0, none⟩) n (n + 5))) (Ex.sliceH (m := n) rfl rfl Try.underlying30 T.sz72 rfl (by omega)) (by decide) ?_
        refine GL.val (Ex.assign rfl) (by decide) ?_
        refine GL.nil ?_
        refine GE.thenN ?_
        refine GC.ret ?_
        refine GC.ret1 rfl (Rv.tmp rfl) (fun wN HN => ?_)
        exact HN.frm (xq28, xq19, xq4, bq1) ⟨hq5.1, hq29.1⟩ (by rfl) (ulC (ulS (ulC (ulC (ulS (ulC (ulC ulR)))))))
      exact GHs.nil
    exact GHs.nil

set_option maxRecDepth 100000 in
set_option maxHeartbeats 1000000 in
theorem room_p0 (w0 : World) (R : List Blk) (W H : Int) (rb n cap : Nat) (ad : Option Addr) (xs : List Int) (w : World) (hs : Lst w0 ad n xs) (hb : n ≤ 35184372087808) (hp0 : Hp None w0 (⟨rb, [(.slice none 0 0), (.slice none 0 0), (.slice none 0 0), (.slice none 0 0), (.slice none 0 0), (.slice none 0 0), (.slice none 0 0), (.slice none 0 0)], 44, true⟩ :: R) w) :
    Calls Try.prog 17 #[(.pointer (some ⟨rb, 0, none⟩)), (.agg #[(.int .i64 W), (.int .i64 H), (.slice ad n cap)])] w (Frm (σ := (Nat × Nat × List Value) × (Nat × Nat × List Value) × (Nat × Nat × List Value) × Nat) None w0 (fun x => ([(Value.slice (some ⟨x.2.2.2, 0, none⟩) (n + 5) (n + 5))] ++ x.2.2.1.2.2 : List Value).length = x.2.2.1.2.1 * 1 ∧ ([(Value.slice (some ⟨x.2.1.1, 0, none⟩) (n + 5) x.2.1.2.1)] ++ x.1.2.2 : List Value).length = x.1.2.1 * 1) (fun x => (.agg #[(.int .i64 W), (.int .i64 H), (.slice (some ⟨x.2.2.2, 0, none⟩) n (n + 5))])) (fun x => (⟨x.1.1, [(Value.slice (some ⟨x.2.1.1, 0, none⟩) (n + 5) x.2.1.2.1)] ++ x.1.2.2, 30, true⟩ :: ⟨x.2.1.1, (roomL xs).map u32 ++ x.2.1.2.2, 72, true⟩ :: ⟨x.2.2.1.1, [(Value.slice (some ⟨x.2.2.2, 0, none⟩) (n + 5) (n + 5))] ++ x.2.2.1.2.2, 30, true⟩ :: ⟨x.2.2.2, (roomL xs).map u32, 72, true⟩ :: ⟨rb, [(.slice (some ⟨x.2.2.1.1, 0, none⟩) 1 x.2.2.1.2.1), (.slice (some ⟨x.1.1, 0, none⟩) 1 x.1.2.1), (.slice none 0 0), (.slice none 0 0), (.slice none 0 0), (.slice none 0 0), (.slice none 0 0), (.slice none 0 0)], 44, true⟩ :: R))) := by
  refine enterF (w0 := w0) (M := None) (L := (⟨rb, [(.slice none 0 0), (.slice none 0 0), (.slice none 0 0), (.slice none 0 0), (.slice none 0 0), (.slice none 0 0), (.slice none 0 0), (.slice none 0 0)], 44, true⟩ :: R)) (n := 11) (l := [(0, (.pointer (some ⟨rb, 0, none⟩))), (1, (.agg #[(.int .i64 W), (.int .i64 H), (.slice ad n cap)]))]) Try.func17 rfl rfl (Args.cons rfl (Args.cons rfl (Args.nil _))) hp0 ?_
  refine GC.seq ?_
  refine GC.region ?_
  refine GL.step (Stp.box (cs := [(.int .i64 W), (.int .i64 H), (.slice ad n cap)]) rfl rfl (by decide)) (fun bq1 _ => ?_)
  refine GL.step (Stp.alloc T.zr32 (by decide)) (fun bq2 _ => ?_)
  refine GL.nil ?_
  refine GE.thenN ?_
  refine GC.seq ?_
  refine GC.region ?_
  refine GL.val (Ex.move rfl) (by decide) ?_
  refine GL.val (v := (.pointer (some ⟨bq1, 2, none⟩))) (Ex.cast (Ex.fieldAddr rfl Try.underlying32 rfl T.sz30 (by decide)) rfl) (by decide) ?_
  refine GL.val (Ex.load rfl T.ag30 (i := 1) rfl rfl) (by decide) ?_
  refine GL.step (Stp.call (vs := [(.pointer (some ⟨rb, 0, none⟩)), (.slice ad n cap)]) rfl rfl T.own46 (by decide) (fun wc hw => room_s0 w0 _ rb n cap ad xs wc hs hb (Hp.pickT (A := [⟨bq2, [(.int .i64 0), (.int .i64 0), (.slice none 0 0)], 32, true⟩, ⟨bq1, [(.int .i64 W), (.int .i64 H), (.slice ad n cap)], 32, true⟩, ⟨rb, [(.slice none 0 0), (.slice none 0 0), (.slice none 0 0), (.slice none 0 0), (.slice none 0 0), (.slice none 0 0), (.slice none 0 0), (.slice none 0 0)], 44, true⟩]) (R := R) hw (idx := [2, 0, 1]) (by decide) rfl))) (fun xq3 hq4 => ?_)
  refine GL.val (v := (.pointer (some ⟨bq1, 2, none⟩))) (Ex.cast (Ex.fieldAddr rfl Try.underlying32 rfl T.sz30 (by decide)) rfl) (by decide) ?_
  refine GL.step (Stp.st6 (cs' := [(.int .i64 W), (.int .i64 H), (.slice (some ⟨xq3.2.2.2, 0, none⟩) n (n + 5))]) rfl rfl rfl T.sz30 rfl rfl rfl) (fun _ _ => ?_)
  refine GL.nil ?_
  refine GE.thenN ?_
  refine GC.seq ?_
  refine GC.region ?_
  refine GL.val (v := (.agg #[(.int .i64 W), (.int .i64 H), (.slice (some ⟨xq3.2.2.2, 0, none⟩) n (n + 5))])) (Ex.loadA rfl T.ag32 T.sz32 (i := 6) rfl (vs := [(.int .i64 W), (.int .i64 H), (.slice (some ⟨xq3.2.2.2, 0, none⟩) n (n + 5))]) rfl rfl) (by decide) ?_
  refine GL.step (Stp.st5 (cs' := [(.int .i64 W), (.int .i64 H), (.slice (some ⟨xq3.2.2.2, 0, none⟩) n (n + 5))]) rfl rfl rfl T.sz32 rfl rfl rfl) (fun _ _ => ?_)
  refine GL.nil ?_
  refine GE.thenN ?_
  refine GC.ret ?_
  refine GC.ret1 rfl (Rv.cellA rfl T.ag32 T.sz32 (L := _) (i := 5) rfl (vs := [(.int .i64 W), (.int .i64 H), (.slice (some ⟨xq3.2.2.2, 0, none⟩) n (n + 5))]) rfl rfl) (fun wN HN => ?_)
  exact HN.frm xq3 hq4 (by rfl) (ulC (ulC (ulC (ulC (ulC (ulS (ulS ulR)))))))

set_option maxRecDepth 100000 in
set_option maxHeartbeats 1000000 in
theorem room_p1 (w0 : World) (R : List Blk) (W H : Int) (rb n cap : Nat) (ad : Option Addr) (xs : List Int) (n1 b1 c1 b2 c2 : Nat) (xs1 sp1 xs2 sp2 : List Value) (w : World) (hs : Lst w0 ad n xs) (hb : n ≤ 35184372087808) (hn1 : n1 ≤ 1000) (hx1 : xs1.length = n1) (hx2 : xs2.length = n1) (hc1 : (xs1 ++ sp1).length = c1 * 1) (hc2 : (xs2 ++ sp2).length = c2 * 1) (hp0 : Hp None w0 (⟨rb, [(.slice (some ⟨b1, 0, none⟩) n1 c1), (.slice (some ⟨b2, 0, none⟩) n1 c2), (.slice none 0 0), (.slice none 0 0), (.slice none 0 0), (.slice none 0 0), (.slice none 0 0), (.slice none 0 0)], 44, true⟩ :: ⟨b1, xs1 ++ sp1, 30, true⟩ :: ⟨b2, xs2 ++ sp2, 30, true⟩ :: R) w) :
    Calls Try.prog 17 #[(.pointer (some ⟨rb, 0, none⟩)), (.agg #[(.int .i64 W), (.int .i64 H), (.slice ad n cap)])] w (Frm (σ := (Nat × Nat × List Value) × (Nat × Nat × List Value) × (Nat × Nat × List Value) × Nat) None w0 (fun x => (xs1 ++ [(Value.slice (some ⟨x.2.2.2, 0, none⟩) (n + 5) (n + 5))] ++ x.2.2.1.2.2 : List Value).length = x.2.2.1.2.1 * 1 ∧ (xs2 ++ [(Value.slice (some ⟨x.2.1.1, 0, none⟩) (n + 5) x.2.1.2.1)] ++ x.1.2.2 : List Value).length = x.1.2.1 * 1) (fun x => (.agg #[(.int .i64 W), (.int .i64 H), (.slice (some ⟨x.2.2.2, 0, none⟩) n (n + 5))])) (fun x => (⟨x.1.1, xs2 ++ [(Value.slice (some ⟨x.2.1.1, 0, none⟩) (n + 5) x.2.1.2.1)] ++ x.1.2.2, 30, true⟩ :: ⟨x.2.1.1, (roomL xs).map u32 ++ x.2.1.2.2, 72, true⟩ :: ⟨x.2.2.1.1, xs1 ++ [(Value.slice (some ⟨x.2.2.2, 0, none⟩) (n + 5) (n + 5))] ++ x.2.2.1.2.2, 30, true⟩ :: ⟨x.2.2.2, (roomL xs).map u32, 72, true⟩ :: ⟨rb, [(.slice (some ⟨x.2.2.1.1, 0, none⟩) (n1 + 1) x.2.2.1.2.1), (.slice (some ⟨x.1.1, 0, none⟩) (n1 + 1) x.1.2.1), (.slice none 0 0), (.slice none 0 0), (.slice none 0 0), (.slice none 0 0), (.slice none 0 0), (.slice none 0 0)], 44, true⟩ :: R))) := by
  refine enterF (w0 := w0) (M := None) (L := (⟨rb, [(.slice (some ⟨b1, 0, none⟩) n1 c1), (.slice (some ⟨b2, 0, none⟩) n1 c2), (.slice none 0 0), (.slice none 0 0), (.slice none 0 0), (.slice none 0 0), (.slice none 0 0), (.slice none 0 0)], 44, true⟩ :: ⟨b1, xs1 ++ sp1, 30, true⟩ :: ⟨b2, xs2 ++ sp2, 30, true⟩ :: R)) (n := 11) (l := [(0, (.pointer (some ⟨rb, 0, none⟩))), (1, (.agg #[(.int .i64 W), (.int .i64 H), (.slice ad n cap)]))]) Try.func17 rfl rfl (Args.cons rfl (Args.cons rfl (Args.nil _))) hp0 ?_
  refine GC.seq ?_
  refine GC.region ?_
  refine GL.step (Stp.box (cs := [(.int .i64 W), (.int .i64 H), (.slice ad n cap)]) rfl rfl (by decide)) (fun bq1 _ => ?_)
  refine GL.step (Stp.alloc T.zr32 (by decide)) (fun bq2 _ => ?_)
  refine GL.nil ?_
  refine GE.thenN ?_
  refine GC.seq ?_
  refine GC.region ?_
  refine GL.val (Ex.move rfl) (by decide) ?_
  refine GL.val (v := (.pointer (some ⟨bq1, 2, none⟩))) (Ex.cast (Ex.fieldAddr rfl Try.underlying32 rfl T.sz30 (by decide)) rfl) (by decide) ?_
  refine GL.val (Ex.load rfl T.ag30 (i := 1) rfl rfl) (by decide) ?_
  refine GL.step (Stp.call (vs := [(.pointer (some ⟨rb, 0, none⟩)), (.slice ad n cap)]) rfl rfl T.own46 (by decide) (fun wc hw => room_s1 w0 _ rb n cap ad xs n1 b1 c1 b2 c2 xs1 sp1 xs2 sp2 wc hs hb (by first | decide | omega) (by first | rfl | omega) (by first | rfl | omega) hc1 hc2 (Hp.pickT (A := [⟨bq2, [(.int .i64 0), (.int .i64 0), (.slice none 0 0)], 32, true⟩, ⟨bq1, [(.int .i64 W), (.int .i64 H), (.slice ad n cap)], 32, true⟩, ⟨rb, [(.slice (some ⟨b1, 0, none⟩) n1 c1), (.slice (some ⟨b2, 0, none⟩) n1 c2), (.slice none 0 0), (.slice none 0 0), (.slice none 0 0), (.slice none 0 0), (.slice none 0 0), (.slice none 0 0)], 44, true⟩, ⟨b1, xs1 ++ sp1, 30, true⟩, ⟨b2, xs2 ++ sp2, 30, true⟩]) (R := R) hw (idx := [2, 3, 4, 0, 1]) (by decide) rfl))) (fun xq3 hq4 => ?_)
  refine GL.val (v := (.pointer (some ⟨bq1, 2, none⟩))) (Ex.cast (Ex.fieldAddr rfl Try.underlying32 rfl T.sz30 (by decide)) rfl) (by decide) ?_
  refine GL.step (Stp.st6 (cs' := [(.int .i64 W), (.int .i64 H), (.slice (some ⟨xq3.2.2.2, 0, none⟩) n (n + 5))]) rfl rfl rfl T.sz30 rfl rfl rfl) (fun _ _ => ?_)
  refine GL.nil ?_
  refine GE.thenN ?_
  refine GC.seq ?_
  refine GC.region ?_
  refine GL.val (v := (.agg #[(.int .i64 W), (.int .i64 H), (.slice (some ⟨xq3.2.2.2, 0, none⟩) n (n + 5))])) (Ex.loadA rfl T.ag32 T.sz32 (i := 6) rfl (vs := [(.int .i64 W), (.int .i64 H), (.slice (some ⟨xq3.2.2.2, 0, none⟩) n (n + 5))]) rfl rfl) (by decide) ?_
  refine GL.step (Stp.st5 (cs' := [(.int .i64 W), (.int .i64 H), (.slice (some ⟨xq3.2.2.2, 0, none⟩) n (n + 5))]) rfl rfl rfl T.sz32 rfl rfl rfl) (fun _ _ => ?_)
  refine GL.nil ?_
  refine GE.thenN ?_
  refine GC.ret ?_
  refine GC.ret1 rfl (Rv.cellA rfl T.ag32 T.sz32 (L := _) (i := 5) rfl (vs := [(.int .i64 W), (.int .i64 H), (.slice (some ⟨xq3.2.2.2, 0, none⟩) n (n + 5))]) rfl rfl) (fun wN HN => ?_)
  exact HN.frm xq3 hq4 (by rfl) (ulC (ulC (ulC (ulC (ulC (ulS (ulS ulR)))))))

set_option maxRecDepth 100000 in
set_option maxHeartbeats 1000000 in
theorem room_hold2 (rb b1 b2 e1 e2 : Nat) (q1 q2 : List Value) (a0 c0 n d0 a1 c1 m d1 : Nat) (xs0 xs1 : List Int) (sp0 sp1 : List Value) (w : World) (h0 : xs0.length = n ∧ n ≤ 35184372087808) (h1 : xs1.length = m ∧ m ≤ 35184372087808) (hh : Has w [⟨rb, [(.slice (some ⟨b1, 0, none⟩) 2 e1), (.slice (some ⟨b2, 0, none⟩) 2 e2), (.slice none 0 0), (.slice none 0 0), (.slice none 0 0), (.slice none 0 0), (.slice none 0 0), (.slice none 0 0)], 44, false⟩, ⟨b1, ([(Value.slice (some ⟨a0, 0, none⟩) (n + 5) (n + 5))] ++ [(Value.slice (some ⟨a1, 0, none⟩) (m + 5) (m + 5))]) ++ q1, 30, false⟩, ⟨b2, ([(Value.slice (some ⟨c0, 0, none⟩) (n + 5) d0)] ++ [(Value.slice (some ⟨c1, 0, none⟩) (m + 5) d1)]) ++ q2, 30, false⟩, ⟨a0, (roomL xs0).map u32, 72, false⟩, ⟨c0, (roomL xs0).map u32 ++ sp0, 72, false⟩, ⟨a1, (roomL xs1).map u32, 72, false⟩, ⟨c1, (roomL xs1).map u32 ++ sp1, 72, false⟩]) :
    Calls Try.prog 23 #[(.pointer (some ⟨rb, 0, none⟩))] w (Ret w (fun _ : Unit => True) (fun _ => .bool true) (fun _ => [])) := by
  refine enter (M := None) (L := [⟨rb, [(.slice (some ⟨b1, 0, none⟩) 2 e1), (.slice (some ⟨b2, 0, none⟩) 2 e2), (.slice none 0 0), (.slice none 0 0), (.slice none 0 0), (.slice none 0 0), (.slice none 0 0), (.slice none 0 0)], 44, false⟩, ⟨b1, ([(Value.slice (some ⟨a0, 0, none⟩) (n + 5) (n + 5))] ++ [(Value.slice (some ⟨a1, 0, none⟩) (m + 5) (m + 5))]) ++ q1, 30, false⟩, ⟨b2, ([(Value.slice (some ⟨c0, 0, none⟩) (n + 5) d0)] ++ [(Value.slice (some ⟨c1, 0, none⟩) (m + 5) d1)]) ++ q2, 30, false⟩, ⟨a0, (roomL xs0).map u32, 72, false⟩, ⟨c0, (roomL xs0).map u32 ++ sp0, 72, false⟩, ⟨a1, (roomL xs1).map u32, 72, false⟩, ⟨c1, (roomL xs1).map u32 ++ sp1, 72, false⟩]) (n := 179) (l := [(0, (.pointer (some ⟨rb, 0, none⟩)))]) Try.func23 rfl rfl (Args.cons rfl (Args.nil _)) (Hp.reads hh rfl) ?_
  refine GC.seq ?_
  refine GC.region ?_
  refine GL.val (Ex.assign rfl) (by decide) ?_
  refine GL.nil ?_
  refine GE.thenN ?_
  refine GC.seq ?_
  refine GC.seq ?_
  refine GC.region ?_
  refine GL.val (Ex.assign rfl) (by decide) ?_
  refine GL.nil ?_
  refine GE.thenN ?_
  refine GC.block ?_
  refine GC.unroll 3 ?_
  refine GE.round ?_
  refine GC.seq ?_
  refine GC.seq ?_
  refine GC.region ?_
  refine GL.val (Ex.move rfl) (by decide) ?_
  refine GL.val (Ex.move rfl) (by decide) ?_
  refine GL.val (v := (.pointer (some ⟨rb, 0, none⟩))) (Ex.nilCheck rfl) (by decide) ?_
  refine GL.val (v := (.pointer (some ⟨rb, 0, none⟩))) (Ex.cast (Ex.fieldAddr rfl Try.underlying44 rfl T.sz34 (by decide)) rfl) (by decide) ?_
  refine GL.val (Ex.load rfl T.ag34 (i := 0) rfl rfl) (by decide) ?_
  refine GL.val (v := (.int .i64 2)) (Ex.len rfl Try.underlying34) (by decide) ?_
  refine GL.val (v := (.bool true)) (Ex.cast (Ex.lss rfl rfl) rfl) (by decide) ?_
  refine GL.nil ?_
  refine GE.thenN ?_
  refine GC.cond rfl (fun _ => ?_) (fun hq1 => by cases hq1)
  refine GC.skip ?_
  refine GE.thenN ?_
  refine GC.seq ?_
  refine GC.block ?_
  refine GC.seq ?_
  refine GC.region ?_
  refine GL.val (Ex.assign rfl) (by decide) ?_
  refine GL.nil ?_
  refine GE.thenN ?_
  refine GC.block ?_
  refine GC.loop (σ := Nat) (fun k => True) (fun k => [(0, (.pointer (some ⟨rb, 0, none⟩))), (3, (.int .i64 0)), (4, (.int .i64 (((k : Nat) : Int))))]) (fun k => [⟨rb, [(.slice (some ⟨b1, 0, none⟩) 2 e1), (.slice (some ⟨b2, 0, none⟩) 2 e2), (.slice none 0 0), (.slice none 0 0), (.slice none 0 0), (.slice none 0 0), (.slice none 0 0), (.slice none 0 0)], 44, false⟩, ⟨b1, ([(Value.slice (some ⟨a0, 0, none⟩) (n + 5) (n + 5))] ++ [(Value.slice (some ⟨a1, 0, none⟩) (m + 5) (m + 5))]) ++ q1, 30, false⟩, ⟨b2, ([(Value.slice (some ⟨c0, 0, none⟩) (n + 5) d0)] ++ [(Value.slice (some ⟨c1, 0, none⟩) (m + 5) d1)]) ++ q2, 30, false⟩, ⟨a0, (roomL xs0).map u32, 72, false⟩, ⟨c0, (roomL xs0).map u32 ++ sp0, 72, false⟩, ⟨a1, (roomL xs1).map u32, 72, false⟩, ⟨c1, (roomL xs1).map u32 ++ sp1, 72, false⟩]) (fun k => 2 ^ 63 - k) (0) trivial ((sub_cons rfl ((sub_cons rfl ((sub_cons rfl ((sub_nil _)))))))) (ulC (ulC (ulC (ulC (ulC (ulC (ulC ulN))))))) (fun k hp => ?_)
  refine GC.seq ?_
  refine GC.seq ?_
  refine GC.region ?_
  refine GL.val (Ex.move rfl) (by decide) ?_
  refine GL.val (Ex.move rfl) (by decide) ?_
  refine GL.val (v := (.pointer (some ⟨rb, 0, none⟩))) (Ex.nilCheck rfl) (by decide) ?_
  refine GL.val (v := (.pointer (some ⟨rb, 0, none⟩))) (Ex.cast (Ex.fieldAddr rfl Try.underlying44 rfl T.sz34 (by decide)) rfl) (by decide) ?_
  refine GL.val (Ex.load rfl T.ag34 (i := 0) rfl rfl) (by decide) ?_
  refine GL.val (Ex.move rfl) (by decide) ?_
  refine GL.val (v := (.pointer (some ⟨b1, 0, none⟩))) (Ex.cast (Ex.indexAddr rfl rfl Try.underlying34 T.sz30 (by omega) (by omega)) rfl) (by decide) ?_
  refine GL.val (Ex.load rfl T.ag30 (i := 1) rfl rfl) (by decide) ?_
  refine GL.val (v := (.int .i64 (((n + 5) : Int)))) (Ex.len rfl Try.underlying30) (by decide) ?_
  refine GL.val (v := (.bool (decide ((((k : Nat) : Int)) < (((n + 5) : Int)))))) (Ex.lss rfl rfl) (by decide) ?_
  refine GL.nil ?_
  refine GE.thenN ?_
  refine GC.cond rfl (fun hq2 => ?_) (fun hq2 => ?_)
  · replace hq2 := of_decide_eq_true hq2
    refine GC.skip ?_
    refine GE.thenN ?_
    refine GC.seq ?_
    refine GC.block ?_
    refine GC.seq ?_
    refine GC.draw [⟨rb, [(.slice (some ⟨b1, 0, none⟩) 2 e1), (.slice (some ⟨b2, 0, none⟩) 2 e2), (.slice none 0 0), (.slice none 0 0), (.slice none 0 0), (.slice none 0 0), (.slice none 0 0), (.slice none 0 0)], 44, false⟩, ⟨b1, ([(Value.slice (some ⟨a0, 0, none⟩) (n + 5) (n + 5))] ++ [(Value.slice (some ⟨a1, 0, none⟩) (m + 5) (m + 5))]) ++ q1, 30, false⟩, ⟨b2, ([(Value.slice (some ⟨c0, 0, none⟩) (n + 5) d0)] ++ [(Value.slice (some ⟨c1, 0, none⟩) (m + 5) d1)]) ++ q2, 30, false⟩, ⟨a0, (roomL xs0).map u32, 72, false⟩, ⟨c0, (roomL xs0).map u32 ++ sp0, 72, false⟩, ⟨a1, (roomL xs1).map u32, 72, false⟩, ⟨c1, (roomL xs1).map u32 ++ sp1, 72, false⟩] T.mixed (fuel := 21) rfl rfl ?_
    refine GH.take 0 (v := (.pointer (some ⟨rb, 0, none⟩))) rfl (by kernel_rfl) (by kernel_rfl) (by kernel_rfl) (fun _ _ _ h => h) (Ex.move rfl) (ulC (ulC (ulC (ulC (ulC (ulC (ulC ulN))))))) (by decide) ?_
    refine GH.take 4 (v := (.int .i64 0)) rfl (by kernel_rfl) (by kernel_rfl) (by kernel_rfl) (fun _ _ _ h => h) (Ex.move rfl) (ulC (ulC (ulC (ulC (ulC (ulC (ulC ulN))))))) (by decide) ?_
    refine GH.take 7 (v := (.int .i64 (((k : Nat) : Int)))) rfl (by kernel_rfl) (by kernel_rfl) (by kernel_rfl) (fun _ _ _ h => h) (Ex.move rfl) (ulC (ulC (ulC (ulC (ulC (ulC (ulC ulN))))))) (by decide) ?_
    refine GH.take 10 (v := (.pointer (some ⟨rb, 0, none⟩))) rfl (by kernel_rfl) (by kernel_rfl) (by kernel_rfl) (fun _ _ _ h => h) (Ex.move rfl) (ulC (ulC (ulC (ulC (ulC (ulC (ulC ulN))))))) (by decide) ?_
    refine GH.take 14 (v := (.int .i64 0)) rfl (by kernel_rfl) (by kernel_rfl) (by kernel_rfl) (fun _ _ _ h => h) (Ex.move rfl) (ulC (ulC (ulC (ulC (ulC (ulC (ulC ulN))))))) (by decide) ?_
    refine GH.take 17 (v := (.int .i64 (((k : Nat) : Int)))) rfl (by kernel_rfl) (by kernel_rfl) (by kernel_rfl) (fun _ _ _ h => h) (Ex.move rfl) (ulC (ulC (ulC (ulC (ulC (ulC (ulC ulN))))))) (by decide) ?_
    refine GH.many (rs := [1, 11]) (by kernel_rfl) (by simp) ?_
    refine GHs.cons rfl (Ex.wp (v := (.pointer (some ⟨rb, 0, none⟩))) (Ex.nilCheck rfl) (by decide)) (fun _ => (ulC (ulC (ulC (ulC (ulC (ulC (ulC ulN)))))))) (fun _ _ => ?_) ?_
    · refine GH.take 2 (v := (.pointer (some ⟨rb, 0, none⟩))) rfl (by kernel_rfl) (by kernel_rfl) (by kernel_rfl) (fun _ _ _ h => h) (Ex.cast (Ex.fieldAddr rfl Try.underlying44 rfl T.sz34 (by decide)) rfl) (ulC (ulC (ulC (ulC (ulC (ulC (ulC ulN))))))) (by decide) ?_
      refine GH.take 3 (v := (.slice (some ⟨b1, 0, none⟩) 2 e1)) rfl (by kernel_rfl) (by kernel_rfl) (by kernel_rfl) (fun _ _ _ h => h) (Ex.load rfl T.ag34 (i := 0) rfl rfl) (ulC (ulC (ulC (ulC (ulC (ulC (ulC ulN))))))) (by decide) ?_
      refine GH.take 5 (v := (.pointer (some ⟨b1, 0, none⟩))) rfl (by kernel_rfl) (by kernel_rfl) (by kernel_rfl) (fun _ _ _ h => h) (Ex.cast (Ex.indexAddr rfl rfl Try.underlying34 T.sz30 (by omega) (by omega)) rfl) (ulC (ulC (ulC (ulC (ulC (ulC (ulC ulN))))))) (by decide) ?_
      refine GH.take 6 (v := (.slice (some ⟨a0, 0, none⟩) (n + 5) (n + 5))) rfl (by kernel_rfl) (by kernel_rfl) (by kernel_rfl) (fun _ _ _ h => h) (Ex.load rfl T.ag30 (i := 1) rfl rfl) (ulC (ulC (ulC (ulC (ulC (ulC (ulC ulN))))))) (by decide) ?_
      refine GH.take 8 (v := (.pointer (some ⟨a0, k, none⟩))) rfl (by kernel_rfl) (by kernel_rfl) (by kernel_rfl) (fun _ _ _ h => h) (Ex.cast (Ex.indexAddr rfl rfl Try.underlying30 T.sz72 (by omega) (by omega)) (by simp)) (ulC (ulC (ulC (ulC (ulC (ulC (ulC ulN))))))) (by decide) ?_
      refine GH.take 9 (v := (.int .u32 ((roomL xs0).getD k 0))) rfl (by kernel_rfl) (by kernel_rfl) (by kernel_rfl) (fun _ _ _ h => h) (Ex.load rfl T.ag72 (i := 3) rfl (u32_at (by rw [roomL_len]; omega))) (ulC (ulC (ulC (ulC (ulC (ulC (ulC ulN))))))) (by decide) ?_
      refine GH.one 11 rfl (by kernel_rfl) (Ex.wp (v := (.pointer (some ⟨rb, 0, none⟩))) (Ex.nilCheck rfl) (by decide)) (fun _ => (ulC (ulC (ulC (ulC (ulC (ulC (ulC ulN)))))))) (fun _ _ => ?_)
      refine GH.take 12 (v := (.pointer (some ⟨rb, 1, none⟩))) rfl (by kernel_rfl) (by kernel_rfl) (by kernel_rfl) (fun _ _ _ h => h) (Ex.cast (Ex.fieldAddr rfl Try.underlying44 rfl T.sz34 (by decide)) rfl) (ulC (ulC (ulC (ulC (ulC (ulC (ulC ulN))))))) (by decide) ?_
      refine GH.take 13 (v := (.slice (some ⟨b2, 0, none⟩) 2 e2)) rfl (by kernel_rfl) (by kernel_rfl) (by kernel_rfl) (fun _ _ _ h => h) (Ex.load rfl T.ag34 (i := 0) rfl rfl) (ulC (ulC (ulC (ulC (ulC (ulC (ulC ulN))))))) (by decide) ?_
      refine GH.take 15 (v := (.pointer (some ⟨b2, 0, none⟩))) rfl (by kernel_rfl) (by kernel_rfl) (by kernel_rfl) (fun _ _ _ h => h) (Ex.cast (Ex.indexAddr rfl rfl Try.underlying34 T.sz30 (by omega) (by omega)) rfl) (ulC (ulC (ulC (ulC (ulC (ulC (ulC ulN))))))) (by decide) ?_
      refine GH.take 16 (v := (.slice (some ⟨c0, 0, none⟩) (n + 5) d0)) rfl (by kernel_rfl) (by kernel_rfl) (by kernel_rfl) (fun _ _ _ h => h) (Ex.load rfl T.ag30 (i := 2) rfl rfl) (ulC (ulC (ulC (ulC (ulC (ulC (ulC ulN))))))) (by decide) ?_
      refine GH.take 18 (v := (.pointer (some ⟨c0, k, none⟩))) rfl (by kernel_rfl) (by kernel_rfl) (by kernel_rfl) (fun _ _ _ h => h) (Ex.cast (Ex.indexAddr rfl rfl Try.underlying30 T.sz72 (by omega) (by omega)) (by simp)) (ulC (ulC (ulC (ulC (ulC (ulC (ulC ulN))))))) (by decide) ?_
      refine GH.take 19 (v := (.int .u32 ((roomL xs0).getD k 0))) rfl (by kernel_rfl) (by kernel_rfl) (by kernel_rfl) (fun _ _ _ h => h) (Ex.load rfl T.ag72 (i := 4) rfl (u32_at' sp0 (by rw [roomL_len]; omega))) (ulC (ulC (ulC (ulC (ulC (ulC (ulC ulN))))))) (by decide) ?_
      refine GH.take 20 (v := (.bool false)) rfl (by kernel_rfl) (by kernel_rfl) (by kernel_rfl) (fun _ _ _ h => h) (Ex.cast (Ex.neq rfl rfl) (congrArg Value.bool (decide_eq_false (by simp)))) (ulC (ulC (ulC (ulC (ulC (ulC (ulC ulN))))))) (by decide) ?_
      refine GH.done (by kernel_rfl) ?_
      refine GE.thenN ?_
      refine GC.cond rfl (fun hq3 => by cases hq3) (fun _ => ?_)
      refine GC.skip ?_
      refine GE.blockN ?_
      refine GE.thenN ?_
      refine GC.region ?_
      refine GL.val (Ex.move rfl) (by decide) ?_
      refine GL.val (v := (.int .i64 (((k + 1 : Nat) : Int)))) (Ex.add rfl rfl (Z := ((k + 1 : Nat) : Int)) (by rw [w64 (by omega)]; rfl)) (by decide) ?_
      refine GL.val (Ex.assign rfl) (by decide) ?_
      refine GL.nil ?_
      refine GE.thenN ?_
      exact Head.mk (k + 1) trivial (by omega) ((sub_cons rfl ((sub_cons rfl ((sub_cons rfl ((sub_nil _)))))))) (ulC (ulC (ulC (ulC (ulC (ulC (ulC ulN)))))))
    refine GHs.cons rfl (Ex.wp (v := (.pointer (some ⟨rb, 0, none⟩))) (Ex.nilCheck rfl) (by decide)) (fun _ => (ulC (ulC (ulC (ulC (ulC (ulC (ulC ulN)))))))) (fun _ _ => ?_) ?_
    · refine GH.take 12 (v := (.pointer (some ⟨rb, 1, none⟩))) rfl (by kernel_rfl) (by kernel_rfl) (by kernel_rfl) (fun _ _ _ h => h) (Ex.cast (Ex.fieldAddr rfl Try.underlying44 rfl T.sz34 (by decide)) rfl) (ulC (ulC (ulC (ulC (ulC (ulC (ulC ulN))))))) (by decide) ?_
      refine GH.take 13 (v := (.slice (some ⟨b2, 0, none⟩) 2 e2)) rfl (by kernel_rfl) (by kernel_rfl) (by kernel_rfl) (fun _ _ _ h => h) (Ex.load rfl T.ag34 (i := 0) rfl rfl) (ulC (ulC (ulC (ulC (ulC (ulC (ulC ulN))))))) (by decide) ?_
      refine GH.take 15 (v := (.pointer (some ⟨b2, 0, none⟩))) rfl (by kernel_rfl) (by kernel_rfl) (by kernel_rfl) (fun _ _ _ h => h) (Ex.cast (Ex.indexAddr rfl rfl Try.underlying34 T.sz30 (by omega) (by omega)) rfl) (ulC (ulC (ulC (ulC (ulC (ulC (ulC ulN))))))) (by decide) ?_
      refine GH.take 16 (v := (.slice (some ⟨c0, 0, none⟩) (n + 5) d0)) rfl (by kernel_rfl) (by kernel_rfl) (by kernel_rfl) (fun _ _ _ h => h) (Ex.load rfl T.ag30 (i := 2) rfl rfl) (ulC (ulC (ulC (ulC (ulC (ulC (ulC ulN))))))) (by decide) ?_
      refine GH.take 18 (v := (.pointer (some ⟨c0, k, none⟩))) rfl (by kernel_rfl) (by kernel_rfl) (by kernel_rfl) (fun _ _ _ h => h) (Ex.cast (Ex.indexAddr rfl rfl Try.underlying30 T.sz72 (by omega) (by omega)) (by simp)) (ulC (ulC (ulC (ulC (ulC (ulC (ulC ulN))))))) (by decide) ?_
      refine GH.take 19 (v := (.int .u32 ((roomL xs0).getD k 0))) rfl (by kernel_rfl) (by kernel_rfl) (by kernel_rfl) (fun _ _ _ h => h) (Ex.load rfl T.ag72 (i := 4) rfl (u32_at' sp0 (by rw [roomL_len]; omega))) (ulC (ulC (ulC (ulC (ulC (ulC (ulC ulN))))))) (by decide) ?_
      refine GH.one 1 rfl (by kernel_rfl) (Ex.wp (v := (.pointer (some ⟨rb, 0, none⟩))) (Ex.nilCheck rfl) (by decide)) (fun _ => (ulC (ulC (ulC (ulC (ulC (ulC (ulC ulN)))))))) (fun _ _ => ?_)
      refine GH.take 2 (v := (.pointer (some ⟨rb, 0, none⟩))) rfl (by kernel_rfl) (by kernel_rfl) (by kernel_rfl) (fun _ _ _ h => h) (Ex.cast (Ex.fieldAddr rfl Try.underlying44 rfl T.sz34 (by decide)) rfl) (ulC (ulC (ulC (ulC (ulC (ulC (ulC ulN))))))) (by decide) ?_
      refine GH.take 3 (v := (.slice (some ⟨b1, 0, none⟩) 2 e1)) rfl (by kernel_rfl) (by kernel_rfl) (by kernel_rfl) (fun _ _ _ h => h) (Ex.load rfl T.ag34 (i := 0) rfl rfl) (ulC (ulC (ulC (ulC (ulC (ulC (ulC ulN))))))) (by decide) ?_
      refine GH.take 5 (v := (.pointer (some ⟨b1, 0, none⟩))) rfl (by kernel_rfl) (by kernel_rfl) (by kernel_rfl) (fun _ _ _ h => h) (Ex.cast (Ex.indexAddr rfl rfl Try.underlying34 T.sz30 (by omega) (by omega)) rfl) (ulC (ulC (ulC (ulC (ulC (ulC (ulC ulN))))))) (by decide) ?_
      refine GH.take 6 (v := (.slice (some ⟨a0, 0, none⟩) (n + 5) (n + 5))) rfl (by kernel_rfl) (by kernel_rfl) (by kernel_rfl) (fun _ _ _ h => h) (Ex.load rfl T.ag30 (i := 1) rfl rfl) (ulC (ulC (ulC (ulC (ulC (ulC (ulC ulN))))))) (by decide) ?_
      refine GH.take 8 (v := (.pointer (some ⟨a0, k, none⟩))) rfl (by kernel_rfl) (by kernel_rfl) (by kernel_rfl) (fun _ _ _ h => h) (Ex.cast (Ex.indexAddr rfl rfl Try.underlying30 T.sz72 (by omega) (by omega)) (by simp)) (ulC (ulC (ulC (ulC (ulC (ulC (ulC ulN))))))) (by decide) ?_
      refine GH.take 9 (v := (.int .u32 ((roomL xs0).getD k 0))) rfl (by kernel_rfl) (by kernel_rfl) (by kernel_rfl) (fun _ _ _ h => h) (Ex.load rfl T.ag72 (i := 3) rfl (u32_at (by rw [roomL_len]; omega))) (ulC (ulC (ulC (ulC (ulC (ulC (ulC ulN))))))) (by decide) ?_
      refine GH.take 20 (v := (.bool false)) rfl (by kernel_rfl) (by kernel_rfl) (by kernel_rfl) (fun _ _ _ h => h) (Ex.cast (Ex.neq rfl rfl) (congrArg Value.bool (decide_eq_false (by simp)))) (ulC (ulC (ulC (ulC (ulC (ulC (ulC ulN))))))) (by decide) ?_
      refine GH.done (by kernel_rfl) ?_
      refine GE.thenN ?_
      refine GC.cond rfl (fun hq4 => by cases hq4) (fun _ => ?_)
      refine GC.skip ?_
      refine GE.blockN ?_
      refine GE.thenN ?_
      refine GC.region ?_
      refine GL.val (Ex.move rfl) (by decide) ?_
      refine GL.val (v := (.int .i64 (((k + 1 : Nat) : Int)))) (Ex.add rfl rfl (Z := ((k + 1 : Nat) : Int)) (by rw [w64 (by omega)]; rfl)) (by decide) ?_
      refine GL.val (Ex.assign rfl) (by decide) ?_
      refine GL.nil ?_
      refine GE.thenN ?_
      exact Head.mk (k + 1) trivial (by omega) ((sub_cons rfl ((sub_cons rfl ((sub_cons rfl ((sub_nil _)))))))) (ulC (ulC (ulC (ulC (ulC (ulC (ulC ulN)))))))
    exact GHs.nil
  · replace hq2 := of_decide_eq_false hq2
    refine GC.exit ?_
    refine GE.thenE ?_
    refine GE.thenE ?_
    refine GE.blockE ?_
    refine GE.blockN ?_
    refine GE.thenN ?_
    refine GC.region ?_
    refine GL.val (Ex.move rfl) (by decide) ?_
    refine GL.val (v := (.int .i64 1)) (Ex.add rfl rfl (Z := 1) (by decide)) (by decide) ?_
    refine GL.val (Ex.assign rfl) (by decide) ?_
    refine GL.nil ?_
    refine GE.thenN ?_
    refine GE.round ?_
    refine GC.seq ?_
    refine GC.seq ?_
    refine GC.region ?_
    refine GL.val (Ex.move rfl) (by decide) ?_
    refine GL.val (Ex.move rfl) (by decide) ?_
    refine GL.val (v := (.pointer (some ⟨rb, 0, none⟩))) (Ex.nilCheck rfl) (by decide) ?_
    refine GL.val (v := (.pointer (some ⟨rb, 0, none⟩))) (Ex.cast (Ex.fieldAddr rfl Try.underlying44 rfl T.sz34 (by decide)) rfl) (by decide) ?_
    refine GL.val (Ex.load rfl T.ag34 (i := 0) rfl rfl) (by decide) ?_
    refine GL.val (v := (.int .i64 2)) (Ex.len rfl Try.underlying34) (by decide) ?_
    refine GL.val (v := (.bool true)) (Ex.cast (Ex.lss rfl rfl) rfl) (by decide) ?_
    refine GL.nil ?_
    refine GE.thenN ?_
    refine GC.cond rfl (fun _ => ?_) (fun hq5 => by cases hq5)
    refine GC.skip ?_
    refine GE.thenN ?_
    refine GC.seq ?_
    refine GC.block ?_
    refine GC.seq ?_
    refine GC.region ?_
    refine GL.val (Ex.assign rfl) (by decide) ?_
    refine GL.nil ?_
    refine GE.thenN ?_
    refine GC.block ?_
    refine GC.loop (σ := Nat) (fun k => True) (fun k => [(0, (.pointer (some ⟨rb, 0, none⟩))), (3, (.int .i64 1)), (4, (.int .i64 (((k : Nat) : Int))))]) (fun k => [⟨rb, [(.slice (some ⟨b1, 0, none⟩) 2 e1), (.slice (some ⟨b2, 0, none⟩) 2 e2), (.slice none 0 0), (.slice none 0 0), (.slice none 0 0), (.slice none 0 0), (.slice none 0 0), (.slice none 0 0)], 44, false⟩, ⟨b1, ([(Value.slice (some ⟨a0, 0, none⟩) (n + 5) (n + 5))] ++ [(Value.slice (some ⟨a1, 0, none⟩) (m + 5) (m + 5))]) ++ q1, 30, false⟩, ⟨b2, ([(Value.slice (some ⟨c0, 0, none⟩) (n + 5) d0)] ++ [(Value.slice (some ⟨c1, 0, none⟩) (m + 5) d1)]) ++ q2, 30, false⟩, ⟨a0, (roomL xs0).map u32, 72, false⟩, ⟨c0, (roomL xs0).map u32 ++ sp0, 72, false⟩, ⟨a1, (roomL xs1).map u32, 72, false⟩, ⟨c1, (roomL xs1).map u32 ++ sp1, 72, false⟩]) (fun k => 2 ^ 63 - k) (0) trivial ((sub_cons rfl ((sub_cons rfl ((sub_cons rfl ((sub_nil _)))))))) (ulC (ulC (ulC (ulC (ulC (ulC (ulC ulN))))))) (fun k hp => ?_)
    refine GC.seq ?_
    refine GC.seq ?_
    refine GC.region ?_
    refine GL.val (Ex.move rfl) (by decide) ?_
    refine GL.val (Ex.move rfl) (by decide) ?_
    refine GL.val (v := (.pointer (some ⟨rb, 0, none⟩))) (Ex.nilCheck rfl) (by decide) ?_
    refine GL.val (v := (.pointer (some ⟨rb, 0, none⟩))) (Ex.cast (Ex.fieldAddr rfl Try.underlying44 rfl T.sz34 (by decide)) rfl) (by decide) ?_
    refine GL.val (Ex.load rfl T.ag34 (i := 0) rfl rfl) (by decide) ?_
    refine GL.val (Ex.move rfl) (by decide) ?_
    refine GL.val (v := (.pointer (some ⟨b1, 1, none⟩))) (Ex.cast (Ex.indexAddr rfl rfl Try.underlying34 T.sz30 (by omega) (by omega)) rfl) (by decide) ?_
    refine GL.val (Ex.load rfl T.ag30 (i := 1) rfl rfl) (by decide) ?_
    refine GL.val (v := (.int .i64 (((m + 5) : Int)))) (Ex.len rfl Try.underlying30) (by decide) ?_
    refine GL.val (v := (.bool (decide ((((k : Nat) : Int)) < (((m + 5) : Int)))))) (Ex.lss rfl rfl) (by decide) ?_
    refine GL.nil ?_
    refine GE.thenN ?_
    refine GC.cond rfl (fun hq6 => ?_) (fun hq6 => ?_)
    · replace hq6 := of_decide_eq_true hq6
      refine GC.skip ?_
      refine GE.thenN ?_
      refine GC.seq ?_
      refine GC.block ?_
      refine GC.seq ?_
      refine GC.draw [⟨rb, [(.slice (some ⟨b1, 0, none⟩) 2 e1), (.slice (some ⟨b2, 0, none⟩) 2 e2), (.slice none 0 0), (.slice none 0 0), (.slice none 0 0), (.slice none 0 0), (.slice none 0 0), (.slice none 0 0)], 44, false⟩, ⟨b1, ([(Value.slice (some ⟨a0, 0, none⟩) (n + 5) (n + 5))] ++ [(Value.slice (some ⟨a1, 0, none⟩) (m + 5) (m + 5))]) ++ q1, 30, false⟩, ⟨b2, ([(Value.slice (some ⟨c0, 0, none⟩) (n + 5) d0)] ++ [(Value.slice (some ⟨c1, 0, none⟩) (m + 5) d1)]) ++ q2, 30, false⟩, ⟨a0, (roomL xs0).map u32, 72, false⟩, ⟨c0, (roomL xs0).map u32 ++ sp0, 72, false⟩, ⟨a1, (roomL xs1).map u32, 72, false⟩, ⟨c1, (roomL xs1).map u32 ++ sp1, 72, false⟩] T.mixed (fuel := 21) rfl rfl ?_
      refine GH.take 0 (v := (.pointer (some ⟨rb, 0, none⟩))) rfl (by kernel_rfl) (by kernel_rfl) (by kernel_rfl) (fun _ _ _ h => h) (Ex.move rfl) (ulC (ulC (ulC (ulC (ulC (ulC (ulC ulN))))))) (by decide) ?_
      refine GH.take 4 (v := (.int .i64 1)) rfl (by kernel_rfl) (by kernel_rfl) (by kernel_rfl) (fun _ _ _ h => h) (Ex.move rfl) (ulC (ulC (ulC (ulC (ulC (ulC (ulC ulN))))))) (by decide) ?_
      refine GH.take 7 (v := (.int .i64 (((k : Nat) : Int)))) rfl (by kernel_rfl) (by kernel_rfl) (by kernel_rfl) (fun _ _ _ h => h) (Ex.move rfl) (ulC (ulC (ulC (ulC (ulC (ulC (ulC ulN))))))) (by decide) ?_
      refine GH.take 10 (v := (.pointer (some ⟨rb, 0, none⟩))) rfl (by kernel_rfl) (by kernel_rfl) (by kernel_rfl) (fun _ _ _ h => h) (Ex.move rfl) (ulC (ulC (ulC (ulC (ulC (ulC (ulC ulN))))))) (by decide) ?_
      refine GH.take 14 (v := (.int .i64 1)) rfl (by kernel_rfl) (by kernel_rfl) (by kernel_rfl) (fun _ _ _ h => h) (Ex.move rfl) (ulC (ulC (ulC (ulC (ulC (ulC (ulC ulN))))))) (by decide) ?_
      refine GH.take 17 (v := (.int .i64 (((k : Nat) : Int)))) rfl (by kernel_rfl) (by kernel_rfl) (by kernel_rfl) (fun _ _ _ h => h) (Ex.move rfl) (ulC (ulC (ulC (ulC (ulC (ulC (ulC ulN))))))) (by decide) ?_
      refine GH.many (rs := [1, 11]) (by kernel_rfl) (by simp) ?_
      refine GHs.cons rfl (Ex.wp (v := (.pointer (some ⟨rb, 0, none⟩))) (Ex.nilCheck rfl) (by decide)) (fun _ => (ulC (ulC (ulC (ulC (ulC (ulC (ulC ulN)))))))) (fun _ _ => ?_) ?_
      · refine GH.take 2 (v := (.pointer (some ⟨rb, 0, none⟩))) rfl (by kernel_rfl) (by kernel_rfl) (by kernel_rfl) (fun _ _ _ h => h) (Ex.cast (Ex.fieldAddr rfl Try.underlying44 rfl T.sz34 (by decide)) rfl) (ulC (ulC (ulC (ulC (ulC (ulC (ulC ulN))))))) (by decide) ?_
        refine GH.take 3 (v := (.slice (some ⟨b1, 0, none⟩) 2 e1)) rfl (by kernel_rfl) (by kernel_rfl) (by kernel_rfl) (fun _ _ _ h => h) (Ex.load rfl T.ag34 (i := 0) rfl rfl) (ulC (ulC (ulC (ulC (ulC (ulC (ulC ulN))))))) (by decide) ?_
        refine GH.take 5 (v := (.pointer (some ⟨b1, 1, none⟩))) rfl (by kernel_rfl) (by kernel_rfl) (by kernel_rfl) (fun _ _ _ h => h) (Ex.cast (Ex.indexAddr rfl rfl Try.underlying34 T.sz30 (by omega) (by omega)) rfl) (ulC (ulC (ulC (ulC (ulC (ulC (ulC ulN))))))) (by decide) ?_
        refine GH.take 6 (v := (.slice (some ⟨a1, 0, none⟩) (m + 5) (m + 5))) rfl (by kernel_rfl) (by kernel_rfl) (by kernel_rfl) (fun _ _ _ h => h) (Ex.load rfl T.ag30 (i := 1) rfl rfl) (ulC (ulC (ulC (ulC (ulC (ulC (ulC ulN))))))) (by decide) ?_
        refine GH.take 8 (v := (.pointer (some ⟨a1, k, none⟩))) rfl (by kernel_rfl) (by kernel_rfl) (by kernel_rfl) (fun _ _ _ h => h) (Ex.cast (Ex.indexAddr rfl rfl Try.underlying30 T.sz72 (by omega) (by omega)) (by simp)) (ulC (ulC (ulC (ulC (ulC (ulC (ulC ulN))))))) (by decide) ?_
        refine GH.take 9 (v := (.int .u32 ((roomL xs1).getD k 0))) rfl (by kernel_rfl) (by kernel_rfl) (by kernel_rfl) (fun _ _ _ h => h) (Ex.load rfl T.ag72 (i := 5) rfl (u32_at (by rw [roomL_len]; omega))) (ulC (ulC (ulC (ulC (ulC (ulC (ulC ulN))))))) (by decide) ?_
        refine GH.one 11 rfl (by kernel_rfl) (Ex.wp (v := (.pointer (some ⟨rb, 0, none⟩))) (Ex.nilCheck rfl) (by decide)) (fun _ => (ulC (ulC (ulC (ulC (ulC (ulC (ulC ulN)))))))) (fun _ _ => ?_)
        refine GH.take 12 (v := (.pointer (some ⟨rb, 1, none⟩))) rfl (by kernel_rfl) (by kernel_rfl) (by kernel_rfl) (fun _ _ _ h => h) (Ex.cast (Ex.fieldAddr rfl Try.underlying44 rfl T.sz34 (by decide)) rfl) (ulC (ulC (ulC (ulC (ulC (ulC (ulC ulN))))))) (by decide) ?_
        refine GH.take 13 (v := (.slice (some ⟨b2, 0, none⟩) 2 e2)) rfl (by kernel_rfl) (by kernel_rfl) (by kernel_rfl) (fun _ _ _ h => h) (Ex.load rfl T.ag34 (i := 0) rfl rfl) (ulC (ulC (ulC (ulC (ulC (ulC (ulC ulN))))))) (by decide) ?_
        refine GH.take 15 (v := (.pointer (some ⟨b2, 1, none⟩))) rfl (by kernel_rfl) (by kernel_rfl) (by kernel_rfl) (fun _ _ _ h => h) (Ex.cast (Ex.indexAddr rfl rfl Try.underlying34 T.sz30 (by omega) (by omega)) rfl) (ulC (ulC (ulC (ulC (ulC (ulC (ulC ulN))))))) (by decide) ?_
        refine GH.take 16 (v := (.slice (some ⟨c1, 0, none⟩) (m + 5) d1)) rfl (by kernel_rfl) (by kernel_rfl) (by kernel_rfl) (fun _ _ _ h => h) (Ex.load rfl T.ag30 (i := 2) rfl rfl) (ulC (ulC (ulC (ulC (ulC (ulC (ulC ulN))))))) (by decide) ?_
        refine GH.take 18 (v := (.pointer (some ⟨c1, k, none⟩))) rfl (by kernel_rfl) (by kernel_rfl) (by kernel_rfl) (fun _ _ _ h => h) (Ex.cast (Ex.indexAddr rfl rfl Try.underlying30 T.sz72 (by omega) (by omega)) (by simp)) (ulC (ulC (ulC (ulC (ulC (ulC (ulC ulN))))))) (by decide) ?_
        refine GH.take 19 (v := (.int .u32 ((roomL xs1).getD k 0))) rfl (by kernel_rfl) (by kernel_rfl) (by kernel_rfl) (fun _ _ _ h => h) (Ex.load rfl T.ag72 (i := 6) rfl (u32_at' sp1 (by rw [roomL_len]; omega))) (ulC (ulC (ulC (ulC (ulC (ulC (ulC ulN))))))) (by decide) ?_
        refine GH.take 20 (v := (.bool false)) rfl (by kernel_rfl) (by kernel_rfl) (by kernel_rfl) (fun _ _ _ h => h) (Ex.cast (Ex.neq rfl rfl) (congrArg Value.bool (decide_eq_false (by simp)))) (ulC (ulC (ulC (ulC (ulC (ulC (ulC ulN))))))) (by decide) ?_
        refine GH.done (by kernel_rfl) ?_
        refine GE.thenN ?_
        refine GC.cond rfl (fun hq7 => by cases hq7) (fun _ => ?_)
        refine GC.skip ?_
        refine GE.blockN ?_
        refine GE.thenN ?_
        refine GC.region ?_
        refine GL.val (Ex.move rfl) (by decide) ?_
        refine GL.val (v := (.int .i64 (((k + 1 : Nat) : Int)))) (Ex.add rfl rfl (Z := ((k + 1 : Nat) : Int)) (by rw [w64 (by omega)]; rfl)) (by decide) ?_
        refine GL.val (Ex.assign rfl) (by decide) ?_
        refine GL.nil ?_
        refine GE.thenN ?_
        exact Head.mk (k + 1) trivial (by omega) ((sub_cons rfl ((sub_cons rfl ((sub_cons rfl ((sub_nil _)))))))) (ulC (ulC (ulC (ulC (ulC (ulC (ulC ulN)))))))
      refine GHs.cons rfl (Ex.wp (v := (.pointer (some ⟨rb, 0, none⟩))) (Ex.nilCheck rfl) (by decide)) (fun _ => (ulC (ulC (ulC (ulC (ulC (ulC (ulC ulN)))))))) (fun _ _ => ?_) ?_
      · refine GH.take 12 (v := (.pointer (some ⟨rb, 1, none⟩))) rfl (by kernel_rfl) (by kernel_rfl) (by kernel_rfl) (fun _ _ _ h => h) (Ex.cast (Ex.fieldAddr rfl Try.underlying44 rfl T.sz34 (by decide)) rfl) (ulC (ulC (ulC (ulC (ulC (ulC (ulC ulN))))))) (by decide) ?_
        refine GH.take 13 (v := (.slice (some ⟨b2, 0, none⟩) 2 e2)) rfl (by kernel_rfl) (by kernel_rfl) (by kernel_rfl) (fun _ _ _ h => h) (Ex.load rfl T.ag34 (i := 0) rfl rfl) (ulC (ulC (ulC (ulC (ulC (ulC (ulC ulN))))))) (by decide) ?_
        refine GH.take 15 (v := (.pointer (some ⟨b2, 1, none⟩))) rfl (by kernel_rfl) (by kernel_rfl) (by kernel_rfl) (fun _ _ _ h => h) (Ex.cast (Ex.indexAddr rfl rfl Try.underlying34 T.sz30 (by omega) (by omega)) rfl) (ulC (ulC (ulC (ulC (ulC (ulC (ulC ulN))))))) (by decide) ?_
        refine GH.take 16 (v := (.slice (some ⟨c1, 0, none⟩) (m + 5) d1)) rfl (by kernel_rfl) (by kernel_rfl) (by kernel_rfl) (fun _ _ _ h => h) (Ex.load rfl T.ag30 (i := 2) rfl rfl) (ulC (ulC (ulC (ulC (ulC (ulC (ulC ulN))))))) (by decide) ?_
        refine GH.take 18 (v := (.pointer (some ⟨c1, k, none⟩))) rfl (by kernel_rfl) (by kernel_rfl) (by kernel_rfl) (fun _ _ _ h => h) (Ex.cast (Ex.indexAddr rfl rfl Try.underlying30 T.sz72 (by omega) (by omega)) (by simp)) (ulC (ulC (ulC (ulC (ulC (ulC (ulC ulN))))))) (by decide) ?_
        refine GH.take 19 (v := (.int .u32 ((roomL xs1).getD k 0))) rfl (by kernel_rfl) (by kernel_rfl) (by kernel_rfl) (fun _ _ _ h => h) (Ex.load rfl T.ag72 (i := 6) rfl (u32_at' sp1 (by rw [roomL_len]; omega))) (ulC (ulC (ulC (ulC (ulC (ulC (ulC ulN))))))) (by decide) ?_
        refine GH.one 1 rfl (by kernel_rfl) (Ex.wp (v := (.pointer (some ⟨rb, 0, none⟩))) (Ex.nilCheck rfl) (by decide)) (fun _ => (ulC (ulC (ulC (ulC (ulC (ulC (ulC ulN)))))))) (fun _ _ => ?_)
        refine GH.take 2 (v := (.pointer (some ⟨rb, 0, none⟩))) rfl (by kernel_rfl) (by kernel_rfl) (by kernel_rfl) (fun _ _ _ h => h) (Ex.cast (Ex.fieldAddr rfl Try.underlying44 rfl T.sz34 (by decide)) rfl) (ulC (ulC (ulC (ulC (ulC (ulC (ulC ulN))))))) (by decide) ?_
        refine GH.take 3 (v := (.slice (some ⟨b1, 0, none⟩) 2 e1)) rfl (by kernel_rfl) (by kernel_rfl) (by kernel_rfl) (fun _ _ _ h => h) (Ex.load rfl T.ag34 (i := 0) rfl rfl) (ulC (ulC (ulC (ulC (ulC (ulC (ulC ulN))))))) (by decide) ?_
        refine GH.take 5 (v := (.pointer (some ⟨b1, 1, none⟩))) rfl (by kernel_rfl) (by kernel_rfl) (by kernel_rfl) (fun _ _ _ h => h) (Ex.cast (Ex.indexAddr rfl rfl Try.underlying34 T.sz30 (by omega) (by omega)) rfl) (ulC (ulC (ulC (ulC (ulC (ulC (ulC ulN))))))) (by decide) ?_
        refine GH.take 6 (v := (.slice (some ⟨a1, 0, none⟩) (m + 5) (m + 5))) rfl (by kernel_rfl) (by kernel_rfl) (by kernel_rfl) (fun _ _ _ h => h) (Ex.load rfl T.ag30 (i := 1) rfl rfl) (ulC (ulC (ulC (ulC (ulC (ulC (ulC ulN))))))) (by decide) ?_
        refine GH.take 8 (v := (.pointer (some ⟨a1, k, none⟩))) rfl (by kernel_rfl) (by kernel_rfl) (by kernel_rfl) (fun _ _ _ h => h) (Ex.cast (Ex.indexAddr rfl rfl Try.underlying30 T.sz72 (by omega) (by omega)) (by simp)) (ulC (ulC (ulC (ulC (ulC (ulC (ulC ulN))))))) (by decide) ?_
        refine GH.take 9 (v := (.int .u32 ((roomL xs1).getD k 0))) rfl (by kernel_rfl) (by kernel_rfl) (by kernel_rfl) (fun _ _ _ h => h) (Ex.load rfl T.ag72 (i := 5) rfl (u32_at (by rw [roomL_len]; omega))) (ulC (ulC (ulC (ulC (ulC (ulC (ulC ulN))))))) (by decide) ?_
        refine GH.take 20 (v := (.bool false)) rfl (by kernel_rfl) (by kernel_rfl) (by kernel_rfl) (fun _ _ _ h => h) (Ex.cast (Ex.neq rfl rfl) (congrArg Value.bool (decide_eq_false (by simp)))) (ulC (ulC (ulC (ulC (ulC (ulC (ulC ulN))))))) (by decide) ?_
        refine GH.done (by kernel_rfl) ?_
        refine GE.thenN ?_
        refine GC.cond rfl (fun hq8 => by cases hq8) (fun _ => ?_)
        refine GC.skip ?_
        refine GE.blockN ?_
        refine GE.thenN ?_
        refine GC.region ?_
        refine GL.val (Ex.move rfl) (by decide) ?_
        refine GL.val (v := (.int .i64 (((k + 1 : Nat) : Int)))) (Ex.add rfl rfl (Z := ((k + 1 : Nat) : Int)) (by rw [w64 (by omega)]; rfl)) (by decide) ?_
        refine GL.val (Ex.assign rfl) (by decide) ?_
        refine GL.nil ?_
        refine GE.thenN ?_
        exact Head.mk (k + 1) trivial (by omega) ((sub_cons rfl ((sub_cons rfl ((sub_cons rfl ((sub_nil _)))))))) (ulC (ulC (ulC (ulC (ulC (ulC (ulC ulN)))))))
      exact GHs.nil
    · replace hq6 := of_decide_eq_false hq6
      refine GC.exit ?_
      refine GE.thenE ?_
      refine GE.thenE ?_
      refine GE.blockE ?_
      refine GE.blockN ?_
      refine GE.thenN ?_
      refine GC.region ?_
      refine GL.val (Ex.move rfl) (by decide) ?_
      refine GL.val (v := (.int .i64 2)) (Ex.add rfl rfl (Z := 2) (by decide)) (by decide) ?_
      refine GL.val (Ex.assign rfl) (by decide) ?_
      refine GL.nil ?_
      refine GE.thenN ?_
      refine GE.round ?_
      refine GC.seq ?_
      refine GC.seq ?_
      refine GC.region ?_
      refine GL.val (Ex.move rfl) (by decide) ?_
      refine GL.val (Ex.move rfl) (by decide) ?_
      refine GL.val (v := (.pointer (some ⟨rb, 0, none⟩))) (Ex.nilCheck rfl) (by decide) ?_
      refine GL.val (v := (.pointer (some ⟨rb, 0, none⟩))) (Ex.cast (Ex.fieldAddr rfl Try.underlying44 rfl T.sz34 (by decide)) rfl) (by decide) ?_
      refine GL.val (Ex.load rfl T.ag34 (i := 0) rfl rfl) (by decide) ?_
      refine GL.val (v := (.int .i64 2)) (Ex.len rfl Try.underlying34) (by decide) ?_
      refine GL.val (v := (.bool false)) (Ex.cast (Ex.lss rfl rfl) rfl) (by decide) ?_
      refine GL.nil ?_
      refine GE.thenN ?_
      refine GC.cond rfl (fun hq9 => by cases hq9) (fun _ => ?_)
      refine GC.exit ?_
      refine GE.thenE ?_
      refine GE.thenE ?_
      refine GE.blockE ?_
      refine GE.thenN ?_
      refine GC.seq ?_
      refine GC.seq ?_
      refine GC.region ?_
      refine GL.val (Ex.assign rfl) (by decide) ?_
      refine GL.nil ?_
      refine GE.thenN ?_
      refine GC.block ?_
      refine GC.unroll 1 ?_
      refine GE.round ?_
      refine GC.seq ?_
      refine GC.seq ?_
      refine GC.region ?_
      refine GL.val (Ex.move rfl) (by decide) ?_
      refine GL.val (Ex.move rfl) (by decide) ?_
      refine GL.val (v := (.pointer (some ⟨rb, 0, none⟩))) (Ex.nilCheck rfl) (by decide) ?_
      refine GL.val (v := (.pointer (some ⟨rb, 2, none⟩))) (Ex.cast (Ex.fieldAddr rfl Try.underlying44 rfl T.sz35 (by decide)) rfl) (by decide) ?_
      refine GL.val (Ex.load rfl T.ag35 (i := 0) rfl rfl) (by decide) ?_
      refine GL.val (v := (.int .i64 0)) (Ex.len rfl Try.underlying35) (by decide) ?_
      refine GL.val (v := (.bool false)) (Ex.cast (Ex.lss rfl rfl) rfl) (by decide) ?_
      refine GL.nil ?_
      refine GE.thenN ?_
      refine GC.cond rfl (fun hq10 => by cases hq10) (fun _ => ?_)
      refine GC.exit ?_
      refine GE.thenE ?_
      refine GE.thenE ?_
      refine GE.blockE ?_
      refine GE.thenN ?_
      refine GC.seq ?_
      refine GC.seq ?_
      refine GC.region ?_
      refine GL.val (Ex.assign rfl) (by decide) ?_
      refine GL.nil ?_
      refine GE.thenN ?_
      refine GC.block ?_
      refine GC.unroll 1 ?_
      refine GE.round ?_
      refine GC.seq ?_
      refine GC.seq ?_
      refine GC.region ?_
      refine GL.val (Ex.move rfl) (by decide) ?_
      refine GL.val (Ex.move rfl) (by decide) ?_
      refine GL.val (v := (.pointer (some ⟨rb, 0, none⟩))) (Ex.nilCheck rfl) (by decide) ?_
      refine GL.val (v := (.pointer (some ⟨rb, 4, none⟩))) (Ex.cast (Ex.fieldAddr rfl Try.underlying44 rfl T.sz36 (by decide)) rfl) (by decide) ?_
      refine GL.val (Ex.load rfl T.ag36 (i := 0) rfl rfl) (by decide) ?_
      refine GL.val (v := (.int .i64 0)) (Ex.len rfl Try.underlying36) (by decide) ?_
      refine GL.val (v := (.bool false)) (Ex.cast (Ex.lss rfl rfl) rfl) (by decide) ?_
      refine GL.nil ?_
      refine GE.thenN ?_
      refine GC.cond rfl (fun hq11 => by cases hq11) (fun _ => ?_)
      refine GC.exit ?_
      refine GE.thenE ?_
      refine GE.thenE ?_
      refine GE.blockE ?_
      refine GE.thenN ?_
      refine GC.seq ?_
      refine GC.seq ?_
      refine GC.region ?_
      refine GL.val (Ex.assign rfl) (by decide) ?_
      refine GL.nil ?_
      refine GE.thenN ?_
      refine GC.block ?_
      refine GC.unroll 1 ?_
      refine GE.round ?_
      refine GC.seq ?_
      refine GC.seq ?_
      refine GC.region ?_
      refine GL.val (Ex.move rfl) (by decide) ?_
      refine GL.val (Ex.move rfl) (by decide) ?_
      refine GL.val (v := (.pointer (some ⟨rb, 0, none⟩))) (Ex.nilCheck rfl) (by decide) ?_
      refine GL.val (v := (.pointer (some ⟨rb, 6, none⟩))) (Ex.cast (Ex.fieldAddr rfl Try.underlying44 rfl T.sz37 (by decide)) rfl) (by decide) ?_
      refine GL.val (Ex.load rfl T.ag37 (i := 0) rfl rfl) (by decide) ?_
      refine GL.val (v := (.int .i64 0)) (Ex.len rfl Try.underlying37) (by decide) ?_
      refine GL.val (v := (.bool false)) (Ex.cast (Ex.lss rfl rfl) rfl) (by decide) ?_
      refine GL.nil ?_
      refine GE.thenN ?_
      refine GC.cond rfl (fun hq12 => by cases hq12) (fun _ => ?_)
      refine GC.exit ?_
      refine GE.thenE ?_
      refine GE.thenE ?_
      refine GE.blockE ?_
      refine GE.thenN ?_
      refine GC.seq ?_
      refine GC.region ?_
      refine GL.val (Ex.assign rfl) (by decide) ?_
      refine GL.nil ?_
      refine GE.thenN ?_
      refine GC.ret ?_
      refine GC.ret1 rfl (Rv.tmp rfl) (fun wN HN => ?_)
      exact HN.ret () trivial rfl (List.nil_sublist _) rfl

set_option maxRecDepth 100000 in
set_option maxHeartbeats 1000000 in
theorem bkmark (m i : Int) (w : World) :
    Calls Try.prog 57 #[(.int .i64 m), (.int .i64 i)] w (Ret w (fun _ : Unit => True) (fun _ => .int .i64 (mkI m i)) (fun _ => [])) := by
  refine enter (M := None) (L := []) (n := 13) (l := [(0, (.int .i64 m)), (1, (.int .i64 i))]) Try.func57 rfl rfl (Args.cons rfl (Args.cons rfl (Args.nil _))) (Hp.start _ _) ?_
  refine GC.seq ?_
  refine GC.region ?_
  refine GL.val (Ex.assign rfl) (by decide) ?_
  refine GL.nil ?_
  refine GE.thenN ?_
  refine GC.seq ?_
  refine GC.region ?_
  refine GL.val (Ex.move rfl) (by decide) ?_
  refine GL.val (v := (.int .i64 (IntKind.i64.wrap (m * 31)))) (Ex.mul rfl rfl (Z := IntKind.i64.wrap (m * 31)) rfl) (by decide) ?_
  refine GL.val (Ex.move rfl) (by decide) ?_
  refine GL.val (v := (.int .i64 (IntKind.i64.wrap (i * 7)))) (Ex.mul rfl rfl (Z := IntKind.i64.wrap (i * 7)) rfl) (by decide) ?_
  refine GL.val (v := (.int .i64 (IntKind.i64.wrap ((IntKind.i64.wrap (m * 31)) + (IntKind.i64.wrap (i * 7)))))) (Ex.add rfl rfl (Z := IntKind.i64.wrap ((IntKind.i64.wrap (m * 31)) + (IntKind.i64.wrap (i * 7)))) rfl) (by decide) ?_
  refine GL.val (v := (.int .i64 (IntKind.i64.wrap ((IntKind.i64.wrap ((IntKind.i64.wrap (m * 31)) + (IntKind.i64.wrap (i * 7)))) + 1)))) (Ex.add rfl rfl (Z := IntKind.i64.wrap ((IntKind.i64.wrap ((IntKind.i64.wrap (m * 31)) + (IntKind.i64.wrap (i * 7)))) + 1)) rfl) (by decide) ?_
  refine GL.val (v := (.int .i64 ((IntKind.i64.wrap ((IntKind.i64.wrap ((IntKind.i64.wrap (m * 31)) + (IntKind.i64.wrap (i * 7)))) + 1)).tmod 250))) (Ex.rem rfl rfl (Z := (IntKind.i64.wrap ((IntKind.i64.wrap ((IntKind.i64.wrap (m * 31)) + (IntKind.i64.wrap (i * 7)))) + 1)).tmod 250) (by decide) rfl) (by decide) ?_
  refine GL.val (v := (.int .i64 (IntKind.i64.wrap (((IntKind.i64.wrap ((IntKind.i64.wrap ((IntKind.i64.wrap (m * 31)) + (IntKind.i64.wrap (i * 7)))) + 1)).tmod 250) + 1)))) (Ex.add rfl rfl (Z := IntKind.i64.wrap (((IntKind.i64.wrap ((IntKind.i64.wrap ((IntKind.i64.wrap (m * 31)) + (IntKind.i64.wrap (i * 7)))) + 1)).tmod 250) + 1)) rfl) (by decide) ?_
  refine GL.val (Ex.assign rfl) (by decide) ?_
  refine GL.nil ?_
  refine GE.thenN ?_
  refine GC.ret ?_
  refine GC.ret1 rfl (Rv.tmp rfl) (fun wN HN => ?_)
  exact HN.ret () trivial rfl (List.nil_sublist _) rfl

set_option maxRecDepth 100000 in
set_option maxHeartbeats 1000000 in
theorem book_s00 (w0 : World) (R : List Blk) (kb : Nat) (m : Int) (w : World) (hp0 : Hp None w0 (⟨kb, [(.slice none 0 0), (.slice none 0 0), (.slice none 0 0), (.slice none 0 0), (.slice none 0 0), (.slice none 0 0), (.slice none 0 0), (.slice none 0 0)], 41, true⟩ :: R) w) :
    Calls Try.prog 56 #[(.pointer (some ⟨kb, 0, none⟩)), (.slice none 0 0), (.int .i64 m)] w (Frm (σ := (Nat × Nat × List Value) × (Nat × Nat × List Value)) None w0 (fun x => ([(Value.slice none 0 0)] ++ x.2.2.2 : List Value).length = x.2.2.1 * 1 ∧ ([(Value.int .i64 m)] ++ x.1.2.2 : List Value).length = x.1.2.1 * 1) (fun x => .tuple #[]) (fun x => (⟨x.1.1, [(Value.int .i64 m)] ++ x.1.2.2, 3, true⟩ :: ⟨x.2.1, [(Value.slice none 0 0)] ++ x.2.2.2, 30, true⟩ :: ⟨kb, [(.slice (some ⟨x.2.1, 0, none⟩) 1 x.2.2.1), (.slice none 0 0), (.slice none 0 0), (.slice none 0 0), (.slice (some ⟨x.1.1, 0, none⟩) 1 x.1.2.1), (.slice none 0 0), (.slice none 0 0), (.slice none 0 0)], 41, true⟩ :: R))) := by
  refine enterF (w0 := w0) (M := None) (L := (⟨kb, [(.slice none 0 0), (.slice none 0 0), (.slice none 0 0), (.slice none 0 0), (.slice none 0 0), (.slice none 0 0), (.slice none 0 0), (.slice none 0 0)], 41, true⟩ :: R)) (n := 46) (l := [(0, (.pointer (some ⟨kb, 0, none⟩))), (1, (.slice none 0 0)), (2, (.int .i64 m))]) Try.func56 rfl rfl (Args.cons rfl (Args.cons rfl (Args.cons rfl (Args.nil _)))) hp0 ?_
  refine GC.seq ?_
  refine GC.region ?_
  refine GL.val (Ex.move rfl) (by decide) ?_
  refine GL.val (Ex.move rfl) (by decide) ?_
  refine GL.val (v := (.int .i64 0)) (Ex.cap rfl Try.underlying30) (by decide) ?_
  refine GL.val (v := (.slice none 0 0)) (Ex.sliceH (m := 0) rfl rfl Try.underlying30 T.sz72 rfl (Nat.le_refl _)) (by decide) ?_
  refine GL.val (Ex.assign rfl) (by decide) ?_
  refine GL.nil ?_
  refine GE.thenN ?_
  refine GC.seq ?_
  refine GC.seq ?_
  refine GC.region ?_
  refine GL.val (Ex.assign rfl) (by decide) ?_
  refine GL.nil ?_
  refine GE.thenN ?_
  refine GC.block ?_
  refine GC.unroll 1 ?_
  refine GE.round ?_
  refine GC.seq ?_
  refine GC.seq ?_
  refine GC.region ?_
  refine GL.val (Ex.move rfl) (by decide) ?_
  refine GL.val (Ex.move rfl) (by decide) ?_
  refine GL.val (v := (.int .i64 0)) (Ex.len rfl Try.underlying30) (by decide) ?_
  refine GL.val (v := (.bool false)) (Ex.cast (Ex.lss rfl rfl) rfl) (by decide) ?_
  refine GL.nil ?_
  refine GE.thenN ?_
  refine GC.cond rfl (fun hq1 => by cases hq1) (fun _ => ?_)
  refine GC.exit ?_
  refine GE.thenE ?_
  refine GE.thenE ?_
  refine GE.blockE ?_
  refine GE.thenN ?_
  refine GC.seq ?_
  refine GC.region ?_
  refine GL.val (Ex.move rfl) (by decide) ?_
  refine GL.val (Ex.move rfl) (by decide) ?_
  refine GL.val (v := (.pointer (some ⟨kb, 0, none⟩))) (Ex.nilCheck rfl) (by decide) ?_
  refine GL.val (v := (.pointer (some ⟨kb, 0, none⟩))) (Ex.cast (Ex.fieldAddr rfl Try.underlying41 rfl T.sz34 (by decide)) rfl) (by decide) ?_
  refine GL.val (Ex.load rfl T.ag34 (i := 0) rfl rfl) (by decide) ?_
  refine GL.val (Ex.move rfl) (by decide) ?_
  refine GL.step (Stp.buildSlice (cs := [(.slice none 0 0)]) (vs := [(0, (.slice none 0 0))]) Try.underlying34 T.zr30 T.sz30 rfl (by decide) (by decide) (by first | rfl | kernel_rfl) (by decide)) (fun bq2 _ => ?_)
  refine GL.step (Stp.appendNil (vs := [(.slice none 0 0)]) rfl rfl Try.underlying34 T.sz30 T.zr30 rfl T.by30 (fun wz hz => hz.rdOf (i := 0) rfl 0) rfl (by decide) (by decide) (by decide) (by decide)) (fun xq3 hq4 => ?_)
  refine GL.val (v := (.pointer (some ⟨kb, 0, none⟩))) (Ex.nilCheck rfl) (by decide) ?_
  refine GL.val (v := (.pointer (some ⟨kb, 0, none⟩))) (Ex.cast (Ex.fieldAddr rfl Try.underlying41 rfl T.sz34 (by decide)) rfl) (by decide) ?_
  refine GL.step (Stp.st2 (cs' := [(.slice (some ⟨xq3.1, 0, none⟩) 1 xq3.2.1), (.slice none 0 0), (.slice none 0 0), (.slice none 0 0), (.slice none 0 0), (.slice none 0 0), (.slice none 0 0), (.slice none 0 0)]) rfl rfl rfl T.sz34 rfl rfl rfl) (fun _ _ => ?_)
  refine GL.nil ?_
  refine GE.thenN ?_
  refine GC.draw (⟨xq3.1, [(.slice none 0 0)] ++ xq3.2.2, 30, true⟩ :: ⟨bq2, [(.slice none 0 0)], 30, true⟩ :: R) T.mixed (fuel := 13) rfl rfl ?_
  refine GH.take 0 (v := (.pointer (some ⟨kb, 0, none⟩))) rfl (by kernel_rfl) (by kernel_rfl) (by kernel_rfl) (fun _ _ _ h => h) (Ex.move rfl) (ulC (ulC (ulS ulR))) (by decide) ?_
  refine GH.take 1 (v := (.pointer (some ⟨kb, 0, none⟩))) rfl (by kernel_rfl) (by kernel_rfl) (by kernel_rfl) (fun _ _ _ h => h) (Ex.move rfl) (ulC (ulC (ulS ulR))) (by decide) ?_
  refine GH.take 6 (v := (.int .i64 m)) rfl (by kernel_rfl) (by kernel_rfl) (by kernel_rfl) (fun _ _ _ h => h) (Ex.move rfl) (ulC (ulC (ulS ulR))) (by decide) ?_
  refine GH.many (rs := [2, 7, 9]) (by kernel_rfl) (by simp) ?_
  refine GHs.cons rfl (Ex.wp (v := (.pointer (some ⟨kb, 0, none⟩))) (Ex.nilCheck rfl) (by decide)) (fun _ => (ulC (ulC (ulS ulR)))) (fun _ _ => ?_) ?_
  · refine GH.take 3 (v := (.pointer (some ⟨kb, 4, none⟩))) rfl (by kernel_rfl) (by kernel_rfl) (by kernel_rfl) (fun _ _ _ h => h) (Ex.cast (Ex.fieldAddr rfl Try.underlying41 rfl T.sz39 (by decide)) rfl) (ulC (ulC (ulS ulR))) (by decide) ?_
    refine GH.take 4 (v := (.pointer (some ⟨kb, 4, none⟩))) rfl (by kernel_rfl) (by kernel_rfl) (by kernel_rfl) (fun _ _ _ h => h) (Ex.cast (Ex.indexArr (m := 4) rfl rfl Try.underlying39 T.sz38 (by decide) (by decide)) rfl) (ulC (ulC (ulS ulR))) (by decide) ?_
    refine GH.many (rs := [5, 7, 9]) (by kernel_rfl) (by simp) ?_
    refine GHs.cons rfl (Ex.wp (v := (.slice none 0 0)) (Ex.load rfl T.ag38 (i := 2) rfl rfl) (by decide)) (fun _ => (ulC (ulC (ulS ulR)))) (fun _ _ => ?_) ?_
    · refine GH.many (rs := [7, 9]) (by kernel_rfl) (by simp) ?_
      refine GHs.cons rfl (Stp.buildSlice (cs := [(.int .i64 m)]) (vs := [(0, (.int .i64 m))]) Try.underlying38 T.zr3 T.sz3 rfl (by decide) (by decide) (by first | rfl | kernel_rfl) (by decide)) (fun _ => (ulS (ulC (ulC (ulS ulR))))) (fun bq5 _ => ?_) ?_
      · refine GH.many (rs := [8, 9]) (by kernel_rfl) (by simp) ?_
        refine GHs.cons rfl (Stp.appendNil (vs := [(.int .i64 m)]) rfl rfl Try.underlying38 T.sz3 T.zr3 rfl T.by3 (fun wz hz => hz.rdOf (i := 0) rfl 0) rfl (by decide) (by decide) (by decide) (by decide)) (fun _ => (ulS (ulS (ulC (ulC (ulS ulR)))))) (fun xq6 hq7 => ?_) ?_
        · refine GH.one 9 rfl (by kernel_rfl) (Ex.wp (v := (.pointer (some ⟨kb, 0, none⟩))) (Ex.nilCheck rfl) (by decide)) (fun _ => (ulS (ulS (ulC (ulC (ulS ulR)))))) (fun _ _ => ?_)
          refine GH.take 10 (v := (.pointer (some ⟨kb, 4, none⟩))) rfl (by kernel_rfl) (by kernel_rfl) (by kernel_rfl) (fun _ _ _ h => h) (Ex.cast (Ex.fieldAddr rfl Try.underlying41 rfl T.sz39 (by decide)) rfl) (ulS (ulS (ulC (ulC (ulS ulR))))) (by decide) ?_
          refine GH.take 11 (v := (.pointer (some ⟨kb, 4, none⟩))) rfl (by kernel_rfl) (by kernel_rfl) (by kernel_rfl) (fun _ _ _ h => h) (Ex.cast (Ex.indexArr (m := 4) rfl rfl Try.underlying39 T.sz38 (by decide) (by decide)) rfl) (ulS (ulS (ulC (ulC (ulS ulR))))) (by decide) ?_
          refine GH.one 12 rfl (by kernel_rfl) (Stp.st4 (cs' := [(.slice (some ⟨xq3.1, 0, none⟩) 1 xq3.2.1), (.slice none 0 0), (.slice none 0 0), (.slice none 0 0), (.slice (some ⟨xq6.1, 0, none⟩) 1 xq6.2.1), (.slice none 0 0), (.slice none 0 0), (.slice none 0 0)]) rfl rfl rfl T.sz38 rfl rfl rfl) (fun _ => (ulS (ulS (ulC (ulC (ulS ulR)))))) (fun _ _ => ?_)
          refine GH.done (by kernel_rfl) ?_
          refine GC.end0 rfl (fun wN HN => ?_)
          exact HN.frm (xq6, xq3) ⟨hq4.1, hq7.1⟩ (by rfl) (ulC (ulS (ulC (ulS (ulC ulR)))))
        refine GHs.cons rfl (Ex.wp (v := (.pointer (some ⟨kb, 0, none⟩))) (Ex.nilCheck rfl) (by decide)) (fun _ => (ulS (ulC (ulC (ulS ulR))))) (fun _ _ => ?_) ?_
        · refine GH.take 10 (v := (.pointer (some ⟨kb, 4, none⟩))) rfl (by kernel_rfl) (by kernel_rfl) (by kernel_rfl) (fun _ _ _ h => h) (Ex.cast (Ex.fieldAddr rfl Try.underlying41 rfl T.sz39 (by decide)) rfl) (ulS (ulC (ulC (ulS ulR)))) (by decide) ?_
          refine GH.one 8 rfl (by kernel_rfl) (Stp.appendNil (vs := [(.int .i64 m)]) rfl rfl Try.underlying38 T.sz3 T.zr3 rfl T.by3 (fun wz hz => hz.rdOf (i := 0) rfl 0) rfl (by decide) (by decide) (by decide) (by decide)) (fun _ => (ulS (ulS (ulC (ulC (ulS ulR)))))) (fun xq8 hq9 => ?_)
          refine GH.take 11 (v := (.pointer (some ⟨kb, 4, none⟩))) rfl (by kernel_rfl) (by kernel_rfl) (by kernel_rfl) (fun _ _ _ h => h) (Ex.cast (Ex.indexArr (m := 4) rfl rfl Try.underlying39 T.sz38 (by decide) (by decide)) rfl) (ulS (ulS (ulC (ulC (ulS ulR))))) (by decide) ?_
          refine GH.one 12 rfl (by kernel_rfl) (Stp.st4 (cs' := [(.slice (some ⟨xq3.1, 0, none⟩) 1 xq3.2.1), (.slice none 0 0), (.slice none 0 0), (.slice none 0 0), (.slice (some ⟨xq8.1, 0, none⟩) 1 xq8.2.1), (.slice none 0 0), (.slice none 0 0), (.slice none 0 0)]) rfl rfl rfl T.sz38 rfl rfl rfl) (fun _ => (ulS (ulS (ulC (ulC (ulS ulR)))))) (fun _ _ => ?_)
          refine GH.done (by kernel_rfl) ?_
          refine GC.end0 rfl (fun wN HN => ?_)
          exact HN.frm (xq8, xq3) ⟨hq4.1, hq9.1⟩ (by rfl) (ulC (ulS (ulC (ulS (ulC ulR)))))
        exact GHs.nil
      refine GHs.cons rfl (Ex.wp (v := (.pointer (some ⟨kb, 0, none⟩))) (Ex.nilCheck rfl) (by decide)) (fun _ => (ulC (ulC (ulS ulR)))) (fun _ _ => ?_) ?_
      · refine GH.take 10 (v := (.pointer (some ⟨kb, 4, none⟩))) rfl (by kernel_rfl) (by kernel_rfl) (by kernel_rfl) (fun _ _ _ h => h) (Ex.cast (Ex.fieldAddr rfl Try.underlying41 rfl T.sz39 (by decide)) rfl) (ulC (ulC (ulS ulR))) (by decide) ?_
        refine GH.one 7 rfl (by kernel_rfl) (Stp.buildSlice (cs := [(.int .i64 m)]) (vs := [(0, (.int .i64 m))]) Try.underlying38 T.zr3 T.sz3 rfl (by decide) (by decide) (by first | rfl | kernel_rfl) (by decide)) (fun _ => (ulS (ulC (ulC (ulS ulR))))) (fun bq10 _ => ?_)
        refine GH.one 8 rfl (by kernel_rfl) (Stp.appendNil (vs := [(.int .i64 m)]) rfl rfl Try.underlying38 T.sz3 T.zr3 rfl T.by3 (fun wz hz => hz.rdOf (i := 0) rfl 0) rfl (by decide) (by decide) (by decide) (by decide)) (fun _ => (ulS (ulS (ulC (ulC (ulS ulR)))))) (fun xq11 hq12 => ?_)
        refine GH.take 11 (v := (.pointer (some ⟨kb, 4, none⟩))) rfl (by kernel_rfl) (by kernel_rfl) (by kernel_rfl) (fun _ _ _ h => h) (Ex.cast (Ex.indexArr (m := 4) rfl rfl Try.underlying39 T.sz38 (by decide) (by decide)) rfl) (ulS (ulS (ulC (ulC (ulS ulR))))) (by decide) ?_
        refine GH.one 12 rfl (by kernel_rfl) (Stp.st4 (cs' := [(.slice (some ⟨xq3.1, 0, none⟩) 1 xq3.2.1), (.slice none 0 0), (.slice none 0 0), (.slice none 0 0), (.slice (some ⟨xq11.1, 0, none⟩) 1 xq11.2.1), (.slice none 0 0), (.slice none 0 0), (.slice none 0 0)]) rfl rfl rfl T.sz38 rfl rfl rfl) (fun _ => (ulS (ulS (ulC (ulC (ulS ulR)))))) (fun _ _ => ?_)
        refine GH.done (by kernel_rfl) ?_
        refine GC.end0 rfl (fun wN HN => ?_)
        exact HN.frm (xq11, xq3) ⟨hq4.1, hq12.1⟩ (by rfl) (ulC (ulS (ulC (ulS (ulC ulR)))))
      exact GHs.nil
    refine GHs.cons rfl (Stp.buildSlice (cs := [(.int .i64 m)]) (vs := [(0, (.int .i64 m))]) Try.underlying38 T.zr3 T.sz3 rfl (by decide) (by decide) (by first | rfl | kernel_rfl) (by decide)) (fun _ => (ulS (ulC (ulC (ulS ulR))))) (fun bq13 _ => ?_) ?_
    · refine GH.many (rs := [5, 9]) (by kernel_rfl) (by simp) ?_
      refine GHs.cons rfl (Ex.wp (v := (.slice none 0 0)) (Ex.load rfl T.ag38 (i := 3) rfl rfl) (by decide)) (fun _ => (ulS (ulC (ulC (ulS ulR))))) (fun _ _ => ?_) ?_
      · refine GH.many (rs := [8, 9]) (by kernel_rfl) (by simp) ?_
        refine GHs.cons rfl (Stp.appendNil (vs := [(.int .i64 m)]) rfl rfl Try.underlying38 T.sz3 T.zr3 rfl T.by3 (fun wz hz => hz.rdOf (i := 0) rfl 0) rfl (by decide) (by decide) (by decide) (by decide)) (fun _ => (ulS (ulS (ulC (ulC (ulS ulR)))))) (fun xq14 hq15 => ?_) ?_
        · refine GH.one 9 rfl (by kernel_rfl) (Ex.wp (v := (.pointer (some ⟨kb, 0, none⟩))) (Ex.nilCheck rfl) (by decide)) (fun _ => (ulS (ulS (ulC (ulC (ulS ulR)))))) (fun _ _ => ?_)
          refine GH.take 10 (v := (.pointer (some ⟨kb, 4, none⟩))) rfl (by kernel_rfl) (by kernel_rfl) (by kernel_rfl) (fun _ _ _ h => h) (Ex.cast (Ex.fieldAddr rfl Try.underlying41 rfl T.sz39 (by decide)) rfl) (ulS (ulS (ulC (ulC (ulS ulR))))) (by decide) ?_
          refine GH.take 11 (v := (.pointer (some ⟨kb, 4, none⟩))) rfl (by kernel_rfl) (by kernel_rfl) (by kernel_rfl) (fun _ _ _ h => h) (Ex.cast (Ex.indexArr (m := 4) rfl rfl Try.underlying39 T.sz38 (by decide) (by decide)) rfl) (ulS (ulS (ulC (ulC (ulS ulR))))) (by decide) ?_
          refine GH.one 12 rfl (by kernel_rfl) (Stp.st4 (cs' := [(.slice (some ⟨xq3.1, 0, none⟩) 1 xq3.2.1), (.slice none 0 0), (.slice none 0 0), (.slice none 0 0), (.slice (some ⟨xq14.1, 0, none⟩) 1 xq14.2.1), (.slice none 0 0), (.slice none 0 0), (.slice none 0 0)]) rfl rfl rfl T.sz38 rfl rfl rfl) (fun _ => (ulS (ulS (ulC (ulC (ulS ulR)))))) (fun _ _ => ?_)
          refine GH.done (by kernel_rfl) ?_
          refine GC.end0 rfl (fun wN HN => ?_)
          exact HN.frm (xq14, xq3) ⟨hq4.1, hq15.1⟩ (by rfl) (ulC (ulS (ulC (ulS (ulC ulR)))))
        refine GHs.cons rfl (Ex.wp (v := (.pointer (some ⟨kb, 0, none⟩))) (Ex.nilCheck rfl) (by decide)) (fun _ => (ulS (ulC (ulC (ulS ulR))))) (fun _ _ => ?_) ?_
        · refine GH.take 10 (v := (.pointer (some ⟨kb, 4, none⟩))) rfl (by kernel_rfl) (by kernel_rfl) (by kernel_rfl) (fun _ _ _ h => h) (Ex.cast (Ex.fieldAddr rfl Try.underlying41 rfl T.sz39 (by decide)) rfl) (ulS (ulC (ulC (ulS ulR)))) (by decide) ?_
          refine GH.one 8 rfl (by kernel_rfl) (Stp.appendNil (vs := [(.int .i64 m)]) rfl rfl Try.underlying38 T.sz3 T.zr3 rfl T.by3 (fun wz hz => hz.rdOf (i := 0) rfl 0) rfl (by decide) (by decide) (by decide) (by decide)) (fun _ => (ulS (ulS (ulC (ulC (ulS ulR)))))) (fun xq16 hq17 => ?_)
          refine GH.take 11 (v := (.pointer (some ⟨kb, 4, none⟩))) rfl (by kernel_rfl) (by kernel_rfl) (by kernel_rfl) (fun _ _ _ h => h) (Ex.cast (Ex.indexArr (m := 4) rfl rfl Try.underlying39 T.sz38 (by decide) (by decide)) rfl) (ulS (ulS (ulC (ulC (ulS ulR))))) (by decide) ?_
          refine GH.one 12 rfl (by kernel_rfl) (Stp.st4 (cs' := [(.slice (some ⟨xq3.1, 0, none⟩) 1 xq3.2.1), (.slice none 0 0), (.slice none 0 0), (.slice none 0 0), (.slice (some ⟨xq16.1, 0, none⟩) 1 xq16.2.1), (.slice none 0 0), (.slice none 0 0), (.slice none 0 0)]) rfl rfl rfl T.sz38 rfl rfl rfl) (fun _ => (ulS (ulS (ulC (ulC (ulS ulR)))))) (fun _ _ => ?_)
          refine GH.done (by kernel_rfl) ?_
          refine GC.end0 rfl (fun wN HN => ?_)
          exact HN.frm (xq16, xq3) ⟨hq4.1, hq17.1⟩ (by rfl) (ulC (ulS (ulC (ulS (ulC ulR)))))
        exact GHs.nil
      refine GHs.cons rfl (Ex.wp (v := (.pointer (some ⟨kb, 0, none⟩))) (Ex.nilCheck rfl) (by decide)) (fun _ => (ulS (ulC (ulC (ulS ulR))))) (fun _ _ => ?_) ?_
      · refine GH.take 10 (v := (.pointer (some ⟨kb, 4, none⟩))) rfl (by kernel_rfl) (by kernel_rfl) (by kernel_rfl) (fun _ _ _ h => h) (Ex.cast (Ex.fieldAddr rfl Try.underlying41 rfl T.sz39 (by decide)) rfl) (ulS (ulC (ulC (ulS ulR)))) (by decide) ?_
        refine GH.one 5 rfl (by kernel_rfl) (Ex.wp (v := (.slice none 0 0)) (Ex.load rfl T.ag38 (i := 3) rfl rfl) (by decide)) (fun _ => (ulS (ulC (ulC (ulS ulR))))) (fun _ _ => ?_)
        refine GH.one 8 rfl (by kernel_rfl) (Stp.appendNil (vs := [(.int .i64 m)]) rfl rfl Try.underlying38 T.sz3 T.zr3 rfl T.by3 (fun wz hz => hz.rdOf (i := 0) rfl 0) rfl (by decide) (by decide) (by decide) (by decide)) (fun _ => (ulS (ulS (ulC (ulC (ulS ulR)))))) (fun xq18 hq19 => ?_)
        refine GH.take 11 (v := (.pointer (some ⟨kb, 4, none⟩))) rfl (by kernel_rfl) (by kernel_rfl) (by kernel_rfl) (fun _ _ _ h => h) (Ex.cast (Ex.indexArr (m := 4) rfl rfl Try.underlying39 T.sz38 (by decide) (by decide)) rfl) (ulS (ulS (ulC (ulC (ulS ulR))))) (by decide) ?_
        refine GH.one 12 rfl (by kernel_rfl) (Stp.st4 (cs' := [(.slice (some ⟨xq3.1, 0, none⟩) 1 xq3.2.1), (.slice none 0 0), (.slice none 0 0), (.slice none 0 0), (.slice (some ⟨xq18.1, 0, none⟩) 1 xq18.2.1), (.slice none 0 0), (.slice none 0 0), (.slice none 0 0)]) rfl rfl rfl T.sz38 rfl rfl rfl) (fun _ => (ulS (ulS (ulC (ulC (ulS ulR)))))) (fun _ _ => ?_)
        refine GH.done (by kernel_rfl) ?_
        refine GC.end0 rfl (fun wN HN => ?_)
        exact HN.frm (xq18, xq3) ⟨hq4.1, hq19.1⟩ (by rfl) (ulC (ulS (ulC (ulS (ulC ulR)))))
      exact GHs.nil
    refine GHs.cons rfl (Ex.wp (v := (.pointer (some ⟨kb, 0, none⟩))) (Ex.nilCheck rfl) (by decide)) (fun _ => (ulC (ulC (ulS ulR)))) (fun _ _ => ?_) ?_
    · refine GH.take 10 (v := (.pointer (some ⟨kb, 4, none⟩))) rfl (by kernel_rfl) (by kernel_rfl) (by kernel_rfl) (fun _ _ _ h => h) (Ex.cast (Ex.fieldAddr rfl Try.underlying41 rfl T.sz39 (by decide)) rfl) (ulC (ulC (ulS ulR))) (by decide) ?_
      refine GH.many (rs := [5, 7]) (by kernel_rfl) (by simp) ?_
      refine GHs.cons rfl (Ex.wp (v := (.slice none 0 0)) (Ex.load rfl T.ag38 (i := 2) rfl rfl) (by decide)) (fun _ => (ulC (ulC (ulS ulR)))) (fun _ _ => ?_) ?_
      · refine GH.one 7 rfl (by kernel_rfl) (Stp.buildSlice (cs := [(.int .i64 m)]) (vs := [(0, (.int .i64 m))]) Try.underlying38 T.zr3 T.sz3 rfl (by decide) (by decide) (by first | rfl | kernel_rfl) (by decide)) (fun _ => (ulS (ulC (ulC (ulS ulR))))) (fun bq20 _ => ?_)
        refine GH.one 8 rfl (by kernel_rfl) (Stp.appendNil (vs := [(.int .i64 m)]) rfl rfl Try.underlying38 T.sz3 T.zr3 rfl T.by3 (fun wz hz => hz.rdOf (i := 0) rfl 0) rfl (by decide) (by decide) (by decide) (by decide)) (fun _ => (ulS (ulS (ulC (ulC (ulS ulR)))))) (fun xq21 hq22 => ?_)
        refine GH.take 11 (v := (.pointer (some ⟨kb, 4, none⟩))) rfl (by kernel_rfl) (by kernel_rfl) (by kernel_rfl) (fun _ _ _ h => h) (Ex.cast (Ex.indexArr (m := 4) rfl rfl Try.underlying39 T.sz38 (by decide) (by decide)) rfl) (ulS (ulS (ulC (ulC (ulS ulR))))) (by decide) ?_
        refine GH.one 12 rfl (by kernel_rfl) (Stp.st4 (cs' := [(.slice (some ⟨xq3.1, 0, none⟩) 1 xq3.2.1), (.slice none 0 0), (.slice none 0 0), (.slice none 0 0), (.slice (some ⟨xq21.1, 0, none⟩) 1 xq21.2.1), (.slice none 0 0), (.slice none 0 0), (.slice none 0 0)]) rfl rfl rfl T.sz38 rfl rfl rfl) (fun _ => (ulS (ulS (ulC (ulC (ulS ulR)))))) (fun _ _ => ?_)
        refine GH.done (by kernel_rfl) ?_
        refine GC.end0 rfl (fun wN HN => ?_)
        exact HN.frm (xq21, xq3) ⟨hq4.1, hq22.1⟩ (by rfl) (ulC (ulS (ulC (ulS (ulC ulR)))))
      refine GHs.cons rfl (Stp.buildSlice (cs := [(.int .i64 m)]) (vs := [(0, (.int .i64 m))]) Try.underlying38 T.zr3 T.sz3 rfl (by decide) (by decide) (by first | rfl | kernel_rfl) (by decide)) (fun _ => (ulS (ulC (ulC (ulS ulR))))) (fun bq23 _ => ?_) ?_
      · refine GH.one 5 rfl (by kernel_rfl) (Ex.wp (v := (.slice none 0 0)) (Ex.load rfl T.ag38 (i := 3) rfl rfl) (by decide)) (fun _ => (ulS (ulC (ulC (ulS ulR))))) (fun _ _ => ?_)
        refine GH.one 8 rfl (by kernel_rfl) (Stp.appendNil (vs := [(.int .i64 m)]) rfl rfl Try.underlying38 T.sz3 T.zr3 rfl T.by3 (fun wz hz => hz.rdOf (i := 0) rfl 0) rfl (by decide) (by decide) (by decide) (by decide)) (fun _ => (ulS (ulS (ulC (ulC (ulS ulR)))))) (fun xq24 hq25 => ?_)
        refine GH.take 11 (v := (.pointer (some ⟨kb, 4, none⟩))) rfl (by kernel_rfl) (by kernel_rfl) (by kernel_rfl) (fun _ _ _ h => h) (Ex.cast (Ex.indexArr (m := 4) rfl rfl Try.underlying39 T.sz38 (by decide) (by decide)) rfl) (ulS (ulS (ulC (ulC (ulS ulR))))) (by decide) ?_
        refine GH.one 12 rfl (by kernel_rfl) (Stp.st4 (cs' := [(.slice (some ⟨xq3.1, 0, none⟩) 1 xq3.2.1), (.slice none 0 0), (.slice none 0 0), (.slice none 0 0), (.slice (some ⟨xq24.1, 0, none⟩) 1 xq24.2.1), (.slice none 0 0), (.slice none 0 0), (.slice none 0 0)]) rfl rfl rfl T.sz38 rfl rfl rfl) (fun _ => (ulS (ulS (ulC (ulC (ulS ulR)))))) (fun _ _ => ?_)
        refine GH.done (by kernel_rfl) ?_
        refine GC.end0 rfl (fun wN HN => ?_)
        exact HN.frm (xq24, xq3) ⟨hq4.1, hq25.1⟩ (by rfl) (ulC (ulS (ulC (ulS (ulC ulR)))))
      exact GHs.nil
    exact GHs.nil
  refine GHs.cons rfl (Stp.buildSlice (cs := [(.int .i64 m)]) (vs := [(0, (.int .i64 m))]) Try.underlying38 T.zr3 T.sz3 rfl (by decide) (by decide) (by first | rfl | kernel_rfl) (by decide)) (fun _ => (ulS (ulC (ulC (ulS ulR))))) (fun bq26 _ => ?_) ?_
  · refine GH.many (rs := [2, 9]) (by kernel_rfl) (by simp) ?_
    refine GHs.cons rfl (Ex.wp (v := (.pointer (some ⟨kb, 0, none⟩))) (Ex.nilCheck rfl) (by decide)) (fun _ => (ulS (ulC (ulC (ulS ulR))))) (fun _ _ => ?_) ?_
    · refine GH.take 3 (v := (.pointer (some ⟨kb, 4, none⟩))) rfl (by kernel_rfl) (by kernel_rfl) (by kernel_rfl) (fun _ _ _ h => h) (Ex.cast (Ex.fieldAddr rfl Try.underlying41 rfl T.sz39 (by decide)) rfl) (ulS (ulC (ulC (ulS ulR)))) (by decide) ?_
      refine GH.take 4 (v := (.pointer (some ⟨kb, 4, none⟩))) rfl (by kernel_rfl) (by kernel_rfl) (by kernel_rfl) (fun _ _ _ h => h) (Ex.cast (Ex.indexArr (m := 4) rfl rfl Try.underlying39 T.sz38 (by decide) (by decide)) rfl) (ulS (ulC (ulC (ulS ulR)))) (by decide) ?_
      refine GH.many (rs := [5, 9]) (by kernel_rfl) (by simp) ?_
      refine GHs.cons rfl (Ex.wp (v := (.slice none 0 0)) (Ex.load rfl T.ag38 (i := 3) rfl rfl) (by decide)) (fun _ => (ulS (ulC (ulC (ulS ulR))))) (fun _ _ => ?_) ?_
      · refine GH.many (rs := [8, 9]) (by kernel_rfl) (by simp) ?_
        refine GHs.cons rfl (Stp.appendNil (vs := [(.int .i64 m)]) rfl rfl Try.underlying38 T.sz3 T.zr3 rfl T.by3 (fun wz hz => hz.rdOf (i := 0) rfl 0) rfl (by decide) (by decide) (by decide) (by decide)) (fun _ => (ulS (ulS (ulC (ulC (ulS ulR)))))) (fun xq27 hq28 => ?_) ?_
        · refine GH.one 9 rfl (by kernel_rfl) (Ex.wp (v := (.pointer (some ⟨kb, 0, none⟩))) (Ex.nilCheck rfl) (by decide)) (fun _ => (ulS (ulS (ulC (ulC (ulS ulR)))))) (fun _ _ => ?_)
          refine GH.take 10 (v := (.pointer (some ⟨kb, 4, none⟩))) rfl (by kernel_rfl) (by kernel_rfl) (by kernel_rfl) (fun _ _ _ h => h) (Ex.cast (Ex.fieldAddr rfl Try.underlying41 rfl T.sz39 (by decide)) rfl) (ulS (ulS (ulC (ulC (ulS ulR))))) (by decide) ?_
          refine GH.take 11 (v := (.pointer (some ⟨kb, 4, none⟩))) rfl (by kernel_rfl) (by kernel_rfl) (by kernel_rfl) (fun _ _ _ h => h) (Ex.cast (Ex.indexArr (m := 4) rfl rfl Try.underlying39 T.sz38 (by decide) (by decide)) rfl) (ulS (ulS (ulC (ulC (ulS ulR))))) (by decide) ?_
          refine GH.one 12 rfl (by kernel_rfl) (Stp.st4 (cs' := [(.slice (some ⟨xq3.1, 0, none⟩) 1 xq3.2.1), (.slice none 0 0), (.slice none 0 0), (.slice none 0 0), (.slice (some ⟨xq27.1, 0, none⟩) 1 xq27.2.1), (.slice none 0 0), (.slice none 0 0), (.slice none 0 0)]) rfl rfl rfl T.sz38 rfl rfl rfl) (fun _ => (ulS (ulS (ulC (ulC (ulS ulR)))))) (fun _ _ => ?_)
          refine GH.done (by kernel_rfl) ?_
          refine GC.end0 rfl (fun wN HN => ?_)
          exact HN.frm (xq27, xq3) ⟨hq4.1, hq28.1⟩ (by rfl) (ulC (ulS (ulC (ulS (ulC ulR)))))
        refine GHs.cons rfl (Ex.wp (v := (.pointer (some ⟨kb, 0, none⟩))) (Ex.nilCheck rfl) (by decide)) (fun _ => (ulS (ulC (ulC (ulS ulR))))) (fun _ _ => ?_) ?_
        · refine GH.take 10 (v := (.pointer (some ⟨kb, 4, none⟩))) rfl (by kernel_rfl) (by kernel_rfl) (by kernel_rfl) (fun _ _ _ h => h) (Ex.cast (Ex.fieldAddr rfl Try.underlying41 rfl T.sz39 (by decide)) rfl) (ulS (ulC (ulC (ulS ulR)))) (by decide) ?_
          refine GH.one 8 rfl (by kernel_rfl) (Stp.appendNil (vs := [(.int .i64 m)]) rfl rfl Try.underlying38 T.sz3 T.zr3 rfl T.by3 (fun wz hz => hz.rdOf (i := 0) rfl 0) rfl (by decide) (by decide) (by decide) (by decide)) (fun _ => (ulS (ulS (ulC (ulC (ulS ulR)))))) (fun xq29 hq30 => ?_)
          refine GH.take 11 (v := (.pointer (some ⟨kb, 4, none⟩))) rfl (by kernel_rfl) (by kernel_rfl) (by kernel_rfl) (fun _ _ _ h => h) (Ex.cast (Ex.indexArr (m := 4) rfl rfl Try.underlying39 T.sz38 (by decide) (by decide)) rfl) (ulS (ulS (ulC (ulC (ulS ulR))))) (by decide) ?_
          refine GH.one 12 rfl (by kernel_rfl) (Stp.st4 (cs' := [(.slice (some ⟨xq3.1, 0, none⟩) 1 xq3.2.1), (.slice none 0 0), (.slice none 0 0), (.slice none 0 0), (.slice (some ⟨xq29.1, 0, none⟩) 1 xq29.2.1), (.slice none 0 0), (.slice none 0 0), (.slice none 0 0)]) rfl rfl rfl T.sz38 rfl rfl rfl) (fun _ => (ulS (ulS (ulC (ulC (ulS ulR)))))) (fun _ _ => ?_)
          refine GH.done (by kernel_rfl) ?_
          refine GC.end0 rfl (fun wN HN => ?_)
          exact HN.frm (xq29, xq3) ⟨hq4.1, hq30.1⟩ (by rfl) (ulC (ulS (ulC (ulS (ulC ulR)))))
        exact GHs.nil
      refine GHs.cons rfl (Ex.wp (v := (.pointer (some ⟨kb, 0, none⟩))) (Ex.nilCheck rfl) (by decide)) (fun _ => (ulS (ulC (ulC (ulS ulR))))) (fun _ _ => ?_) ?_
      · refine GH.take 10 (v := (.pointer (some ⟨kb, 4, none⟩))) rfl (by kernel_rfl) (by kernel_rfl) (by kernel_rfl) (fun _ _ _ h => h) (Ex.cast (Ex.fieldAddr rfl Try.underlying41 rfl T.sz39 (by decide)) rfl) (ulS (ulC (ulC (ulS ulR)))) (by decide) ?_
        refine GH.one 5 rfl (by kernel_rfl) (Ex.wp (v := (.slice none 0 0)) (Ex.load rfl T.ag38 (i := 3) rfl rfl) (by decide)) (fun _ => (ulS (ulC (ulC (ulS ulR))))) (fun _ _ => ?_)
        refine GH.one 8 rfl (by kernel_rfl) (Stp.appendNil (vs := [(.int .i64 m)]) rfl rfl Try.underlying38 T.sz3 T.zr3 rfl T.by3 (fun wz hz => hz.rdOf (i := 0) rfl 0) rfl (by decide) (by decide) (by decide) (by decide)) (fun _ => (ulS (ulS (ulC (ulC (ulS ulR)))))) (fun xq31 hq32 => ?_)
        refine GH.take 11 (v := (.pointer (some ⟨kb, 4, none⟩))) rfl (by kernel_rfl) (by kernel_rfl) (by kernel_rfl) (fun _ _ _ h => h) (Ex.cast (Ex.indexArr (m := 4) rfl rfl Try.underlying39 T.sz38 (by decide) (by decide)) rfl) (ulS (ulS (ulC (ulC (ulS ulR))))) (by decide) ?_
        refine GH.one 12 rfl (by kernel_rfl) (Stp.st4 (cs' := [(.slice (some ⟨xq3.1, 0, none⟩) 1 xq3.2.1), (.slice none 0 0), (.slice none 0 0), (.slice none 0 0), (.slice (some ⟨xq31.1, 0, none⟩) 1 xq31.2.1), (.slice none 0 0), (.slice none 0 0), (.slice none 0 0)]) rfl rfl rfl T.sz38 rfl rfl rfl) (fun _ => (ulS (ulS (ulC (ulC (ulS ulR)))))) (fun _ _ => ?_)
        refine GH.done (by kernel_rfl) ?_
        refine GC.end0 rfl (fun wN HN => ?_)
        exact HN.frm (xq31, xq3) ⟨hq4.1, hq32.1⟩ (by rfl) (ulC (ulS (ulC (ulS (ulC ulR)))))
      exact GHs.nil
    refine GHs.cons rfl (Ex.wp (v := (.pointer (some ⟨kb, 0, none⟩))) (Ex.nilCheck rfl) (by decide)) (fun _ => (ulS (ulC (ulC (ulS ulR))))) (fun _ _ => ?_) ?_
    · refine GH.take 10 (v := (.pointer (some ⟨kb, 4, none⟩))) rfl (by kernel_rfl) (by kernel_rfl) (by kernel_rfl) (fun _ _ _ h => h) (Ex.cast (Ex.fieldAddr rfl Try.underlying41 rfl T.sz39 (by decide)) rfl) (ulS (ulC (ulC (ulS ulR)))) (by decide) ?_
      refine GH.one 2 rfl (by kernel_rfl) (Ex.wp (v := (.pointer (some ⟨kb, 0, none⟩))) (Ex.nilCheck rfl) (by decide)) (fun _ => (ulS (ulC (ulC (ulS ulR))))) (fun _ _ => ?_)
      refine GH.take 3 (v := (.pointer (some ⟨kb, 4, none⟩))) rfl (by kernel_rfl) (by kernel_rfl) (by kernel_rfl) (fun _ _ _ h => h) (Ex.cast (Ex.fieldAddr rfl Try.underlying41 rfl T.sz39 (by decide)) rfl) (ulS (ulC (ulC (ulS ulR)))) (by decide) ?_
      refine GH.take 4 (v := (.pointer (some ⟨kb, 4, none⟩))) rfl (by kernel_rfl) (by kernel_rfl) (by kernel_rfl) (fun _ _ _ h => h) (Ex.cast (Ex.indexArr (m := 4) rfl rfl Try.underlying39 T.sz38 (by decide) (by decide)) rfl) (ulS (ulC (ulC (ulS ulR)))) (by decide) ?_
      refine GH.one 5 rfl (by kernel_rfl) (Ex.wp (v := (.slice none 0 0)) (Ex.load rfl T.ag38 (i := 3) rfl rfl) (by decide)) (fun _ => (ulS (ulC (ulC (ulS ulR))))) (fun _ _ => ?_)
      refine GH.one 8 rfl (by kernel_rfl) (Stp.appendNil (vs := [(.int .i64 m)]) rfl rfl Try.underlying38 T.sz3 T.zr3 rfl T.by3 (fun wz hz => hz.rdOf (i := 0) rfl 0) rfl (by decide) (by decide) (by decide) (by decide)) (fun _ => (ulS (ulS (ulC (ulC (ulS ulR)))))) (fun xq33 hq34 => ?_)
      refine GH.take 11 (v := (.pointer (some ⟨kb, 4, none⟩))) rfl (by kernel_rfl) (by kernel_rfl) (by kernel_rfl) (fun _ _ _ h => h) (Ex.cast (Ex.indexArr (m := 4) rfl rfl Try.underlying39 T.sz38 (by decide) (by decide)) rfl) (ulS (ulS (ulC (ulC (ulS ulR))))) (by decide) ?_
      refine GH.one 12 rfl (by kernel_rfl) (Stp.st4 (cs' := [(.slice (some ⟨xq3.1, 0, none⟩) 1 xq3.2.1), (.slice none 0 0), (.slice none 0 0), (.slice none 0 0), (.slice (some ⟨xq33.1, 0, none⟩) 1 xq33.2.1), (.slice none 0 0), (.slice none 0 0), (.slice none 0 0)]) rfl rfl rfl T.sz38 rfl rfl rfl) (fun _ => (ulS (ulS (ulC (ulC (ulS ulR)))))) (fun _ _ => ?_)
      refine GH.done (by kernel_rfl) ?_
      refine GC.end0 rfl (fun wN HN => ?_)
      exact HN.frm (xq33, xq3) ⟨hq4.1, hq34.1⟩ (by rfl) (ulC (ulS (ulC (ulS (ulC ulR)))))
    exact GHs.nil
  refine GHs.cons rfl (Ex.wp (v := (.pointer (some ⟨kb, 0, none⟩))) (Ex.nilCheck rfl) (by decide)) (fun _ => (ulC (ulC (ulS ulR)))) (fun _ _ => ?_) ?_
  · refine GH.take 10 (v := (.pointer (some ⟨kb, 4, none⟩))) rfl (by kernel_rfl) (by kernel_rfl) (by kernel_rfl) (fun _ _ _ h => h) (Ex.cast (Ex.fieldAddr rfl Try.underlying41 rfl T.sz39 (by decide)) rfl) (ulC (ulC (ulS ulR))) (by decide) ?_
    refine GH.many (rs := [2, 7]) (by kernel_rfl) (by simp) ?_
    refine GHs.cons rfl (Ex.wp (v := (.pointer (some ⟨kb, 0, none⟩))) (Ex.nilCheck rfl) (by decide)) (fun _ => (ulC (ulC (ulS ulR)))) (fun _ _ => ?_) ?_
    · refine GH.take 3 (v := (.pointer (some ⟨kb, 4, none⟩))) rfl (by kernel_rfl) (by kernel_rfl) (by kernel_rfl) (fun _ _ _ h => h) (Ex.cast (Ex.fieldAddr rfl Try.underlying41 rfl T.sz39 (by decide)) rfl) (ulC (ulC (ulS ulR))) (by decide) ?_
      refine GH.take 4 (v := (.pointer (some ⟨kb, 4, none⟩))) rfl (by kernel_rfl) (by kernel_rfl) (by kernel_rfl) (fun _ _ _ h => h) (Ex.cast (Ex.indexArr (m := 4) rfl rfl Try.underlying39 T.sz38 (by decide) (by decide)) rfl) (ulC (ulC (ulS ulR))) (by decide) ?_
      refine GH.many (rs := [5, 7]) (by kernel_rfl) (by simp) ?_
      refine GHs.cons rfl (Ex.wp (v := (.slice none 0 0)) (Ex.load rfl T.ag38 (i := 2) rfl rfl) (by decide)) (fun _ => (ulC (ulC (ulS ulR)))) (fun _ _ => ?_) ?_
      · refine GH.one 7 rfl (by kernel_rfl) (Stp.buildSlice (cs := [(.int .i64 m)]) (vs := [(0, (.int .i64 m))]) Try.underlying38 T.zr3 T.sz3 rfl (by decide) (by decide) (by first | rfl | kernel_rfl) (by decide)) (fun _ => (ulS (ulC (ulC (ulS ulR))))) (fun bq35 _ => ?_)
        refine GH.one 8 rfl (by kernel_rfl) (Stp.appendNil (vs := [(.int .i64 m)]) rfl rfl Try.underlying38 T.sz3 T.zr3 rfl T.by3 (fun wz hz => hz.rdOf (i := 0) rfl 0) rfl (by decide) (by decide) (by decide) (by decide)) (fun _ => (ulS (ulS (ulC (ulC (ulS ulR)))))) (fun xq36 hq37 => ?_)
        refine GH.take 11 (v := (.pointer (some ⟨kb, 4, none⟩))) rfl (by kernel_rfl) (by kernel_rfl) (by kernel_rfl) (fun _ _ _ h => h) (Ex.cast (Ex.indexArr (m := 4) rfl rfl Try.underlying39 T.sz38 (by decide) (by decide)) rfl) (ulS (ulS (ulC (ulC (ulS ulR))))) (by decide) ?_
        refine GH.one 12 rfl (by kernel_rfl) (Stp.st4 (cs' := [(.slice (some ⟨xq3.1, 0, none⟩) 1 xq3.2.1), (.slice none 0 0), (.slice none 0 0), (.slice none 0 0), (.slice (some ⟨xq36.1, 0, none⟩) 1 xq36.2.1), (.slice none 0 0), (.slice none 0 0), (.slice none 0 0)]) rfl rfl rfl T.sz38 rfl rfl rfl) (fun _ => (ulS (ulS (ulC (ulC (ulS ulR)))))) (fun _ _ => ?_)
        refine GH.done (by kernel_rfl) ?_
        refine GC.end0 rfl (fun wN HN => ?_)
        exact HN.frm (xq36, xq3) ⟨hq4.1, hq37.1⟩ (by rfl) (ulC (ulS (ulC (ulS (ulC ulR)))))
      refine GHs.cons rfl (Stp.buildSlice (cs := [(.int .i64 m)]) (vs := [(0, (.int .i64 m))]) Try.underlying38 T.zr3 T.sz3 rfl (by decide) (by decide) (by first | rfl | kernel_rfl) (by decide)) (fun _ => (ulS (ulC (ulC (ulS ulR))))) (fun bq38 _ => ?_) ?_
      · refine GH.one 5 rfl (by kernel_rfl) (Ex.wp (v := (.slice none 0 0)) (Ex.load rfl T.ag38 (i := 3) rfl rfl) (by decide)) (fun _ => (ulS (ulC (ulC (ulS ulR))))) (fun _ _ => ?_)
        refine GH.one 8 rfl (by kernel_rfl) (Stp.appendNil (vs := [(.int .i64 m)]) rfl rfl Try.underlying38 T.sz3 T.zr3 rfl T.by3 (fun wz hz => hz.rdOf (i := 0) rfl 0) rfl (by decide) (by decide) (by decide) (by decide)) (fun _ => (ulS (ulS (ulC (ulC (ulS ulR)))))) (fun xq39 hq40 => ?_)
        refine GH.take 11 (v := (.pointer (some ⟨kb, 4, none⟩))) rfl (by kernel_rfl) (by kernel_rfl) (by kernel_rfl) (fun _ _ _ h => h) (Ex.cast (Ex.indexArr (m := 4) rfl rfl Try.underlying39 T.sz38 (by decide) (by decide)) rfl) (ulS (ulS (ulC (ulC (ulS ulR))))) (by decide) ?_
        refine GH.one 12 rfl (by kernel_rfl) (Stp.st4 (cs' := [(.slice (some ⟨xq3.1, 0, none⟩) 1 xq3.2.1), (.slice none 0 0), (.slice none 0 0), (.slice none 0 0), (.slice (some ⟨xq39.1, 0, none⟩) 1 xq39.2.1), (.slice none 0 0), (.slice none 0 0), (.slice none 0 0)]) rfl rfl rfl T.sz38 rfl rfl rfl) (fun _ => (ulS (ulS (ulC (ulC (ulS ulR)))))) (fun _ _ => ?_)
        refine GH.done (by kernel_rfl) ?_
        refine GC.end0 rfl (fun wN HN => ?_)
        exact HN.frm (xq39, xq3) ⟨hq4.1, hq40.1⟩ (by rfl) (ulC (ulS (ulC (ulS (ulC ulR)))))
      exact GHs.nil
    refine GHs.cons rfl (Stp.buildSlice (cs := [(.int .i64 m)]) (vs := [(0, (.int .i64 m))]) Try.underlying38 T.zr3 T.sz3 rfl (by decide) (by decide) (by first | rfl | kernel_rfl) (by decide)) (fun _ => (ulS (ulC (ulC (ulS ulR))))) (fun bq41 _ => ?_) ?_
    · refine GH.one 2 rfl (by kernel_rfl) (Ex.wp (v := (.pointer (some ⟨kb, 0, none⟩))) (Ex.nilCheck rfl) (by decide)) (fun _ => (ulS (ulC (ulC (ulS ulR))))) (fun _ _ => ?_)
      refine GH.take 3 (v := (.pointer (some ⟨kb, 4, none⟩))) rfl (by kernel_rfl) (by kernel_rfl) (by kernel_rfl) (fun _ _ _ h => h) (Ex.cast (Ex.fieldAddr rfl Try.underlying41 rfl T.sz39 (by decide)) rfl) (ulS (ulC (ulC (ulS ulR)))) (by decide) ?_
      refine GH.take 4 (v := (.pointer (some ⟨kb, 4, none⟩))) rfl (by kernel_rfl) (by kernel_rfl) (by kernel_rfl) (fun _ _ _ h => h) (Ex.cast (Ex.indexArr (m := 4) rfl rfl Try.underlying39 T.sz38 (by decide) (by decide)) rfl) (ulS (ulC (ulC (ulS ulR)))) (by decide) ?_
      refine GH.one 5 rfl (by kernel_rfl) (Ex.wp (v := (.slice none 0 0)) (Ex.load rfl T.ag38 (i := 3) rfl rfl) (by decide)) (fun _ => (ulS (ulC (ulC (ulS ulR))))) (fun _ _ => ?_)
      refine GH.one 8 rfl (by kernel_rfl) (Stp.appendNil (vs := [(.int .i64 m)]) rfl rfl Try.underlying38 T.sz3 T.zr3 rfl T.by3 (fun wz hz => hz.rdOf (i := 0) rfl 0) rfl (by decide) (by decide) (by decide) (by decide)) (fun _ => (ulS (ulS (ulC (ulC (ulS ulR)))))) (fun xq42 hq43 => ?_)
      refine GH.take 11 (v := (.pointer (some ⟨kb, 4, none⟩))) rfl (by kernel_rfl) (by kernel_rfl) (by kernel_rfl) (fun _ _ _ h => h) (Ex.cast (Ex.indexArr (m := 4) rfl rfl Try.underlying39 T.sz38 (by decide) (by decide)) rfl) (ulS (ulS (ulC (ulC (ulS ulR))))) (by decide) ?_
      refine GH.one 12 rfl (by kernel_rfl) (Stp.st4 (cs' := [(.slice (some ⟨xq3.1, 0, none⟩) 1 xq3.2.1), (.slice none 0 0), (.slice none 0 0), (.slice none 0 0), (.slice (some ⟨xq42.1, 0, none⟩) 1 xq42.2.1), (.slice none 0 0), (.slice none 0 0), (.slice none 0 0)]) rfl rfl rfl T.sz38 rfl rfl rfl) (fun _ => (ulS (ulS (ulC (ulC (ulS ulR)))))) (fun _ _ => ?_)
      refine GH.done (by kernel_rfl) ?_
      refine GC.end0 rfl (fun wN HN => ?_)
      exact HN.frm (xq42, xq3) ⟨hq4.1, hq43.1⟩ (by rfl) (ulC (ulS (ulC (ulS (ulC ulR)))))
    exact GHs.nil
  exact GHs.nil

set_option maxRecDepth 100000 in
set_option maxHeartbeats 1000000 in
theorem book_p00 (w0 : World) (R : List Blk) (W H : Int) (kb : Nat) (m : Int) (w : World) (hp0 : Hp None w0 (⟨kb, [(.slice none 0 0), (.slice none 0 0), (.slice none 0 0), (.slice none 0 0), (.slice none 0 0), (.slice none 0 0), (.slice none 0 0), (.slice none 0 0)], 41, true⟩ :: R) w) :
    Calls Try.prog 21 #[(.pointer (some ⟨kb, 0, none⟩)), (.agg #[(.int .i64 W), (.int .i64 H), (.slice none 0 0)]), (.int .i64 m)] w (Frm (σ := (Nat × Nat × List Value) × (Nat × Nat × List Value)) None w0 (fun x => ([(Value.slice none 0 0)] ++ x.2.2.2 : List Value).length = x.2.2.1 * 1 ∧ ([(Value.int .i64 m)] ++ x.1.2.2 : List Value).length = x.1.2.1 * 1) (fun x => .tuple #[]) (fun x => (⟨x.1.1, [(Value.int .i64 m)] ++ x.1.2.2, 3, true⟩ :: ⟨x.2.1, [(Value.slice none 0 0)] ++ x.2.2.2, 30, true⟩ :: ⟨kb, [(.slice (some ⟨x.2.1, 0, none⟩) 1 x.2.2.1), (.slice none 0 0), (.slice none 0 0), (.slice none 0 0), (.slice (some ⟨x.1.1, 0, none⟩) 1 x.1.2.1), (.slice none 0 0), (.slice none 0 0), (.slice none 0 0)], 41, true⟩ :: R))) := by
  refine enterF (w0 := w0) (M := None) (L := (⟨kb, [(.slice none 0 0), (.slice none 0 0), (.slice none 0 0), (.slice none 0 0), (.slice none 0 0), (.slice none 0 0), (.slice none 0 0), (.slice none 0 0)], 41, true⟩ :: R)) (n := 11) (l := [(0, (.pointer (some ⟨kb, 0, none⟩))), (1, (.agg #[(.int .i64 W), (.int .i64 H), (.slice none 0 0)])), (2, (.int .i64 m))]) Try.func21 rfl rfl (Args.cons rfl (Args.cons rfl (Args.cons rfl (Args.nil _)))) hp0 ?_
  refine GC.seq ?_
  refine GC.region ?_
  refine GL.step (Stp.box (cs := [(.int .i64 W), (.int .i64 H), (.slice none 0 0)]) rfl rfl (by decide)) (fun bq1 _ => ?_)
  refine GL.nil ?_
  refine GE.thenN ?_
  refine GC.region ?_
  refine GL.val (Ex.move rfl) (by decide) ?_
  refine GL.val (v := (.pointer (some ⟨bq1, 2, none⟩))) (Ex.cast (Ex.fieldAddr rfl Try.underlying32 rfl T.sz30 (by decide)) rfl) (by decide) ?_
  refine GL.val (Ex.load rfl T.ag30 (i := 0) rfl rfl) (by decide) ?_
  refine GL.val (Ex.move rfl) (by decide) ?_
  refine GL.step (Stp.call (vs := [(.pointer (some ⟨kb, 0, none⟩)), (.slice none 0 0), (.int .i64 m)]) rfl rfl T.own56 (by decide) (fun wc hw => book_s00 w0 _ kb m wc (Hp.pickT (A := [⟨bq1, [(.int .i64 W), (.int .i64 H), (.slice none 0 0)], 32, true⟩, ⟨kb, [(.slice none 0 0), (.slice none 0 0), (.slice none 0 0), (.slice none 0 0), (.slice none 0 0), (.slice none 0 0), (.slice none 0 0), (.slice none 0 0)], 41, true⟩]) (R := R) hw (idx := [1, 0]) (by decide) rfl))) (fun xq2 hq3 => ?_)
  refine GL.nil ?_
  refine GC.end0 rfl (fun wN HN => ?_)
  exact HN.frm xq2 hq3 (by rfl) (ulC (ulC (ulC (ulS ulR))))

end Go.Proofs.Ytileciohbhoehaa.C
