/- BlurConstant: what its code does, walked. -/
import Derived.Test.YtjbpdhofhhinhaaKConstant1
namespace Go.Proofs.Ytjbpdhofhhinhaa.C
open Go Go.RowKit Sx
set_option linter.unusedVariables false
set_option maxRecDepth 100000 in
set_option maxHeartbeats 1000000 in
theorem made (W H : Nat) (fid : FuncId) (caps : Array Value) (g : Nat → Nat → Int) (w : World) (hf : Fn2 Try.prog w fid caps W H g) (hW : W ≤ 1024) (hH : H ≤ 1024) (hWH : W * H ≤ 65536) :
    Calls Try.prog 62 #[(.agg #[(.int .i64 ((W : Int))), (.int .i64 ((H : Int))), (.func (.func fid) #[] caps)])] w (Ret w (fun _ : Nat => True) (fun b => .agg #[.int .i64 W, .int .i64 H, .slice (some ⟨b, 0, none⟩) (W * H) (W * H)]) (fun b => [⟨b, (tab W g (W * H)).map u32, 63, true⟩])) := by
  refine enter (M := None) (L := []) (n := 40) (l := [(0, (.agg #[(.int .i64 ((W : Int))), (.int .i64 ((H : Int))), (.func (.func fid) #[] caps)]))]) Try.func62 rfl rfl (Args.cons rfl (Args.nil _)) (Hp.start _ _) ?_
  refine GC.seq ?_
  refine GC.region ?_
  refine GL.step (Stp.box (cs := [(.int .i64 ((W : Int))), (.int .i64 ((H : Int))), (.func (.func fid) #[] caps)]) rfl rfl (by decide)) (fun bq1 _ => ?_)
  refine GL.step (Stp.alloc T.zr43 (by decide)) (fun bq2 _ => ?_)
  refine GL.nil ?_
  refine GE.thenN ?_
  refine GC.seq ?_
  refine GC.drawP [⟨bq2, [(.int .i64 0), (.int .i64 0), (.slice none 0 0)], 43, true⟩, ⟨bq1, [(.int .i64 ((W : Int))), (.int .i64 ((H : Int))), (.func (.func fid) #[] caps)], 103, true⟩] T.mixed (by kernel_rfl) (by kernel_rfl) (fuel := 12) rfl rfl ?_
  refine GH.take 0 (v := (.pointer (some ⟨bq1, 0, none⟩))) rfl (by kernel_rfl) (by kernel_rfl) (by kernel_rfl) (fun _ _ _ h => h) (Ex.cast (Ex.fieldAddr rfl Try.underlying103 rfl T.sz3 (by decide)) rfl) (ulC (ulC ulN)) (by decide) ?_
  refine GH.take 1 (v := (.int .i64 ((W : Int)))) rfl (by kernel_rfl) (by kernel_rfl) (by kernel_rfl) (fun _ _ _ h => h) (Ex.load rfl T.ag3 (i := 1) rfl rfl) (ulC (ulC ulN)) (by decide) ?_
  refine GH.take 2 (v := (.pointer (some ⟨bq1, 1, none⟩))) rfl (by kernel_rfl) (by kernel_rfl) (by kernel_rfl) (fun _ _ _ h => h) (Ex.cast (Ex.fieldAddr rfl Try.underlying103 rfl T.sz3 (by decide)) rfl) (ulC (ulC ulN)) (by decide) ?_
  refine GH.take 3 (v := (.int .i64 ((H : Int)))) rfl (by kernel_rfl) (by kernel_rfl) (by kernel_rfl) (fun _ _ _ h => h) (Ex.load rfl T.ag3 (i := 1) rfl rfl) (ulC (ulC ulN)) (by decide) ?_
  refine GH.take 4 (v := (.pointer (some ⟨bq1, 0, none⟩))) rfl (by kernel_rfl) (by kernel_rfl) (by kernel_rfl) (fun _ _ _ h => h) (Ex.cast (Ex.fieldAddr rfl Try.underlying103 rfl T.sz3 (by decide)) rfl) (ulC (ulC ulN)) (by decide) ?_
  refine GH.take 5 (v := (.int .i64 ((W : Int)))) rfl (by kernel_rfl) (by kernel_rfl) (by kernel_rfl) (fun _ _ _ h => h) (Ex.load rfl T.ag3 (i := 1) rfl rfl) (ulC (ulC ulN)) (by decide) ?_
  refine GH.take 6 (v := (.pointer (some ⟨bq1, 1, none⟩))) rfl (by kernel_rfl) (by kernel_rfl) (by kernel_rfl) (fun _ _ _ h => h) (Ex.cast (Ex.fieldAddr rfl Try.underlying103 rfl T.sz3 (by decide)) rfl) (ulC (ulC ulN)) (by decide) ?_
  refine GH.take 7 (v := (.int .i64 ((H : Int)))) rfl (by kernel_rfl) (by kernel_rfl) (by kernel_rfl) (fun _ _ _ h => h) (Ex.load rfl T.ag3 (i := 1) rfl rfl) (ulC (ulC ulN)) (by decide) ?_
  refine GH.take 8 (v := (.int .i64 (((W * H : Nat) : Int)))) rfl (by kernel_rfl) (by kernel_rfl) (by kernel_rfl) (fun _ _ _ h => h) (Ex.mul rfl rfl (Z := ((W * H : Nat) : Int)) (by rw [w64 (by have := Int.natCast_mul W H; omega)]; exact (Int.natCast_mul W H).symm)) (ulC (ulC ulN)) (by decide) ?_
  refine GH.many (rs := [9, 11]) (by kernel_rfl) (by simp) ?_
  refine GHs.cons rfl (Stp.makeSlice (a1 := 0) (c := W * H) rfl rfl Try.underlying41 T.zr63 T.sz63 T.by63 rfl (by omega) (by omega) (by omega) (by decide)) (fun _ => (ulS (ulC (ulC ulN)))) (fun bq3 _ => ?_) ?_
  · refine GH.take 10 (v := (.agg #[(.int .i64 ((W : Int))), (.int .i64 ((H : Int))), (.slice (some ⟨bq3, 0, none⟩) 0 (W * H))])) rfl (by kernel_rfl) (by kernel_rfl) (by kernel_rfl) (fun _ _ _ h => h) (Ex.build (vs := [(0, (.int .i64 ((W : Int)))), (1, (.int .i64 ((H : Int)))), (2, (.slice (some ⟨bq3, 0, none⟩) 0 (W * H)))]) rfl (by first | rfl | kernel_rfl)) (ulS (ulC (ulC ulN))) (by decide) ?_
    refine GH.one 11 rfl (by kernel_rfl) (Stp.alloc T.zr43 (by decide)) (fun _ => (ulS (ulS (ulC (ulC ulN))))) (fun bq4 _ => ?_)
    refine GH.done (by kernel_rfl) ?_
    refine GE.thenN ?_
    refine GE.tail rfl (Stp.st0 (cs' := [(.int .i64 ((W : Int))), (.int .i64 ((H : Int))), (.slice (some ⟨bq3, 0, none⟩) 0 (W * H))]) rfl rfl rfl T.sz43 rfl rfl rfl) (fun _ _ => ?_)
    refine GE.thenN ?_
    refine GC.seq ?_
    refine GC.seq ?_
    rw [madeCells_one, ← cur_zero W g (W * H)]
    refine GC.region ?_
    refine GL.val (v := (.pointer (some ⟨bq1, 1, none⟩))) (Ex.cast (Ex.fieldAddr rfl Try.underlying103 rfl T.sz3 (by decide)) rfl) (by decide) ?_
    refine GL.val (Ex.load rfl T.ag3 (i := 3) rfl rfl) (by decide) ?_
    refine GL.val (Ex.move rfl) (by decide) ?_
    refine GL.nil ?_
    refine GE.thenN ?_
    refine GC.block ?_
    refine GC.loop (σ := Nat) (fun y => y ≤ H) (fun y => [(1, (.pointer (some ⟨bq1, 0, none⟩))), (2, (.pointer (some ⟨bq2, 0, none⟩))), (3, (.pointer (some ⟨bq4, 0, none⟩))), (18, (.int .i64 ((H : Int)))), (19, (.int .i64 (((y : Nat) : Int))))]) (fun y => [⟨bq4, [(.int .i64 ((W : Int))), (.int .i64 ((H : Int))), (.slice (some ⟨bq3, 0, none⟩) (W * y) (W * H))], 43, true⟩, ⟨bq3, cur W g (W * H) (W * y), 63, true⟩, ⟨bq2, [(.int .i64 0), (.int .i64 0), (.slice none 0 0)], 43, true⟩, ⟨bq1, [(.int .i64 ((W : Int))), (.int .i64 ((H : Int))), (.func (.func fid) #[] caps)], 103, true⟩]) (fun y => H - y) (0) (Nat.zero_le _) ((sub_cons rfl ((sub_cons rfl ((sub_cons rfl ((sub_cons rfl ((sub_cons rfl ((sub_nil _)))))))))))) (ulC (ulC (ulC (ulC ulN)))) (fun y hp => ?_)
    refine GC.seq ?_
    refine GC.region ?_
    refine GL.val (v := (.bool (decide ((((y : Nat) : Int)) < ((H : Int)))))) (Ex.lss rfl rfl) (by decide) ?_
    refine GL.nil ?_
    refine GE.thenN ?_
    refine GC.seq ?_
    refine GC.cond rfl (fun hq5 => ?_) (fun hq5 => ?_)
    · replace hq5 := of_decide_eq_true hq5
      refine GC.skip ?_
      refine GE.thenN ?_
      refine GC.seq ?_
      refine GC.block ?_
      refine GC.seq ?_
      refine GC.region ?_
      refine GL.val (Ex.move rfl) (by decide) ?_
      refine GL.val (Ex.assign rfl) (by decide) ?_
      refine GL.nil ?_
      refine GE.thenN ?_
      refine GC.seq ?_
      refine GC.region ?_
      refine GL.val (v := (.pointer (some ⟨bq1, 0, none⟩))) (Ex.cast (Ex.fieldAddr rfl Try.underlying103 rfl T.sz3 (by decide)) rfl) (by decide) ?_
      refine GL.val (Ex.load rfl T.ag3 (i := 3) rfl rfl) (by decide) ?_
      refine GL.val (Ex.move rfl) (by decide) ?_
      refine GL.nil ?_
      refine GE.thenN ?_
      refine GC.block ?_
      refine GC.loop (σ := Nat) (fun x => x ≤ W) (fun x => [(1, (.pointer (some ⟨bq1, 0, none⟩))), (2, (.pointer (some ⟨bq2, 0, none⟩))), (3, (.pointer (some ⟨bq4, 0, none⟩))), (18, (.int .i64 ((H : Int)))), (19, (.int .i64 (((y : Nat) : Int)))), (4, (.int .i64 (((y : Nat) : Int)))), (23, (.int .i64 ((W : Int)))), (24, (.int .i64 (((x : Nat) : Int))))]) (fun x => [⟨bq4, [(.int .i64 ((W : Int))), (.int .i64 ((H : Int))), (.slice (some ⟨bq3, 0, none⟩) (W * y + x) (W * H))], 43, true⟩, ⟨bq3, cur W g (W * H) (W * y + x), 63, true⟩, ⟨bq2, [(.int .i64 0), (.int .i64 0), (.slice none 0 0)], 43, true⟩, ⟨bq1, [(.int .i64 ((W : Int))), (.int .i64 ((H : Int))), (.func (.func fid) #[] caps)], 103, true⟩]) (fun x => W - x) (0) (Nat.zero_le _) ((sub_cons rfl ((sub_cons rfl ((sub_cons rfl ((sub_cons rfl ((sub_cons rfl ((sub_cons rfl ((sub_cons rfl ((sub_cons rfl ((sub_nil _)))))))))))))))))) (ulC (ulC (ulC (ulC ulN)))) (fun x hp => ?_)
      refine GC.seq ?_
      refine GC.region ?_
      refine GL.val (v := (.bool (decide ((((x : Nat) : Int)) < ((W : Int)))))) (Ex.lss rfl rfl) (by decide) ?_
      refine GL.nil ?_
      refine GE.thenN ?_
      refine GC.seq ?_
      refine GC.cond rfl (fun hq6 => ?_) (fun hq6 => ?_)
      · replace hq6 := of_decide_eq_true hq6
        have hxy := place_lt (H := H) (by omega : x < W) (by omega : y < H)
        have hp := at_place (W := W) (y := y) (by omega : x < W)
        have hap := cur_app W g (W * H) (W * y + x) (g x y) hxy (by rw [hp.1, hp.2])
        rw [Nat.add_assoc] at hap
        refine GC.skip ?_
        refine GE.thenN ?_
        refine GC.seq ?_
        refine GC.block ?_
        refine GC.seq ?_
        refine GC.region ?_
        refine GL.val (Ex.move rfl) (by decide) ?_
        refine GL.val (Ex.assign rfl) (by decide) ?_
        refine GL.nil ?_
        refine GE.thenN ?_
        refine GC.drawP [⟨bq4, [(.int .i64 ((W : Int))), (.int .i64 ((H : Int))), (.slice (some ⟨bq3, 0, none⟩) (W * y + x) (W * H))], 43, true⟩, ⟨bq2, [(.int .i64 0), (.int .i64 0), (.slice none 0 0)], 43, true⟩, ⟨bq1, [(.int .i64 ((W : Int))), (.int .i64 ((H : Int))), (.func (.func fid) #[] caps)], 103, true⟩] T.mixed (by kernel_rfl) (by kernel_rfl) (fuel := 10) rfl rfl ?_
        refine GH.take 0 (v := (.pointer (some ⟨bq4, 2, none⟩))) rfl (by kernel_rfl) (by kernel_rfl) (by kernel_rfl) (fun _ _ _ h => h) (Ex.cast (Ex.fieldAddr rfl Try.underlying43 rfl T.sz41 (by decide)) rfl) (ulC (ulS (ulC (ulC ulN)))) (by decide) ?_
        refine GH.take 1 (v := (.slice (some ⟨bq3, 0, none⟩) (W * y + x) (W * H))) rfl (by kernel_rfl) (by kernel_rfl) (by kernel_rfl) (fun _ _ _ h => h) (Ex.load rfl T.ag41 (i := 0) rfl rfl) (ulC (ulS (ulC (ulC ulN)))) (by decide) ?_
        refine GH.take 2 (v := (.pointer (some ⟨bq1, 2, none⟩))) rfl (by kernel_rfl) (by kernel_rfl) (by kernel_rfl) (fun _ _ _ h => h) (Ex.cast (Ex.fieldAddr rfl Try.underlying103 rfl T.sz101 (by decide)) rfl) (ulC (ulS (ulC (ulC ulN)))) (by decide) ?_
        refine GH.take 3 (v := (.func (.func fid) #[] caps)) rfl (by kernel_rfl) (by kernel_rfl) (by kernel_rfl) (fun _ _ _ h => h) (Ex.load rfl T.ag101 (i := 2) rfl rfl) (ulC (ulS (ulC (ulC ulN)))) (by decide) ?_
        refine GH.take 4 (v := (.int .i64 (((x : Nat) : Int)))) rfl (by kernel_rfl) (by kernel_rfl) (by kernel_rfl) (fun _ _ _ h => h) (Ex.move rfl) (ulC (ulS (ulC (ulC ulN)))) (by decide) ?_
        refine GH.take 5 (v := (.int .i64 (((y : Nat) : Int)))) rfl (by kernel_rfl) (by kernel_rfl) (by kernel_rfl) (fun _ _ _ h => h) (Ex.move rfl) (ulC (ulS (ulC (ulC ulN)))) (by decide) ?_
        refine GH.one 6 rfl (by kernel_rfl) (Stp.callR (vs := [(.int .i64 (((x : Nat) : Int))), (.int .i64 (((y : Nat) : Int)))]) rfl rfl hf.1 (by decide) (fun wc hw => hf.2 x y (by omega) (by omega) wc hw.1)) (fun _ => (ulC (ulS (ulC (ulC ulN))))) (fun xq7 hq8 => ?_)
        refine GH.one 7 rfl (by kernel_rfl) (Stp.buildSlice (cs := [(.int .u32 ((g x y)))]) (vs := [(0, (.int .u32 ((g x y))))]) Try.underlying41 T.zr63 T.sz63 rfl (by decide) (by decide) (by first | rfl | kernel_rfl) (by decide)) (fun _ => (ulS (ulC (ulS (ulC (ulC ulN)))))) (fun bq9 _ => ?_)
        refine GH.one 8 rfl (by kernel_rfl) (Stp.appendFits (i := 2) (vs := [.int .u32 (g x y)]) (L1 := [⟨bq9, [(.int .u32 ((g x y)))], 63, true⟩, ⟨bq4, [(.int .i64 ((W : Int))), (.int .i64 ((H : Int))), (.slice (some ⟨bq3, 0, none⟩) (W * y + x) (W * H))], 43, true⟩, ⟨bq3, cur W g (W * H) (W * y + (x + 1)), 63, true⟩, ⟨bq2, [(.int .i64 0), (.int .i64 0), (.slice none 0 0)], 43, true⟩, ⟨bq1, [(.int .i64 ((W : Int))), (.int .i64 ((H : Int))), (.func (.func fid) #[] caps)], 103, true⟩]) rfl rfl Try.underlying41 T.sz63 rfl (fun w hw => hw.rdOf (i := 0) rfl 0) rfl rfl (len' := W * y + (x + 1)) rfl (by omega) (by rw [cur_len _ _ _ _ (by omega)]; simp; omega) (by rw [hap]; rfl) (by decide)) (fun _ => (ulS (ulC (ulS (ulC (ulC ulN)))))) (fun _ _ => ?_)
        refine GH.take 9 (v := (.pointer (some ⟨bq4, 2, none⟩))) rfl (by kernel_rfl) (by kernel_rfl) (by kernel_rfl) (fun _ _ _ h => h) (Ex.cast (Ex.fieldAddr rfl Try.underlying43 rfl T.sz41 (by decide)) rfl) (ulS (ulC (ulS (ulC (ulC ulN))))) (by decide) ?_
        refine GH.done (by kernel_rfl) ?_
        refine GE.thenN ?_
        refine GE.tail rfl (Stp.st1 (cs' := [(.int .i64 ((W : Int))), (.int .i64 ((H : Int))), (.slice (some ⟨bq3, 0, none⟩) (W * y + (x + 1)) (W * H))]) rfl rfl rfl T.sz41 rfl rfl rfl) (fun _ _ => ?_)
        refine GE.blockN ?_
        refine GE.thenN ?_
        refine GC.region ?_
        refine GL.val (v := (.int .i64 (((x + 1 : Nat) : Int)))) (Ex.add rfl rfl (Z := ((x + 1 : Nat) : Int)) (w64 (by omega))) (by decide) ?_
        refine GL.val (Ex.move rfl) (by decide) ?_
        refine GL.nil ?_
        refine GE.thenN ?_
        exact Head.mk (x + 1) (by omega) (by omega) ((sub_cons rfl ((sub_cons rfl ((sub_cons rfl ((sub_cons rfl ((sub_cons rfl ((sub_cons rfl ((sub_cons rfl ((sub_cons rfl ((sub_nil _)))))))))))))))))) (ulS (ulC (ulC (ulC (ulC ulN)))))
      · replace hq6 := of_decide_eq_false hq6
        have ex : W = x := by omega
        have e2 : W * y + x = W * (y + 1) := by rw [← ex]; rfl
        rw [e2]
        refine GC.exit ?_
        refine GE.thenE ?_
        refine GE.thenE ?_
        refine GE.blockE ?_
        refine GE.blockN ?_
        refine GE.thenN ?_
        refine GC.region ?_
        refine GL.val (v := (.int .i64 (((y + 1 : Nat) : Int)))) (Ex.add rfl rfl (Z := ((y + 1 : Nat) : Int)) (w64 (by omega))) (by decide) ?_
        refine GL.val (Ex.move rfl) (by decide) ?_
        refine GL.nil ?_
        refine GE.thenN ?_
        exact Head.mk (y + 1) (by omega) (by omega) ((sub_cons rfl ((sub_cons rfl ((sub_cons rfl ((sub_cons rfl ((sub_cons rfl ((sub_nil _)))))))))))) (ulC (ulC (ulC (ulC ulN))))
    · replace hq5 := of_decide_eq_false hq5
      refine GC.exit ?_
      refine GE.thenE ?_
      refine GE.thenE ?_
      refine GE.blockE ?_
      refine GE.thenN ?_
      refine GC.seq ?_
      refine GC.region ?_
      refine GL.val (v := (.agg #[(.int .i64 ((W : Int))), (.int .i64 ((H : Int))), (.slice (some ⟨bq3, 0, none⟩) (W * y) (W * H))])) (Ex.loadA rfl T.ag43 T.sz43 (i := 0) rfl (vs := [(.int .i64 ((W : Int))), (.int .i64 ((H : Int))), (.slice (some ⟨bq3, 0, none⟩) (W * y) (W * H))]) rfl rfl) (by decide) ?_
      refine GL.step (Stp.st2 (cs' := [(.int .i64 ((W : Int))), (.int .i64 ((H : Int))), (.slice (some ⟨bq3, 0, none⟩) (W * y) (W * H))]) rfl rfl rfl T.sz43 rfl rfl rfl) (fun _ _ => ?_)
      refine GL.nil ?_
      refine GE.thenN ?_
      refine GC.ret ?_
      refine GC.ret1 rfl (Rv.cellA rfl T.ag43 T.sz43 (L := _) (i := 2) rfl (vs := [(.int .i64 ((W : Int))), (.int .i64 ((H : Int))), (.slice (some ⟨bq3, 0, none⟩) (W * y) (W * H))]) rfl rfl) (fun wN HN => ?_)
      have ey : H = y := by omega
      have e3 : W * y = W * H := by rw [ey]
      rw [e3, cur_full] at HN
      exact HN.ret bq3 trivial (by rw [e3]) (ulS (ulC (ulS (ulS ulN)))) rfl
  refine GHs.cons rfl (Stp.alloc T.zr43 (by decide)) (fun _ => (ulS (ulC (ulC ulN)))) (fun bq10 _ => ?_) ?_
  · refine GH.one 9 rfl (by kernel_rfl) (Stp.makeSlice (a1 := 0) (c := W * H) rfl rfl Try.underlying41 T.zr63 T.sz63 T.by63 rfl (by omega) (by omega) (by omega) (by decide)) (fun _ => (ulS (ulS (ulC (ulC ulN))))) (fun bq11 _ => ?_)
    refine GH.take 10 (v := (.agg #[(.int .i64 ((W : Int))), (.int .i64 ((H : Int))), (.slice (some ⟨bq11, 0, none⟩) 0 (W * H))])) rfl (by kernel_rfl) (by kernel_rfl) (by kernel_rfl) (fun _ _ _ h => h) (Ex.build (vs := [(0, (.int .i64 ((W : Int)))), (1, (.int .i64 ((H : Int)))), (2, (.slice (some ⟨bq11, 0, none⟩) 0 (W * H)))]) rfl (by first | rfl | kernel_rfl)) (ulS (ulS (ulC (ulC ulN)))) (by decide) ?_
    refine GH.done (by kernel_rfl) ?_
    refine GE.thenN ?_
    refine GE.tail rfl (Stp.st1 (cs' := [(.int .i64 ((W : Int))), (.int .i64 ((H : Int))), (.slice (some ⟨bq11, 0, none⟩) 0 (W * H))]) rfl rfl rfl T.sz43 rfl rfl rfl) (fun _ _ => ?_)
    refine GE.thenN ?_
    refine GC.seq ?_
    refine GC.seq ?_
    rw [madeCells_one, ← cur_zero W g (W * H)]
    refine GC.region ?_
    refine GL.val (v := (.pointer (some ⟨bq1, 1, none⟩))) (Ex.cast (Ex.fieldAddr rfl Try.underlying103 rfl T.sz3 (by decide)) rfl) (by decide) ?_
    refine GL.val (Ex.load rfl T.ag3 (i := 3) rfl rfl) (by decide) ?_
    refine GL.val (Ex.move rfl) (by decide) ?_
    refine GL.nil ?_
    refine GE.thenN ?_
    refine GC.block ?_
    refine GC.loop (σ := Nat) (fun y => y ≤ H) (fun y => [(1, (.pointer (some ⟨bq1, 0, none⟩))), (2, (.pointer (some ⟨bq2, 0, none⟩))), (3, (.pointer (some ⟨bq10, 0, none⟩))), (18, (.int .i64 ((H : Int)))), (19, (.int .i64 (((y : Nat) : Int))))]) (fun y => [⟨bq11, cur W g (W * H) (W * y), 63, true⟩, ⟨bq10, [(.int .i64 ((W : Int))), (.int .i64 ((H : Int))), (.slice (some ⟨bq11, 0, none⟩) (W * y) (W * H))], 43, true⟩, ⟨bq2, [(.int .i64 0), (.int .i64 0), (.slice none 0 0)], 43, true⟩, ⟨bq1, [(.int .i64 ((W : Int))), (.int .i64 ((H : Int))), (.func (.func fid) #[] caps)], 103, true⟩]) (fun y => H - y) (0) (Nat.zero_le _) ((sub_cons rfl ((sub_cons rfl ((sub_cons rfl ((sub_cons rfl ((sub_cons rfl ((sub_nil _)))))))))))) (ulC (ulC (ulC (ulC ulN)))) (fun y hp => ?_)
    refine GC.seq ?_
    refine GC.region ?_
    refine GL.val (v := (.bool (decide ((((y : Nat) : Int)) < ((H : Int)))))) (Ex.lss rfl rfl) (by decide) ?_
    refine GL.nil ?_
    refine GE.thenN ?_
    refine GC.seq ?_
    refine GC.cond rfl (fun hq12 => ?_) (fun hq12 => ?_)
    · replace hq12 := of_decide_eq_true hq12
      refine GC.skip ?_
      refine GE.thenN ?_
      refine GC.seq ?_
      refine GC.block ?_
      refine GC.seq ?_
      refine GC.region ?_
      refine GL.val (Ex.move rfl) (by decide) ?_
      refine GL.val (Ex.assign rfl) (by decide) ?_
      refine GL.nil ?_
      refine GE.thenN ?_
      refine GC.seq ?_
      refine GC.region ?_
      refine GL.val (v := (.pointer (some ⟨bq1, 0, none⟩))) (Ex.cast (Ex.fieldAddr rfl Try.underlying103 rfl T.sz3 (by decide)) rfl) (by decide) ?_
      refine GL.val (Ex.load rfl T.ag3 (i := 3) rfl rfl) (by decide) ?_
      refine GL.val (Ex.move rfl) (by decide) ?_
      refine GL.nil ?_
      refine GE.thenN ?_
      refine GC.block ?_
      refine GC.loop (σ := Nat) (fun x => x ≤ W) (fun x => [(1, (.pointer (some ⟨bq1, 0, none⟩))), (2, (.pointer (some ⟨bq2, 0, none⟩))), (3, (.pointer (some ⟨bq10, 0, none⟩))), (18, (.int .i64 ((H : Int)))), (19, (.int .i64 (((y : Nat) : Int)))), (4, (.int .i64 (((y : Nat) : Int)))), (23, (.int .i64 ((W : Int)))), (24, (.int .i64 (((x : Nat) : Int))))]) (fun x => [⟨bq11, cur W g (W * H) (W * y + x), 63, true⟩, ⟨bq10, [(.int .i64 ((W : Int))), (.int .i64 ((H : Int))), (.slice (some ⟨bq11, 0, none⟩) (W * y + x) (W * H))], 43, true⟩, ⟨bq2, [(.int .i64 0), (.int .i64 0), (.slice none 0 0)], 43, true⟩, ⟨bq1, [(.int .i64 ((W : Int))), (.int .i64 ((H : Int))), (.func (.func fid) #[] caps)], 103, true⟩]) (fun x => W - x) (0) (Nat.zero_le _) ((sub_cons rfl ((sub_cons rfl ((sub_cons rfl ((sub_cons rfl ((sub_cons rfl ((sub_cons rfl ((sub_cons rfl ((sub_cons rfl ((sub_nil _)))))))))))))))))) (ulC (ulC (ulC (ulC ulN)))) (fun x hp => ?_)
      refine GC.seq ?_
      refine GC.region ?_
      refine GL.val (v := (.bool (decide ((((x : Nat) : Int)) < ((W : Int)))))) (Ex.lss rfl rfl) (by decide) ?_
      refine GL.nil ?_
      refine GE.thenN ?_
      refine GC.seq ?_
      refine GC.cond rfl (fun hq13 => ?_) (fun hq13 => ?_)
      · replace hq13 := of_decide_eq_true hq13
        have hxy := place_lt (H := H) (by omega : x < W) (by omega : y < H)
        have hp := at_place (W := W) (y := y) (by omega : x < W)
        have hap := cur_app W g (W * H) (W * y + x) (g x y) hxy (by rw [hp.1, hp.2])
        rw [Nat.add_assoc] at hap
        refine GC.skip ?_
        refine GE.thenN ?_
        refine GC.seq ?_
        refine GC.block ?_
        refine GC.seq ?_
        refine GC.region ?_
        refine GL.val (Ex.move rfl) (by decide) ?_
        refine GL.val (Ex.assign rfl) (by decide) ?_
        refine GL.nil ?_
        refine GE.thenN ?_
        refine GC.drawP [⟨bq10, [(.int .i64 ((W : Int))), (.int .i64 ((H : Int))), (.slice (some ⟨bq11, 0, none⟩) (W * y + x) (W * H))], 43, true⟩, ⟨bq2, [(.int .i64 0), (.int .i64 0), (.slice none 0 0)], 43, true⟩, ⟨bq1, [(.int .i64 ((W : Int))), (.int .i64 ((H : Int))), (.func (.func fid) #[] caps)], 103, true⟩] T.mixed (by kernel_rfl) (by kernel_rfl) (fuel := 10) rfl rfl ?_
        refine GH.take 0 (v := (.pointer (some ⟨bq10, 2, none⟩))) rfl (by kernel_rfl) (by kernel_rfl) (by kernel_rfl) (fun _ _ _ h => h) (Ex.cast (Ex.fieldAddr rfl Try.underlying43 rfl T.sz41 (by decide)) rfl) (ulS (ulC (ulC (ulC ulN)))) (by decide) ?_
        refine GH.take 1 (v := (.slice (some ⟨bq11, 0, none⟩) (W * y + x) (W * H))) rfl (by kernel_rfl) (by kernel_rfl) (by kernel_rfl) (fun _ _ _ h => h) (Ex.load rfl T.ag41 (i := 0) rfl rfl) (ulS (ulC (ulC (ulC ulN)))) (by decide) ?_
        refine GH.take 2 (v := (.pointer (some ⟨bq1, 2, none⟩))) rfl (by kernel_rfl) (by kernel_rfl) (by kernel_rfl) (fun _ _ _ h => h) (Ex.cast (Ex.fieldAddr rfl Try.underlying103 rfl T.sz101 (by decide)) rfl) (ulS (ulC (ulC (ulC ulN)))) (by decide) ?_
        refine GH.take 3 (v := (.func (.func fid) #[] caps)) rfl (by kernel_rfl) (by kernel_rfl) (by kernel_rfl) (fun _ _ _ h => h) (Ex.load rfl T.ag101 (i := 2) rfl rfl) (ulS (ulC (ulC (ulC ulN)))) (by decide) ?_
        refine GH.take 4 (v := (.int .i64 (((x : Nat) : Int)))) rfl (by kernel_rfl) (by kernel_rfl) (by kernel_rfl) (fun _ _ _ h => h) (Ex.move rfl) (ulS (ulC (ulC (ulC ulN)))) (by decide) ?_
        refine GH.take 5 (v := (.int .i64 (((y : Nat) : Int)))) rfl (by kernel_rfl) (by kernel_rfl) (by kernel_rfl) (fun _ _ _ h => h) (Ex.move rfl) (ulS (ulC (ulC (ulC ulN)))) (by decide) ?_
        refine GH.one 6 rfl (by kernel_rfl) (Stp.callR (vs := [(.int .i64 (((x : Nat) : Int))), (.int .i64 (((y : Nat) : Int)))]) rfl rfl hf.1 (by decide) (fun wc hw => hf.2 x y (by omega) (by omega) wc hw.1)) (fun _ => (ulS (ulC (ulC (ulC ulN))))) (fun xq14 hq15 => ?_)
        refine GH.one 7 rfl (by kernel_rfl) (Stp.buildSlice (cs := [(.int .u32 ((g x y)))]) (vs := [(0, (.int .u32 ((g x y))))]) Try.underlying41 T.zr63 T.sz63 rfl (by decide) (by decide) (by first | rfl | kernel_rfl) (by decide)) (fun _ => (ulS (ulS (ulC (ulC (ulC ulN)))))) (fun bq16 _ => ?_)
        refine GH.one 8 rfl (by kernel_rfl) (Stp.appendFits (i := 1) (vs := [.int .u32 (g x y)]) (L1 := [⟨bq16, [(.int .u32 ((g x y)))], 63, true⟩, ⟨bq11, cur W g (W * H) (W * y + (x + 1)), 63, true⟩, ⟨bq10, [(.int .i64 ((W : Int))), (.int .i64 ((H : Int))), (.slice (some ⟨bq11, 0, none⟩) (W * y + x) (W * H))], 43, true⟩, ⟨bq2, [(.int .i64 0), (.int .i64 0), (.slice none 0 0)], 43, true⟩, ⟨bq1, [(.int .i64 ((W : Int))), (.int .i64 ((H : Int))), (.func (.func fid) #[] caps)], 103, true⟩]) rfl rfl Try.underlying41 T.sz63 rfl (fun w hw => hw.rdOf (i := 0) rfl 0) rfl rfl (len' := W * y + (x + 1)) rfl (by omega) (by rw [cur_len _ _ _ _ (by omega)]; simp; omega) (by rw [hap]; rfl) (by decide)) (fun _ => (ulS (ulS (ulC (ulC (ulC ulN)))))) (fun _ _ => ?_)
        refine GH.take 9 (v := (.pointer (some ⟨bq10, 2, none⟩))) rfl (by kernel_rfl) (by kernel_rfl) (by kernel_rfl) (fun _ _ _ h => h) (Ex.cast (Ex.fieldAddr rfl Try.underlying43 rfl T.sz41 (by decide)) rfl) (ulS (ulS (ulC (ulC (ulC ulN))))) (by decide) ?_
        refine GH.done (by kernel_rfl) ?_
        refine GE.thenN ?_
        refine GE.tail rfl (Stp.st2 (cs' := [(.int .i64 ((W : Int))), (.int .i64 ((H : Int))), (.slice (some ⟨bq11, 0, none⟩) (W * y + (x + 1)) (W * H))]) rfl rfl rfl T.sz41 rfl rfl rfl) (fun _ _ => ?_)
        refine GE.blockN ?_
        refine GE.thenN ?_
        refine GC.region ?_
        refine GL.val (v := (.int .i64 (((x + 1 : Nat) : Int)))) (Ex.add rfl rfl (Z := ((x + 1 : Nat) : Int)) (w64 (by omega))) (by decide) ?_
        refine GL.val (Ex.move rfl) (by decide) ?_
        refine GL.nil ?_
        refine GE.thenN ?_
        exact Head.mk (x + 1) (by omega) (by omega) ((sub_cons rfl ((sub_cons rfl ((sub_cons rfl ((sub_cons rfl ((sub_cons rfl ((sub_cons rfl ((sub_cons rfl ((sub_cons rfl ((sub_nil _)))))))))))))))))) (ulS (ulC (ulC (ulC (ulC ulN)))))
      · replace hq13 := of_decide_eq_false hq13
        have ex : W = x := by omega
        have e2 : W * y + x = W * (y + 1) := by rw [← ex]; rfl
        rw [e2]
        refine GC.exit ?_
        refine GE.thenE ?_
        refine GE.thenE ?_
        refine GE.blockE ?_
        refine GE.blockN ?_
        refine GE.thenN ?_
        refine GC.region ?_
        refine GL.val (v := (.int .i64 (((y + 1 : Nat) : Int)))) (Ex.add rfl rfl (Z := ((y + 1 : Nat) : Int)) (w64 (by omega))) (by decide) ?_
        refine GL.val (Ex.move rfl) (by decide) ?_
        refine GL.nil ?_
        refine GE.thenN ?_
        exact Head.mk (y + 1) (by omega) (by omega) ((sub_cons rfl ((sub_cons rfl ((sub_cons rfl ((sub_cons rfl ((sub_cons rfl ((sub_nil _)))))))))))) (ulC (ulC (ulC (ulC ulN))))
    · replace hq12 := of_decide_eq_false hq12
      refine GC.exit ?_
      refine GE.thenE ?_
      refine GE.thenE ?_
      refine GE.blockE ?_
      refine GE.thenN ?_
      refine GC.seq ?_
      refine GC.region ?_
      refine GL.val (v := (.agg #[(.int .i64 ((W : Int))), (.int .i64 ((H : Int))), (.slice (some ⟨bq11, 0, none⟩) (W * y) (W * H))])) (Ex.loadA rfl T.ag43 T.sz43 (i := 1) rfl (vs := [(.int .i64 ((W : Int))), (.int .i64 ((H : Int))), (.slice (some ⟨bq11, 0, none⟩) (W * y) (W * H))]) rfl rfl) (by decide) ?_
      refine GL.step (Stp.st2 (cs' := [(.int .i64 ((W : Int))), (.int .i64 ((H : Int))), (.slice (some ⟨bq11, 0, none⟩) (W * y) (W * H))]) rfl rfl rfl T.sz43 rfl rfl rfl) (fun _ _ => ?_)
      refine GL.nil ?_
      refine GE.thenN ?_
      refine GC.ret ?_
      refine GC.ret1 rfl (Rv.cellA rfl T.ag43 T.sz43 (L := _) (i := 2) rfl (vs := [(.int .i64 ((W : Int))), (.int .i64 ((H : Int))), (.slice (some ⟨bq11, 0, none⟩) (W * y) (W * H))]) rfl rfl) (fun wN HN => ?_)
      have ey : H = y := by omega
      have e3 : W * y = W * H := by rw [ey]
      rw [e3, cur_full] at HN
      exact HN.ret bq11 trivial (by rw [e3]) (ulC (ulS (ulS (ulS ulN)))) rfl
  exact GHs.nil

set_option maxRecDepth 100000 in
set_option maxHeartbeats 1000000 in
theorem newC (x y bs : Nat) (s : Int) (w : World) (h1 : w.heap[bs]? = some (.cells #[(.int .u32 s)] 63 (0, 0))) :
    Calls Try.prog 61 #[(.int .i64 ((x : Int))), (.int .i64 ((y : Int))), (.pointer (some ⟨bs, 0, none⟩))] w (Ret w (fun _ : Unit => True) (fun _ => .int .u32 s) (fun _ => [])) := by
  refine enter (M := None) (L := [⟨bs, [(.int .u32 s)], 63, false⟩]) (n := 7) (l := [(0, (.int .i64 ((x : Int)))), (1, (.int .i64 ((y : Int)))), (2, (.pointer (some ⟨bs, 0, none⟩)))]) Try.func61 rfl rfl (Args.cons rfl (Args.cons rfl (Args.cons rfl (Args.nil _)))) (Hp.reads (Has.cons h1 (Has.nil _)) rfl) ?_
  refine GC.seq ?_
  refine GC.region ?_
  refine GL.val (Ex.assign rfl) (by decide) ?_
  refine GL.nil ?_
  refine GE.thenN ?_
  refine GC.seq ?_
  refine GC.region ?_
  refine GL.val (Ex.load rfl T.ag63 (i := 0) rfl rfl) (by decide) ?_
  refine GL.val (Ex.assign rfl) (by decide) ?_
  refine GL.nil ?_
  refine GE.thenN ?_
  refine GC.ret ?_
  refine GC.ret1 rfl (Rv.tmp rfl) (fun wN HN => ?_)
  exact HN.ret () trivial rfl (List.nil_sublist _) rfl

set_option maxRecDepth 100000 in
set_option maxHeartbeats 1000000 in
theorem new_ok (W H : Nat) (s : Int) (w : World) (hok : okP W H) :
    Calls Try.prog 36 #[(.int .i64 ((W : Int))), (.int .i64 ((H : Int))), (.int .u32 s)] w (Ret w (fun _ : Nat => True) (fun p => .tuple #[(.agg #[(.int .i64 (((W : Nat) : Int))), (.int .i64 (((H : Nat) : Int))), (.slice (some ⟨p, 0, none⟩) (W * H) (W * H))]), .int .i64 0]) (fun p => [⟨p, (tab W (fun _ _ => s) (W * H)).map u32, 63, true⟩])) := by
  refine enter (M := None) (L := []) (n := 18) (l := [(0, (.int .i64 ((W : Int)))), (1, (.int .i64 ((H : Int)))), (2, (.int .u32 s))]) Try.func36 rfl rfl (Args.cons rfl (Args.cons rfl (Args.cons rfl (Args.nil _)))) (Hp.start _ _) ?_
  refine GC.seq ?_
  refine GC.region ?_
  refine GL.step (Stp.box (cs := [(.int .u32 s)]) rfl rfl (by decide)) (fun bq1 _ => ?_)
  refine GL.step (Stp.alloc T.zr43 (by decide)) (fun bq2 _ => ?_)
  refine GL.val (Ex.assign rfl) (by decide) ?_
  refine GL.nil ?_
  refine GE.thenN ?_
  refine GC.seq ?_
  refine GC.seq ?_
  refine GC.region ?_
  refine GL.val (Ex.move rfl) (by decide) ?_
  refine GL.val (Ex.move rfl) (by decide) ?_
  refine GL.step (Stp.callR (vs := [(.int .i64 ((W : Int))), (.int .i64 ((H : Int)))]) rfl rfl T.own60 (by decide) (fun wc hw => size ((W : Int)) ((H : Int)) wc)) (fun xq3 hq4 => ?_)
  refine GL.val (v := (.bool (!(sizeB ((W : Int)) ((H : Int)))))) (Ex.not rfl) (by decide) ?_
  refine GL.nil ?_
  refine GE.thenN ?_
  refine GC.cond rfl (fun hq5 => ?_) (fun hq5 => ?_)
  · exfalso; rw [sizeB_ok hok] at hq5; cases hq5
  · refine GC.skip ?_
    refine GE.thenN ?_
    refine GC.seq ?_
    refine GC.region ?_
    refine GL.val (Ex.move rfl) (by decide) ?_
    refine GL.val (Ex.move rfl) (by decide) ?_
    refine GL.val (v := (.func (.func 61) #[] #[(.pointer (some ⟨bq1, 0, none⟩))])) (Ex.func (cs := [(.pointer (some ⟨bq1, 0, none⟩))]) rfl (fun _ hF => hF.evals _ _ rfl)) (by decide) ?_
    refine GL.val (v := (.agg #[(.int .i64 ((W : Int))), (.int .i64 ((H : Int))), (.func (.func 61) #[] #[(.pointer (some ⟨bq1, 0, none⟩))])])) (Ex.build (vs := [(0, (.int .i64 ((W : Int)))), (1, (.int .i64 ((H : Int)))), (2, (.func (.func 61) #[] #[(.pointer (some ⟨bq1, 0, none⟩))]))]) rfl (by first | rfl | kernel_rfl)) (by decide) ?_
    refine GL.step (Stp.callR (vs := [(.agg #[(.int .i64 ((W : Int))), (.int .i64 ((H : Int))), (.func (.func 61) #[] #[(.pointer (some ⟨bq1, 0, none⟩))])])]) rfl rfl T.own62 (by decide) (fun wc hw => made W H 61 (#[(.pointer (some ⟨bq1, 0, none⟩))]) (fun _ _ => s) wc ⟨T.own61, fun x y _ _ w3 hk3 => newC x y bq1 s w3 ((Has.cons (o := true) (hw.get (i := 1) rfl) (Has.nil _)).later hk3 _ List.mem_cons_self)⟩ hok.2.2.1 hok.2.2.2.1 hok.2.2.2.2)) (fun xq6 hq7 => ?_)
    refine GL.step (Stp.st1 (cs' := [(.int .i64 (((W : Nat) : Int))), (.int .i64 (((H : Nat) : Int))), (.slice (some ⟨xq6, 0, none⟩) (W * H) (W * H))]) rfl rfl rfl T.sz43 rfl rfl rfl) (fun _ _ => ?_)
    refine GL.val (Ex.assign rfl) (by decide) ?_
    refine GL.nil ?_
    refine GE.thenN ?_
    refine GC.ret ?_
    refine GC.ret2 rfl (Rv.cellA rfl T.ag43 T.sz43 (L := _) (i := 1) rfl (vs := [(.int .i64 (((W : Nat) : Int))), (.int .i64 (((H : Nat) : Int))), (.slice (some ⟨xq6, 0, none⟩) (W * H) (W * H))]) rfl rfl) (Rv.tmp rfl) (fun wN HN => ?_)
    exact HN.ret xq6 trivial rfl (ulC (ulS (ulS ulN))) rfl

set_option maxRecDepth 100000 in
set_option maxHeartbeats 1000000 in
theorem size_h (pw ph : Int) (w : World) :
    Calls Try.prog 35 #[(.int .i64 pw), (.int .i64 ph)] w (Ret w (fun _ : Unit => True) (fun _ => .bool (sizeB pw ph)) (fun _ => [])) := by
  refine enter (M := None) (L := []) (n := 25) (l := [(0, (.int .i64 pw)), (1, (.int .i64 ph))]) Try.func35 rfl rfl (Args.cons rfl (Args.cons rfl (Args.nil _))) (Hp.start _ _) ?_
  refine GC.seq ?_
  refine GC.region ?_
  refine GL.val (Ex.assign rfl) (by decide) ?_
  refine GL.nil ?_
  refine GE.thenN ?_
  refine GC.seq ?_
  refine GC.region ?_
  refine GL.val (Ex.move rfl) (by decide) ?_
  by_cases hq1 : 1 ≤ pw
  · refine GL.val (v := (.bool true)) (Ex.cast (Ex.geq rfl rfl) (congrArg Value.bool (decide_eq_true hq1))) (by decide) ?_
    refine GL.val (Ex.move rfl) (by decide) ?_
    refine GL.stepG (tj := 7) rfl rfl (Ex.wp (v := (.int .i64 ph)) (Ex.move rfl) (by decide)) (fun _ _ => ?_)
    by_cases hq2 : 1 ≤ ph
    · refine GL.stepG (tj := 7) rfl rfl (Ex.wp (v := (.bool true)) (Ex.cast (Ex.geq rfl rfl) (congrArg Value.bool (decide_eq_true hq2))) (by decide)) (fun _ _ => ?_)
      refine GL.val (v := (.bool true)) (Ex.pickT rfl rfl) (by decide) ?_
      refine GL.val (Ex.move rfl) (by decide) ?_
      refine GL.stepG (tj := 11) rfl rfl (Ex.wp (v := (.int .i64 pw)) (Ex.move rfl) (by decide)) (fun _ _ => ?_)
      by_cases hq3 : pw ≤ 1024
      · refine GL.stepG (tj := 11) rfl rfl (Ex.wp (v := (.bool true)) (Ex.cast (Ex.leq rfl rfl) (congrArg Value.bool (decide_eq_true hq3))) (by decide)) (fun _ _ => ?_)
        refine GL.val (v := (.bool true)) (Ex.pickT rfl rfl) (by decide) ?_
        refine GL.val (Ex.move rfl) (by decide) ?_
        refine GL.stepG (tj := 15) rfl rfl (Ex.wp (v := (.int .i64 ph)) (Ex.move rfl) (by decide)) (fun _ _ => ?_)
        by_cases hq4 : ph ≤ 1024
        · have hm := mul_bd (w := pw) (h := ph) (by omega) (by omega) (by omega) (by omega)
          refine GL.stepG (tj := 15) rfl rfl (Ex.wp (v := (.bool true)) (Ex.cast (Ex.leq rfl rfl) (congrArg Value.bool (decide_eq_true hq4))) (by decide)) (fun _ _ => ?_)
          refine GL.val (v := (.bool true)) (Ex.pickT rfl rfl) (by decide) ?_
          refine GL.val (Ex.move rfl) (by decide) ?_
          refine GL.stepG (tj := 19) rfl rfl (Ex.wp (v := (.int .i64 pw)) (Ex.move rfl) (by decide)) (fun _ _ => ?_)
          refine GL.stepG (tj := 19) rfl rfl (Ex.wp (v := (.int .i64 ph)) (Ex.move rfl) (by decide)) (fun _ _ => ?_)
          refine GL.stepG (tj := 19) rfl rfl (Ex.wp (v := (.int .i64 (pw * ph))) (Ex.mul rfl rfl (Z := pw * ph) (w64 (by omega))) (by decide)) (fun _ _ => ?_)
          refine GL.stepG (tj := 19) rfl rfl (Ex.wp (v := (.bool (decide ((pw * ph) ≤ 65536)))) (Ex.leq rfl rfl) (by decide)) (fun _ _ => ?_)
          refine GL.val (v := (.bool (decide ((pw * ph) ≤ 65536)))) (Ex.pickT rfl rfl) (by decide) ?_
          refine GL.val (Ex.assign rfl) (by decide) ?_
          refine GL.nil ?_
          refine GE.thenN ?_
          refine GC.ret ?_
          refine GC.ret1 rfl (Rv.tmp rfl) (fun wN HN => ?_)
          exact HN.ret () trivial (by simp only [sizeB]; congr 1; apply decide_eq_decide.2; omega) (List.nil_sublist _) rfl
        · refine GL.stepG (tj := 15) rfl rfl (Ex.wp (v := (.bool false)) (Ex.cast (Ex.leq rfl rfl) (congrArg Value.bool (decide_eq_false hq4))) (by decide)) (fun _ _ => ?_)
          refine GL.val (v := (.bool false)) (Ex.pickT rfl rfl) (by decide) ?_
          refine GL.val (Ex.move rfl) (by decide) ?_
          refine GL.skipG (tj := 19) rfl rfl rfl (by decide) ?_
          refine GL.skipG (tj := 19) rfl rfl rfl (by decide) ?_
          refine GL.skipG (tj := 19) rfl rfl rfl (by decide) ?_
          refine GL.skipG (tj := 19) rfl rfl rfl (by decide) ?_
          refine GL.val (v := (.bool false)) (Ex.pickF rfl rfl) (by decide) ?_
          refine GL.val (Ex.assign rfl) (by decide) ?_
          refine GL.nil ?_
          refine GE.thenN ?_
          refine GC.ret ?_
          refine GC.ret1 rfl (Rv.tmp rfl) (fun wN HN => ?_)
          exact HN.ret () trivial (by simp only [sizeB]; rw [decide_eq_false (by omega)]) (List.nil_sublist _) rfl
      · refine GL.stepG (tj := 11) rfl rfl (Ex.wp (v := (.bool false)) (Ex.cast (Ex.leq rfl rfl) (congrArg Value.bool (decide_eq_false hq3))) (by decide)) (fun _ _ => ?_)
        refine GL.val (v := (.bool false)) (Ex.pickT rfl rfl) (by decide) ?_
        refine GL.val (Ex.move rfl) (by decide) ?_
        refine GL.skipG (tj := 15) rfl rfl rfl (by decide) ?_
        refine GL.skipG (tj := 15) rfl rfl rfl (by decide) ?_
        refine GL.val (v := (.bool false)) (Ex.pickF rfl rfl) (by decide) ?_
        refine GL.val (Ex.move rfl) (by decide) ?_
        refine GL.skipG (tj := 19) rfl rfl rfl (by decide) ?_
        refine GL.skipG (tj := 19) rfl rfl rfl (by decide) ?_
        refine GL.skipG (tj := 19) rfl rfl rfl (by decide) ?_
        refine GL.skipG (tj := 19) rfl rfl rfl (by decide) ?_
        refine GL.val (v := (.bool false)) (Ex.pickF rfl rfl) (by decide) ?_
        refine GL.val (Ex.assign rfl) (by decide) ?_
        refine GL.nil ?_
        refine GE.thenN ?_
        refine GC.ret ?_
        refine GC.ret1 rfl (Rv.tmp rfl) (fun wN HN => ?_)
        exact HN.ret () trivial (by simp only [sizeB]; rw [decide_eq_false (by omega)]) (List.nil_sublist _) rfl
    · refine GL.stepG (tj := 7) rfl rfl (Ex.wp (v := (.bool false)) (Ex.cast (Ex.geq rfl rfl) (congrArg Value.bool (decide_eq_false hq2))) (by decide)) (fun _ _ => ?_)
      refine GL.val (v := (.bool false)) (Ex.pickT rfl rfl) (by decide) ?_
      refine GL.val (Ex.move rfl) (by decide) ?_
      refine GL.skipG (tj := 11) rfl rfl rfl (by decide) ?_
      refine GL.skipG (tj := 11) rfl rfl rfl (by decide) ?_
      refine GL.val (v := (.bool false)) (Ex.pickF rfl rfl) (by decide) ?_
      refine GL.val (Ex.move rfl) (by decide) ?_
      refine GL.skipG (tj := 15) rfl rfl rfl (by decide) ?_
      refine GL.skipG (tj := 15) rfl rfl rfl (by decide) ?_
      refine GL.val (v := (.bool false)) (Ex.pickF rfl rfl) (by decide) ?_
      refine GL.val (Ex.move rfl) (by decide) ?_
      refine GL.skipG (tj := 19) rfl rfl rfl (by decide) ?_
      refine GL.skipG (tj := 19) rfl rfl rfl (by decide) ?_
      refine GL.skipG (tj := 19) rfl rfl rfl (by decide) ?_
      refine GL.skipG (tj := 19) rfl rfl rfl (by decide) ?_
      refine GL.val (v := (.bool false)) (Ex.pickF rfl rfl) (by decide) ?_
      refine GL.val (Ex.assign rfl) (by decide) ?_
      refine GL.nil ?_
      refine GE.thenN ?_
      refine GC.ret ?_
      refine GC.ret1 rfl (Rv.tmp rfl) (fun wN HN => ?_)
      exact HN.ret () trivial (by simp only [sizeB]; rw [decide_eq_false (by omega)]) (List.nil_sublist _) rfl
  · refine GL.val (v := (.bool false)) (Ex.cast (Ex.geq rfl rfl) (congrArg Value.bool (decide_eq_false hq1))) (by decide) ?_
    refine GL.val (Ex.move rfl) (by decide) ?_
    refine GL.skipG (tj := 7) rfl rfl rfl (by decide) ?_
    refine GL.skipG (tj := 7) rfl rfl rfl (by decide) ?_
    refine GL.val (v := (.bool false)) (Ex.pickF rfl rfl) (by decide) ?_
    refine GL.val (Ex.move rfl) (by decide) ?_
    refine GL.skipG (tj := 11) rfl rfl rfl (by decide) ?_
    refine GL.skipG (tj := 11) rfl rfl rfl (by decide) ?_
    refine GL.val (v := (.bool false)) (Ex.pickF rfl rfl) (by decide) ?_
    refine GL.val (Ex.move rfl) (by decide) ?_
    refine GL.skipG (tj := 15) rfl rfl rfl (by decide) ?_
    refine GL.skipG (tj := 15) rfl rfl rfl (by decide) ?_
    refine GL.val (v := (.bool false)) (Ex.pickF rfl rfl) (by decide) ?_
    refine GL.val (Ex.move rfl) (by decide) ?_
    refine GL.skipG (tj := 19) rfl rfl rfl (by decide) ?_
    refine GL.skipG (tj := 19) rfl rfl rfl (by decide) ?_
    refine GL.skipG (tj := 19) rfl rfl rfl (by decide) ?_
    refine GL.skipG (tj := 19) rfl rfl rfl (by decide) ?_
    refine GL.val (v := (.bool false)) (Ex.pickF rfl rfl) (by decide) ?_
    refine GL.val (Ex.assign rfl) (by decide) ?_
    refine GL.nil ?_
    refine GE.thenN ?_
    refine GC.ret ?_
    refine GC.ret1 rfl (Rv.tmp rfl) (fun wN HN => ?_)
    exact HN.ret () trivial (by simp only [sizeB]; rw [decide_eq_false (by omega)]) (List.nil_sublist _) rfl

set_option maxRecDepth 100000 in
set_option maxHeartbeats 1000000 in
theorem may (W H : Int) (ad : Option Addr) (n cap : Nat) (w : World) :
    Calls Try.prog 28 #[(.agg #[(.int .i64 W), (.int .i64 H), (.slice ad n cap)])] w (Ret w (fun _ : Unit => True) (fun _ => .int .i64 (chk W H n)) (fun _ => [])) := by
  refine enter (M := None) (L := []) (n := 18) (l := [(0, (.agg #[(.int .i64 W), (.int .i64 H), (.slice ad n cap)]))]) Try.func28 rfl rfl (Args.cons rfl (Args.nil _)) (Hp.start _ _) ?_
  refine GC.seq ?_
  refine GC.region ?_
  refine GL.step (Stp.box (cs := [(.int .i64 W), (.int .i64 H), (.slice ad n cap)]) rfl rfl (by decide)) (fun bq1 _ => ?_)
  refine GL.val (Ex.assign rfl) (by decide) ?_
  refine GL.nil ?_
  refine GE.thenN ?_
  refine GC.seq ?_
  refine GC.seq ?_
  refine GC.region ?_
  refine GL.val (v := (.pointer (some ⟨bq1, 0, none⟩))) (Ex.cast (Ex.fieldAddr rfl Try.underlying43 rfl T.sz3 (by decide)) rfl) (by decide) ?_
  refine GL.val (Ex.load rfl T.ag3 (i := 0) rfl rfl) (by decide) ?_
  refine GL.val (v := (.pointer (some ⟨bq1, 1, none⟩))) (Ex.cast (Ex.fieldAddr rfl Try.underlying43 rfl T.sz3 (by decide)) rfl) (by decide) ?_
  refine GL.val (Ex.load rfl T.ag3 (i := 0) rfl rfl) (by decide) ?_
  refine GL.step (Stp.callR (vs := [(.int .i64 W), (.int .i64 H)]) rfl rfl T.own35 (by decide) (fun wc hw => size_h W H wc)) (fun xq2 hq3 => ?_)
  refine GL.val (v := (.bool (!(sizeB W H)))) (Ex.not rfl) (by decide) ?_
  refine GL.nil ?_
  refine GE.thenN ?_
  refine GC.cond rfl (fun hq4 => ?_) (fun hq4 => ?_)
  · have hs : sizeB W H = false := by simpa using hq4
    refine GC.seq ?_
    refine GC.region ?_
    refine GL.val (Ex.assign rfl) (by decide) ?_
    refine GL.nil ?_
    refine GE.thenN ?_
    refine GC.ret ?_
    refine GE.thenR ?_
    refine GC.ret1 rfl (Rv.tmp rfl) (fun wN HN => ?_)
    exact HN.ret () trivial (by simp [chk, *]) (List.nil_sublist _) rfl
  · have hs : sizeB W H = true := by simpa using hq4
    refine GC.skip ?_
    refine GE.thenN ?_
    refine GC.seq ?_
    refine GC.seq ?_
    have hm := sizeB_mul hs
    refine GC.region ?_
    refine GL.val (v := (.pointer (some ⟨bq1, 2, none⟩))) (Ex.cast (Ex.fieldAddr rfl Try.underlying43 rfl T.sz41 (by decide)) rfl) (by decide) ?_
    refine GL.val (Ex.load rfl T.ag41 (i := 0) rfl rfl) (by decide) ?_
    refine GL.val (v := (.int .i64 ((n : Int)))) (Ex.len rfl Try.underlying41) (by decide) ?_
    refine GL.val (v := (.pointer (some ⟨bq1, 0, none⟩))) (Ex.cast (Ex.fieldAddr rfl Try.underlying43 rfl T.sz3 (by decide)) rfl) (by decide) ?_
    refine GL.val (Ex.load rfl T.ag3 (i := 0) rfl rfl) (by decide) ?_
    refine GL.val (v := (.pointer (some ⟨bq1, 1, none⟩))) (Ex.cast (Ex.fieldAddr rfl Try.underlying43 rfl T.sz3 (by decide)) rfl) (by decide) ?_
    refine GL.val (Ex.load rfl T.ag3 (i := 0) rfl rfl) (by decide) ?_
    refine GL.val (v := (.int .i64 (W * H))) (Ex.mul rfl rfl (Z := W * H) (w64 (by omega))) (by decide) ?_
    refine GL.val (v := (.bool (decide (((n : Int)) ≠ (W * H))))) (Ex.neq rfl rfl) (by decide) ?_
    refine GL.nil ?_
    refine GE.thenN ?_
    refine GC.cond rfl (fun hq5 => ?_) (fun hq5 => ?_)
    · replace hq5 := of_decide_eq_true hq5
      refine GC.seq ?_
      refine GC.region ?_
      refine GL.val (Ex.assign rfl) (by decide) ?_
      refine GL.nil ?_
      refine GE.thenN ?_
      refine GC.ret ?_
      refine GE.thenR ?_
      refine GC.ret1 rfl (Rv.tmp rfl) (fun wN HN => ?_)
      exact HN.ret () trivial (by simp [chk, *]) (List.nil_sublist _) rfl
    · replace hq5 := of_decide_eq_false hq5
      refine GC.skip ?_
      refine GE.thenN ?_
      refine GC.seq ?_
      refine GC.region ?_
      refine GL.val (Ex.assign rfl) (by decide) ?_
      refine GL.nil ?_
      refine GE.thenN ?_
      refine GC.ret ?_
      refine GC.ret1 rfl (Rv.tmp rfl) (fun wN HN => ?_)
      exact HN.ret () trivial (by simp [chk, *]) (List.nil_sublist _) rfl

set_option maxRecDepth 100000 in
set_option maxHeartbeats 1000000 in
theorem right_p (W H : Int) (ad : Option Addr) (n cap : Nat) (kd r k : Int) (w : World) :
    Calls Try.prog 27 #[(.agg #[(.int .i64 W), (.int .i64 H), (.slice ad n cap)]), (.int .i64 kd), (.int .i64 r), (.int .i64 k)] w (Ret w (fun _ : Unit => True) (fun _ => .bool (Bc.rightB W H n kd r k)) (fun _ => [])) := by
  refine enter (M := None) (L := []) (n := 36) (l := [(0, (.agg #[(.int .i64 W), (.int .i64 H), (.slice ad n cap)])), (1, (.int .i64 kd)), (2, (.int .i64 r)), (3, (.int .i64 k))]) Try.func27 rfl rfl (Args.cons rfl (Args.cons rfl (Args.cons rfl (Args.cons rfl (Args.nil _))))) (Hp.start _ _) ?_
  refine GC.seq ?_
  refine GC.region ?_
  refine GL.step (Stp.box (cs := [(.int .i64 W), (.int .i64 H), (.slice ad n cap)]) rfl rfl (by decide)) (fun bq1 _ => ?_)
  refine GL.val (Ex.assign rfl) (by decide) ?_
  refine GL.nil ?_
  refine GE.thenN ?_
  refine GC.seq ?_
  refine GC.region ?_
  refine GL.val (v := (.agg #[(.int .i64 W), (.int .i64 H), (.slice ad n cap)])) (Ex.loadA rfl T.ag43 T.sz43 (i := 0) rfl (vs := [(.int .i64 W), (.int .i64 H), (.slice ad n cap)]) rfl rfl) (by decide) ?_
  refine GL.step (Stp.callR (vs := [(.agg #[(.int .i64 W), (.int .i64 H), (.slice ad n cap)])]) rfl rfl T.own28 (by decide) (fun wc hw => may W H ad n cap wc)) (fun xq2 hq3 => ?_)
  by_cases hq4 : ((chk W H n)) = 0
  · refine GL.val (v := (.bool true)) (Ex.cast (Ex.eql rfl rfl) (congrArg Value.bool (decide_eq_true hq4))) (by decide) ?_
    refine GL.val (Ex.move rfl) (by decide) ?_
    refine GL.stepG (tj := 12) rfl rfl (Ex.wp (v := (.int .i64 kd)) (Ex.move rfl) (by decide)) (fun _ _ => ?_)
    by_cases hq5 : kd = 1
    · refine GL.stepG (tj := 12) rfl rfl (Ex.wp (v := (.bool true)) (Ex.cast (Ex.eql rfl rfl) (congrArg Value.bool (decide_eq_true hq5))) (by decide)) (fun _ _ => ?_)
      refine GL.stepG (tj := 12) rfl rfl (Ex.wp (v := (.bool true)) (Ex.move rfl) (by decide)) (fun _ _ => ?_)
      refine GL.skipG (tj := 15) rfl rfl rfl (by decide) ?_
      refine GL.skipG (tj := 15) rfl rfl rfl (by decide) ?_
      refine GL.stepG (tj := 12) rfl rfl (Ex.wp (v := (.bool true)) (Ex.pickT rfl rfl) (by decide)) (fun _ _ => ?_)
      refine GL.val (v := (.bool true)) (Ex.pickT rfl rfl) (by decide) ?_
      refine GL.val (Ex.move rfl) (by decide) ?_
      refine GL.stepG (tj := 20) rfl rfl (Ex.wp (v := (.int .i64 r)) (Ex.move rfl) (by decide)) (fun _ _ => ?_)
      by_cases hq6 : 0 ≤ r
      · refine GL.stepG (tj := 20) rfl rfl (Ex.wp (v := (.bool true)) (Ex.cast (Ex.geq rfl rfl) (congrArg Value.bool (decide_eq_true hq6))) (by decide)) (fun _ _ => ?_)
        refine GL.val (v := (.bool true)) (Ex.pickT rfl rfl) (by decide) ?_
        refine GL.val (Ex.move rfl) (by decide) ?_
        refine GL.stepG (tj := 24) rfl rfl (Ex.wp (v := (.int .i64 r)) (Ex.move rfl) (by decide)) (fun _ _ => ?_)
        by_cases hq7 : r ≤ 7
        · refine GL.stepG (tj := 24) rfl rfl (Ex.wp (v := (.bool true)) (Ex.cast (Ex.leq rfl rfl) (congrArg Value.bool (decide_eq_true hq7))) (by decide)) (fun _ _ => ?_)
          refine GL.val (v := (.bool true)) (Ex.pickT rfl rfl) (by decide) ?_
          refine GL.val (Ex.move rfl) (by decide) ?_
          refine GL.stepG (tj := 28) rfl rfl (Ex.wp (v := (.int .i64 k)) (Ex.move rfl) (by decide)) (fun _ _ => ?_)
          by_cases hq8 : 1 ≤ k
          · refine GL.stepG (tj := 28) rfl rfl (Ex.wp (v := (.bool true)) (Ex.cast (Ex.geq rfl rfl) (congrArg Value.bool (decide_eq_true hq8))) (by decide)) (fun _ _ => ?_)
            refine GL.val (v := (.bool true)) (Ex.pickT rfl rfl) (by decide) ?_
            refine GL.val (Ex.move rfl) (by decide) ?_
            refine GL.stepG (tj := 32) rfl rfl (Ex.wp (v := (.int .i64 k)) (Ex.move rfl) (by decide)) (fun _ _ => ?_)
            refine GL.stepG (tj := 32) rfl rfl (Ex.wp (v := (.bool (decide (k ≤ 3)))) (Ex.leq rfl rfl) (by decide)) (fun _ _ => ?_)
            refine GL.val (v := (.bool (decide (k ≤ 3)))) (Ex.pickT rfl rfl) (by decide) ?_
            refine GL.val (Ex.assign rfl) (by decide) ?_
            refine GL.nil ?_
            refine GE.thenN ?_
            refine GC.ret ?_
            refine GC.ret1 rfl (Rv.tmp rfl) (fun wN HN => ?_)
            exact HN.ret () trivial (congrArg Value.bool (by exact decide_eq_decide.2 (by omega))) (List.nil_sublist _) rfl
          · refine GL.stepG (tj := 28) rfl rfl (Ex.wp (v := (.bool false)) (Ex.cast (Ex.geq rfl rfl) (congrArg Value.bool (decide_eq_false hq8))) (by decide)) (fun _ _ => ?_)
            refine GL.val (v := (.bool false)) (Ex.pickT rfl rfl) (by decide) ?_
            refine GL.val (Ex.move rfl) (by decide) ?_
            refine GL.skipG (tj := 32) rfl rfl rfl (by decide) ?_
            refine GL.skipG (tj := 32) rfl rfl rfl (by decide) ?_
            refine GL.val (v := (.bool false)) (Ex.pickF rfl rfl) (by decide) ?_
            refine GL.val (Ex.assign rfl) (by decide) ?_
            refine GL.nil ?_
            refine GE.thenN ?_
            refine GC.ret ?_
            refine GC.ret1 rfl (Rv.tmp rfl) (fun wN HN => ?_)
            exact HN.ret () trivial (congrArg Value.bool (by exact (decide_eq_false (by omega)).symm)) (List.nil_sublist _) rfl
        · refine GL.stepG (tj := 24) rfl rfl (Ex.wp (v := (.bool false)) (Ex.cast (Ex.leq rfl rfl) (congrArg Value.bool (decide_eq_false hq7))) (by decide)) (fun _ _ => ?_)
          refine GL.val (v := (.bool false)) (Ex.pickT rfl rfl) (by decide) ?_
          refine GL.val (Ex.move rfl) (by decide) ?_
          refine GL.skipG (tj := 28) rfl rfl rfl (by decide) ?_
          refine GL.skipG (tj := 28) rfl rfl rfl (by decide) ?_
          refine GL.val (v := (.bool false)) (Ex.pickF rfl rfl) (by decide) ?_
          refine GL.val (Ex.move rfl) (by decide) ?_
          refine GL.skipG (tj := 32) rfl rfl rfl (by decide) ?_
          refine GL.skipG (tj := 32) rfl rfl rfl (by decide) ?_
          refine GL.val (v := (.bool false)) (Ex.pickF rfl rfl) (by decide) ?_
          refine GL.val (Ex.assign rfl) (by decide) ?_
          refine GL.nil ?_
          refine GE.thenN ?_
          refine GC.ret ?_
          refine GC.ret1 rfl (Rv.tmp rfl) (fun wN HN => ?_)
          exact HN.ret () trivial (congrArg Value.bool (by exact (decide_eq_false (by omega)).symm)) (List.nil_sublist _) rfl
      · refine GL.stepG (tj := 20) rfl rfl (Ex.wp (v := (.bool false)) (Ex.cast (Ex.geq rfl rfl) (congrArg Value.bool (decide_eq_false hq6))) (by decide)) (fun _ _ => ?_)
        refine GL.val (v := (.bool false)) (Ex.pickT rfl rfl) (by decide) ?_
        refine GL.val (Ex.move rfl) (by decide) ?_
        refine GL.skipG (tj := 24) rfl rfl rfl (by decide) ?_
        refine GL.skipG (tj := 24) rfl rfl rfl (by decide) ?_
        refine GL.val (v := (.bool false)) (Ex.pickF rfl rfl) (by decide) ?_
        refine GL.val (Ex.move rfl) (by decide) ?_
        refine GL.skipG (tj := 28) rfl rfl rfl (by decide) ?_
        refine GL.skipG (tj := 28) rfl rfl rfl (by decide) ?_
        refine GL.val (v := (.bool false)) (Ex.pickF rfl rfl) (by decide) ?_
        refine GL.val (Ex.move rfl) (by decide) ?_
        refine GL.skipG (tj := 32) rfl rfl rfl (by decide) ?_
        refine GL.skipG (tj := 32) rfl rfl rfl (by decide) ?_
        refine GL.val (v := (.bool false)) (Ex.pickF rfl rfl) (by decide) ?_
        refine GL.val (Ex.assign rfl) (by decide) ?_
        refine GL.nil ?_
        refine GE.thenN ?_
        refine GC.ret ?_
        refine GC.ret1 rfl (Rv.tmp rfl) (fun wN HN => ?_)
        exact HN.ret () trivial (congrArg Value.bool (by exact (decide_eq_false (by omega)).symm)) (List.nil_sublist _) rfl
    · refine GL.stepG (tj := 12) rfl rfl (Ex.wp (v := (.bool false)) (Ex.cast (Ex.eql rfl rfl) (congrArg Value.bool (decide_eq_false hq5))) (by decide)) (fun _ _ => ?_)
      refine GL.stepG (tj := 12) rfl rfl (Ex.wp (v := (.bool false)) (Ex.move rfl) (by decide)) (fun _ _ => ?_)
      refine GL.stepG (tj := 15) rfl rfl (Ex.wp (v := (.int .i64 kd)) (Ex.move rfl) (by decide)) (fun _ _ => ?_)
      by_cases hq9 : kd = 2
      · refine GL.stepG (tj := 15) rfl rfl (Ex.wp (v := (.bool true)) (Ex.cast (Ex.eql rfl rfl) (congrArg Value.bool (decide_eq_true hq9))) (by decide)) (fun _ _ => ?_)
        refine GL.stepG (tj := 12) rfl rfl (Ex.wp (v := (.bool true)) (Ex.pickF rfl rfl) (by decide)) (fun _ _ => ?_)
        refine GL.val (v := (.bool true)) (Ex.pickT rfl rfl) (by decide) ?_
        refine GL.val (Ex.move rfl) (by decide) ?_
        refine GL.stepG (tj := 20) rfl rfl (Ex.wp (v := (.int .i64 r)) (Ex.move rfl) (by decide)) (fun _ _ => ?_)
        by_cases hq10 : 0 ≤ r
        · refine GL.stepG (tj := 20) rfl rfl (Ex.wp (v := (.bool true)) (Ex.cast (Ex.geq rfl rfl) (congrArg Value.bool (decide_eq_true hq10))) (by decide)) (fun _ _ => ?_)
          refine GL.val (v := (.bool true)) (Ex.pickT rfl rfl) (by decide) ?_
          refine GL.val (Ex.move rfl) (by decide) ?_
          refine GL.stepG (tj := 24) rfl rfl (Ex.wp (v := (.int .i64 r)) (Ex.move rfl) (by decide)) (fun _ _ => ?_)
          by_cases hq11 : r ≤ 7
          · refine GL.stepG (tj := 24) rfl rfl (Ex.wp (v := (.bool true)) (Ex.cast (Ex.leq rfl rfl) (congrArg Value.bool (decide_eq_true hq11))) (by decide)) (fun _ _ => ?_)
            refine GL.val (v := (.bool true)) (Ex.pickT rfl rfl) (by decide) ?_
            refine GL.val (Ex.move rfl) (by decide) ?_
            refine GL.stepG (tj := 28) rfl rfl (Ex.wp (v := (.int .i64 k)) (Ex.move rfl) (by decide)) (fun _ _ => ?_)
            by_cases hq12 : 1 ≤ k
            · refine GL.stepG (tj := 28) rfl rfl (Ex.wp (v := (.bool true)) (Ex.cast (Ex.geq rfl rfl) (congrArg Value.bool (decide_eq_true hq12))) (by decide)) (fun _ _ => ?_)
              refine GL.val (v := (.bool true)) (Ex.pickT rfl rfl) (by decide) ?_
              refine GL.val (Ex.move rfl) (by decide) ?_
              refine GL.stepG (tj := 32) rfl rfl (Ex.wp (v := (.int .i64 k)) (Ex.move rfl) (by decide)) (fun _ _ => ?_)
              refine GL.stepG (tj := 32) rfl rfl (Ex.wp (v := (.bool (decide (k ≤ 3)))) (Ex.leq rfl rfl) (by decide)) (fun _ _ => ?_)
              refine GL.val (v := (.bool (decide (k ≤ 3)))) (Ex.pickT rfl rfl) (by decide) ?_
              refine GL.val (Ex.assign rfl) (by decide) ?_
              refine GL.nil ?_
              refine GE.thenN ?_
              refine GC.ret ?_
              refine GC.ret1 rfl (Rv.tmp rfl) (fun wN HN => ?_)
              exact HN.ret () trivial (congrArg Value.bool (by exact decide_eq_decide.2 (by omega))) (List.nil_sublist _) rfl
            · refine GL.stepG (tj := 28) rfl rfl (Ex.wp (v := (.bool false)) (Ex.cast (Ex.geq rfl rfl) (congrArg Value.bool (decide_eq_false hq12))) (by decide)) (fun _ _ => ?_)
              refine GL.val (v := (.bool false)) (Ex.pickT rfl rfl) (by decide) ?_
              refine GL.val (Ex.move rfl) (by decide) ?_
              refine GL.skipG (tj := 32) rfl rfl rfl (by decide) ?_
              refine GL.skipG (tj := 32) rfl rfl rfl (by decide) ?_
              refine GL.val (v := (.bool false)) (Ex.pickF rfl rfl) (by decide) ?_
              refine GL.val (Ex.assign rfl) (by decide) ?_
              refine GL.nil ?_
              refine GE.thenN ?_
              refine GC.ret ?_
              refine GC.ret1 rfl (Rv.tmp rfl) (fun wN HN => ?_)
              exact HN.ret () trivial (congrArg Value.bool (by exact (decide_eq_false (by omega)).symm)) (List.nil_sublist _) rfl
          · refine GL.stepG (tj := 24) rfl rfl (Ex.wp (v := (.bool false)) (Ex.cast (Ex.leq rfl rfl) (congrArg Value.bool (decide_eq_false hq11))) (by decide)) (fun _ _ => ?_)
            refine GL.val (v := (.bool false)) (Ex.pickT rfl rfl) (by decide) ?_
            refine GL.val (Ex.move rfl) (by decide) ?_
            refine GL.skipG (tj := 28) rfl rfl rfl (by decide) ?_
            refine GL.skipG (tj := 28) rfl rfl rfl (by decide) ?_
            refine GL.val (v := (.bool false)) (Ex.pickF rfl rfl) (by decide) ?_
            refine GL.val (Ex.move rfl) (by decide) ?_
            refine GL.skipG (tj := 32) rfl rfl rfl (by decide) ?_
            refine GL.skipG (tj := 32) rfl rfl rfl (by decide) ?_
            refine GL.val (v := (.bool false)) (Ex.pickF rfl rfl) (by decide) ?_
            refine GL.val (Ex.assign rfl) (by decide) ?_
            refine GL.nil ?_
            refine GE.thenN ?_
            refine GC.ret ?_
            refine GC.ret1 rfl (Rv.tmp rfl) (fun wN HN => ?_)
            exact HN.ret () trivial (congrArg Value.bool (by exact (decide_eq_false (by omega)).symm)) (List.nil_sublist _) rfl
        · refine GL.stepG (tj := 20) rfl rfl (Ex.wp (v := (.bool false)) (Ex.cast (Ex.geq rfl rfl) (congrArg Value.bool (decide_eq_false hq10))) (by decide)) (fun _ _ => ?_)
          refine GL.val (v := (.bool false)) (Ex.pickT rfl rfl) (by decide) ?_
          refine GL.val (Ex.move rfl) (by decide) ?_
          refine GL.skipG (tj := 24) rfl rfl rfl (by decide) ?_
          refine GL.skipG (tj := 24) rfl rfl rfl (by decide) ?_
          refine GL.val (v := (.bool false)) (Ex.pickF rfl rfl) (by decide) ?_
          refine GL.val (Ex.move rfl) (by decide) ?_
          refine GL.skipG (tj := 28) rfl rfl rfl (by decide) ?_
          refine GL.skipG (tj := 28) rfl rfl rfl (by decide) ?_
          refine GL.val (v := (.bool false)) (Ex.pickF rfl rfl) (by decide) ?_
          refine GL.val (Ex.move rfl) (by decide) ?_
          refine GL.skipG (tj := 32) rfl rfl rfl (by decide) ?_
          refine GL.skipG (tj := 32) rfl rfl rfl (by decide) ?_
          refine GL.val (v := (.bool false)) (Ex.pickF rfl rfl) (by decide) ?_
          refine GL.val (Ex.assign rfl) (by decide) ?_
          refine GL.nil ?_
          refine GE.thenN ?_
          refine GC.ret ?_
          refine GC.ret1 rfl (Rv.tmp rfl) (fun wN HN => ?_)
          exact HN.ret () trivial (congrArg Value.bool (by exact (decide_eq_false (by omega)).symm)) (List.nil_sublist _) rfl
      · refine GL.stepG (tj := 15) rfl rfl (Ex.wp (v := (.bool false)) (Ex.cast (Ex.eql rfl rfl) (congrArg Value.bool (decide_eq_false hq9))) (by decide)) (fun _ _ => ?_)
        refine GL.stepG (tj := 12) rfl rfl (Ex.wp (v := (.bool false)) (Ex.pickF rfl rfl) (by decide)) (fun _ _ => ?_)
        refine GL.val (v := (.bool false)) (Ex.pickT rfl rfl) (by decide) ?_
        refine GL.val (Ex.move rfl) (by decide) ?_
        refine GL.skipG (tj := 20) rfl rfl rfl (by decide) ?_
        refine GL.skipG (tj := 20) rfl rfl rfl (by decide) ?_
        refine GL.val (v := (.bool false)) (Ex.pickF rfl rfl) (by decide) ?_
        refine GL.val (Ex.move rfl) (by decide) ?_
        refine GL.skipG (tj := 24) rfl rfl rfl (by decide) ?_
        refine GL.skipG (tj := 24) rfl rfl rfl (by decide) ?_
        refine GL.val (v := (.bool false)) (Ex.pickF rfl rfl) (by decide) ?_
        refine GL.val (Ex.move rfl) (by decide) ?_
        refine GL.skipG (tj := 28) rfl rfl rfl (by decide) ?_
        refine GL.skipG (tj := 28) rfl rfl rfl (by decide) ?_
        refine GL.val (v := (.bool false)) (Ex.pickF rfl rfl) (by decide) ?_
        refine GL.val (Ex.move rfl) (by decide) ?_
        refine GL.skipG (tj := 32) rfl rfl rfl (by decide) ?_
        refine GL.skipG (tj := 32) rfl rfl rfl (by decide) ?_
        refine GL.val (v := (.bool false)) (Ex.pickF rfl rfl) (by decide) ?_
        refine GL.val (Ex.assign rfl) (by decide) ?_
        refine GL.nil ?_
        refine GE.thenN ?_
        refine GC.ret ?_
        refine GC.ret1 rfl (Rv.tmp rfl) (fun wN HN => ?_)
        exact HN.ret () trivial (congrArg Value.bool (by exact (decide_eq_false (by omega)).symm)) (List.nil_sublist _) rfl
  · refine GL.val (v := (.bool false)) (Ex.cast (Ex.eql rfl rfl) (congrArg Value.bool (decide_eq_false hq4))) (by decide) ?_
    refine GL.val (Ex.move rfl) (by decide) ?_
    refine GL.skipG (tj := 12) rfl rfl rfl (by decide) ?_
    refine GL.skipG (tj := 12) rfl rfl rfl (by decide) ?_
    refine GL.skipG (tj := 12) rfl rfl rfl (by decide) ?_
    refine GL.skipU (tj := 15) rfl rfl (by decide) ?_
    refine GL.skipU (tj := 15) rfl rfl (by decide) ?_
    refine GL.skipG (tj := 12) rfl rfl rfl (by decide) ?_
    refine GL.val (v := (.bool false)) (Ex.pickF rfl rfl) (by decide) ?_
    refine GL.val (Ex.move rfl) (by decide) ?_
    refine GL.skipG (tj := 20) rfl rfl rfl (by decide) ?_
    refine GL.skipG (tj := 20) rfl rfl rfl (by decide) ?_
    refine GL.val (v := (.bool false)) (Ex.pickF rfl rfl) (by decide) ?_
    refine GL.val (Ex.move rfl) (by decide) ?_
    refine GL.skipG (tj := 24) rfl rfl rfl (by decide) ?_
    refine GL.skipG (tj := 24) rfl rfl rfl (by decide) ?_
    refine GL.val (v := (.bool false)) (Ex.pickF rfl rfl) (by decide) ?_
    refine GL.val (Ex.move rfl) (by decide) ?_
    refine GL.skipG (tj := 28) rfl rfl rfl (by decide) ?_
    refine GL.skipG (tj := 28) rfl rfl rfl (by decide) ?_
    refine GL.val (v := (.bool false)) (Ex.pickF rfl rfl) (by decide) ?_
    refine GL.val (Ex.move rfl) (by decide) ?_
    refine GL.skipG (tj := 32) rfl rfl rfl (by decide) ?_
    refine GL.skipG (tj := 32) rfl rfl rfl (by decide) ?_
    refine GL.val (v := (.bool false)) (Ex.pickF rfl rfl) (by decide) ?_
    refine GL.val (Ex.assign rfl) (by decide) ?_
    refine GL.nil ?_
    refine GE.thenN ?_
    refine GC.ret ?_
    refine GC.ret1 rfl (Rv.tmp rfl) (fun wN HN => ?_)
    exact HN.ret () trivial (congrArg Value.bool (by exact (decide_eq_false (by omega)).symm)) (List.nil_sublist _) rfl

theorem blur_i (W H n cap b o : Nat) (k kd r : Int) (xs : List Int) (w : World) (hk : 1 ≤ k ∧ k ≤ 3) (hok : okP W H) (hn : n = W * H) (hx0 : xs.length = n) (hu : ∀ v ∈ xs, 0 ≤ v ∧ v < 4294967296) (hr : Rd w b o (xs.map u32)) (hrt : (kd = 1 ∨ kd = 2) ∧ 0 ≤ r ∧ r ≤ 7) : Calls Try.prog 21 #[(.agg #[(.int .i64 (((W : Nat) : Int))), (.int .i64 (((H : Nat) : Int))), (.slice (some ⟨b, o, none⟩) n cap)]), .int .i64 kd, .int .i64 r, .int .i64 k] w (Ret w (fun _ : Nat => True) (fun p => .tuple #[(.agg #[(.int .i64 (((W : Nat) : Int))), (.int .i64 (((H : Nat) : Int))), (.slice (some ⟨p, 0, none⟩) (W * H) (W * H))]), .int .i64 0]) (fun p => [⟨p, (tab W (Bg.blr (Bg.gk kd r.toNat) r.toNat xs W H k) (W * H)).map u32, 63, true⟩])) := by
  obtain ⟨hkd, h1, h2⟩ := hrt
  obtain ⟨m, rfl⟩ := Int.eq_ofNat_of_zero_le h1
  exact blur_ok W H n cap b o k kd m xs w hk hok hn hx0 hu hr hkd (by omega)

set_option maxRecDepth 100000 in
set_option maxHeartbeats 1000000 in
theorem bc_bad (W H s kd r k : Int) (w : World) (hs0 : sizeB W H = false) :
    Calls Try.prog 10 #[(.int .i64 W), (.int .i64 H), (.int .u32 s), (.int .i64 kd), (.int .i64 r), (.int .i64 k)] w (Ret w (fun _ : Unit => True) (fun _ => .bool true) (fun _ => [])) := by
  refine enter (M := None) (L := []) (n := 69) (l := [(0, (.int .i64 W)), (1, (.int .i64 H)), (2, (.int .u32 s)), (3, (.int .i64 kd)), (4, (.int .i64 r)), (5, (.int .i64 k))]) Try.func10 rfl rfl (Args.cons rfl (Args.cons rfl (Args.cons rfl (Args.cons rfl (Args.cons rfl (Args.cons rfl (Args.nil _))))))) (Hp.start _ _) ?_
  refine GC.seq ?_
  refine GC.region ?_
  refine GL.val (Ex.assign rfl) (by decide) ?_
  refine GL.nil ?_
  refine GE.thenN ?_
  refine GC.seq ?_
  refine GC.seq ?_
  refine GC.region ?_
  refine GL.step (Stp.callR (vs := []) rfl rfl T.own12 (by decide) (fun wc hw => known wc)) (fun xq1 hq2 => ?_)
  refine GL.val (v := (.bool false)) (Ex.cast (Ex.not rfl) rfl) (by decide) ?_
  refine GL.nil ?_
  refine GE.thenN ?_
  refine GC.cond rfl (fun hq3 => by cases hq3) (fun _ => ?_)
  refine GC.skip ?_
  refine GE.thenN ?_
  refine GC.seq ?_
  refine GC.seq ?_
  refine GC.region ?_
  refine GL.val (Ex.move rfl) (by decide) ?_
  refine GL.val (Ex.move rfl) (by decide) ?_
  refine GL.step (Stp.callR (vs := [(.int .i64 W), (.int .i64 H)]) rfl rfl T.own35 (by decide) (fun wc hw => size_h W H wc)) (fun xq4 hq5 => ?_)
  refine GL.val (v := (.bool true)) (Ex.cast (Ex.not rfl) (congrArg Value.bool (congrArg (fun z => !z) ((Bool.eq_false_iff.2 (by simp [hs0])))))) (by decide) ?_
  refine GL.val (Ex.move rfl) (by decide) ?_
  refine GL.skipG (tj := 23) rfl rfl rfl (by decide) ?_
  refine GL.skipG (tj := 23) rfl rfl rfl (by decide) ?_
  refine GL.skipG (tj := 23) rfl rfl rfl (by decide) ?_
  refine GL.skipG (tj := 23) rfl rfl rfl (by decide) ?_
  refine GL.val (v := (.bool true)) (Ex.pickT rfl rfl) (by decide) ?_
  refine GL.nil ?_
  refine GE.thenN ?_
  refine GC.cond rfl (fun _ => ?_) (fun hq6 => by cases hq6)
  refine GC.seq ?_
  refine GC.region ?_
  refine GL.val (Ex.assign rfl) (by decide) ?_
  refine GL.nil ?_
  refine GE.thenN ?_
  refine GC.ret ?_
  refine GE.thenR ?_
  refine GC.ret1 rfl (Rv.tmp rfl) (fun wN HN => ?_)
  exact HN.ret () trivial rfl (List.nil_sublist _) rfl

set_option maxRecDepth 100000 in
set_option maxHeartbeats 1000000 in
theorem bc_ok (W H : Nat) (s kd r k : Int) (w : World) (hok : okP W H) (hs : 0 ≤ s ∧ s < 4294967296) :
    Calls Try.prog 10 #[(.int .i64 (((W : Nat) : Int))), (.int .i64 (((H : Nat) : Int))), (.int .u32 s), (.int .i64 kd), (.int .i64 r), (.int .i64 k)] w (Ret w (fun _ : Unit => True) (fun _ => .bool true) (fun _ => [])) := by
  have hW1 := hok.1
  have hH1 := hok.2.1
  have hW2 := hok.2.2.1
  have hH2 := hok.2.2.2.1
  have hA := hok.2.2.2.2
  refine enter (M := None) (L := []) (n := 69) (l := [(0, (.int .i64 (((W : Nat) : Int)))), (1, (.int .i64 (((H : Nat) : Int)))), (2, (.int .u32 s)), (3, (.int .i64 kd)), (4, (.int .i64 r)), (5, (.int .i64 k))]) Try.func10 rfl rfl (Args.cons rfl (Args.cons rfl (Args.cons rfl (Args.cons rfl (Args.cons rfl (Args.cons rfl (Args.nil _))))))) (Hp.start _ _) ?_
  refine GC.seq ?_
  refine GC.region ?_
  refine GL.val (Ex.assign rfl) (by decide) ?_
  refine GL.nil ?_
  refine GE.thenN ?_
  refine GC.seq ?_
  refine GC.seq ?_
  refine GC.region ?_
  refine GL.step (Stp.callR (vs := []) rfl rfl T.own12 (by decide) (fun wc hw => known wc)) (fun xq1 hq2 => ?_)
  refine GL.val (v := (.bool false)) (Ex.cast (Ex.not rfl) rfl) (by decide) ?_
  refine GL.nil ?_
  refine GE.thenN ?_
  refine GC.cond rfl (fun hq3 => by cases hq3) (fun _ => ?_)
  refine GC.skip ?_
  refine GE.thenN ?_
  refine GC.seq ?_
  refine GC.seq ?_
  refine GC.region ?_
  refine GL.val (Ex.move rfl) (by decide) ?_
  refine GL.val (Ex.move rfl) (by decide) ?_
  refine GL.step (Stp.callR (vs := [(.int .i64 (((W : Nat) : Int))), (.int .i64 (((H : Nat) : Int)))]) rfl rfl T.own35 (by decide) (fun wc hw => size_h (((W : Nat) : Int)) (((H : Nat) : Int)) wc)) (fun xq4 hq5 => ?_)
  refine GL.val (v := (.bool false)) (Ex.cast (Ex.not rfl) (congrArg Value.bool (congrArg (fun z => !z) ((by exact sizeB_ok hok))))) (by decide) ?_
  refine GL.val (Ex.move rfl) (by decide) ?_
  refine GL.stepG (tj := 23) rfl rfl (Ex.wp (v := (.int .i64 (((W : Nat) : Int)))) (Ex.move rfl) (by decide)) (fun _ _ => ?_)
  refine GL.stepG (tj := 23) rfl rfl (Ex.wp (v := (.int .i64 (((H : Nat) : Int)))) (Ex.move rfl) (by decide)) (fun _ _ => ?_)
  refine GL.stepG (tj := 23) rfl rfl (Ex.wp (v := (.int .i64 (((W * H : Nat) : Int)))) (Ex.mul rfl rfl (Z := ((W * H : Nat) : Int)) (mulN (by omega))) (by decide)) (fun _ _ => ?_)
  refine GL.stepG (tj := 23) rfl rfl (Ex.wp (v := (.bool (decide (4096 < (((W * H : Nat) : Int)))))) (Ex.gtr rfl rfl) (by decide)) (fun _ _ => ?_)
  refine GL.val (v := (.bool (decide (4096 < (((W * H : Nat) : Int)))))) (Ex.pickF rfl rfl) (by decide) ?_
  refine GL.nil ?_
  refine GE.thenN ?_
  refine GC.cond rfl (fun hq6 => ?_) (fun hq6 => ?_)
  · replace hq6 := of_decide_eq_true hq6
    refine GC.seq ?_
    refine GC.region ?_
    refine GL.val (Ex.assign rfl) (by decide) ?_
    refine GL.nil ?_
    refine GE.thenN ?_
    refine GC.ret ?_
    refine GE.thenR ?_
    refine GC.ret1 rfl (Rv.tmp rfl) (fun wN HN => ?_)
    exact HN.ret () trivial rfl (List.nil_sublist _) rfl
  · replace hq6 := of_decide_eq_false hq6
    refine GC.skip ?_
    refine GE.thenN ?_
    refine GC.seq ?_
    refine GC.region ?_
    refine GL.val (Ex.move rfl) (by decide) ?_
    refine GL.val (Ex.move rfl) (by decide) ?_
    refine GL.val (Ex.move rfl) (by decide) ?_
    refine GL.step (Stp.callR (vs := [(.int .i64 (((W : Nat) : Int))), (.int .i64 (((H : Nat) : Int))), (.int .u32 s)]) rfl rfl T.own36 (by decide) (fun wc hw => new_ok W H s wc hok)) (fun xq7 hq8 => ?_)
    refine GL.val (Ex.move rfl) (by decide) ?_
    refine GL.val (Ex.extract rfl rfl) (by decide) ?_
    refine GL.val (Ex.extract rfl rfl) (by decide) ?_
    refine GL.step (Stp.alloc T.zr43 (by decide)) (fun bq9 _ => ?_)
    refine GL.step (Stp.st0 (cs' := [(.int .i64 (((W : Nat) : Int))), (.int .i64 (((H : Nat) : Int))), (.slice (some ⟨xq7, 0, none⟩) (W * H) (W * H))]) rfl rfl rfl T.sz43 rfl rfl rfl) (fun _ _ => ?_)
    refine GL.val (Ex.assign rfl) (by decide) ?_
    refine GL.nil ?_
    refine GE.thenN ?_
    refine GC.seq ?_
    refine GC.seq ?_
    refine GC.region ?_
    refine GL.val (v := (.agg #[(.int .i64 (((W : Nat) : Int))), (.int .i64 (((H : Nat) : Int))), (.slice (some ⟨xq7, 0, none⟩) (W * H) (W * H))])) (Ex.loadA rfl T.ag43 T.sz43 (i := 0) rfl (vs := [(.int .i64 (((W : Nat) : Int))), (.int .i64 (((H : Nat) : Int))), (.slice (some ⟨xq7, 0, none⟩) (W * H) (W * H))]) rfl rfl) (by decide) ?_
    refine GL.val (Ex.move rfl) (by decide) ?_
    refine GL.val (Ex.move rfl) (by decide) ?_
    refine GL.val (Ex.move rfl) (by decide) ?_
    refine GL.step (Stp.callR (vs := [(.agg #[(.int .i64 (((W : Nat) : Int))), (.int .i64 (((H : Nat) : Int))), (.slice (some ⟨xq7, 0, none⟩) (W * H) (W * H))]), (.int .i64 kd), (.int .i64 r), (.int .i64 k)]) rfl rfl T.own27 (by decide) (fun wc hw => right_p (((W : Nat) : Int)) (((H : Nat) : Int)) (some ⟨xq7, 0, none⟩) (W * H) (W * H) kd r k wc)) (fun xq10 hq11 => ?_)
    by_cases hq12 : (Bc.rightB (((W : Nat) : Int)) (((H : Nat) : Int)) (W * H) kd r k) = true
    · have hri := hq12
      refine GL.val (v := (.bool false)) (Ex.cast (Ex.not rfl) (congrArg Value.bool (congrArg (fun z => !z) (hq12)))) (by decide) ?_
      refine GL.val (Ex.move rfl) (by decide) ?_
      refine GL.stepG (tj := 42) rfl rfl (Ex.wp (v := (.int .u32 s)) (Ex.move rfl) (by decide)) (fun _ _ => ?_)
      refine GL.stepG (tj := 42) rfl rfl (Ex.wp (v := (.int .u32 (s / 8388608))) (Ex.quo rfl rfl (Z := s / 8388608) (by omega) (quoU32 (by omega) (by omega) (by omega))) (by decide)) (fun _ _ => ?_)
      refine GL.stepG (tj := 42) rfl rfl (Ex.wp (v := (.int .u32 ((s / 8388608) % 256))) (Ex.rem rfl rfl (Z := (s / 8388608) % 256) (by omega) (rem64 (by omega) (by omega))) (by decide)) (fun _ _ => ?_)
      by_cases hq13 : ((s / 8388608) % 256) = 255
      · refine GL.stepG (tj := 42) rfl rfl (Ex.wp (v := (.bool true)) (Ex.cast (Ex.eql rfl rfl) (congrArg Value.bool (decide_eq_true hq13))) (by decide)) (fun _ _ => ?_)
        refine GL.stepG (tj := 42) rfl rfl (Ex.wp (v := (.bool true)) (Ex.move rfl) (by decide)) (fun _ _ => ?_)
        refine GL.stepG (tj := 47) rfl rfl (Ex.wp (v := (.int .u32 s)) (Ex.move rfl) (by decide)) (fun _ _ => ?_)
        refine GL.stepG (tj := 47) rfl rfl (Ex.wp (v := (.int .u32 (s % 8388608))) (Ex.rem rfl rfl (Z := s % 8388608) (by omega) (rem64 (by omega) (by omega))) (by decide)) (fun _ _ => ?_)
        refine GL.stepG (tj := 47) rfl rfl (Ex.wp (v := (.bool (decide ((s % 8388608) ≠ 0)))) (Ex.neq rfl rfl) (by decide)) (fun _ _ => ?_)
        refine GL.stepG (tj := 42) rfl rfl (Ex.wp (v := (.bool (decide ((s % 8388608) ≠ 0)))) (Ex.pickT rfl rfl) (by decide)) (fun _ _ => ?_)
        refine GL.val (v := (.bool (decide ((s % 8388608) ≠ 0)))) (Ex.pickF rfl rfl) (by decide) ?_
        refine GL.nil ?_
        refine GE.thenN ?_
        refine GC.cond rfl (fun hq14 => ?_) (fun hq14 => ?_)
        · replace hq14 := of_decide_eq_true hq14
          refine GC.seq ?_
          refine GC.region ?_
          refine GL.val (Ex.assign rfl) (by decide) ?_
          refine GL.nil ?_
          refine GE.thenN ?_
          refine GC.ret ?_
          refine GE.thenR ?_
          refine GC.ret1 rfl (Rv.tmp rfl) (fun wN HN => ?_)
          exact HN.ret () trivial rfl (List.nil_sublist _) rfl
        · replace hq14 := of_decide_eq_false hq14
          refine GC.skip ?_
          refine GE.thenN ?_
          refine GC.seq ?_
          refine GC.region ?_
          refine GL.val (v := (.agg #[(.int .i64 (((W : Nat) : Int))), (.int .i64 (((H : Nat) : Int))), (.slice (some ⟨xq7, 0, none⟩) (W * H) (W * H))])) (Ex.loadA rfl T.ag43 T.sz43 (i := 0) rfl (vs := [(.int .i64 (((W : Nat) : Int))), (.int .i64 (((H : Nat) : Int))), (.slice (some ⟨xq7, 0, none⟩) (W * H) (W * H))]) rfl rfl) (by decide) ?_
          refine GL.val (Ex.move rfl) (by decide) ?_
          refine GL.val (Ex.move rfl) (by decide) ?_
          refine GL.val (Ex.move rfl) (by decide) ?_
          refine GL.step (Stp.callR (σ := Nat) (p := fun rz => True) (v := fun rz => (.tuple #[(.agg #[(.int .i64 (((W : Nat) : Int))), (.int .i64 (((H : Nat) : Int))), (.slice (some ⟨rz, 0, none⟩) (W * H) (W * H))]), (.int .i64 0)])) (N := fun rz => [⟨rz, (tab W (fun _ _ => s) (W * H)).map u32, 63, true⟩]) (vs := [(.agg #[(.int .i64 (((W : Nat) : Int))), (.int .i64 (((H : Nat) : Int))), (.slice (some ⟨xq7, 0, none⟩) (W * H) (W * H))]), (.int .i64 kd), (.int .i64 r), (.int .i64 k)]) rfl rfl T.own21 (by decide) (fun wc hw => (by have hq := of_decide_eq_true hri; have hmd := Bc.md_no hs (by omega); have h := blur_i W H (W * H) (W * H) xq7 0 k kd r (tab W (fun _ _ => s) (W * H)) wc hq.2.2.2.2 hok rfl (tab_len _ _ _) (Bg.tab_bd fun _ _ => hs) (hw.rdOf (i := 1) rfl 0) ⟨hq.2.1, hq.2.2.1, hq.2.2.2.1⟩; rw [Bc.blr_one (by omega) hs hmd rfl hq.2.2.2.2 hok] at h; exact h))) (fun xq15 hq16 => ?_)
          refine GL.val (Ex.move rfl) (by decide) ?_
          refine GL.val (Ex.extract rfl rfl) (by decide) ?_
          refine GL.val (Ex.extract rfl rfl) (by decide) ?_
          refine GL.step (Stp.alloc T.zr43 (by decide)) (fun bq17 _ => ?_)
          refine GL.step (Stp.st0 (cs' := [(.int .i64 (((W : Nat) : Int))), (.int .i64 (((H : Nat) : Int))), (.slice (some ⟨xq15, 0, none⟩) (W * H) (W * H))]) rfl rfl rfl T.sz43 rfl rfl rfl) (fun _ _ => ?_)
          refine GL.val (Ex.assign rfl) (by decide) ?_
          refine GL.nil ?_
          refine GE.thenN ?_
          refine GC.seq ?_
          refine GC.region ?_
          refine GL.val (Ex.move rfl) (by decide) ?_
          refine GL.step (Stp.callR (vs := [(.int .i64 0)]) rfl rfl T.own15 (by decide) (fun wc hw => num 0 wc)) (fun xq18 hq19 => ?_)
          refine GL.val (v := (.bool true)) (Ex.cast (Ex.eql rfl rfl) rfl) (by decide) ?_
          refine GL.val (Ex.move rfl) (by decide) ?_
          refine GL.stepG (tj := 64) rfl rfl (Ex.wp (v := (.agg #[(.int .i64 (((W : Nat) : Int))), (.int .i64 (((H : Nat) : Int))), (.slice (some ⟨xq15, 0, none⟩) (W * H) (W * H))])) (Ex.loadA rfl T.ag43 T.sz43 (i := 0) rfl (vs := [(.int .i64 (((W : Nat) : Int))), (.int .i64 (((H : Nat) : Int))), (.slice (some ⟨xq15, 0, none⟩) (W * H) (W * H))]) rfl rfl) (by decide)) (fun _ _ => ?_)
          refine GL.stepG (tj := 64) rfl rfl (Ex.wp (v := (.agg #[(.int .i64 (((W : Nat) : Int))), (.int .i64 (((H : Nat) : Int))), (.slice (some ⟨xq7, 0, none⟩) (W * H) (W * H))])) (Ex.loadA rfl T.ag43 T.sz43 (i := 2) rfl (vs := [(.int .i64 (((W : Nat) : Int))), (.int .i64 (((H : Nat) : Int))), (.slice (some ⟨xq7, 0, none⟩) (W * H) (W * H))]) rfl rfl) (by decide)) (fun _ _ => ?_)
          refine GL.stepG (tj := 64) rfl rfl (Stp.callR (vs := [(.agg #[(.int .i64 (((W : Nat) : Int))), (.int .i64 (((H : Nat) : Int))), (.slice (some ⟨xq15, 0, none⟩) (W * H) (W * H))]), (.agg #[(.int .i64 (((W : Nat) : Int))), (.int .i64 (((H : Nat) : Int))), (.slice (some ⟨xq7, 0, none⟩) (W * H) (W * H))])]) rfl rfl T.own22 (by decide) (fun wc hw => help_eq (((W : Nat) : Int)) (((H : Nat) : Int)) xq15 0 xq7 0 (W * H) (W * H) (W * H) (tab W (fun _ _ => s) (W * H)) wc (tab_len _ _ _) (by have h' := hok.2.2.2.2; omega) (hw.rdOf (i := 1) rfl 0) (hw.rdOf (i := 3) rfl 0))) (fun xq20 hq21 => ?_)
          refine GL.val (v := (.bool true)) (Ex.pickT rfl rfl) (by decide) ?_
          refine GL.val (Ex.assign rfl) (by decide) ?_
          refine GL.nil ?_
          refine GE.thenN ?_
          refine GC.ret ?_
          refine GC.ret1 rfl (Rv.tmp rfl) (fun wN HN => ?_)
          exact HN.ret () trivial rfl (List.nil_sublist _) rfl
      · refine GL.stepG (tj := 42) rfl rfl (Ex.wp (v := (.bool false)) (Ex.cast (Ex.eql rfl rfl) (congrArg Value.bool (decide_eq_false hq13))) (by decide)) (fun _ _ => ?_)
        refine GL.stepG (tj := 42) rfl rfl (Ex.wp (v := (.bool false)) (Ex.move rfl) (by decide)) (fun _ _ => ?_)
        refine GL.skipG (tj := 47) rfl rfl rfl (by decide) ?_
        refine GL.skipG (tj := 47) rfl rfl rfl (by decide) ?_
        refine GL.skipG (tj := 47) rfl rfl rfl (by decide) ?_
        refine GL.stepG (tj := 42) rfl rfl (Ex.wp (v := (.bool false)) (Ex.pickF rfl rfl) (by decide)) (fun _ _ => ?_)
        refine GL.val (v := (.bool false)) (Ex.pickF rfl rfl) (by decide) ?_
        refine GL.nil ?_
        refine GE.thenN ?_
        refine GC.cond rfl (fun hq22 => by cases hq22) (fun _ => ?_)
        refine GC.skip ?_
        refine GE.thenN ?_
        refine GC.seq ?_
        refine GC.region ?_
        refine GL.val (v := (.agg #[(.int .i64 (((W : Nat) : Int))), (.int .i64 (((H : Nat) : Int))), (.slice (some ⟨xq7, 0, none⟩) (W * H) (W * H))])) (Ex.loadA rfl T.ag43 T.sz43 (i := 0) rfl (vs := [(.int .i64 (((W : Nat) : Int))), (.int .i64 (((H : Nat) : Int))), (.slice (some ⟨xq7, 0, none⟩) (W * H) (W * H))]) rfl rfl) (by decide) ?_
        refine GL.val (Ex.move rfl) (by decide) ?_
        refine GL.val (Ex.move rfl) (by decide) ?_
        refine GL.val (Ex.move rfl) (by decide) ?_
        refine GL.step (Stp.callR (σ := Nat) (p := fun rz => True) (v := fun rz => (.tuple #[(.agg #[(.int .i64 (((W : Nat) : Int))), (.int .i64 (((H : Nat) : Int))), (.slice (some ⟨rz, 0, none⟩) (W * H) (W * H))]), (.int .i64 0)])) (N := fun rz => [⟨rz, (tab W (fun _ _ => s) (W * H)).map u32, 63, true⟩]) (vs := [(.agg #[(.int .i64 (((W : Nat) : Int))), (.int .i64 (((H : Nat) : Int))), (.slice (some ⟨xq7, 0, none⟩) (W * H) (W * H))]), (.int .i64 kd), (.int .i64 r), (.int .i64 k)]) rfl rfl T.own21 (by decide) (fun wc hw => (by have hq := of_decide_eq_true hri; have hmd := Bc.md_no hs (by omega); have h := blur_i W H (W * H) (W * H) xq7 0 k kd r (tab W (fun _ _ => s) (W * H)) wc hq.2.2.2.2 hok rfl (tab_len _ _ _) (Bg.tab_bd fun _ _ => hs) (hw.rdOf (i := 1) rfl 0) ⟨hq.2.1, hq.2.2.1, hq.2.2.2.1⟩; rw [Bc.blr_one (by omega) hs hmd rfl hq.2.2.2.2 hok] at h; exact h))) (fun xq23 hq24 => ?_)
        refine GL.val (Ex.move rfl) (by decide) ?_
        refine GL.val (Ex.extract rfl rfl) (by decide) ?_
        refine GL.val (Ex.extract rfl rfl) (by decide) ?_
        refine GL.step (Stp.alloc T.zr43 (by decide)) (fun bq25 _ => ?_)
        refine GL.step (Stp.st0 (cs' := [(.int .i64 (((W : Nat) : Int))), (.int .i64 (((H : Nat) : Int))), (.slice (some ⟨xq23, 0, none⟩) (W * H) (W * H))]) rfl rfl rfl T.sz43 rfl rfl rfl) (fun _ _ => ?_)
        refine GL.val (Ex.assign rfl) (by decide) ?_
        refine GL.nil ?_
        refine GE.thenN ?_
        refine GC.seq ?_
        refine GC.region ?_
        refine GL.val (Ex.move rfl) (by decide) ?_
        refine GL.step (Stp.callR (vs := [(.int .i64 0)]) rfl rfl T.own15 (by decide) (fun wc hw => num 0 wc)) (fun xq26 hq27 => ?_)
        refine GL.val (v := (.bool true)) (Ex.cast (Ex.eql rfl rfl) rfl) (by decide) ?_
        refine GL.val (Ex.move rfl) (by decide) ?_
        refine GL.stepG (tj := 64) rfl rfl (Ex.wp (v := (.agg #[(.int .i64 (((W : Nat) : Int))), (.int .i64 (((H : Nat) : Int))), (.slice (some ⟨xq23, 0, none⟩) (W * H) (W * H))])) (Ex.loadA rfl T.ag43 T.sz43 (i := 0) rfl (vs := [(.int .i64 (((W : Nat) : Int))), (.int .i64 (((H : Nat) : Int))), (.slice (some ⟨xq23, 0, none⟩) (W * H) (W * H))]) rfl rfl) (by decide)) (fun _ _ => ?_)
        refine GL.stepG (tj := 64) rfl rfl (Ex.wp (v := (.agg #[(.int .i64 (((W : Nat) : Int))), (.int .i64 (((H : Nat) : Int))), (.slice (some ⟨xq7, 0, none⟩) (W * H) (W * H))])) (Ex.loadA rfl T.ag43 T.sz43 (i := 2) rfl (vs := [(.int .i64 (((W : Nat) : Int))), (.int .i64 (((H : Nat) : Int))), (.slice (some ⟨xq7, 0, none⟩) (W * H) (W * H))]) rfl rfl) (by decide)) (fun _ _ => ?_)
        refine GL.stepG (tj := 64) rfl rfl (Stp.callR (vs := [(.agg #[(.int .i64 (((W : Nat) : Int))), (.int .i64 (((H : Nat) : Int))), (.slice (some ⟨xq23, 0, none⟩) (W * H) (W * H))]), (.agg #[(.int .i64 (((W : Nat) : Int))), (.int .i64 (((H : Nat) : Int))), (.slice (some ⟨xq7, 0, none⟩) (W * H) (W * H))])]) rfl rfl T.own22 (by decide) (fun wc hw => help_eq (((W : Nat) : Int)) (((H : Nat) : Int)) xq23 0 xq7 0 (W * H) (W * H) (W * H) (tab W (fun _ _ => s) (W * H)) wc (tab_len _ _ _) (by have h' := hok.2.2.2.2; omega) (hw.rdOf (i := 1) rfl 0) (hw.rdOf (i := 3) rfl 0))) (fun xq28 hq29 => ?_)
        refine GL.val (v := (.bool true)) (Ex.pickT rfl rfl) (by decide) ?_
        refine GL.val (Ex.assign rfl) (by decide) ?_
        refine GL.nil ?_
        refine GE.thenN ?_
        refine GC.ret ?_
        refine GC.ret1 rfl (Rv.tmp rfl) (fun wN HN => ?_)
        exact HN.ret () trivial rfl (List.nil_sublist _) rfl
    · refine GL.val (v := (.bool true)) (Ex.cast (Ex.not rfl) (congrArg Value.bool (congrArg (fun z => !z) ((Bool.eq_false_iff.2 hq12))))) (by decide) ?_
      refine GL.val (Ex.move rfl) (by decide) ?_
      refine GL.skipG (tj := 42) rfl rfl rfl (by decide) ?_
      refine GL.skipG (tj := 42) rfl rfl rfl (by decide) ?_
      refine GL.skipG (tj := 42) rfl rfl rfl (by decide) ?_
      refine GL.skipG (tj := 42) rfl rfl rfl (by decide) ?_
      refine GL.skipG (tj := 42) rfl rfl rfl (by decide) ?_
      refine GL.skipU (tj := 47) rfl rfl (by decide) ?_
      refine GL.skipU (tj := 47) rfl rfl (by decide) ?_
      refine GL.skipU (tj := 47) rfl rfl (by decide) ?_
      refine GL.skipG (tj := 42) rfl rfl rfl (by decide) ?_
      refine GL.val (v := (.bool true)) (Ex.pickT rfl rfl) (by decide) ?_
      refine GL.nil ?_
      refine GE.thenN ?_
      refine GC.cond rfl (fun _ => ?_) (fun hq30 => by cases hq30)
      refine GC.seq ?_
      refine GC.region ?_
      refine GL.val (Ex.assign rfl) (by decide) ?_
      refine GL.nil ?_
      refine GE.thenN ?_
      refine GC.ret ?_
      refine GE.thenR ?_
      refine GC.ret1 rfl (Rv.tmp rfl) (fun wN HN => ?_)
      exact HN.ret () trivial rfl (List.nil_sublist _) rfl

theorem lawConstant (W H s kd r k : Int) (w : World) (hs : 0 ≤ s ∧ s < 4294967296) :
    Calls Try.prog 10 #[.int .i64 W, .int .i64 H, .int .u32 s, .int .i64 kd, .int .i64 r, .int .i64 k] w (Ret w (fun _ : Unit => True) (fun _ => .bool true) (fun _ => [])) := by
  cases h : sizeB W H with
  | false => exact bc_bad W H s kd r k w h
  | true =>
    have h1 := of_decide_eq_true h
    obtain ⟨a, rfl⟩ := Int.eq_ofNat_of_zero_le (show 0 ≤ W by omega)
    obtain ⟨b, rfl⟩ := Int.eq_ofNat_of_zero_le (show 0 ≤ H by omega)
    exact bc_ok a b s kd r k w (okP_of h) hs

end Go.Proofs.Ytjbpdhofhhinhaa.C
